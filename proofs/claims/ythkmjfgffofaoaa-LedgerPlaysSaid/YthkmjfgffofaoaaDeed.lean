/-
  A deed done: what it answers, what is there then; a ledger's invariants; the law LedgerNobody.
-/
import Derived.Test.YthkmjfgffofaoaaMeth2
namespace Go.Proofs.Ythkmjfgffofaoaa
open Go.RowKit
set_option linter.unusedSimpArgs false
set_option linter.unusedVariables false
def doE (F : Nat → Int) (k acc dst asset n : Int) : Int :=
  if k = 0 then addE F acc asset n else if k = 1 then moveE F (okD acc asset n) (ix acc asset) n else if k = 2 then moveE F (okD acc asset n) (ix acc asset) n else if k = 3 then moveE F (okD acc asset n) (ix acc asset + 1) n
  else if k = 4 then moveE F (okT acc dst asset n) (ix acc asset) n else moveE F (okT acc dst asset n) (ix acc asset + 1) n
def doN (F : Nat → Int) (k acc dst asset n : Int) : Nat → Int :=
  if k = 0 then addN F acc asset n else if k = 1 then takeN F acc asset n else if k = 2 then moveN F (okD acc asset n) (ix acc asset) (ix acc asset + 1) n else if k = 3 then moveN F (okD acc asset n) (ix acc asset + 1) (ix acc asset) n
  else if k = 4 then moveN F (okT acc dst asset n) (ix acc asset) (ix dst asset) n else moveN F (okT acc dst asset n) (ix acc asset + 1) (ix dst asset) n
theorem kinds (k : Int) : k = 0 ∨ k = 1 ∨ k = 2 ∨ k = 3 ∨ k = 4 ∨ ((k == 0) = false ∧ (k == 1) = false ∧ (k == 2) = false ∧ (k == 3) = false ∧ (k == 4) = false ∧ k ≠ 0 ∧ k ≠ 1 ∧ k ≠ 2 ∧ k ≠ 3 ∧ k ≠ 4) := by
  simp
  omega
set_option maxHeartbeats 4000000 in
theorem do_any (w : World) (b : Nat) (F : Nat → Int) (h : LAt w b F) (hF : Bd F) (k acc dst asset n : Int) :
    Calls Try.prog 12 #[.pointer (some ⟨b, 0, none⟩), .agg #[.int .i64 k, .int .i64 acc, .int .i64 dst, .int .i64 asset, .int .i64 n]] w fun e w' => e = .returned (.int .i64 (doE F k acc dst asset n)) ∧ LAt w' b (doN F k acc dst asset n) ∧ w.grownBy w' (some b) := by
  have hg := gr_refl w (some b)
  have hL := Lib.hid h
  rcases kinds k with rfl | rfl | rfl | rfl | rfl | ⟨k0, k1, k2, k3, k4, n0, n1, n2, n3, n4⟩
  · rw [show doE F 0 acc dst asset n = addE F acc asset n from by unfold doE; simp, show doN F 0 acc dst asset n = addN F acc asset n from by unfold doN; simp]
    have c1 := Lib.hid (fun (w : World) (h : LAt w b F) => add_any w b F h hF acc asset n)
    generalize addE F acc asset n = E at *
    generalize addN F acc asset n = G at *
    skip
    clear h hF
    go_enter Try.func12, Try.ntmps12
    go_wp2_with fail
    refine (c1.out _ (hL.out.alloc _)).mono ?_
    rintro e w1 ⟨rfl, hw, hg1⟩
    replace hg := gr_trans (gr_alloc hg _) hg1
    go_wp2_with fail
    go_ret
    exact ⟨rfl, hw, hg⟩
  · rw [show doE F 1 acc dst asset n = moveE F (okD acc asset n) (ix acc asset) n from by unfold doE; simp, show doN F 1 acc dst asset n = takeN F acc asset n from by unfold doN; simp]
    have c1 := Lib.hid (fun (w : World) (h : LAt w b F) => take_any w b F h hF acc asset n)
    generalize moveE F (okD acc asset n) (ix acc asset) n = E at *
    generalize takeN F acc asset n = G at *
    skip
    clear h hF
    go_enter Try.func12, Try.ntmps12
    go_wp2_with fail
    refine (c1.out _ (hL.out.alloc _)).mono ?_
    rintro e w1 ⟨rfl, hw, hg1⟩
    replace hg := gr_trans (gr_alloc hg _) hg1
    go_wp2_with fail
    go_ret
    exact ⟨rfl, hw, hg⟩
  · rw [show doE F 2 acc dst asset n = moveE F (okD acc asset n) (ix acc asset) n from by unfold doE; simp, show doN F 2 acc dst asset n = moveN F (okD acc asset n) (ix acc asset) (ix acc asset + 1) n from by unfold doN; simp]
    have c1 := Lib.hid (fun (w : World) (h : LAt w b F) => hold_any w b F h hF acc asset n)
    generalize moveE F (okD acc asset n) (ix acc asset) n = E at *
    generalize moveN F (okD acc asset n) (ix acc asset) (ix acc asset + 1) n = G at *
    skip
    clear h hF
    go_enter Try.func12, Try.ntmps12
    go_wp2_with fail
    refine (c1.out _ (hL.out.alloc _)).mono ?_
    rintro e w1 ⟨rfl, hw, hg1⟩
    replace hg := gr_trans (gr_alloc hg _) hg1
    go_wp2_with fail
    go_ret
    exact ⟨rfl, hw, hg⟩
  · rw [show doE F 3 acc dst asset n = moveE F (okD acc asset n) (ix acc asset + 1) n from by unfold doE; simp, show doN F 3 acc dst asset n = moveN F (okD acc asset n) (ix acc asset + 1) (ix acc asset) n from by unfold doN; simp]
    have c1 := Lib.hid (fun (w : World) (h : LAt w b F) => release_any w b F h hF acc asset n)
    generalize moveE F (okD acc asset n) (ix acc asset + 1) n = E at *
    generalize moveN F (okD acc asset n) (ix acc asset + 1) (ix acc asset) n = G at *
    skip
    clear h hF
    go_enter Try.func12, Try.ntmps12
    go_wp2_with fail
    refine (c1.out _ (hL.out.alloc _)).mono ?_
    rintro e w1 ⟨rfl, hw, hg1⟩
    replace hg := gr_trans (gr_alloc hg _) hg1
    go_wp2_with fail
    go_ret
    exact ⟨rfl, hw, hg⟩
  · rw [show doE F 4 acc dst asset n = moveE F (okT acc dst asset n) (ix acc asset) n from by unfold doE; simp, show doN F 4 acc dst asset n = moveN F (okT acc dst asset n) (ix acc asset) (ix dst asset) n from by unfold doN; simp]
    have c1 := Lib.hid (fun (w : World) (h : LAt w b F) => pay_any w b F h hF acc dst asset n)
    generalize moveE F (okT acc dst asset n) (ix acc asset) n = E at *
    generalize moveN F (okT acc dst asset n) (ix acc asset) (ix dst asset) n = G at *
    skip
    clear h hF
    go_enter Try.func12, Try.ntmps12
    go_wp2_with fail
    refine (c1.out _ (hL.out.alloc _)).mono ?_
    rintro e w1 ⟨rfl, hw, hg1⟩
    replace hg := gr_trans (gr_alloc hg _) hg1
    go_wp2_with fail
    go_ret
    exact ⟨rfl, hw, hg⟩
  · rw [show doE F k acc dst asset n = moveE F (okT acc dst asset n) (ix acc asset + 1) n from by unfold doE; simp [n0, n1, n2, n3, n4], show doN F k acc dst asset n = moveN F (okT acc dst asset n) (ix acc asset + 1) (ix dst asset) n from by unfold doN; simp [n0, n1, n2, n3, n4]]
    have c1 := Lib.hid (fun (w : World) (h : LAt w b F) => spend_any w b F h hF acc dst asset n)
    generalize moveE F (okT acc dst asset n) (ix acc asset + 1) n = E at *
    generalize moveN F (okT acc dst asset n) (ix acc asset + 1) (ix dst asset) n = G at *
    clear n0 n1 n2 n3 n4
    clear h hF
    go_enter Try.func12, Try.ntmps12
    go_wp2_with fail
    refine (c1.out _ (hL.out.alloc _)).mono ?_
    rintro e w1 ⟨rfl, hw, hg1⟩
    replace hg := gr_trans (gr_alloc hg _) hg1
    go_wp2_with fail
    go_ret
    exact ⟨rfl, hw, hg⟩
set_option maxHeartbeats 4000000 in
theorem do_nil (w : World) (k acc dst asset n : Int) :
    Calls Try.prog 12 #[.pointer none, .agg #[.int .i64 k, .int .i64 acc, .int .i64 dst, .int .i64 asset, .int .i64 n]] w fun e w' => e = .returned (.int .i64 1) ∧ Below w.heap.size w w' := by
  have hB := bel_refl w
  rcases kinds k with rfl | rfl | rfl | rfl | rfl | ⟨k0, k1, k2, k3, k4, n0, n1, n2, n3, n4⟩
  · skip
    go_enter Try.func12, Try.ntmps12
    go_wp2_with fail
    refine (add_nil _ _ _ _).mono ?_
    rintro e w1 ⟨rfl, rfl⟩
    go_wp2_with fail
    go_ret
    exact ⟨rfl, bel_alloc hB _⟩
  · skip
    go_enter Try.func12, Try.ntmps12
    go_wp2_with fail
    refine (take_nil _ _ _ _).mono ?_
    rintro e w1 ⟨rfl, rfl⟩
    go_wp2_with fail
    go_ret
    exact ⟨rfl, bel_alloc hB _⟩
  · skip
    go_enter Try.func12, Try.ntmps12
    go_wp2_with fail
    refine (hold_nil _ _ _ _).mono ?_
    rintro e w1 ⟨rfl, rfl⟩
    go_wp2_with fail
    go_ret
    exact ⟨rfl, bel_alloc hB _⟩
  · skip
    go_enter Try.func12, Try.ntmps12
    go_wp2_with fail
    refine (release_nil _ _ _ _).mono ?_
    rintro e w1 ⟨rfl, rfl⟩
    go_wp2_with fail
    go_ret
    exact ⟨rfl, bel_alloc hB _⟩
  · skip
    go_enter Try.func12, Try.ntmps12
    go_wp2_with fail
    refine (pay_nil _ _ _ _ _).mono ?_
    rintro e w1 ⟨rfl, rfl⟩
    go_wp2_with fail
    go_ret
    exact ⟨rfl, bel_alloc hB _⟩
  · clear n0 n1 n2 n3 n4
    go_enter Try.func12, Try.ntmps12
    go_wp2_with fail
    refine (spend_nil _ _ _ _ _).mono ?_
    rintro e w1 ⟨rfl, rfl⟩
    go_wp2_with fail
    go_ret
    exact ⟨rfl, bel_alloc hB _⟩
theorem Bd.upd {F : Nat → Int} (h : Bd F) (k : Nat) (v : Int) (hv : 0 ≤ v ∧ v ≤ 1152921504606846976) : Bd (upd F k v) := fun j hj => by
  unfold Go.Proofs.Ythkmjfgffofaoaa.upd
  split
  · exact hv
  · exact h j hj
theorem Bd.zero : Bd (fun _ => 0) := fun k _ => ⟨by show (0 : Int) ≤ 0; omega, by show (0 : Int) ≤ 1152921504606846976; omega⟩
theorem addN_ok {F : Nat → Int} {acc asset n : Int} (h : okD acc asset n) (h2 : ¬ 1152921504606846976 - F (tx asset) < n) : addE F acc asset n = 0 ∧ addN F acc asset n = upd (upd F (ix acc asset) (F (ix acc asset) + n)) (tx asset) (F (tx asset) + n) := by
  unfold addE addN
  exact ⟨by rw [if_pos h, if_neg h2], if_pos ⟨h, h2⟩⟩
theorem move_ok {F : Nat → Int} {ok : Prop} [Decidable ok] {x y : Nat} {n : Int} (h : ok) (h2 : ¬ F x < n) : moveE F ok x n = 0 ∧ moveN F ok x y n = upd (upd F x (F x - n)) y (upd F x (F x - n) y + n) := by
  unfold moveE moveN
  exact ⟨by rw [if_pos h, if_neg h2], if_pos ⟨h, h2⟩⟩
/-! awake: an example -/
def aw1 : Nat → Int := upd (upd (fun _ => 0) 4 10) 260 10
def aw2 : Nat → Int := upd (upd aw1 4 6) 5 4
def aw3 : Nat → Int := upd (upd aw2 5 1) 8 3
theorem aw_facts : Hid (addE (fun _ => 0) 1 0 10 = 0 ∧ addN (fun _ => 0) 1 0 10 = aw1 ∧ moveE aw1 (okD 1 0 4) (ix 1 0) 4 = 0 ∧ moveN aw1 (okD 1 0 4) (ix 1 0) (ix 1 0 + 1) 4 = aw2 ∧
    moveE aw2 (okT 1 2 0 3) (ix 1 0 + 1) 3 = 0 ∧ moveN aw2 (okT 1 2 0 3) (ix 1 0 + 1) (ix 2 0) 3 = aw3 ∧
    getF aw3 1 0 (ix 1 0) = 6 ∧ getF aw3 1 0 (ix 1 0 + 1) = 1 ∧ getF aw3 2 0 (ix 2 0) = 3 ∧ totF aw3 0 = 10) := by
  refine Lib.hid ⟨by decide +kernel, ?_, by decide +kernel, ?_, by decide +kernel, ?_, by decide +kernel, by decide +kernel, by decide +kernel, by decide +kernel⟩
  · exact (addN_ok (by decide +kernel) (by decide +kernel)).2
  · exact (move_ok (by decide +kernel) (by decide +kernel)).2
  · exact (move_ok (by decide +kernel) (by decide +kernel)).2
theorem bd1 : Bd aw1 := (Bd.zero.upd 4 10 (by omega)).upd 260 10 (by omega)
theorem bd2 : Bd aw2 := (bd1.upd 4 6 (by omega)).upd 5 4 (by omega)
theorem bd3 : Bd aw3 := (bd2.upd 5 1 (by omega)).upd 8 3 (by omega)
set_option maxHeartbeats 4000000 in
theorem awake_any (w : World) : Calls Try.prog 9 #[] w fun e w' => e = .returned (.bool true) ∧ Below w.heap.size w w' := by
  have hB := bel_refl w
  obtain ⟨f1, f2, f3, f4, f5, f6, f7, f8, f9, f10⟩ := aw_facts.out
  have c1 := Lib.hid (fun (w : World) (b : Nat) (h : LAt w b fun _ => 0) => add_any w b _ h Bd.zero 1 0 10)
  rw [f1, f2] at c1
  have c2 := Lib.hid (fun (w : World) (b : Nat) (h : LAt w b aw1) => hold_any w b _ h bd1 1 0 4)
  rw [f3, f4] at c2
  have c3 := Lib.hid (fun (w : World) (b : Nat) (h : LAt w b aw2) => spend_any w b _ h bd2 1 2 0 3)
  rw [f5, f6] at c3
  have c4 := Lib.hid (fun (w : World) (b : Nat) (h : LAt w b aw3) => free_any w b _ h 1 0)
  rw [f7] at c4
  have c5 := Lib.hid (fun (w : World) (b : Nat) (h : LAt w b aw3) => held_any w b _ h 1 0)
  rw [f8] at c5
  have c6 := Lib.hid (fun (w : World) (b : Nat) (h : LAt w b aw3) => free_any w b _ h 2 0)
  rw [f9] at c6
  have c7 := Lib.hid (fun (w : World) (b : Nat) (h : LAt w b aw3) => total_any w b _ h 0)
  rw [f10] at c7
  clear f1 f2 f3 f4 f5 f6 f7 f8 f9 f10
  generalize aw1 = A1 at *
  generalize aw2 = A2 at *
  generalize aw3 = A3 at *
  go_enter Try.func9, Try.ntmps9
  go_wp2_with fail
  refine (new_any _).mono ?_
  rintro e w1 ⟨rfl, hw, hb⟩
  replace hB := bel_call hb hB
  clear hb
  go_wp2_with fail
  refine (c1.out _ _ hw).mono ?_
  rintro e w2 ⟨rfl, hw0, hg⟩
  replace hB := bel_grown hg hB (fun j hj => by cases hj; exact Nat.le_refl _)
  clear hg
  clear hw
  have hw := hw0
  clear hw0
  go_wp2_with fail
  refine (c2.out _ _ hw).mono ?_
  rintro e w3 ⟨rfl, hw1, hg⟩
  replace hB := bel_grown hg hB (fun j hj => by cases hj; exact Nat.le_refl _)
  clear hg
  clear hw
  have hw := hw1
  clear hw1
  go_wp2_with fail
  refine (c3.out _ _ hw).mono ?_
  rintro e w4 ⟨rfl, hw2, hg⟩
  replace hB := bel_grown hg hB (fun j hj => by cases hj; exact Nat.le_refl _)
  clear hg
  clear hw
  have hw := hw2
  clear hw2
  go_wp2_with fail
  refine (c4.out _ _ hw).mono ?_
  rintro e w9 ⟨rfl, rfl⟩
  go_wp2_with fail
  refine (c5.out _ _ hw).mono ?_
  rintro e w9 ⟨rfl, rfl⟩
  go_wp2_with fail
  refine (c6.out _ _ hw).mono ?_
  rintro e w9 ⟨rfl, rfl⟩
  go_wp2_with fail
  refine (c7.out _ _ hw).mono ?_
  rintro e w9 ⟨rfl, rfl⟩
  go_wp2_with fail
  go_ret
  exact ⟨rfl, hB⟩
set_option maxHeartbeats 1000000 in
theorem nobody_walk (k acc dst asset n : Int) (w : World) (g0 : (Lit.int .i64 k).wf = true) (g1 : (Lit.int .i64 acc).wf = true) (g2 : (Lit.int .i64 dst).wf = true) (g3 : (Lit.int .i64 asset).wf = true) (g4 : (Lit.int .i64 n).wf = true) :
    Calls Try.prog 8 #[.agg #[.int .i64 k, .int .i64 acc, .int .i64 dst, .int .i64 asset, .int .i64 n]] w fun e w' => e = .returned (.bool true) ∧ Below w.heap.size w w' := by
  have hB := bel_refl w
  clear g0 g1 g2 g3 g4
  go_enter Try.func8, Try.ntmps8
  go_wp2_with fail
  refine (awake_any _).mono ?_
  rintro e w1 ⟨rfl, hb⟩
  have C : Blk w1 w.heap.size _ := Blk.call (by first | exact (Blk.new _ _ _) | exact (Blk.new _ _ _).alloc _ | exact ((Blk.new _ _ _).alloc _).alloc _ | exact (((Blk.new _ _ _).alloc _).alloc _).alloc _ | exact (Blk.new _ _ _).drew | exact ((Blk.new _ _ _).alloc _).drew | exact (((Blk.new _ _ _).alloc _).alloc _).drew) hb
  replace hB := bel_call hb (by first | exact hB | exact bel_alloc hB _ | exact bel_alloc (bel_alloc hB _) _ | exact bel_alloc (bel_alloc (bel_alloc hB _) _) _ | exact bel_drew hB | exact bel_drew (bel_alloc hB _) | exact bel_drew (bel_alloc (bel_alloc hB _) _))
  clear hb
  have C_c := C.cell; have C_f := C.free; have C_l := C.lt
  go_wp2_with fail
  refine (do_nil _ _ _ _ _ _).mono ?_
  rintro e w2 ⟨rfl, hb⟩
  clear C_c C_f C_l
  replace C := Blk.call (by first | exact C | exact C.alloc _ | exact (C.alloc _).alloc _ | exact ((C.alloc _).alloc _).alloc _ | exact C.drew | exact (C.alloc _).drew | exact ((C.alloc _).alloc _).drew) hb
  replace hB := bel_call hb (by first | exact hB | exact bel_alloc hB _ | exact bel_alloc (bel_alloc hB _) _ | exact bel_alloc (bel_alloc (bel_alloc hB _) _) _ | exact bel_drew hB | exact bel_drew (bel_alloc hB _) | exact bel_drew (bel_alloc (bel_alloc hB _) _))
  clear hb
  have C_c := C.cell; have C_f := C.free; have C_l := C.lt
  go_wp2_with fail
  refine (free_nil _ _ _).mono ?_
  rintro e w3 ⟨rfl, rfl⟩
  go_wp2_with fail
  refine (held_nil _ _ _).mono ?_
  rintro e w3 ⟨rfl, rfl⟩
  go_wp2_with fail
  refine (total_nil _ _).mono ?_
  rintro e w3 ⟨rfl, rfl⟩
  go_wp2_with fail
  go_ret
  exact ⟨rfl, hB⟩
end Go.Proofs.Ythkmjfgffofaoaa
