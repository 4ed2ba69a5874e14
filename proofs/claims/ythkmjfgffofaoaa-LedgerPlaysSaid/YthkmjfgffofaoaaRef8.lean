/-
  The walk of LedgerPlays.
-/
import Derived.Test.YthkmjfgffofaoaaRef7
import Derived.Test.YthkmjfgffofaoaaOpen
namespace Go.Proofs.Ythkmjfgffofaoaa
open Go.RowKit
set_option linter.unusedSimpArgs false
set_option linter.unusedVariables false
theorem gF_zero : gF (fun _ => 0) = fun _ => 0 := by funext k; unfold gF; split <;> rfl
set_option maxRecDepth 100000 in
set_option maxHeartbeats 16000000 in
theorem plays_walk (sa : Option Addr) (len cap : Nat) (D : Nat → Nat → Int) (w : World) (hD : RowsOf w sa len cap 5 (fun _ => .i64) D) :
    Calls Try.prog 4 #[.slice sa len cap] w fun e w' => e = .returned (.bool true) ∧ Below w.heap.size w w' := by
  have hB := bel_refl w
  have hlen : len ≤ 9223372036854775807 := by have := hD.lenCap; have := hD.capMax; unfold maxLen at this; omega
  go_enter Try.func4, Try.ntmps4
  go_wp2_with fail
  refine (awake_any _).mono ?_
  rintro e w1 ⟨rfl, hb⟩
  replace hB := bel_call hb (by first | exact hB | exact bel_alloc hB _ | exact bel_alloc (bel_alloc hB _) _ | exact bel_alloc (bel_alloc (bel_alloc hB _) _) _ | exact bel_drew hB | exact bel_drew (bel_alloc hB _) | exact bel_drew (bel_alloc (bel_alloc hB _) _))
  clear hb
  go_wp2_with fail
  have HBB := Lib.hid hB.size
  refine (new_any _).mono ?_
  rintro e w2 ⟨rfl, hw, hb9⟩
  replace hB := bel_call hb9 hB
  have hbb : w.heap.size ≤ w1.heap.size := HBB.out
  have hlt2 := hw.lt
  clear hb9
  have z33 := rzero
  go_upto_region 6 with (refine wpList_rstore rfl _ _ rfl _ _ rfl rfl _ (Blk.new _ _ _) ?_; intro w3 hX hg3)
  have hw3 := (hw.alloc (.cells (rcs fun _ => 0) 33)).grown hg3 (by simp; omega)
  have hB3 := bel_grown hg3 (bel_alloc hB (.cells (rcs fun _ => 0) 33)) (fun j hj => by cases hj; omega)
  rw [← gF_zero] at hX
  clear hw hg3 hB
  obtain ⟨xb, hxb⟩ : ∃ xb, w2.heap.size = xb := ⟨_, rfl⟩
  obtain ⟨lb, hlb⟩ : ∃ lb, w1.heap.size = lb := ⟨_, rfl⟩
  rw [hxb] at hX hlt2 ⊢
  rw [hlb] at hw3 hbb hlt2 ⊢
  clear hxb hlb
  go_wp2_with fail
  go_loopw [6] (fun i wr => ∃ (j : Nat) (F : Nat → Int), j ≤ len ∧ j ≤ 300 ∧ i = .int .i64 j ∧ LAt wr lb F ∧ Inv F ∧ Blk wr xb (rcs (gF F)) ∧ Below w.heap.size w wr) (fun i _ => len - (intOf i).toNat)
  case atStart => exact ⟨0, _, by omega, by omega, rfl, hw3, Inv.zero, hX, hB3⟩
  case round =>
    clear hw3 hB3 hX
    obtain ⟨j, F, hj, hj2, rfl, hwr, hI, hX, hBr⟩ := hrel
    by_cases hlt : j < len ∧ j < 300
    · obtain ⟨hlt, hlt3⟩ := hlt
      obtain ⟨b, off, rfl, hcell⟩ := hD.cells (by omega)
      have hd1 : decide ((j : Int) < (len : Int)) = true := by simp; omega
      have hd2 : decide ((j : Int) < 300) = true := by simp; omega
      have q0 := hcell j hlt 0 (by omega)
      have q1 := hcell j hlt 1 (by omega)
      have q2 := hcell j hlt 2 (by omega)
      have q3 := hcell j hlt 3 (by omega)
      have q4 := hcell j hlt 4 (by omega)
      rw [Nat.add_zero] at q0
      rw [← Nat.add_assoc] at q1 q2 q3 q4
      have p0 := cell_call q0 hBr
      have p1 := cell_call q1 hBr
      have p2 := cell_call q2 hBr
      have p3 := cell_call q3 hBr
      have p4 := cell_call q4 hBr
      have hj0 : (0 : Int) ≤ (j : Int) := by omega
      have hj1 : (j : Int) < (len : Int) := by omega
      clear hcell hD q0 q1 q2 q3 q4
      generalize D j 0 = d0 at *
      generalize D j 1 = d1 at *
      generalize D j 2 = d2 at *
      generalize D j 3 = d3 at *
      generalize D j 4 = d4 at *
      have HI := Lib.hid hI
      have cx := Lib.hid (fun (w : World) (b : Nat) (h : LAt w b F) => do_any w b F h HI.out.bd d0 d1 d2 d3 d4)
      have cw := Lib.hid (fun (w : World) => want_any w F HI.out d0 d1 d2 d3 d4)
      have HI2 := Lib.hid (hI.doN d0 d1 d2 d3 d4)
      clear hI
      obtain ⟨F', hF'⟩ : ∃ F', doN F d0 d1 d2 d3 d4 = F' := ⟨_, rfl⟩
      obtain ⟨E, hE⟩ : ∃ E, doE F d0 d1 d2 d3 d4 = E := ⟨_, rfl⟩
      rw [hF'] at cx cw HI2
      rw [hE] at cx cw
      obtain ⟨fv, cf, rf⟩ : ∃ fv : Int → Int → Int, Hid (∀ (w : World) (h : LAt w lb F') (a s : Int), Calls Try.prog 16 #[.pointer (some ⟨lb, 0, none⟩), .int .i64 a, .int .i64 s] w fun e w' => e = .returned (.int .i64 (fv a s)) ∧ w = w') ∧ Hid (∀ (w : World) (a s : Int), Calls Try.prog 17 #[.agg (rcs (gF F')), .int .i64 a, .int .i64 s] w fun e w' => e = .returned (.int .i64 (fv a s)) ∧ Below w.heap.size w w') :=
        ⟨_, Lib.hid (fun w h a s => free_any w _ F' h a s), Lib.hid (fun w a s => rfree_any w F' a s)⟩
      obtain ⟨hv, ch, rh⟩ : ∃ hv : Int → Int → Int, Hid (∀ (w : World) (h : LAt w lb F') (a s : Int), Calls Try.prog 18 #[.pointer (some ⟨lb, 0, none⟩), .int .i64 a, .int .i64 s] w fun e w' => e = .returned (.int .i64 (hv a s)) ∧ w = w') ∧ Hid (∀ (w : World) (a s : Int), Calls Try.prog 19 #[.agg (rcs (gF F')), .int .i64 a, .int .i64 s] w fun e w' => e = .returned (.int .i64 (hv a s)) ∧ Below w.heap.size w w') :=
        ⟨_, Lib.hid (fun w h a s => held_any w _ F' h a s), Lib.hid (fun w a s => rheld_any w F' a s)⟩
      obtain ⟨tv, ct, rt⟩ : ∃ tv : Int → Int, Hid (∀ (w : World) (h : LAt w lb F') (s : Int), Calls Try.prog 14 #[.pointer (some ⟨lb, 0, none⟩), .int .i64 s] w fun e w' => e = .returned (.int .i64 (tv s)) ∧ w = w') ∧ Hid (∀ (w : World) (s : Int), Calls Try.prog 15 #[.agg (rcs (gF F')), .int .i64 s] w fun e w' => e = .returned (.int .i64 (tv s)) ∧ Below w.heap.size w w') :=
        ⟨_, Lib.hid (fun w h s => total_any w _ F' h s), Lib.hid (fun w s => rtotal_any w F' HI2.out s)⟩
      clear hF' hE
      go_wp2_with fail
      refine (cx.out _ _ (hwr.alloc _)).mono ?_
      rintro e w4 ⟨rfl, hw4, hg⟩
      obtain ⟨db, hdb⟩ : ∃ db, wr.heap.size = db := ⟨_, rfl⟩
      have hD4 : Blk w4 db _ := (Blk.new' (w := wr) hdb.symm #[.int .i64 d0, .int .i64 d1, .int .i64 d2, .int .i64 d3, .int .i64 d4] 35).grown hg (by have := hwr.lt; simp; omega)
      have hX4 := (hX.alloc (.cells #[.int .i64 d0, .int .i64 d1, .int .i64 d2, .int .i64 d3, .int .i64 d4] 35)).grown hg (by simp; omega)
      have hB4 := bel_grown hg (bel_alloc hBr _) (fun j hj => by cases hj; exact hbb)
      have hxd : xb < db := by have := hX.lt; omega
      rw [hdb]
      clear hg hwr hX hBr p0 p1 p2 p3 p4 cx hdb
      have G_c := hD4.cell
      go_wp2_with (refine wpList_rload rfl _ rfl _ rfl _ hX4 ?_)
      refine (cw.out _).mono ?_
      rintro e w5 ⟨rfl, hb5⟩
      replace hD5 := hD4.call hb5
      replace hX5 := hX4.call hb5
      replace hw5 := hw4.call hb5
      replace hB5 := bel_call hb5 hB4
      have hd5 := hD5.lt
      clear hb5 hD4 hX4 hw4 hB4 G_c cw
      go_upto_region 12 with (refine wpList_rstore rfl _ _ rfl _ _ rfl rfl _ (Blk.new _ _ _) ?_; intro w6 hY6 hg6)
      have hX6 := (hX5.alloc (.cells (rcs fun _ => 0) 33)).grown hg6 (by simp; omega)
      have hD6 := (hD5.alloc (.cells (rcs fun _ => 0) 33)).grown hg6 (by simp; omega)
      have hw6 := (hw5.alloc (.cells (rcs fun _ => 0) 33)).grown hg6 (by simp; omega)
      have hB6 := bel_grown hg6 (bel_alloc hB5 (.cells (rcs fun _ => 0) 33)) (fun j hj => by cases hj; exact hB5.size)
      have hy : db < w5.heap.size := hd5
      obtain ⟨yb, hyb⟩ : ∃ yb, w5.heap.size = yb := ⟨_, rfl⟩
      rw [hyb] at hY6 hy ⊢
      clear hg6 hX5 hD5 hw5 hB5 hyb hd5
      go_upto_region 13 with (first | (refine wpList_rload rfl _ rfl _ rfl _ hY6 ?_) | (refine wpList_rstore rfl _ _ rfl _ _ rfl rfl _ hX6 ?_; intro w7 hX7 hg7))
      have hD7 := hD6.grown hg7 (by simp; omega)
      have hw7 := hw6.grown hg7 (by simp; omega)
      have hB7 := bel_grown hg7 hB6 (fun j hj => by cases hj; omega)
      clear hg7 hY6 hX6 hD6 hw6 hB6
      refine wp_region_plan [(0, true), (1, true), (2, true), (3, true), (4, true), (5, true), (6, true), (8, true), (9, true), (10, true), (7, false), (11, false), (12, true), (13, true), (14, true), (15, true), (16, true), (17, true), (18, true), (19, true), (21, true), (22, true), (23, true), (24, true), (25, true), (20, false), (26, false), (27, true), (28, true), (29, true), (30, true), (31, true), (32, true), (33, true), (34, true), (36, true), (37, true), (38, true), (39, true), (40, true), (35, false), (41, false), (42, true), (43, true), (44, true), (45, true), (46, true), (47, true), (48, true), (49, true), (51, true), (52, true), (53, true), (54, true), (55, true), (50, false), (56, false), (57, true), (58, true)] (fun w' => LAt w' lb F' ∧ Blk w' xb (rcs (gF F')) ∧ Blk w' db #[.int .i64 d0, .int .i64 d1, .int .i64 d2, .int .i64 d3, .int .i64 d4] ∧ Below w.heap.size w w') (by kernel_rfl) (by kernel_rfl) (fun _ _ _ _ h => h) ?_ (fun hS => ?_)
      · exact ⟨hw7.drew, hX7.drew, hD7.drew, bel_drew hB7⟩
      iterate 10
        refine plan_light (o := ?_) (v := ?_) ?_ ?_ ?_ ?_
        rotate_left 2
        · simp only [List.getElem?_toArray, List.getElem?_cons_zero, List.getElem?_cons_succ]
          rfl
        · go_simp
        · intro w' hS
          first | (refine exec_rload ?_ ?_ _ ?_ _ hS.2.1; rotate_left; (· rfl); (· rfl)) | (have sa1 := hS.2.2.1.cell; go_simp; try rfl) | (go_simp; try rfl)
        simp only [Act.put, List.setIfInBounds_toArray, List.set_cons_zero, List.set_cons_succ]
      refine plan_heavy (o := ?_) ?_ (fun K' hK => ?_)
      rotate_left
      · simp only [List.getElem?_toArray, List.getElem?_cons_zero, List.getElem?_cons_succ]
        rfl
      go_simp
      go_wp2_with (first | (go_at_call 14; refine (ct.out _ hS.1 _).mono ?_; rintro e w' ⟨rfl, rfl⟩) | (go_at_call 15; refine (rt.out _ _).mono ?_; rintro e w' ⟨rfl, hb⟩; have hS' := And.intro (hS.1.call hb) (And.intro (hS.2.1.call hb) (And.intro (hS.2.2.1.call hb) (bel_call hb hS.2.2.2)))) | (go_at_call 16; refine (cf.out _ hS.1 _ _).mono ?_; rintro e w' ⟨rfl, rfl⟩) | (go_at_call 17; refine (rf.out _ _ _).mono ?_; rintro e w' ⟨rfl, hb⟩; have hS' := And.intro (hS.1.call hb) (And.intro (hS.2.1.call hb) (And.intro (hS.2.2.1.call hb) (bel_call hb hS.2.2.2)))) | (go_at_call 18; refine (ch.out _ hS.1 _ _).mono ?_; rintro e w' ⟨rfl, rfl⟩) | (go_at_call 19; refine (rh.out _ _ _).mono ?_; rintro e w' ⟨rfl, hb⟩; have hS' := And.intro (hS.1.call hb) (And.intro (hS.2.1.call hb) (And.intro (hS.2.2.1.call hb) (bel_call hb hS.2.2.2)))))
      refine hK.out _ _ ?_ (fun hS => ?_)
      · (first | exact hS' | exact hS)
      clear hK K'
      refine plan_heavy (o := ?_) ?_ (fun K' hK => ?_)
      rotate_left
      · simp only [List.getElem?_toArray, List.getElem?_cons_zero, List.getElem?_cons_succ]
        rfl
      go_simp
      go_wp2_with (first | (go_at_call 14; refine (ct.out _ hS.1 _).mono ?_; rintro e w' ⟨rfl, rfl⟩) | (go_at_call 15; refine (rt.out _ _).mono ?_; rintro e w' ⟨rfl, hb⟩; have hS' := And.intro (hS.1.call hb) (And.intro (hS.2.1.call hb) (And.intro (hS.2.2.1.call hb) (bel_call hb hS.2.2.2)))) | (go_at_call 16; refine (cf.out _ hS.1 _ _).mono ?_; rintro e w' ⟨rfl, rfl⟩) | (go_at_call 17; refine (rf.out _ _ _).mono ?_; rintro e w' ⟨rfl, hb⟩; have hS' := And.intro (hS.1.call hb) (And.intro (hS.2.1.call hb) (And.intro (hS.2.2.1.call hb) (bel_call hb hS.2.2.2)))) | (go_at_call 18; refine (ch.out _ hS.1 _ _).mono ?_; rintro e w' ⟨rfl, rfl⟩) | (go_at_call 19; refine (rh.out _ _ _).mono ?_; rintro e w' ⟨rfl, hb⟩; have hS' := And.intro (hS.1.call hb) (And.intro (hS.2.1.call hb) (And.intro (hS.2.2.1.call hb) (bel_call hb hS.2.2.2)))))
      refine hK.out _ _ ?_ (fun hS => ?_)
      · (first | exact hS' | exact hS)
      clear hK K'
      iterate 13
        refine plan_light (o := ?_) (v := ?_) ?_ ?_ ?_ ?_
        rotate_left 2
        · simp only [List.getElem?_toArray, List.getElem?_cons_zero, List.getElem?_cons_succ]
          rfl
        · go_simp
        · intro w' hS
          first | (refine exec_rload ?_ ?_ _ ?_ _ hS.2.1; rotate_left; (· rfl); (· rfl)) | (have sa1 := hS.2.2.1.cell; go_simp; try rfl) | (go_simp; try rfl)
        simp only [Act.put, List.setIfInBounds_toArray, List.set_cons_zero, List.set_cons_succ]
      refine plan_heavy (o := ?_) ?_ (fun K' hK => ?_)
      rotate_left
      · simp only [List.getElem?_toArray, List.getElem?_cons_zero, List.getElem?_cons_succ]
        rfl
      go_simp
      go_wp2_with (first | (go_at_call 14; refine (ct.out _ hS.1 _).mono ?_; rintro e w' ⟨rfl, rfl⟩) | (go_at_call 15; refine (rt.out _ _).mono ?_; rintro e w' ⟨rfl, hb⟩; have hS' := And.intro (hS.1.call hb) (And.intro (hS.2.1.call hb) (And.intro (hS.2.2.1.call hb) (bel_call hb hS.2.2.2)))) | (go_at_call 16; refine (cf.out _ hS.1 _ _).mono ?_; rintro e w' ⟨rfl, rfl⟩) | (go_at_call 17; refine (rf.out _ _ _).mono ?_; rintro e w' ⟨rfl, hb⟩; have hS' := And.intro (hS.1.call hb) (And.intro (hS.2.1.call hb) (And.intro (hS.2.2.1.call hb) (bel_call hb hS.2.2.2)))) | (go_at_call 18; refine (ch.out _ hS.1 _ _).mono ?_; rintro e w' ⟨rfl, rfl⟩) | (go_at_call 19; refine (rh.out _ _ _).mono ?_; rintro e w' ⟨rfl, hb⟩; have hS' := And.intro (hS.1.call hb) (And.intro (hS.2.1.call hb) (And.intro (hS.2.2.1.call hb) (bel_call hb hS.2.2.2)))))
      refine hK.out _ _ ?_ (fun hS => ?_)
      · (first | exact hS' | exact hS)
      clear hK K'
      refine plan_heavy (o := ?_) ?_ (fun K' hK => ?_)
      rotate_left
      · simp only [List.getElem?_toArray, List.getElem?_cons_zero, List.getElem?_cons_succ]
        rfl
      go_simp
      go_wp2_with (first | (go_at_call 14; refine (ct.out _ hS.1 _).mono ?_; rintro e w' ⟨rfl, rfl⟩) | (go_at_call 15; refine (rt.out _ _).mono ?_; rintro e w' ⟨rfl, hb⟩; have hS' := And.intro (hS.1.call hb) (And.intro (hS.2.1.call hb) (And.intro (hS.2.2.1.call hb) (bel_call hb hS.2.2.2)))) | (go_at_call 16; refine (cf.out _ hS.1 _ _).mono ?_; rintro e w' ⟨rfl, rfl⟩) | (go_at_call 17; refine (rf.out _ _ _).mono ?_; rintro e w' ⟨rfl, hb⟩; have hS' := And.intro (hS.1.call hb) (And.intro (hS.2.1.call hb) (And.intro (hS.2.2.1.call hb) (bel_call hb hS.2.2.2)))) | (go_at_call 18; refine (ch.out _ hS.1 _ _).mono ?_; rintro e w' ⟨rfl, rfl⟩) | (go_at_call 19; refine (rh.out _ _ _).mono ?_; rintro e w' ⟨rfl, hb⟩; have hS' := And.intro (hS.1.call hb) (And.intro (hS.2.1.call hb) (And.intro (hS.2.2.1.call hb) (bel_call hb hS.2.2.2)))))
      refine hK.out _ _ ?_ (fun hS => ?_)
      · (first | exact hS' | exact hS)
      clear hK K'
      iterate 13
        refine plan_light (o := ?_) (v := ?_) ?_ ?_ ?_ ?_
        rotate_left 2
        · simp only [List.getElem?_toArray, List.getElem?_cons_zero, List.getElem?_cons_succ]
          rfl
        · go_simp
        · intro w' hS
          first | (refine exec_rload ?_ ?_ _ ?_ _ hS.2.1; rotate_left; (· rfl); (· rfl)) | (have sa1 := hS.2.2.1.cell; go_simp; try rfl) | (go_simp; try rfl)
        simp only [Act.put, List.setIfInBounds_toArray, List.set_cons_zero, List.set_cons_succ]
      refine plan_heavy (o := ?_) ?_ (fun K' hK => ?_)
      rotate_left
      · simp only [List.getElem?_toArray, List.getElem?_cons_zero, List.getElem?_cons_succ]
        rfl
      go_simp
      go_wp2_with (first | (go_at_call 14; refine (ct.out _ hS.1 _).mono ?_; rintro e w' ⟨rfl, rfl⟩) | (go_at_call 15; refine (rt.out _ _).mono ?_; rintro e w' ⟨rfl, hb⟩; have hS' := And.intro (hS.1.call hb) (And.intro (hS.2.1.call hb) (And.intro (hS.2.2.1.call hb) (bel_call hb hS.2.2.2)))) | (go_at_call 16; refine (cf.out _ hS.1 _ _).mono ?_; rintro e w' ⟨rfl, rfl⟩) | (go_at_call 17; refine (rf.out _ _ _).mono ?_; rintro e w' ⟨rfl, hb⟩; have hS' := And.intro (hS.1.call hb) (And.intro (hS.2.1.call hb) (And.intro (hS.2.2.1.call hb) (bel_call hb hS.2.2.2)))) | (go_at_call 18; refine (ch.out _ hS.1 _ _).mono ?_; rintro e w' ⟨rfl, rfl⟩) | (go_at_call 19; refine (rh.out _ _ _).mono ?_; rintro e w' ⟨rfl, hb⟩; have hS' := And.intro (hS.1.call hb) (And.intro (hS.2.1.call hb) (And.intro (hS.2.2.1.call hb) (bel_call hb hS.2.2.2)))))
      refine hK.out _ _ ?_ (fun hS => ?_)
      · (first | exact hS' | exact hS)
      clear hK K'
      refine plan_heavy (o := ?_) ?_ (fun K' hK => ?_)
      rotate_left
      · simp only [List.getElem?_toArray, List.getElem?_cons_zero, List.getElem?_cons_succ]
        rfl
      go_simp
      go_wp2_with (first | (go_at_call 14; refine (ct.out _ hS.1 _).mono ?_; rintro e w' ⟨rfl, rfl⟩) | (go_at_call 15; refine (rt.out _ _).mono ?_; rintro e w' ⟨rfl, hb⟩; have hS' := And.intro (hS.1.call hb) (And.intro (hS.2.1.call hb) (And.intro (hS.2.2.1.call hb) (bel_call hb hS.2.2.2)))) | (go_at_call 16; refine (cf.out _ hS.1 _ _).mono ?_; rintro e w' ⟨rfl, rfl⟩) | (go_at_call 17; refine (rf.out _ _ _).mono ?_; rintro e w' ⟨rfl, hb⟩; have hS' := And.intro (hS.1.call hb) (And.intro (hS.2.1.call hb) (And.intro (hS.2.2.1.call hb) (bel_call hb hS.2.2.2)))) | (go_at_call 18; refine (ch.out _ hS.1 _ _).mono ?_; rintro e w' ⟨rfl, rfl⟩) | (go_at_call 19; refine (rh.out _ _ _).mono ?_; rintro e w' ⟨rfl, hb⟩; have hS' := And.intro (hS.1.call hb) (And.intro (hS.2.1.call hb) (And.intro (hS.2.2.1.call hb) (bel_call hb hS.2.2.2)))))
      refine hK.out _ _ ?_ (fun hS => ?_)
      · (first | exact hS' | exact hS)
      clear hK K'
      iterate 13
        refine plan_light (o := ?_) (v := ?_) ?_ ?_ ?_ ?_
        rotate_left 2
        · simp only [List.getElem?_toArray, List.getElem?_cons_zero, List.getElem?_cons_succ]
          rfl
        · go_simp
        · intro w' hS
          first | (refine exec_rload ?_ ?_ _ ?_ _ hS.2.1; rotate_left; (· rfl); (· rfl)) | (have sa1 := hS.2.2.1.cell; go_simp; try rfl) | (go_simp; try rfl)
        simp only [Act.put, List.setIfInBounds_toArray, List.set_cons_zero, List.set_cons_succ]
      refine plan_heavy (o := ?_) ?_ (fun K' hK => ?_)
      rotate_left
      · simp only [List.getElem?_toArray, List.getElem?_cons_zero, List.getElem?_cons_succ]
        rfl
      go_simp
      go_wp2_with (first | (go_at_call 14; refine (ct.out _ hS.1 _).mono ?_; rintro e w' ⟨rfl, rfl⟩) | (go_at_call 15; refine (rt.out _ _).mono ?_; rintro e w' ⟨rfl, hb⟩; have hS' := And.intro (hS.1.call hb) (And.intro (hS.2.1.call hb) (And.intro (hS.2.2.1.call hb) (bel_call hb hS.2.2.2)))) | (go_at_call 16; refine (cf.out _ hS.1 _ _).mono ?_; rintro e w' ⟨rfl, rfl⟩) | (go_at_call 17; refine (rf.out _ _ _).mono ?_; rintro e w' ⟨rfl, hb⟩; have hS' := And.intro (hS.1.call hb) (And.intro (hS.2.1.call hb) (And.intro (hS.2.2.1.call hb) (bel_call hb hS.2.2.2)))) | (go_at_call 18; refine (ch.out _ hS.1 _ _).mono ?_; rintro e w' ⟨rfl, rfl⟩) | (go_at_call 19; refine (rh.out _ _ _).mono ?_; rintro e w' ⟨rfl, hb⟩; have hS' := And.intro (hS.1.call hb) (And.intro (hS.2.1.call hb) (And.intro (hS.2.2.1.call hb) (bel_call hb hS.2.2.2)))))
      refine hK.out _ _ ?_ (fun hS => ?_)
      · (first | exact hS' | exact hS)
      clear hK K'
      refine plan_heavy (o := ?_) ?_ (fun K' hK => ?_)
      rotate_left
      · simp only [List.getElem?_toArray, List.getElem?_cons_zero, List.getElem?_cons_succ]
        rfl
      go_simp
      go_wp2_with (first | (go_at_call 14; refine (ct.out _ hS.1 _).mono ?_; rintro e w' ⟨rfl, rfl⟩) | (go_at_call 15; refine (rt.out _ _).mono ?_; rintro e w' ⟨rfl, hb⟩; have hS' := And.intro (hS.1.call hb) (And.intro (hS.2.1.call hb) (And.intro (hS.2.2.1.call hb) (bel_call hb hS.2.2.2)))) | (go_at_call 16; refine (cf.out _ hS.1 _ _).mono ?_; rintro e w' ⟨rfl, rfl⟩) | (go_at_call 17; refine (rf.out _ _ _).mono ?_; rintro e w' ⟨rfl, hb⟩; have hS' := And.intro (hS.1.call hb) (And.intro (hS.2.1.call hb) (And.intro (hS.2.2.1.call hb) (bel_call hb hS.2.2.2)))) | (go_at_call 18; refine (ch.out _ hS.1 _ _).mono ?_; rintro e w' ⟨rfl, rfl⟩) | (go_at_call 19; refine (rh.out _ _ _).mono ?_; rintro e w' ⟨rfl, hb⟩; have hS' := And.intro (hS.1.call hb) (And.intro (hS.2.1.call hb) (And.intro (hS.2.2.1.call hb) (bel_call hb hS.2.2.2)))))
      refine hK.out _ _ ?_ (fun hS => ?_)
      · (first | exact hS' | exact hS)
      clear hK K'
      iterate 2
        refine plan_light (o := ?_) (v := ?_) ?_ ?_ ?_ ?_
        rotate_left 2
        · simp only [List.getElem?_toArray, List.getElem?_cons_zero, List.getElem?_cons_succ]
          rfl
        · go_simp
        · intro w' hS
          first | (refine exec_rload ?_ ?_ _ ?_ _ hS.2.1; rotate_left; (· rfl); (· rfl)) | (have sa1 := hS.2.2.1.cell; go_simp; try rfl) | (go_simp; try rfl)
        simp only [Act.put, List.setIfInBounds_toArray, List.set_cons_zero, List.set_cons_succ]
      refine plan_nil ?_
      go_wp2_with fail
      go_roundw
      case rel => exact ⟨j + 1, F', by omega, by omega, by go_num, hS.1, HI2.out, hS.2.1, hS.2.2.2⟩
      case measure => simp [intOf]; omega
    · have hd : (¬ j < len ∧ decide ((j : Int) < (len : Int)) = false) ∨ (j < len ∧ decide ((j : Int) < (len : Int)) = true ∧ decide ((j : Int) < 300) = false) := by
        simp only [decide_eq_true_eq, decide_eq_false_iff_not]; omega
      obtain ⟨fv, cf, rf⟩ : ∃ fv : Int → Int → Int, Hid (∀ (w : World) (h : LAt w lb F) (a s : Int), Calls Try.prog 16 #[.pointer (some ⟨lb, 0, none⟩), .int .i64 a, .int .i64 s] w fun e w' => e = .returned (.int .i64 (fv a s)) ∧ w = w') ∧ Hid (∀ (w : World) (a s : Int), Calls Try.prog 17 #[.agg (rcs (gF F)), .int .i64 a, .int .i64 s] w fun e w' => e = .returned (.int .i64 (fv a s)) ∧ Below w.heap.size w w') :=
        ⟨_, Lib.hid (fun w h a s => free_any w _ F h a s), Lib.hid (fun w a s => rfree_any w F a s)⟩
      obtain ⟨hv, ch, rh⟩ : ∃ hv : Int → Int → Int, Hid (∀ (w : World) (h : LAt w lb F) (a s : Int), Calls Try.prog 18 #[.pointer (some ⟨lb, 0, none⟩), .int .i64 a, .int .i64 s] w fun e w' => e = .returned (.int .i64 (hv a s)) ∧ w = w') ∧ Hid (∀ (w : World) (a s : Int), Calls Try.prog 19 #[.agg (rcs (gF F)), .int .i64 a, .int .i64 s] w fun e w' => e = .returned (.int .i64 (hv a s)) ∧ Below w.heap.size w w') :=
        ⟨_, Lib.hid (fun w h a s => held_any w _ F h a s), Lib.hid (fun w a s => rheld_any w F a s)⟩
      have HI := Lib.hid hI
      clear hI hD hlt
      rcases hd with ⟨hk, hd⟩ | ⟨hk, hd, hd2⟩
      all_goals
        go_wp2_with fail
        go_loopw [11] (fun i wr => ∃ x : Int, -1 ≤ x ∧ x ≤ 66 ∧ i = .int .i64 x ∧ LAt wr lb F ∧ Blk wr xb (rcs (gF F)) ∧ Below w.heap.size w wr) (fun i _ => (66 - intOf i).toNat)
        case atStart => exact ⟨-1, by omega, by omega, rfl, hwr, hX, hBr⟩
        case round =>
          clear hwr hX hBr
          obtain ⟨x, hx, hx', rfl, hwr, hX, hBr⟩ := hrel
          by_cases hx2 : x < 66
          · have ex : decide (x < 66) = true := by simp; omega
            go_wp2_with fail
            go_loopw [12] (fun i wr => ∃ y : Int, -1 ≤ y ∧ y ≤ 3 ∧ i = .int .i64 y ∧ LAt wr lb F ∧ Blk wr xb (rcs (gF F)) ∧ Below w.heap.size w wr) (fun i _ => (3 - intOf i).toNat)
            case atStart => exact ⟨-1, by omega, by omega, rfl, hwr, hX, hBr⟩
            case round =>
              clear hwr hX hBr
              obtain ⟨y, hy, hy', rfl, hwr, hX, hBr⟩ := hrel
              by_cases hy2 : y < 3
              · have ey : decide (y < 3) = true := by simp; omega
                go_wp2_with fail
                refine wp_region_plan [(0, true), (1, true), (2, true), (4, true), (5, true), (6, true), (3, false), (7, false), (8, true), (9, true), (10, true), (11, true), (12, true), (14, true), (15, true), (16, true), (13, false), (17, false), (18, true), (19, true)] (fun w' => LAt w' lb F ∧ Blk w' xb (rcs (gF F)) ∧ Below w.heap.size w w') (by kernel_rfl) (by kernel_rfl) (fun _ _ _ _ h => h) ?_ (fun hS => ?_)
                · exact ⟨hwr.drew, hX.drew, bel_drew hBr⟩
                iterate 6
                  refine plan_light (o := ?_) (v := ?_) ?_ ?_ ?_ ?_
                  rotate_left 2
                  · simp only [List.getElem?_toArray, List.getElem?_cons_zero, List.getElem?_cons_succ]
                    rfl
                  · go_simp
                  · intro w' hS
                    first | (refine exec_rload ?_ ?_ _ ?_ _ hS.2.1; rotate_left; (· rfl); (· rfl)) | (go_simp; try rfl) | (go_simp; try rfl)
                  simp only [Act.put, List.setIfInBounds_toArray, List.set_cons_zero, List.set_cons_succ]
                refine plan_heavy (o := ?_) ?_ (fun K' hK => ?_)
                rotate_left
                · simp only [List.getElem?_toArray, List.getElem?_cons_zero, List.getElem?_cons_succ]
                  rfl
                go_simp
                go_wp2_with (first | (go_at_call 16; refine (cf.out _ hS.1 _ _).mono ?_; rintro e w' ⟨rfl, rfl⟩) | (go_at_call 17; refine (rf.out _ _ _).mono ?_; rintro e w' ⟨rfl, hb⟩; have hS' := And.intro (hS.1.call hb) (And.intro (hS.2.1.call hb) (bel_call hb hS.2.2))) | (go_at_call 18; refine (ch.out _ hS.1 _ _).mono ?_; rintro e w' ⟨rfl, rfl⟩) | (go_at_call 19; refine (rh.out _ _ _).mono ?_; rintro e w' ⟨rfl, hb⟩; have hS' := And.intro (hS.1.call hb) (And.intro (hS.2.1.call hb) (bel_call hb hS.2.2))))
                refine hK.out _ _ ?_ (fun hS => ?_)
                · (first | exact hS' | exact hS)
                clear hK K'
                refine plan_heavy (o := ?_) ?_ (fun K' hK => ?_)
                rotate_left
                · simp only [List.getElem?_toArray, List.getElem?_cons_zero, List.getElem?_cons_succ]
                  rfl
                go_simp
                go_wp2_with (first | (go_at_call 16; refine (cf.out _ hS.1 _ _).mono ?_; rintro e w' ⟨rfl, rfl⟩) | (go_at_call 17; refine (rf.out _ _ _).mono ?_; rintro e w' ⟨rfl, hb⟩; have hS' := And.intro (hS.1.call hb) (And.intro (hS.2.1.call hb) (bel_call hb hS.2.2))) | (go_at_call 18; refine (ch.out _ hS.1 _ _).mono ?_; rintro e w' ⟨rfl, rfl⟩) | (go_at_call 19; refine (rh.out _ _ _).mono ?_; rintro e w' ⟨rfl, hb⟩; have hS' := And.intro (hS.1.call hb) (And.intro (hS.2.1.call hb) (bel_call hb hS.2.2))))
                refine hK.out _ _ ?_ (fun hS => ?_)
                · (first | exact hS' | exact hS)
                clear hK K'
                iterate 8
                  refine plan_light (o := ?_) (v := ?_) ?_ ?_ ?_ ?_
                  rotate_left 2
                  · simp only [List.getElem?_toArray, List.getElem?_cons_zero, List.getElem?_cons_succ]
                    rfl
                  · go_simp
                  · intro w' hS
                    first | (refine exec_rload ?_ ?_ _ ?_ _ hS.2.1; rotate_left; (· rfl); (· rfl)) | (go_simp; try rfl) | (go_simp; try rfl)
                  simp only [Act.put, List.setIfInBounds_toArray, List.set_cons_zero, List.set_cons_succ]
                refine plan_heavy (o := ?_) ?_ (fun K' hK => ?_)
                rotate_left
                · simp only [List.getElem?_toArray, List.getElem?_cons_zero, List.getElem?_cons_succ]
                  rfl
                go_simp
                go_wp2_with (first | (go_at_call 16; refine (cf.out _ hS.1 _ _).mono ?_; rintro e w' ⟨rfl, rfl⟩) | (go_at_call 17; refine (rf.out _ _ _).mono ?_; rintro e w' ⟨rfl, hb⟩; have hS' := And.intro (hS.1.call hb) (And.intro (hS.2.1.call hb) (bel_call hb hS.2.2))) | (go_at_call 18; refine (ch.out _ hS.1 _ _).mono ?_; rintro e w' ⟨rfl, rfl⟩) | (go_at_call 19; refine (rh.out _ _ _).mono ?_; rintro e w' ⟨rfl, hb⟩; have hS' := And.intro (hS.1.call hb) (And.intro (hS.2.1.call hb) (bel_call hb hS.2.2))))
                refine hK.out _ _ ?_ (fun hS => ?_)
                · (first | exact hS' | exact hS)
                clear hK K'
                refine plan_heavy (o := ?_) ?_ (fun K' hK => ?_)
                rotate_left
                · simp only [List.getElem?_toArray, List.getElem?_cons_zero, List.getElem?_cons_succ]
                  rfl
                go_simp
                go_wp2_with (first | (go_at_call 16; refine (cf.out _ hS.1 _ _).mono ?_; rintro e w' ⟨rfl, rfl⟩) | (go_at_call 17; refine (rf.out _ _ _).mono ?_; rintro e w' ⟨rfl, hb⟩; have hS' := And.intro (hS.1.call hb) (And.intro (hS.2.1.call hb) (bel_call hb hS.2.2))) | (go_at_call 18; refine (ch.out _ hS.1 _ _).mono ?_; rintro e w' ⟨rfl, rfl⟩) | (go_at_call 19; refine (rh.out _ _ _).mono ?_; rintro e w' ⟨rfl, hb⟩; have hS' := And.intro (hS.1.call hb) (And.intro (hS.2.1.call hb) (bel_call hb hS.2.2))))
                refine hK.out _ _ ?_ (fun hS => ?_)
                · (first | exact hS' | exact hS)
                clear hK K'
                iterate 2
                  refine plan_light (o := ?_) (v := ?_) ?_ ?_ ?_ ?_
                  rotate_left 2
                  · simp only [List.getElem?_toArray, List.getElem?_cons_zero, List.getElem?_cons_succ]
                    rfl
                  · go_simp
                  · intro w' hS
                    first | (refine exec_rload ?_ ?_ _ ?_ _ hS.2.1; rotate_left; (· rfl); (· rfl)) | (go_simp; try rfl) | (go_simp; try rfl)
                  simp only [Act.put, List.setIfInBounds_toArray, List.set_cons_zero, List.set_cons_succ]
                refine plan_nil ?_
                go_wp2_with fail
                go_roundw
                case rel => exact ⟨y + 1, by omega, by omega, by go_num, hS.1, hS.2.1, hS.2.2⟩
                case measure => simp [intOf]; omega
              · have ey : decide (y < 3) = false := by simp; omega
                go_wp2_with fail
                go_roundw
                case rel => exact ⟨x + 1, by omega, by omega, by go_num, hwr, hX, hBr⟩
                case measure => simp [intOf]; omega
          · have ex : decide (x < 66) = false := by simp; omega
            go_wp2_with fail
            go_ret
            exact ⟨rfl, hBr⟩
end Go.Proofs.Ythkmjfgffofaoaa
