/-
  Contracts of session's laws: Same, Ask at nil, awake; the walk of SessionNobody.
-/
import Derived.Test.YtgjejgndmioioaaNote
namespace Go.Proofs.Ytgjejgndmioioaa
open Go.RowKit
set_option linter.unusedSimpArgs false
set_option linter.unusedVariables false
/-- six numbers from a place on. -/
def Six (w : World) (g o : Nat) (x : Nat → Int) : Prop := w.cell? ⟨g, o, none⟩ = some (.int .i64 (x 0)) ∧ w.cell? ⟨g, o + 1, none⟩ = some (.int .i64 (x 1)) ∧ w.cell? ⟨g, o + 2, none⟩ = some (.int .i64 (x 2)) ∧
  w.cell? ⟨g, o + 3, none⟩ = some (.int .i64 (x 3)) ∧ w.cell? ⟨g, o + 4, none⟩ = some (.int .i64 (x 4)) ∧ w.cell? ⟨g, o + 5, none⟩ = some (.int .i64 (x 5))
theorem FillsAt.six {w : World} {lo hi : Nat} {sa : Option Addr} {n cap : Nat} {X : Nat → Nat → Int} (h : FillsAt w lo hi sa n cap X) (hn : 0 < n) : ∃ g off, sa = some ⟨g, off, none⟩ ∧ lo ≤ g ∧ g < hi ∧ ∀ i, i < n → Six w g (off + i * 6) (X i) := by
  obtain ⟨g, off, e, h1, h2, hc⟩ := h.cells hn
  refine ⟨g, off, e, h1, h2, fun i hi => ?_⟩
  have q := hc i hi
  exact ⟨q 0 (by omega), q 1 (by omega), q 2 (by omega), q 3 (by omega), q 4 (by omega), q 5 (by omega)⟩
theorem Six.drew {w : World} {g o : Nat} {x : Nat → Int} (h : Six w g o x) : Six w.drew g o x := h
set_option maxHeartbeats 2000000 in
set_option maxRecDepth 100000 in
theorem same_true (w : World) (l1 h1 l2 h2 : Nat) (va vb : Value) (R : Rep) (ha : RepAt w l1 h1 va R) (hb : RepAt w l2 h2 vb R) :
    Calls Try.prog 12 #[va, vb] w fun e w' => e = .returned (.bool true) ∧ Below w.heap.size w w' := by
  obtain ⟨sa, ca, rfl, hA⟩ := ha
  obtain ⟨sb, cb, rfl, hD⟩ := hb
  obtain ⟨e, id, d, r, n, X⟩ := R
  dsimp only at hA hD ⊢
  have hlen : n ≤ 9223372036854775807 := by have := hA.lenCap; have := hA.capMax; unfold maxLen at this; omega
  have hB := bel_refl w
  have A := (Blk.new w #[.int .i64 e, .int .i64 id, .int .i64 d, .int .i64 r, .slice sa n ca] 29).alloc (.cells #[.int .i64 e, .int .i64 id, .int .i64 d, .int .i64 r, .slice sb n cb] 29)
  have B := Blk.new' (w := w.alloc (.cells #[.int .i64 e, .int .i64 id, .int .i64 d, .int .i64 r, .slice sa n ca] 29)) (n := w.heap.size + 1) (by simp) #[.int .i64 e, .int .i64 id, .int .i64 d, .int .i64 r, .slice sb n cb] 29
  have hA2 := (hA.alloc (.cells #[.int .i64 e, .int .i64 id, .int .i64 d, .int .i64 r, .slice sa n ca] 29)).alloc (.cells #[.int .i64 e, .int .i64 id, .int .i64 d, .int .i64 r, .slice sb n cb] 29)
  have hD2 := (hD.alloc (.cells #[.int .i64 e, .int .i64 id, .int .i64 d, .int .i64 r, .slice sa n ca] 29)).alloc (.cells #[.int .i64 e, .int .i64 id, .int .i64 d, .int .i64 r, .slice sb n cb] 29)
  have hB2 := bel_alloc (bel_alloc hB (.cells #[.int .i64 e, .int .i64 id, .int .i64 d, .int .i64 r, .slice sa n ca] 29)) (.cells #[.int .i64 e, .int .i64 id, .int .i64 d, .int .i64 r, .slice sb n cb] 29)
  clear hA hD hB
  go_enter Try.func12, Try.ntmps12
  go_upto_region 1 with fail
  obtain ⟨w1, hw1⟩ : ∃ w1, (w.alloc (.cells #[.int .i64 e, .int .i64 id, .int .i64 d, .int .i64 r, .slice sa n ca] 29)).alloc (.cells #[.int .i64 e, .int .i64 id, .int .i64 d, .int .i64 r, .slice sb n cb] 29) = w1 := ⟨_, rfl⟩
  rw [hw1] at A B hA2 hD2 hB2 ⊢
  clear hw1
  have A_c := A.cell
  have B_c := B.cell
  go_wp2_with fail
  clear A_c B_c
  go_loopw [5] (fun i wr => ∃ j : Nat, j ≤ n ∧ i = .int .i64 j ∧ Blk wr w.heap.size #[.int .i64 e, .int .i64 id, .int .i64 d, .int .i64 r, .slice sa n ca] ∧ Blk wr (w.heap.size + 1) #[.int .i64 e, .int .i64 id, .int .i64 d, .int .i64 r, .slice sb n cb] ∧ FillsAt wr l1 h1 sa n ca X ∧ FillsAt wr l2 h2 sb n cb X ∧ Below w.heap.size w wr) (fun i _ => n - (intOf i).toNat)
  case atStart => exact ⟨0, by omega, rfl, A, B, hA2, hD2, hB2⟩
  case round =>
    clear A B hA2 hD2 hB2
    obtain ⟨j, hj, rfl, A, B, hA, hD, hB⟩ := hrel
    have A_c := A.cell
    have B_c := B.cell
    by_cases hlt : j < n
    · obtain ⟨ga, oa, rfl, _, _, qa⟩ := hA.six (by omega)
      obtain ⟨gb, ob, rfl, _, _, qb⟩ := hD.six (by omega)
      have sa6 := qa j hlt
      have sb6 := qb j hlt
      have hj0 : (0 : Int) ≤ (j : Int) := by omega
      have hj1 : (j : Int) < (n : Int) := by omega
      have hd1 : decide ((j : Int) < (n : Int)) = true := by simp; omega
      have HX := Lib.hid (And.intro hA (And.intro hD hB))
      clear qa qb hA hD hB
      go_wp2_with fail
      clear A_c B_c
      refine wp_region_plan [(0, true), (1, true), (2, true), (3, true), (4, true), (5, true), (6, true), (7, true), (8, true), (9, true), (10, true)] (fun w' => Blk w' w.heap.size #[.int .i64 e, .int .i64 id, .int .i64 d, .int .i64 r, .slice (some ⟨ga, oa, none⟩) n ca] ∧ Blk w' (w.heap.size + 1) #[.int .i64 e, .int .i64 id, .int .i64 d, .int .i64 r, .slice (some ⟨gb, ob, none⟩) n cb] ∧ Six w' ga (oa + j * 6) (X j) ∧ Six w' gb (ob + j * 6) (X j)) (by kernel_rfl) (by kernel_rfl) (fun _ _ _ _ h => h) ?_ (fun hS => ?_)
      · exact ⟨A.drew, B.drew, sa6.drew, sb6.drew⟩
      iterate 11
        refine plan_light (o := ?_) (v := ?_) ?_ ?_ ?_ ?_
        rotate_left 2
        · simp only [List.getElem?_toArray, List.getElem?_cons_zero, List.getElem?_cons_succ]
          rfl
        · go_simp
        · intro w' hS
          (have sa1 := hS.1.cell; have sa2 := hS.2.1.cell; obtain ⟨x0, x1, x2, x3, x4, x5⟩ := hS.2.2.1; obtain ⟨y0, y1, y2, y3, y4, y5⟩ := hS.2.2.2)
          go_simp
          try rfl
        simp only [Act.put, List.setIfInBounds_toArray, List.set_cons_zero, List.set_cons_succ]
      refine plan_nil ?_
      go_wp2_with fail
      go_roundw
      case rel => exact ⟨j + 1, by omega, by go_num, A.drew, B.drew, HX.out.1.drew, HX.out.2.1.drew, bel_drew HX.out.2.2⟩
      case measure => simp [intOf]; omega
    · have hd1 : decide ((j : Int) < (n : Int)) = false := by simp; omega
      go_wp2_with fail
      go_ret
      exact ⟨rfl, hB⟩
set_option maxHeartbeats 1000000 in
theorem ask_nil (w : World) (c seq : Int) : Calls Try.prog 10 #[.pointer none, .int .i64 c, .int .i64 seq] w fun e w' => e = .returned (.tuple #[.agg #[.int .i64 0, .int .i64 0, .int .i64 0, .int .i64 0, .slice none 0 0], .int .i64 1]) ∧ Below w.heap.size w w' := by
  have R := Blk.new w #[.int .i64 0, .int .i64 0, .int .i64 0, .int .i64 0, .slice none 0 0] 29
  have hB1 := bel_alloc (bel_refl w) (.cells #[.int .i64 0, .int .i64 0, .int .i64 0, .int .i64 0, .slice none 0 0] 29)
  go_enter Try.func10, Try.ntmps10
  go_upto_region 1 with fail
  obtain ⟨w1, hw1⟩ : ∃ w1, w.alloc (.cells #[.int .i64 0, .int .i64 0, .int .i64 0, .int .i64 0, .slice none 0 0] 29) = w1 := ⟨_, rfl⟩
  rw [hw1] at R hB1 ⊢
  clear hw1
  go_wp2_with fail
  refine (may_nil _ c seq).mono ?_
  rintro e' w1' ⟨rfl, rfl⟩
  have R_c := R.cell
  have R_f := R.free
  go_wp2_with fail
  have D := R.put5 (.int .i64 0) (.int .i64 0) (.int .i64 0) (.int .i64 0) (.slice none 0 0)
  have g := gr_put5 w1 w.heap.size (.int .i64 0) (.int .i64 0) (.int .i64 0) (.int .i64 0) (.slice none 0 0)
  have hB3 := bel_grown g hB1 (fun j hj => by cases hj; exact Nat.le_refl _)
  exact bodyPost_ret (results_cell_and_tmp Try.results10 _ _ _ _ rfl (blk_load D 29 _ Try.underlying29 rfl rfl)) rfl ⟨rfl, hB3⟩
/-- one fill, just made. -/
def X2 : Nat → Nat → Int := fun _ j => if j = 3 then 2 else 0
theorem fills_one (w : World) : FillsAt (w.alloc (.cells #[.int .i64 0, .int .i64 0, .int .i64 0, .int .i64 2, .int .i64 0, .int .i64 0] 46)) w.heap.size (w.heap.size + 1) (some ⟨w.heap.size, 0, none⟩) 1 1 X2 := by
  have A := Blk.new w #[.int .i64 0, .int .i64 0, .int .i64 0, .int .i64 2, .int .i64 0, .int .i64 0] 46
  refine ⟨by simp, Nat.le_refl _, by decide, fun _ => ⟨_, 0, rfl, Nat.le_refl _, Nat.lt_succ_self _, fun i hi j hj => ?_⟩, by decide, fun e => by cases e⟩
  obtain rfl : i = 0 := by omega
  rw [show 0 + (0 * 6 + j) = j by omega, A.cell]
  match j, hj with
  | 0, _ => rfl
  | 1, _ => rfl
  | 2, _ => rfl
  | 3, _ => rfl
  | 4, _ => rfl
  | 5, _ => rfl
def R1 : Rep := ⟨0, 9, 0, 0, 1, X2⟩
theorem aw_facts : Hid (noteE (E0 1) 1 3 = 0 ∧ noteN E0 1 3 R1 1 = (3, R1) ∧ askE (3, R1) 1 3 = 7 ∧ askR (3, R1) 1 3 = R1 ∧ askE (3, R1) 1 2 = 11 ∧ askE (3, R1) 1 4 = 0 ∧ askR (3, R1) 1 2 = Rep.zero ∧ askR (3, R1) 1 4 = Rep.zero) := by
  have h1 : noteE (E0 1) 1 3 = 0 := by decide
  refine Lib.hid ⟨h1, ?_, by decide, ?_, by decide, by decide, ?_, ?_⟩
  · unfold noteN
    rw [if_pos ⟨rfl, h1⟩]
  · unfold askR
    rw [if_pos (by decide)]
  · unfold askR
    rw [if_neg (by decide)]
  · unfold askR
    rw [if_neg (by decide)]
set_option maxHeartbeats 2000000 in
set_option maxRecDepth 100000 in
theorem awake_any (w : World) : Calls Try.prog 8 #[] w fun e w' => e = .returned (.bool true) ∧ Below w.heap.size w w' := by
  have hB := bel_refl w
  go_enter Try.func8, Try.ntmps8
  go_wp2_with fail
  refine (new_any _).mono ?_
  rintro e w1 ⟨⟨tb, mb, rfl, t1, t2, hT⟩, hb⟩
  replace hB := bel_call hb hB
  have hT1 := hT.alloc (.cells #[.int .i64 0, .int .i64 0, .int .i64 0, .int .i64 2, .int .i64 0, .int .i64 0] 46)
  have hF1 := fills_one w1
  replace hB := bel_alloc hB (.cells #[.int .i64 0, .int .i64 0, .int .i64 0, .int .i64 2, .int .i64 0, .int .i64 0] 46)
  clear hb hT
  go_wp2_with fail
  refine (note_any _ tb mb 0 _ _ E0 hT1 (by decide) 1 3 rfl _ _ _ R1 ⟨_, _, rfl, hF1⟩).mono ?_
  rintro e w2 ⟨rfl, ⟨cnt', hc', hT2⟩, hg⟩
  rw [aw_facts.out.1]
  replace hB := bel_grown hg hB (fun j hj => by cases hj; exact t2)
  obtain ⟨E1, hE1⟩ : ∃ E1, noteN E0 1 3 R1 = E1 := ⟨_, rfl⟩
  have hE : E1 1 = (3, R1) := by rw [← hE1]; exact aw_facts.out.2.1
  rw [hE1] at hT2
  have HE := Lib.hid hE
  clear hg hT1 hF1 hE1 hE
  go_wp2_with fail
  refine (ask_any _ tb mb cnt' _ _ E1 hT2 1 3 rfl).mono ?_
  rw [HE.out, aw_facts.out.2.2.1, aw_facts.out.2.2.2.1]
  rintro e w3 ⟨⟨v, rfl, sa, cap, rfl, hO⟩, hb⟩
  replace hB := bel_call hb hB
  replace hT2 := hT2.call hb
  have A := Blk.new w3 #[.int .i64 0, .int .i64 9, .int .i64 0, .int .i64 0, .slice sa 1 cap] 29
  replace hT2 := hT2.alloc (.cells #[.int .i64 0, .int .i64 9, .int .i64 0, .int .i64 0, .slice sa 1 cap] 29)
  replace hB := bel_alloc hB (.cells #[.int .i64 0, .int .i64 9, .int .i64 0, .int .i64 0, .slice sa 1 cap] 29)
  clear hb hO
  unfold R1
  go_upto_region 6 with fail
  obtain ⟨w4, hw4⟩ : ∃ w4, w3.alloc (.cells #[.int .i64 0, .int .i64 9, .int .i64 0, .int .i64 0, .slice sa 1 cap] 29) = w4 := ⟨_, rfl⟩
  rw [hw4] at A hT2 hB ⊢
  clear hw4
  go_wp2_with fail
  refine (ask_any _ tb mb cnt' _ _ E1 hT2 1 2 rfl).mono ?_
  rw [HE.out, aw_facts.out.2.2.2.2.1, aw_facts.out.2.2.2.2.2.2.1]
  rintro e w5 ⟨⟨v, rfl, sb, cb, rfl, hO⟩, hb⟩
  replace hB := bel_call hb hB
  replace hT2 := hT2.call hb
  replace A := A.call hb
  clear hb hO
  unfold Rep.zero
  replace A := A.alloc (.cells #[.int .i64 0, .int .i64 0, .int .i64 0, .int .i64 0, .slice sb 0 cb] 29)
  replace hT2 := hT2.alloc (.cells #[.int .i64 0, .int .i64 0, .int .i64 0, .int .i64 0, .slice sb 0 cb] 29)
  replace hB := bel_alloc hB (.cells #[.int .i64 0, .int .i64 0, .int .i64 0, .int .i64 0, .slice sb 0 cb] 29)
  go_upto_region 7 with fail
  obtain ⟨w6, hw6⟩ : ∃ w6, w5.alloc (.cells #[.int .i64 0, .int .i64 0, .int .i64 0, .int .i64 0, .slice sb 0 cb] 29) = w6 := ⟨_, rfl⟩
  rw [hw6] at A hT2 hB ⊢
  clear hw6
  go_wp2_with fail
  refine (ask_any _ tb mb cnt' _ _ E1 hT2 1 4 rfl).mono ?_
  rw [HE.out, aw_facts.out.2.2.2.2.2.1, aw_facts.out.2.2.2.2.2.2.2]
  rintro e w7 ⟨⟨v, rfl, sd, cd, rfl, hO⟩, hb⟩
  replace hB := bel_call hb hB
  replace A := A.call hb
  clear hb hO hT2
  unfold Rep.zero
  replace A := A.alloc (.cells #[.int .i64 0, .int .i64 0, .int .i64 0, .int .i64 0, .slice sd 0 cd] 29)
  replace hB := bel_alloc hB (.cells #[.int .i64 0, .int .i64 0, .int .i64 0, .int .i64 0, .slice sd 0 cd] 29)
  have A_c := A.cell
  go_wp2_with fail
  go_ret
  exact ⟨rfl, hB⟩
/-- the walk of SessionNobody. -/
theorem nobody_walk (k c seq e id d r : Int) (sl : Value) (w : World) : Calls Try.prog 7 #[.agg #[.int .i64 k, .int .i64 c, .int .i64 seq, .int .i64 e, .int .i64 id, .int .i64 d, .int .i64 r, sl]] w fun e w' => e = .returned (.bool true) ∧ Below w.heap.size w w' := by
  have hB := bel_refl w
  have A := Blk.new w #[.int .i64 k, .int .i64 c, .int .i64 seq, .int .i64 e, .int .i64 id, .int .i64 d, .int .i64 r, sl] 31
  go_enter Try.func7, Try.ntmps7
  go_wp2_with fail
  refine (awake_any _).mono ?_
  rintro e' w1 ⟨rfl, hb⟩
  replace A := A.call hb
  replace hB := bel_call hb (bel_alloc hB _)
  have A_c := A.cell
  clear hb
  go_wp2_with fail
  refine (ask_nil _ _ _).mono ?_
  rintro e' w2 ⟨rfl, hb⟩
  clear A_c
  replace A := (A.call hb).alloc (.cells #[.int .i64 0, .int .i64 0, .int .i64 0, .int .i64 0, .slice none 0 0] 29)
  replace hB := bel_alloc (bel_call hb hB) (.cells #[.int .i64 0, .int .i64 0, .int .i64 0, .int .i64 0, .slice none 0 0] 29)
  have A_c := A.cell
  clear hb
  go_wp2_with fail
  refine (note_nil _ _ _ _).mono ?_
  rintro e' w3 ⟨rfl, hb⟩
  clear A_c
  replace A := A.call hb
  replace hB := bel_call hb hB
  have A_c := A.cell
  clear hb
  go_wp2_with fail
  refine (last_nil _ _).mono ?_
  rintro e' w4 ⟨rfl, rfl⟩
  go_wp2_with fail
  go_ret
  exact ⟨rfl, hB⟩
theorem nobody_frame (k c seq e id d r : Int) (sa : Option Addr) (len cap : Nat) (D : Nat → Nat → Int) (w : World) : Calls Try.prog 7 #[.agg #[.int .i64 k, .int .i64 c, .int .i64 seq, .int .i64 e, .int .i64 id, .int .i64 d, .int .i64 r, .slice sa len cap]] w fun e w' => e = .returned (.bool true) ∧ Below w.heap.size w w' := nobody_walk k c seq e id d r _ w
end Go.Proofs.Ytgjejgndmioioaa
