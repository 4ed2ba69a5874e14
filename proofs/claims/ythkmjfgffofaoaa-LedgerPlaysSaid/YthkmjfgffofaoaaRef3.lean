/-
  Contracts of the document's ledger: Add.
-/
import Derived.Test.YthkmjfgffofaoaaRef2
namespace Go.Proofs.Ythkmjfgffofaoaa
open Go.RowKit
set_option linter.unusedSimpArgs false
set_option linter.unusedVariables false
theorem okM_iff (acc asset n : Int) : okM acc asset n = true ↔ okD acc asset n := by
  unfold okM okD okA
  simp only [decide_eq_true_eq]
  omega
set_option maxRecDepth 100000 in
set_option maxHeartbeats 4000000 in
theorem radd_any (w : World) (F : Nat → Int) (hI : Inv F) (acc asset n : Int) :
    Calls Try.prog 28 #[.agg (rcs (gF F)), .int .i64 acc, .int .i64 asset, .int .i64 n] w fun e w' => e = .returned (.tuple #[.agg (rcs (gF (addN F acc asset n))), .int .i64 (addE F acc asset n)]) ∧ Below w.heap.size w w' := by
  have hB := bel_refl w
  have hN := Blk.new w (rcs (gF F)) 33
  by_cases h : okM acc asset n = true
  · have hD := (okM_iff _ _ _).1 h
    obtain ⟨a, s, rfl, rfl, ha, hs, hx⟩ := okM_nat h
    have hn := okM_n h
    have h1 : (0 : Int) ≤ (a : Int) := by omega
    have h2 : (a : Int) < 65 := by omega
    have h3 : (0 : Int) ≤ (s : Int) := by omega
    have h4 : (s : Int) < 2 := by omega
    have k1 : a * 2 + s < 260 := by omega
    have b1 := hI.nn (260 + s) (by omega)
    have b2 := hI.lim s hs
    have b3 := hI.bd (a * 4 + s * 2) (by omega)
    have w5 : IntKind.i64.wrap (F (260 + s) + n) = F (260 + s) + n := IntWalk.i64_in _ (by omega)
    have et : tx (s : Int) = 260 + s := by unfold tx; simp
    have ei : ix (a : Int) (s : Int) = a * 4 + s * 2 := by unfold ix; simp
    by_cases hl : 1152921504606846976 - F (tx s) < n
    · rw [show addE F a s n = 8 by unfold addE; rw [if_pos hD, if_pos hl], show addN F a s n = F by unfold addN; rw [if_neg (fun hh => hh.2 hl)]]
      rw [et] at hl
      have e0 : decide (1152921504606846976 < F (260 + s) + n) = true := by simp; omega
      clear hl hx b1 b2 b3 et ei hD
      have z33 := rzero
      go_enter Try.func28, Try.ntmps28
      go_wp2_with fail
      refine (may_ref _ _ _ _).mono ?_
      rintro e w1 ⟨rfl, rfl⟩
      rw [h]
      have X := hN.alloc (.cells (rcs fun _ => 0) 33)
      have R := Blk.new (w.alloc (.cells (rcs (gF F)) 33)) (rcs fun _ => 0) 33
      rw [show (w.alloc (.cells (rcs (gF F)) 33)).heap.size = w.heap.size + 1 by simp] at R
      have hB2 := bel_alloc (bel_alloc hB (.cells (rcs (gF F)) 33)) (.cells (rcs fun _ => 0) 33)
      obtain ⟨w2, hw2⟩ : ∃ w2, (w.alloc (.cells (rcs (gF F)) 33)).alloc (.cells (rcs fun _ => 0) 33) = w2 := ⟨_, rfl⟩
      rw [hw2] at X R hB2 ⊢
      clear hw2 hN z33
      go_wp2_with (first | (go_at_call 15; refine (rtotal_in _ F hI s hs).mono ?_; rintro e w3 ⟨rfl, hb3⟩; have X3 := X.call hb3; have R3 := R.call hb3) | (refine wpList_rload rfl _ rfl _ rfl _ X ?_) | (refine wpList_rload rfl _ rfl _ rfl _ X3 ?_) | (refine wpList_rstore rfl _ _ rfl _ _ rfl rfl _ R3 ?_; intro w9 hR9 hg9))
      have l3 := rload _ _ _ hR9
      exact bodyPost_ret (results_cell_tmp Try.results28 _ _ _ _ _ rfl l3) rfl ⟨rfl, bel_grown hg9 (bel_call hb3 hB2) (fun j hj => by cases hj; omega)⟩
    · rw [(addN_ok hD hl).1, (addN_ok hD hl).2, et, ei, gF_set_tot _ _ _ (by omega), gF_set_free _ a s _ ha hs]
      rw [et] at hl
      have e0 : decide (1152921504606846976 < F (260 + s) + n) = false := by simp; omega
      have w6 : IntKind.i64.wrap (F (a * 4 + s * 2) + n) = F (a * 4 + s * 2) + n := IntWalk.i64_in _ (by omega)
      obtain ⟨p, hp⟩ : ∃ p, F (a * 4 + s * 2) = p := ⟨_, rfl⟩
      rw [hp] at w6 ⊢
      have HP := Lib.hid hp
      clear hp
      clear hl hx b1 b2 b3 et ei hD
      have z33 := rzero
      go_enter Try.func28, Try.ntmps28
      go_wp2_with fail
      refine (may_ref _ _ _ _).mono ?_
      rintro e w1 ⟨rfl, rfl⟩
      rw [h]
      have X := hN.alloc (.cells (rcs fun _ => 0) 33)
      have R := Blk.new (w.alloc (.cells (rcs (gF F)) 33)) (rcs fun _ => 0) 33
      rw [show (w.alloc (.cells (rcs (gF F)) 33)).heap.size = w.heap.size + 1 by simp] at R
      have hB2 := bel_alloc (bel_alloc hB (.cells (rcs (gF F)) 33)) (.cells (rcs fun _ => 0) 33)
      obtain ⟨w2, hw2⟩ : ∃ w2, (w.alloc (.cells (rcs (gF F)) 33)).alloc (.cells (rcs fun _ => 0) 33) = w2 := ⟨_, rfl⟩
      rw [hw2] at X R hB2 ⊢
      clear hw2 hN z33
      go_upto_region 5 with (first | (go_at_call 15; refine (rtotal_in _ F hI s hs).mono ?_; rintro e w3 ⟨rfl, hb3⟩) | (refine wpList_rload rfl _ rfl _ rfl _ X ?_))
      replace X := X.call hb3
      replace R := R.call hb3
      replace hB2 := bel_call hb3 hB2
      clear hb3
      have X_c := (X.cell (a * 2 + s)).trans (rcs_get _ _ k1)
      rw [gF_free F a s ha hs, HP.out] at X_c
      have X_f := X.free (a * 2 + s)
      refine wp_region_plan [(0, true), (1, true), (2, true), (3, true), (4, true), (5, true), (6, true), (7, true), (8, true), (9, true), (10, true), (11, true), (12, true), (13, false)] (fun w' => w'.cell? ⟨w.heap.size, a * 2 + s, none⟩ = some (.int .i64 p) ∧ w'.frozen? ⟨w.heap.size, a * 2 + s, none⟩ = false) (by kernel_rfl) (by kernel_rfl) (fun _ _ _ _ h => h) ?_ (fun hS => ?_)
      · go_simp
      iterate 13
        refine plan_light (o := ?_) (v := ?_) ?_ ?_ ?_ ?_
        rotate_left 2
        · simp only [List.getElem?_toArray, List.getElem?_cons_zero, List.getElem?_cons_succ]
          rfl
        · go_simp
        · intro w' hS
          go_simp
          try rfl
        simp only [Act.put, List.setIfInBounds_toArray, List.set_cons_zero, List.set_cons_succ]
      refine plan_sink (o := ?_) ?_ (by kernel_rfl) (fun K' hK => ?_)
      rotate_left
      · simp only [List.getElem?_toArray, List.getElem?_cons_zero, List.getElem?_cons_succ]
        rfl
      go_simp
      refine hK.out _ _ ?_
      clear hK K'
      refine plan_nil ?_
      have X5 := (rcs_set X (a * 2 + s) k1 (p + n)).drew
      have R5 := (R.set_other ⟨w.heap.size, a * 2 + s, none⟩ (.int .i64 (p + n)) (by show w.heap.size ≠ w.heap.size + 1; omega)).drew
      have hB5 := bel_drew (bel_set (a := ⟨w.heap.size, a * 2 + s, none⟩) hB2 (Nat.le_refl _) (.int .i64 (p + n)))
      obtain ⟨w5', hw5⟩ : ∃ w5', (w3.setCell ⟨w.heap.size, a * 2 + s, none⟩ (.int .i64 (p + n))).drew = w5' := ⟨_, rfl⟩
      rw [hw5] at X5 R5 hB5 ⊢
      clear hw5 hS
      go_wp2_with (first | (refine wpList_rload rfl _ rfl _ rfl _ X5 ?_) | (refine wpList_rstore rfl _ _ rfl _ _ rfl rfl _ R5 ?_; intro w9 hR9 hg9))
      have l3 := rload _ _ _ hR9
      exact bodyPost_ret (results_cell_tmp Try.results28 _ _ _ _ _ rfl l3) rfl ⟨rfl, bel_grown hg9 hB5 (fun j hj => by cases hj; omega)⟩
  · have h' : okM acc asset n = false := by simpa using h
    have hD : ¬ okD acc asset n := fun hh => h ((okM_iff _ _ _).2 hh)
    rw [show addE F acc asset n = 1 by unfold addE; rw [if_neg hD], show addN F acc asset n = F by unfold addN; rw [if_neg (fun hh => hD hh.1)]]
    have z33 := rzero
    go_enter Try.func28, Try.ntmps28
    go_wp2_with fail
    refine (may_ref _ _ _ _).mono ?_
    rintro e w1 ⟨rfl, rfl⟩
    rw [h']
    have X := hN.alloc (.cells (rcs fun _ => 0) 33)
    have R := Blk.new (w.alloc (.cells (rcs (gF F)) 33)) (rcs fun _ => 0) 33
    rw [show (w.alloc (.cells (rcs (gF F)) 33)).heap.size = w.heap.size + 1 by simp] at R
    have hB2 := bel_alloc (bel_alloc hB (.cells (rcs (gF F)) 33)) (.cells (rcs fun _ => 0) 33)
    obtain ⟨w2, hw2⟩ : ∃ w2, (w.alloc (.cells (rcs (gF F)) 33)).alloc (.cells (rcs fun _ => 0) 33) = w2 := ⟨_, rfl⟩
    rw [hw2] at X R hB2 ⊢
    clear hw2 hN z33
    go_upto_region 2 with fail
    go_wp2_with (first | (refine wpList_rload rfl _ rfl _ rfl _ X ?_) | (refine wpList_rstore rfl _ _ rfl _ _ rfl rfl _ R ?_; intro w9 hR9 hg9))
    have l3 := rload _ _ _ hR9
    exact bodyPost_ret (results_cell_tmp Try.results28 _ _ _ _ _ rfl l3) rfl ⟨rfl, bel_grown hg9 hB2 (fun j hj => by cases hj; omega)⟩
end Go.Proofs.Ythkmjfgffofaoaa
