/-
  Contracts of the document's ledger: Pay, Spend.
-/
import Derived.Test.YthkmjfgffofaoaaRef3
namespace Go.Proofs.Ythkmjfgffofaoaa
open Go.RowKit
set_option linter.unusedSimpArgs false
set_option linter.unusedVariables false
set_option maxRecDepth 100000 in
set_option maxHeartbeats 4000000 in
theorem rpay_any (w : World) (F : Nat → Int) (hI : Inv F) (acc dst asset n : Int) :
    Calls Try.prog 32 #[.agg (rcs (gF F)), .int .i64 acc, .int .i64 dst, .int .i64 asset, .int .i64 n] w fun e w' => e = .returned (.tuple #[.agg (rcs (gF (moveN F (okT acc dst asset n) (ix acc asset) (ix dst asset) n))), .int .i64 (moveE F (okT acc dst asset n) (ix acc asset) n)]) ∧ Below w.heap.size w w' := by
  have hB := bel_refl w
  have hN := Blk.new w (rcs (gF F)) 33
  by_cases h : okM acc asset n = true
  · by_cases h' : okM dst asset n = true
    · have hD : okT acc dst asset n := ⟨((okM_iff _ _ _).1 h).1, ((okM_iff _ _ _).1 h').1, okM_n h⟩
      obtain ⟨a, s, rfl, rfl, ha, hs, hx⟩ := okM_nat h
      obtain ⟨a', s', rfl, hss, ha', hs', hx'⟩ := okM_nat h'
      obtain rfl : s = s' := by omega
      have hn := okM_n h
      have h1 : (0 : Int) ≤ (a : Int) := by omega
      have h2 : (a : Int) < 65 := by omega
      have h3 : (0 : Int) ≤ (s : Int) := by omega
      have h4 : (s : Int) < 2 := by omega
      have h5 : (0 : Int) ≤ (a' : Int) := by omega
      have h6 : (a' : Int) < 65 := by omega
      have k1 : a * 2 + s < 260 := by omega
      have k2 : a' * 2 + s < 260 := by omega
      have ei : ix (a : Int) (s : Int) = a * 4 + s * 2 := by unfold ix; simp
      have ej : ix (a' : Int) (s : Int) = a' * 4 + s * 2 := by unfold ix; simp
      have b1 := hI.bd (a * 4 + s * 2) (by omega)
      have b2 := hI.bd (a' * 4 + s * 2) (by omega)
      by_cases hl : F (ix a s) < n
      · rw [show moveE F (okT a a' s n) (ix a s) n = 9 by unfold moveE; rw [if_pos hD, if_pos hl], show moveN F (okT a a' s n) (ix a s) (ix a' s) n = F by unfold moveN; rw [if_neg (fun hh => hh.2 hl)]]
        rw [ei] at hl
        have e0 : decide (F (a * 4 + s * 2) < n) = true := decide_eq_true hl
        clear hl hx hx' b1 b2 ei ej hD hss
        have z33 := rzero
        go_enter Try.func32, Try.ntmps32
        go_wp2_with fail
        refine (may_ref _ _ _ _).mono ?_
        rintro e w1 ⟨rfl, rfl⟩
        rw [h]
        go_wp2_with fail
        refine (may_ref _ _ _ _).mono ?_
        rintro e w1 ⟨rfl, rfl⟩
        rw [h']
        have X := hN.alloc (.cells (rcs fun _ => 0) 33)
        have R := Blk.new (w.alloc (.cells (rcs (gF F)) 33)) (rcs fun _ => 0) 33
        rw [show (w.alloc (.cells (rcs (gF F)) 33)).heap.size = w.heap.size + 1 by simp] at R
        have hB2 := bel_alloc (bel_alloc hB (.cells (rcs (gF F)) 33)) (.cells (rcs fun _ => 0) 33)
        obtain ⟨w2, hw2⟩ : ∃ w2, (w.alloc (.cells (rcs (gF F)) 33)).alloc (.cells (rcs fun _ => 0) 33) = w2 := ⟨_, rfl⟩
        rw [hw2] at X R hB2 ⊢
        clear hw2 hN z33
        have X_c := (X.cell (a * 2 + s)).trans (rcs_get _ _ k1)
        rw [gF_free F a s ha hs] at X_c
        go_upto_region 4 with fail
        go_wp2_with (first | (refine wpList_rload rfl _ rfl _ rfl _ X ?_) | (refine wpList_rstore rfl _ _ rfl _ _ rfl rfl _ R ?_; intro w9 hR9 hg9))
        have l3 := rload _ _ _ hR9
        exact bodyPost_ret (results_cell_tmp Try.results32 _ _ _ _ _ rfl l3) rfl ⟨rfl, bel_grown hg9 hB2 (fun j hj => by cases hj; omega)⟩
      · rw [(move_ok (y := ix a' s) hD hl).1, (move_ok (y := ix a' s) hD hl).2, ei, ej, gF_set_free _ a' s _ ha' hs]
        rw [ei] at hl
        have e0 : decide (F (a * 4 + s * 2) < n) = false := decide_eq_false hl
        obtain ⟨p, hp⟩ : ∃ p, F (a * 4 + s * 2) = p := ⟨_, rfl⟩
        obtain ⟨F1, hF1⟩ : ∃ F1, upd F (a * 4 + s * 2) (p - n) = F1 := ⟨_, rfl⟩
        obtain ⟨q, hq⟩ : ∃ q, F1 (a' * 4 + s * 2) = q := ⟨_, rfl⟩
        have bq : 0 ≤ q ∧ q ≤ 1152921504606846976 := by
          rw [← hq, ← hF1]
          unfold upd
          split <;> omega
        rw [hp] at e0 hl b1 ⊢
        rw [hF1, hq]
        have w6 : IntKind.i64.wrap (p - n) = p - n := IntWalk.i64_in _ (by omega)
        have w7 : IntKind.i64.wrap (q + n) = q + n := IntWalk.i64_in _ (by omega)
        have HP := Lib.hid hp
        have HF := Lib.hid hF1
        have HQ := Lib.hid hq
        clear hl hx hx' b1 b2 bq ei ej hD hss hp hF1 hq
        have z33 := rzero
        go_enter Try.func32, Try.ntmps32
        go_wp2_with fail
        refine (may_ref _ _ _ _).mono ?_
        rintro e w1 ⟨rfl, rfl⟩
        rw [h]
        go_wp2_with fail
        refine (may_ref _ _ _ _).mono ?_
        rintro e w1 ⟨rfl, rfl⟩
        rw [h']
        have X := hN.alloc (.cells (rcs fun _ => 0) 33)
        have R := Blk.new (w.alloc (.cells (rcs (gF F)) 33)) (rcs fun _ => 0) 33
        rw [show (w.alloc (.cells (rcs (gF F)) 33)).heap.size = w.heap.size + 1 by simp] at R
        have hB2 := bel_alloc (bel_alloc hB (.cells (rcs (gF F)) 33)) (.cells (rcs fun _ => 0) 33)
        obtain ⟨w2, hw2⟩ : ∃ w2, (w.alloc (.cells (rcs (gF F)) 33)).alloc (.cells (rcs fun _ => 0) 33) = w2 := ⟨_, rfl⟩
        rw [hw2] at X R hB2 ⊢
        clear hw2 hN z33
        have X_c := (X.cell (a * 2 + s)).trans (rcs_get _ _ k1)
        rw [gF_free F a s ha hs, HP.out] at X_c
        have X_f := X.free (a * 2 + s)
        go_upto_region 5 with fail
        refine wp_region_plan [(0, true), (1, true), (2, true), (3, true), (4, true), (5, true), (6, true), (7, true), (8, true), (9, true), (10, true), (11, true), (12, true), (13, false)] (fun w' => w'.cell? ⟨w.heap.size, a * 2 + s, none⟩ = some (.int .i64 p) ∧ w'.frozen? ⟨w.heap.size, a * 2 + s, none⟩ = false) (by kernel_rfl) (by kernel_rfl) (fun _ _ _ _ h => h) ?_ (fun hS => ?_)
        · go_simp
        iterate 13
          refine plan_light (o := ?_) (v := ?_) ?_ ?_ ?_ ?_
          rotate_left 2
          · simp only [List.getElem?_toArray, List.getElem?_cons_zero, List.getElem?_cons_succ]
            rfl
          · go_simp
          · intro w' hS
            go_simp
            try rfl
          simp only [Act.put, List.setIfInBounds_toArray, List.set_cons_zero, List.set_cons_succ]
        refine plan_sink (o := ?_) ?_ (by kernel_rfl) (fun K' hK => ?_)
        rotate_left
        · simp only [List.getElem?_toArray, List.getElem?_cons_zero, List.getElem?_cons_succ]
          rfl
        go_simp
        refine hK.out _ _ ?_
        clear hK K'
        refine plan_nil ?_
        have X5 : Blk _ w.heap.size (rcs (gF F1)) := ((rcs_set X (a * 2 + s) k1 (p - n)).drew).cast (by rw [← HF.out, gF_set_free F a s _ ha hs])
        have R5 := (R.set_other ⟨w.heap.size, a * 2 + s, none⟩ (.int .i64 (p - n)) (by show w.heap.size ≠ w.heap.size + 1; omega)).drew
        have hB5 := bel_drew (bel_set (a := ⟨w.heap.size, a * 2 + s, none⟩) hB2 (Nat.le_refl _) (.int .i64 (p - n)))
        obtain ⟨w5', hw5⟩ : ∃ w5', (w2.setCell ⟨w.heap.size, a * 2 + s, none⟩ (.int .i64 (p - n))).drew = w5' := ⟨_, rfl⟩
        rw [hw5] at X5 R5 hB5 ⊢
        clear hw5 hS X_c X_f
        have Y_c := (X5.cell (a' * 2 + s)).trans (rcs_get _ _ k2)
        rw [gF_free F1 a' s ha' hs, HQ.out] at Y_c
        have Y_f := X5.free (a' * 2 + s)
        go_upto_region 6 with fail
        refine wp_region_plan [(0, true), (1, true), (2, true), (3, true), (4, true), (5, true), (6, true), (7, true), (8, true), (9, true), (10, true), (11, true), (12, true), (13, false)] (fun w' => w'.cell? ⟨w.heap.size, a' * 2 + s, none⟩ = some (.int .i64 q) ∧ w'.frozen? ⟨w.heap.size, a' * 2 + s, none⟩ = false) (by kernel_rfl) (by kernel_rfl) (fun _ _ _ _ h => h) ?_ (fun hS => ?_)
        · go_simp
        iterate 13
          refine plan_light (o := ?_) (v := ?_) ?_ ?_ ?_ ?_
          rotate_left 2
          · simp only [List.getElem?_toArray, List.getElem?_cons_zero, List.getElem?_cons_succ]
            rfl
          · go_simp
          · intro w' hS
            go_simp
            try rfl
          simp only [Act.put, List.setIfInBounds_toArray, List.set_cons_zero, List.set_cons_succ]
        refine plan_sink (o := ?_) ?_ (by kernel_rfl) (fun K' hK => ?_)
        rotate_left
        · simp only [List.getElem?_toArray, List.getElem?_cons_zero, List.getElem?_cons_succ]
          rfl
        go_simp
        refine hK.out _ _ ?_
        clear hK K'
        refine plan_nil ?_
        have X6 := (rcs_set X5 (a' * 2 + s) k2 (q + n)).drew
        have R6 := (R5.set_other ⟨w.heap.size, a' * 2 + s, none⟩ (.int .i64 (q + n)) (by show w.heap.size ≠ w.heap.size + 1; omega)).drew
        have hB6 := bel_drew (bel_set (a := ⟨w.heap.size, a' * 2 + s, none⟩) hB5 (Nat.le_refl _) (.int .i64 (q + n)))
        obtain ⟨w6', hw6⟩ : ∃ w6', (w5'.setCell ⟨w.heap.size, a' * 2 + s, none⟩ (.int .i64 (q + n))).drew = w6' := ⟨_, rfl⟩
        rw [hw6] at X6 R6 hB6 ⊢
        clear hw6 hS X5 R5 hB5
        go_wp2_with (first | (refine wpList_rload rfl _ rfl _ rfl _ X6 ?_) | (refine wpList_rstore rfl _ _ rfl _ _ rfl rfl _ R6 ?_; intro w9 hR9 hg9))
        have l3 := rload _ _ _ hR9
        exact bodyPost_ret (results_cell_tmp Try.results32 _ _ _ _ _ rfl l3) rfl ⟨rfl, bel_grown hg9 hB6 (fun j hj => by cases hj; omega)⟩
    · have hb : okM dst asset n = false := by simpa using h'
      have hD : ¬ okT acc dst asset n := fun hh => h' ((okM_iff _ _ _).2 ⟨hh.2.1, hh.2.2⟩)
      rw [show moveE F (okT acc dst asset n) (ix acc asset) n = 1 by unfold moveE; rw [if_neg hD], show moveN F (okT acc dst asset n) (ix acc asset) (ix dst asset) n = F by unfold moveN; rw [if_neg (fun hh => hD hh.1)]]
      have z33 := rzero
      go_enter Try.func32, Try.ntmps32
      go_wp2_with fail
      refine (may_ref _ _ _ _).mono ?_
      rintro e w1 ⟨rfl, rfl⟩
      rw [h]
      go_wp2_with fail
      refine (may_ref _ _ _ _).mono ?_
      rintro e w1 ⟨rfl, rfl⟩
      rw [hb]
      have X := hN.alloc (.cells (rcs fun _ => 0) 33)
      have R := Blk.new (w.alloc (.cells (rcs (gF F)) 33)) (rcs fun _ => 0) 33
      rw [show (w.alloc (.cells (rcs (gF F)) 33)).heap.size = w.heap.size + 1 by simp] at R
      have hB2 := bel_alloc (bel_alloc hB (.cells (rcs (gF F)) 33)) (.cells (rcs fun _ => 0) 33)
      obtain ⟨w2, hw2⟩ : ∃ w2, (w.alloc (.cells (rcs (gF F)) 33)).alloc (.cells (rcs fun _ => 0) 33) = w2 := ⟨_, rfl⟩
      rw [hw2] at X R hB2 ⊢
      clear hw2 hN z33
      go_upto_region 2 with fail
      go_wp2_with (first | (refine wpList_rload rfl _ rfl _ rfl _ X ?_) | (refine wpList_rstore rfl _ _ rfl _ _ rfl rfl _ R ?_; intro w9 hR9 hg9))
      have l3 := rload _ _ _ hR9
      exact bodyPost_ret (results_cell_tmp Try.results32 _ _ _ _ _ rfl l3) rfl ⟨rfl, bel_grown hg9 hB2 (fun j hj => by cases hj; omega)⟩
  · have hb : okM acc asset n = false := by simpa using h
    have hD : ¬ okT acc dst asset n := fun hh => h ((okM_iff _ _ _).2 ⟨hh.1, hh.2.2⟩)
    rw [show moveE F (okT acc dst asset n) (ix acc asset) n = 1 by unfold moveE; rw [if_neg hD], show moveN F (okT acc dst asset n) (ix acc asset) (ix dst asset) n = F by unfold moveN; rw [if_neg (fun hh => hD hh.1)]]
    have z33 := rzero
    go_enter Try.func32, Try.ntmps32
    go_wp2_with fail
    refine (may_ref _ _ _ _).mono ?_
    rintro e w1 ⟨rfl, rfl⟩
    rw [hb]
    have X := hN.alloc (.cells (rcs fun _ => 0) 33)
    have R := Blk.new (w.alloc (.cells (rcs (gF F)) 33)) (rcs fun _ => 0) 33
    rw [show (w.alloc (.cells (rcs (gF F)) 33)).heap.size = w.heap.size + 1 by simp] at R
    have hB2 := bel_alloc (bel_alloc hB (.cells (rcs (gF F)) 33)) (.cells (rcs fun _ => 0) 33)
    obtain ⟨w2, hw2⟩ : ∃ w2, (w.alloc (.cells (rcs (gF F)) 33)).alloc (.cells (rcs fun _ => 0) 33) = w2 := ⟨_, rfl⟩
    rw [hw2] at X R hB2 ⊢
    clear hw2 hN z33
    go_upto_region 2 with fail
    go_wp2_with (first | (refine wpList_rload rfl _ rfl _ rfl _ X ?_) | (refine wpList_rstore rfl _ _ rfl _ _ rfl rfl _ R ?_; intro w9 hR9 hg9))
    have l3 := rload _ _ _ hR9
    exact bodyPost_ret (results_cell_tmp Try.results32 _ _ _ _ _ rfl l3) rfl ⟨rfl, bel_grown hg9 hB2 (fun j hj => by cases hj; omega)⟩
set_option maxRecDepth 100000 in
set_option maxHeartbeats 4000000 in
theorem rspend_any (w : World) (F : Nat → Int) (hI : Inv F) (acc dst asset n : Int) :
    Calls Try.prog 33 #[.agg (rcs (gF F)), .int .i64 acc, .int .i64 dst, .int .i64 asset, .int .i64 n] w fun e w' => e = .returned (.tuple #[.agg (rcs (gF (moveN F (okT acc dst asset n) (ix acc asset + 1) (ix dst asset) n))), .int .i64 (moveE F (okT acc dst asset n) (ix acc asset + 1) n)]) ∧ Below w.heap.size w w' := by
  have hB := bel_refl w
  have hN := Blk.new w (rcs (gF F)) 33
  by_cases h : okM acc asset n = true
  · by_cases h' : okM dst asset n = true
    · have hD : okT acc dst asset n := ⟨((okM_iff _ _ _).1 h).1, ((okM_iff _ _ _).1 h').1, okM_n h⟩
      obtain ⟨a, s, rfl, rfl, ha, hs, hx⟩ := okM_nat h
      obtain ⟨a', s', rfl, hss, ha', hs', hx'⟩ := okM_nat h'
      obtain rfl : s = s' := by omega
      have hn := okM_n h
      have h1 : (0 : Int) ≤ (a : Int) := by omega
      have h2 : (a : Int) < 65 := by omega
      have h3 : (0 : Int) ≤ (s : Int) := by omega
      have h4 : (s : Int) < 2 := by omega
      have h5 : (0 : Int) ≤ (a' : Int) := by omega
      have h6 : (a' : Int) < 65 := by omega
      have k1 : 130 + a * 2 + s < 260 := by omega
      have k2 : a' * 2 + s < 260 := by omega
      have ei : ix (a : Int) (s : Int) = a * 4 + s * 2 := by unfold ix; simp
      have ej : ix (a' : Int) (s : Int) = a' * 4 + s * 2 := by unfold ix; simp
      have b1 := hI.bd (a * 4 + s * 2 + 1) (by omega)
      have b2 := hI.bd (a' * 4 + s * 2) (by omega)
      by_cases hl : F (ix a s + 1) < n
      · rw [show moveE F (okT a a' s n) (ix a s + 1) n = 9 by unfold moveE; rw [if_pos hD, if_pos hl], show moveN F (okT a a' s n) (ix a s + 1) (ix a' s) n = F by unfold moveN; rw [if_neg (fun hh => hh.2 hl)]]
        rw [ei] at hl
        have e0 : decide (F (a * 4 + s * 2 + 1) < n) = true := decide_eq_true hl
        clear hl hx hx' b1 b2 ei ej hD hss
        have z33 := rzero
        go_enter Try.func33, Try.ntmps33
        go_wp2_with fail
        refine (may_ref _ _ _ _).mono ?_
        rintro e w1 ⟨rfl, rfl⟩
        rw [h]
        go_wp2_with fail
        refine (may_ref _ _ _ _).mono ?_
        rintro e w1 ⟨rfl, rfl⟩
        rw [h']
        have X := hN.alloc (.cells (rcs fun _ => 0) 33)
        have R := Blk.new (w.alloc (.cells (rcs (gF F)) 33)) (rcs fun _ => 0) 33
        rw [show (w.alloc (.cells (rcs (gF F)) 33)).heap.size = w.heap.size + 1 by simp] at R
        have hB2 := bel_alloc (bel_alloc hB (.cells (rcs (gF F)) 33)) (.cells (rcs fun _ => 0) 33)
        obtain ⟨w2, hw2⟩ : ∃ w2, (w.alloc (.cells (rcs (gF F)) 33)).alloc (.cells (rcs fun _ => 0) 33) = w2 := ⟨_, rfl⟩
        rw [hw2] at X R hB2 ⊢
        clear hw2 hN z33
        have X_c := (X.cell (130 + a * 2 + s)).trans (rcs_get _ _ k1)
        rw [gF_held F a s ha hs] at X_c
        go_upto_region 4 with fail
        go_wp2_with (first | (refine wpList_rload rfl _ rfl _ rfl _ X ?_) | (refine wpList_rstore rfl _ _ rfl _ _ rfl rfl _ R ?_; intro w9 hR9 hg9))
        have l3 := rload _ _ _ hR9
        exact bodyPost_ret (results_cell_tmp Try.results33 _ _ _ _ _ rfl l3) rfl ⟨rfl, bel_grown hg9 hB2 (fun j hj => by cases hj; omega)⟩
      · rw [(move_ok (y := ix a' s) hD hl).1, (move_ok (y := ix a' s) hD hl).2, ei, ej, gF_set_free _ a' s _ ha' hs]
        rw [ei] at hl
        have e0 : decide (F (a * 4 + s * 2 + 1) < n) = false := decide_eq_false hl
        obtain ⟨p, hp⟩ : ∃ p, F (a * 4 + s * 2 + 1) = p := ⟨_, rfl⟩
        obtain ⟨F1, hF1⟩ : ∃ F1, upd F (a * 4 + s * 2 + 1) (p - n) = F1 := ⟨_, rfl⟩
        obtain ⟨q, hq⟩ : ∃ q, F1 (a' * 4 + s * 2) = q := ⟨_, rfl⟩
        have bq : 0 ≤ q ∧ q ≤ 1152921504606846976 := by
          rw [← hq, ← hF1]
          unfold upd
          split <;> omega
        rw [hp] at e0 hl b1 ⊢
        rw [hF1, hq]
        have w6 : IntKind.i64.wrap (p - n) = p - n := IntWalk.i64_in _ (by omega)
        have w7 : IntKind.i64.wrap (q + n) = q + n := IntWalk.i64_in _ (by omega)
        have HP := Lib.hid hp
        have HF := Lib.hid hF1
        have HQ := Lib.hid hq
        clear hl hx hx' b1 b2 bq ei ej hD hss hp hF1 hq
        have z33 := rzero
        go_enter Try.func33, Try.ntmps33
        go_wp2_with fail
        refine (may_ref _ _ _ _).mono ?_
        rintro e w1 ⟨rfl, rfl⟩
        rw [h]
        go_wp2_with fail
        refine (may_ref _ _ _ _).mono ?_
        rintro e w1 ⟨rfl, rfl⟩
        rw [h']
        have X := hN.alloc (.cells (rcs fun _ => 0) 33)
        have R := Blk.new (w.alloc (.cells (rcs (gF F)) 33)) (rcs fun _ => 0) 33
        rw [show (w.alloc (.cells (rcs (gF F)) 33)).heap.size = w.heap.size + 1 by simp] at R
        have hB2 := bel_alloc (bel_alloc hB (.cells (rcs (gF F)) 33)) (.cells (rcs fun _ => 0) 33)
        obtain ⟨w2, hw2⟩ : ∃ w2, (w.alloc (.cells (rcs (gF F)) 33)).alloc (.cells (rcs fun _ => 0) 33) = w2 := ⟨_, rfl⟩
        rw [hw2] at X R hB2 ⊢
        clear hw2 hN z33
        have X_c := (X.cell (130 + a * 2 + s)).trans (rcs_get _ _ k1)
        rw [gF_held F a s ha hs, HP.out] at X_c
        have X_f := X.free (130 + a * 2 + s)
        go_upto_region 5 with fail
        refine wp_region_plan [(0, true), (1, true), (2, true), (3, true), (4, true), (5, true), (6, true), (7, true), (8, true), (9, true), (10, true), (11, true), (12, true), (13, false)] (fun w' => w'.cell? ⟨w.heap.size, 130 + a * 2 + s, none⟩ = some (.int .i64 p) ∧ w'.frozen? ⟨w.heap.size, 130 + a * 2 + s, none⟩ = false) (by kernel_rfl) (by kernel_rfl) (fun _ _ _ _ h => h) ?_ (fun hS => ?_)
        · go_simp
        iterate 13
          refine plan_light (o := ?_) (v := ?_) ?_ ?_ ?_ ?_
          rotate_left 2
          · simp only [List.getElem?_toArray, List.getElem?_cons_zero, List.getElem?_cons_succ]
            rfl
          · go_simp
          · intro w' hS
            go_simp
            try rfl
          simp only [Act.put, List.setIfInBounds_toArray, List.set_cons_zero, List.set_cons_succ]
        refine plan_sink (o := ?_) ?_ (by kernel_rfl) (fun K' hK => ?_)
        rotate_left
        · simp only [List.getElem?_toArray, List.getElem?_cons_zero, List.getElem?_cons_succ]
          rfl
        go_simp
        refine hK.out _ _ ?_
        clear hK K'
        refine plan_nil ?_
        have X5 : Blk _ w.heap.size (rcs (gF F1)) := ((rcs_set X (130 + a * 2 + s) k1 (p - n)).drew).cast (by rw [← HF.out, gF_set_held F a s _ ha hs])
        have R5 := (R.set_other ⟨w.heap.size, 130 + a * 2 + s, none⟩ (.int .i64 (p - n)) (by show w.heap.size ≠ w.heap.size + 1; omega)).drew
        have hB5 := bel_drew (bel_set (a := ⟨w.heap.size, 130 + a * 2 + s, none⟩) hB2 (Nat.le_refl _) (.int .i64 (p - n)))
        obtain ⟨w5', hw5⟩ : ∃ w5', (w2.setCell ⟨w.heap.size, 130 + a * 2 + s, none⟩ (.int .i64 (p - n))).drew = w5' := ⟨_, rfl⟩
        rw [hw5] at X5 R5 hB5 ⊢
        clear hw5 hS X_c X_f
        have Y_c := (X5.cell (a' * 2 + s)).trans (rcs_get _ _ k2)
        rw [gF_free F1 a' s ha' hs, HQ.out] at Y_c
        have Y_f := X5.free (a' * 2 + s)
        go_upto_region 6 with fail
        refine wp_region_plan [(0, true), (1, true), (2, true), (3, true), (4, true), (5, true), (6, true), (7, true), (8, true), (9, true), (10, true), (11, true), (12, true), (13, false)] (fun w' => w'.cell? ⟨w.heap.size, a' * 2 + s, none⟩ = some (.int .i64 q) ∧ w'.frozen? ⟨w.heap.size, a' * 2 + s, none⟩ = false) (by kernel_rfl) (by kernel_rfl) (fun _ _ _ _ h => h) ?_ (fun hS => ?_)
        · go_simp
        iterate 13
          refine plan_light (o := ?_) (v := ?_) ?_ ?_ ?_ ?_
          rotate_left 2
          · simp only [List.getElem?_toArray, List.getElem?_cons_zero, List.getElem?_cons_succ]
            rfl
          · go_simp
          · intro w' hS
            go_simp
            try rfl
          simp only [Act.put, List.setIfInBounds_toArray, List.set_cons_zero, List.set_cons_succ]
        refine plan_sink (o := ?_) ?_ (by kernel_rfl) (fun K' hK => ?_)
        rotate_left
        · simp only [List.getElem?_toArray, List.getElem?_cons_zero, List.getElem?_cons_succ]
          rfl
        go_simp
        refine hK.out _ _ ?_
        clear hK K'
        refine plan_nil ?_
        have X6 := (rcs_set X5 (a' * 2 + s) k2 (q + n)).drew
        have R6 := (R5.set_other ⟨w.heap.size, a' * 2 + s, none⟩ (.int .i64 (q + n)) (by show w.heap.size ≠ w.heap.size + 1; omega)).drew
        have hB6 := bel_drew (bel_set (a := ⟨w.heap.size, a' * 2 + s, none⟩) hB5 (Nat.le_refl _) (.int .i64 (q + n)))
        obtain ⟨w6', hw6⟩ : ∃ w6', (w5'.setCell ⟨w.heap.size, a' * 2 + s, none⟩ (.int .i64 (q + n))).drew = w6' := ⟨_, rfl⟩
        rw [hw6] at X6 R6 hB6 ⊢
        clear hw6 hS X5 R5 hB5
        go_wp2_with (first | (refine wpList_rload rfl _ rfl _ rfl _ X6 ?_) | (refine wpList_rstore rfl _ _ rfl _ _ rfl rfl _ R6 ?_; intro w9 hR9 hg9))
        have l3 := rload _ _ _ hR9
        exact bodyPost_ret (results_cell_tmp Try.results33 _ _ _ _ _ rfl l3) rfl ⟨rfl, bel_grown hg9 hB6 (fun j hj => by cases hj; omega)⟩
    · have hb : okM dst asset n = false := by simpa using h'
      have hD : ¬ okT acc dst asset n := fun hh => h' ((okM_iff _ _ _).2 ⟨hh.2.1, hh.2.2⟩)
      rw [show moveE F (okT acc dst asset n) (ix acc asset + 1) n = 1 by unfold moveE; rw [if_neg hD], show moveN F (okT acc dst asset n) (ix acc asset + 1) (ix dst asset) n = F by unfold moveN; rw [if_neg (fun hh => hD hh.1)]]
      have z33 := rzero
      go_enter Try.func33, Try.ntmps33
      go_wp2_with fail
      refine (may_ref _ _ _ _).mono ?_
      rintro e w1 ⟨rfl, rfl⟩
      rw [h]
      go_wp2_with fail
      refine (may_ref _ _ _ _).mono ?_
      rintro e w1 ⟨rfl, rfl⟩
      rw [hb]
      have X := hN.alloc (.cells (rcs fun _ => 0) 33)
      have R := Blk.new (w.alloc (.cells (rcs (gF F)) 33)) (rcs fun _ => 0) 33
      rw [show (w.alloc (.cells (rcs (gF F)) 33)).heap.size = w.heap.size + 1 by simp] at R
      have hB2 := bel_alloc (bel_alloc hB (.cells (rcs (gF F)) 33)) (.cells (rcs fun _ => 0) 33)
      obtain ⟨w2, hw2⟩ : ∃ w2, (w.alloc (.cells (rcs (gF F)) 33)).alloc (.cells (rcs fun _ => 0) 33) = w2 := ⟨_, rfl⟩
      rw [hw2] at X R hB2 ⊢
      clear hw2 hN z33
      go_upto_region 2 with fail
      go_wp2_with (first | (refine wpList_rload rfl _ rfl _ rfl _ X ?_) | (refine wpList_rstore rfl _ _ rfl _ _ rfl rfl _ R ?_; intro w9 hR9 hg9))
      have l3 := rload _ _ _ hR9
      exact bodyPost_ret (results_cell_tmp Try.results33 _ _ _ _ _ rfl l3) rfl ⟨rfl, bel_grown hg9 hB2 (fun j hj => by cases hj; omega)⟩
  · have hb : okM acc asset n = false := by simpa using h
    have hD : ¬ okT acc dst asset n := fun hh => h ((okM_iff _ _ _).2 ⟨hh.1, hh.2.2⟩)
    rw [show moveE F (okT acc dst asset n) (ix acc asset + 1) n = 1 by unfold moveE; rw [if_neg hD], show moveN F (okT acc dst asset n) (ix acc asset + 1) (ix dst asset) n = F by unfold moveN; rw [if_neg (fun hh => hD hh.1)]]
    have z33 := rzero
    go_enter Try.func33, Try.ntmps33
    go_wp2_with fail
    refine (may_ref _ _ _ _).mono ?_
    rintro e w1 ⟨rfl, rfl⟩
    rw [hb]
    have X := hN.alloc (.cells (rcs fun _ => 0) 33)
    have R := Blk.new (w.alloc (.cells (rcs (gF F)) 33)) (rcs fun _ => 0) 33
    rw [show (w.alloc (.cells (rcs (gF F)) 33)).heap.size = w.heap.size + 1 by simp] at R
    have hB2 := bel_alloc (bel_alloc hB (.cells (rcs (gF F)) 33)) (.cells (rcs fun _ => 0) 33)
    obtain ⟨w2, hw2⟩ : ∃ w2, (w.alloc (.cells (rcs (gF F)) 33)).alloc (.cells (rcs fun _ => 0) 33) = w2 := ⟨_, rfl⟩
    rw [hw2] at X R hB2 ⊢
    clear hw2 hN z33
    go_upto_region 2 with fail
    go_wp2_with (first | (refine wpList_rload rfl _ rfl _ rfl _ X ?_) | (refine wpList_rstore rfl _ _ rfl _ _ rfl rfl _ R ?_; intro w9 hR9 hg9))
    have l3 := rload _ _ _ hR9
    exact bodyPost_ret (results_cell_tmp Try.results33 _ _ _ _ _ rfl l3) rfl ⟨rfl, bel_grown hg9 hB2 (fun j hj => by cases hj; omega)⟩
end Go.Proofs.Ythkmjfgffofaoaa
