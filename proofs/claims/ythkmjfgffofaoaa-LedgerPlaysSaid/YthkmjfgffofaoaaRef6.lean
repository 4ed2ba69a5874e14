/-
  Contracts of the document's ledger: Release, Hold.
-/
import Derived.Test.YthkmjfgffofaoaaRef5
namespace Go.Proofs.Ythkmjfgffofaoaa
open Go.RowKit
set_option linter.unusedSimpArgs false
set_option linter.unusedVariables false
theorem release_same (F : Nat → Int) (acc asset n : Int) (x y : Nat) : moveE F (okT acc acc asset n) x n = moveE F (okD acc asset n) x n ∧ moveN F (okT acc acc asset n) x y n = moveN F (okD acc asset n) x y n := by
  unfold moveE moveN
  by_cases h : okD acc asset n
  · have h' := (okT_self acc asset n).2 h
    exact ⟨by rw [if_pos h, if_pos h'], by simp only [h, h', true_and]⟩
  · have h' : ¬ okT acc acc asset n := fun hh => h ((okT_self acc asset n).1 hh)
    exact ⟨by rw [if_neg h, if_neg h'], by simp only [h, h', false_and]⟩
set_option maxRecDepth 100000 in
set_option maxHeartbeats 4000000 in
theorem rrelease_any (w : World) (F : Nat → Int) (hI : Inv F) (acc asset n : Int) :
    Calls Try.prog 31 #[.agg (rcs (gF F)), .int .i64 acc, .int .i64 asset, .int .i64 n] w fun e w' => e = .returned (.tuple #[.agg (rcs (gF (moveN F (okD acc asset n) (ix acc asset + 1) (ix acc asset) n))), .int .i64 (moveE F (okD acc asset n) (ix acc asset + 1) n)]) ∧ Below w.heap.size w w' := by
  have hB := bel_refl w
  have hN := Blk.new w (rcs (gF F)) 33
  rw [← (release_same F acc asset n (ix acc asset + 1) (ix acc asset)).1, ← (release_same F acc asset n (ix acc asset + 1) (ix acc asset)).2]
  have c1 := Lib.hid (fun w => rspend_any w F hI acc acc asset n)
  generalize moveE F (okT acc acc asset n) (ix acc asset + 1) n = E at *
  generalize moveN F (okT acc acc asset n) (ix acc asset + 1) (ix acc asset) n = F' at *
  clear hI
  have z33 := rzero
  go_enter Try.func31, Try.ntmps31
  go_upto_region 1 with fail
  have X := hN.alloc (.cells (rcs fun _ => 0) 33)
  have R := Blk.new (w.alloc (.cells (rcs (gF F)) 33)) (rcs fun _ => 0) 33
  rw [show (w.alloc (.cells (rcs (gF F)) 33)).heap.size = w.heap.size + 1 by simp] at R
  have hB2 := bel_alloc (bel_alloc hB (.cells (rcs (gF F)) 33)) (.cells (rcs fun _ => 0) 33)
  obtain ⟨w2, hw2⟩ : ∃ w2, (w.alloc (.cells (rcs (gF F)) 33)).alloc (.cells (rcs fun _ => 0) 33) = w2 := ⟨_, rfl⟩
  rw [hw2] at X R hB2 ⊢
  clear hw2 hN z33
  go_wp2_with (refine wpList_rload rfl _ rfl _ rfl _ X ?_)
  refine (c1.out _).mono ?_
  rintro e w3 ⟨rfl, hb⟩
  replace R := R.call hb
  replace hB2 := bel_call hb hB2
  clear hb X
  go_wp2_with (refine wpList_rstore rfl _ _ rfl _ _ rfl rfl _ R ?_; intro w9 hR9 hg9)
  have l3 := rload _ _ _ hR9
  exact bodyPost_ret (results_cell_tmp Try.results31 _ _ _ _ _ rfl l3) rfl ⟨rfl, bel_grown hg9 hB2 (fun j hj => by cases hj; omega)⟩
/-- behind a Take: what is there then. -/
def takF (F : Nat → Int) (acc asset n : Int) : Nat → Int := if okM acc asset n = true ∧ ¬ F (ix acc asset) < n then upd F (ix acc asset) (F (ix acc asset) - n) else F
theorem rtake_F (F : Nat → Int) (acc asset n : Int) : rtakeE (gF F) acc asset n = moveE F (okD acc asset n) (ix acc asset) n ∧ rcs (rtakeN (gF F) acc asset n) = rcs (gF (takF F acc asset n)) := by
  unfold rtakeE rtakeN takF moveE
  by_cases h : okM acc asset n = true
  · have hD := (okM_iff _ _ _).1 h
    obtain ⟨a, s, rfl, rfl, ha, hs, hx⟩ := okM_nat h
    rw [if_pos h, if_pos hD, hx, gF_free F a s ha hs, show ix (a : Int) (s : Int) = a * 4 + s * 2 by unfold ix; simp]
    refine ⟨rfl, ?_⟩
    by_cases hl : F (a * 4 + s * 2) < n
    · rw [if_neg (fun hh => hh.2 hl), if_neg (fun hh => hh.2 hl)]
    · rw [if_pos ⟨h, hl⟩, if_pos ⟨h, hl⟩, gF_set_free F a s _ ha hs]
  · rw [if_neg h, if_neg (fun hh => h ((okM_iff _ _ _).2 hh)), if_neg (fun hh => h hh.1), if_neg (fun hh => h hh.1)]
    exact ⟨rfl, rfl⟩
set_option maxRecDepth 100000 in
set_option maxHeartbeats 4000000 in
theorem rhold_any (w : World) (F : Nat → Int) (hI : Inv F) (acc asset n : Int) :
    Calls Try.prog 30 #[.agg (rcs (gF F)), .int .i64 acc, .int .i64 asset, .int .i64 n] w fun e w' => e = .returned (.tuple #[.agg (rcs (gF (moveN F (okD acc asset n) (ix acc asset) (ix acc asset + 1) n))), .int .i64 (moveE F (okD acc asset n) (ix acc asset) n)]) ∧ Below w.heap.size w w' := by
  have hB := bel_refl w
  have hN := Blk.new w (rcs (gF F)) 33
  have c1 := Lib.hid (fun w => rtake_any w (gF F) (gF_bd hI.bd) acc asset n)
  rw [(rtake_F F acc asset n).1, (rtake_F F acc asset n).2] at c1
  by_cases hE : moveE F (okD acc asset n) (ix acc asset) n = 0
  · have hD : okD acc asset n ∧ ¬ F (ix acc asset) < n := by
      unfold moveE at hE
      by_cases h1 : okD acc asset n
      · rw [if_pos h1] at hE
        by_cases h2 : F (ix acc asset) < n
        · rw [if_pos h2] at hE; cases hE
        · exact ⟨h1, h2⟩
      · rw [if_neg h1] at hE; cases hE
    obtain ⟨hD, hl⟩ := hD
    have h := (okM_iff _ _ _).2 hD
    rw [(move_ok (y := ix acc asset + 1) hD hl).2]
    rw [hE] at c1 ⊢
    rw [show takF F acc asset n = upd F (ix acc asset) (F (ix acc asset) - n) by unfold takF; rw [if_pos ⟨h, hl⟩]] at c1
    obtain ⟨a, s, rfl, rfl, ha, hs, hx⟩ := okM_nat h
    have hn := okM_n h
    have h1 : (0 : Int) ≤ (a : Int) := by omega
    have h2 : (a : Int) < 65 := by omega
    have h3 : (0 : Int) ≤ (s : Int) := by omega
    have h4 : (s : Int) < 2 := by omega
    have k1 : 130 + a * 2 + s < 260 := by omega
    have ei : ix (a : Int) (s : Int) = a * 4 + s * 2 := by unfold ix; simp
    rw [ei] at c1 hl ⊢
    have b1 := hI.bd (a * 4 + s * 2) (by omega)
    have b2 := hI.bd (a * 4 + s * 2 + 1) (by omega)
    obtain ⟨F1, hF1⟩ : ∃ F1, upd F (a * 4 + s * 2) (F (a * 4 + s * 2) - n) = F1 := ⟨_, rfl⟩
    obtain ⟨q, hq⟩ : ∃ q, F1 (a * 4 + s * 2 + 1) = q := ⟨_, rfl⟩
    have bq : 0 ≤ q ∧ q ≤ 1152921504606846976 := by
      rw [← hq, ← hF1, upd_ne _ _ _ _ (by omega)]
      exact b2
    rw [hF1] at c1 ⊢
    rw [hq]
    have w7 : IntKind.i64.wrap (q + n) = q + n := IntWalk.i64_in _ (by omega)
    rw [gF_set_held F1 a s _ ha hs]
    have HQ := Lib.hid hq
    clear hl hx b1 b2 bq ei hD hF1 hq hE h hI
    have z33 := rzero
    go_enter Try.func30, Try.ntmps30
    go_upto_region 1 with fail
    have X := hN.alloc (.cells (rcs fun _ => 0) 33)
    have R := Blk.new (w.alloc (.cells (rcs (gF F)) 33)) (rcs fun _ => 0) 33
    rw [show (w.alloc (.cells (rcs (gF F)) 33)).heap.size = w.heap.size + 1 by simp] at R
    have hB2 := bel_alloc (bel_alloc hB (.cells (rcs (gF F)) 33)) (.cells (rcs fun _ => 0) 33)
    obtain ⟨w2, hw2⟩ : ∃ w2, (w.alloc (.cells (rcs (gF F)) 33)).alloc (.cells (rcs fun _ => 0) 33) = w2 := ⟨_, rfl⟩
    rw [hw2] at X R hB2 ⊢
    clear hw2 hN
    go_wp2_with (refine wpList_rload rfl _ rfl _ rfl _ X ?_)
    refine (c1.out _).mono ?_
    rintro e w3 ⟨rfl, hb⟩
    replace R := R.call hb
    replace hB2 := bel_call hb hB2
    have R_l := R.lt
    clear hb X
    go_upto_region 4 with (refine wpList_rstore rfl _ _ rfl _ _ rfl rfl _ (Blk.new _ _ _) ?_; intro w4 hY4 hg4)
    have R4 := (R.alloc (.cells (rcs fun _ => 0) 33)).grown hg4 (by simp; omega)
    have hB4 := bel_grown hg4 (bel_alloc hB2 (.cells (rcs fun _ => 0) 33)) (fun j hj => by cases hj; exact hB2.size)
    have Y_c := (hY4.cell (130 + a * 2 + s)).trans (rcs_get _ _ k1)
    rw [gF_held F1 a s ha hs, HQ.out] at Y_c
    have Y_f := hY4.free (130 + a * 2 + s)
    have y1 : w.heap.size + 1 < w3.heap.size := R_l
    clear R hg4 z33
    obtain ⟨b3, hb3⟩ : ∃ b3, w3.heap.size = b3 := ⟨_, rfl⟩
    rw [hb3] at hY4 Y_c Y_f y1 R_l ⊢
    clear hb3
    refine wp_region_plan [(0, true), (1, true), (2, true), (3, true), (4, true), (5, true), (6, true), (7, true), (8, true), (9, true), (10, true), (11, true), (12, true), (13, false)] (fun w' => w'.cell? ⟨b3, 130 + a * 2 + s, none⟩ = some (.int .i64 q) ∧ w'.frozen? ⟨b3, 130 + a * 2 + s, none⟩ = false) (by kernel_rfl) (by kernel_rfl) (fun _ _ _ _ h => h) ?_ (fun hS => ?_)
    · go_simp
    iterate 13
      refine plan_light (o := ?_) (v := ?_) ?_ ?_ ?_ ?_
      rotate_left 2
      · simp only [List.getElem?_toArray, List.getElem?_cons_zero, List.getElem?_cons_succ]
        rfl
      · go_simp
      · intro w' hS
        go_simp
        try rfl
      simp only [Act.put, List.setIfInBounds_toArray, List.set_cons_zero, List.set_cons_succ]
    refine plan_sink (o := ?_) ?_ (by kernel_rfl) (fun K' hK => ?_)
    rotate_left
    · simp only [List.getElem?_toArray, List.getElem?_cons_zero, List.getElem?_cons_succ]
      rfl
    go_simp
    refine hK.out _ _ ?_
    clear hK K'
    refine plan_nil ?_
    have Y5 := (rcs_set hY4 (130 + a * 2 + s) k1 (q + n)).drew
    have R5 := (R4.set_other ⟨b3, 130 + a * 2 + s, none⟩ (.int .i64 (q + n)) (by show b3 ≠ w.heap.size + 1; omega)).drew
    have hB5 := bel_drew (bel_set (a := ⟨b3, 130 + a * 2 + s, none⟩) hB4 (by show w.heap.size ≤ b3; omega) (.int .i64 (q + n)))
    obtain ⟨w5', hw5⟩ : ∃ w5', (w4.setCell ⟨b3, 130 + a * 2 + s, none⟩ (.int .i64 (q + n))).drew = w5' := ⟨_, rfl⟩
    rw [hw5] at Y5 R5 hB5 ⊢
    clear hw5 hS Y_c Y_f hY4 R4 hB4
    go_wp2_with (first | (refine wpList_rload rfl _ rfl _ rfl _ Y5 ?_) | (refine wpList_rstore rfl _ _ rfl _ _ rfl rfl _ R5 ?_; intro w9 hR9 hg9))
    have l3 := rload _ _ _ hR9
    exact bodyPost_ret (results_cell_tmp Try.results30 _ _ _ _ _ rfl l3) rfl ⟨rfl, bel_grown hg9 hB5 (fun j hj => by cases hj; omega)⟩
  · rw [show moveN F (okD acc asset n) (ix acc asset) (ix acc asset + 1) n = F from moveE_no _ hE]
    generalize moveE F (okD acc asset n) (ix acc asset) n = E at *
    generalize takF F acc asset n = F1 at *
    have hE1 : (E != 0) = true := by simpa using hE
    clear hI hE
    have z33 := rzero
    go_enter Try.func30, Try.ntmps30
    go_upto_region 1 with fail
    have X := hN.alloc (.cells (rcs fun _ => 0) 33)
    have R := Blk.new (w.alloc (.cells (rcs (gF F)) 33)) (rcs fun _ => 0) 33
    rw [show (w.alloc (.cells (rcs (gF F)) 33)).heap.size = w.heap.size + 1 by simp] at R
    have hB2 := bel_alloc (bel_alloc hB (.cells (rcs (gF F)) 33)) (.cells (rcs fun _ => 0) 33)
    obtain ⟨w2, hw2⟩ : ∃ w2, (w.alloc (.cells (rcs (gF F)) 33)).alloc (.cells (rcs fun _ => 0) 33) = w2 := ⟨_, rfl⟩
    rw [hw2] at X R hB2 ⊢
    clear hw2 hN
    go_wp2_with (refine wpList_rload rfl _ rfl _ rfl _ X ?_)
    refine (c1.out _).mono ?_
    rintro e w3 ⟨rfl, hb⟩
    replace R := R.call hb
    replace X := X.call hb
    replace hB2 := bel_call hb hB2
    have R_l := R.lt
    clear hb
    go_upto_region 3 with (refine wpList_rstore rfl _ _ rfl _ _ rfl rfl _ (Blk.new _ _ _) ?_; intro w4 hY4 hg4)
    have R4 := (R.alloc (.cells (rcs fun _ => 0) 33)).grown hg4 (by simp; omega)
    have X4 := (X.alloc (.cells (rcs fun _ => 0) 33)).grown hg4 (by simp; omega)
    have hB4 := bel_grown hg4 (bel_alloc hB2 (.cells (rcs fun _ => 0) 33)) (fun j hj => by cases hj; exact hB2.size)
    clear R X hg4 hY4 z33
    go_wp2_with (first | (refine wpList_rload rfl _ rfl _ rfl _ X4 ?_) | (refine wpList_rstore rfl _ _ rfl _ _ rfl rfl _ R4 ?_; intro w9 hR9 hg9))
    have l3 := rload _ _ _ hR9
    exact bodyPost_ret (results_cell_tmp Try.results30 _ _ _ _ _ rfl l3) rfl ⟨rfl, bel_grown hg9 hB4 (fun j hj => by cases hj; omega)⟩
end Go.Proofs.Ythkmjfgffofaoaa
