/-
  The document's ledger as the other one's shadow; its total.
-/
import Derived.Test.YthkmjfgffofaoaaRef
namespace Go.Proofs.Ythkmjfgffofaoaa
open Go.RowKit
set_option linter.unusedSimpArgs false
set_option linter.unusedVariables false
/-- the document's numbers out of the ledger's. -/
def gF (F : Nat → Int) : Nat → Int := fun k => if k < 130 then F (k / 2 * 4 + k % 2 * 2) else F ((k - 130) / 2 * 4 + (k - 130) % 2 * 2 + 1)
theorem gF_free (F : Nat → Int) (a s : Nat) (ha : a ≤ 64) (hs : s < 2) : gF F (a * 2 + s) = F (a * 4 + s * 2) := by
  unfold gF
  rw [if_pos (by omega), show (a * 2 + s) / 2 = a by omega, show (a * 2 + s) % 2 = s by omega]
theorem gF_held (F : Nat → Int) (a s : Nat) (ha : a ≤ 64) (hs : s < 2) : gF F (130 + a * 2 + s) = F (a * 4 + s * 2 + 1) := by
  unfold gF
  rw [if_neg (by omega), show (130 + a * 2 + s - 130) / 2 = a by omega, show (130 + a * 2 + s - 130) % 2 = s by omega]
theorem gF_set_free (F : Nat → Int) (a s : Nat) (v : Int) (ha : a ≤ 64) (hs : s < 2) : rcs (gF (upd F (a * 4 + s * 2) v)) = rcs (upd (gF F) (a * 2 + s) v) := by
  refine rcs_ext _ _ (rcs_size _) (fun i hi => ?_)
  rw [rcs_get _ i hi]
  congr 2
  simp only [gF, upd]
  by_cases h : i < 130
  · rw [if_pos h]
    by_cases e : i = a * 2 + s
    · rw [if_pos e, if_pos (by omega)]
    · rw [if_neg e, if_neg (by omega), if_pos h]
  · rw [if_neg h, if_neg (by omega), if_neg (by omega), if_neg h]
theorem gF_set_held (F : Nat → Int) (a s : Nat) (v : Int) (ha : a ≤ 64) (hs : s < 2) : rcs (gF (upd F (a * 4 + s * 2 + 1) v)) = rcs (upd (gF F) (130 + a * 2 + s) v) := by
  refine rcs_ext _ _ (rcs_size _) (fun i hi => ?_)
  rw [rcs_get _ i hi]
  congr 2
  simp only [gF, upd]
  by_cases h : i < 130
  · rw [if_pos h, if_neg (by omega), if_neg (by omega), if_pos h]
  · rw [if_neg h]
    by_cases e : i = 130 + a * 2 + s
    · rw [if_pos e, if_pos (by omega)]
    · rw [if_neg e, if_neg (by omega), if_neg h]
theorem gF_set_tot (F : Nat → Int) (k : Nat) (v : Int) (hk : 260 ≤ k) : rcs (gF (upd F k v)) = rcs (gF F) := by
  refine rcs_ext _ _ (rcs_size _) (fun i hi => ?_)
  rw [rcs_get _ i hi]
  congr 2
  simp only [gF, upd]
  split
  · rw [if_neg (by omega)]
  · rw [if_neg (by omega)]
theorem gF_bd {F : Nat → Int} (h : Bd F) : Bdr (gF F) := fun k hk => by
  unfold gF
  split
  · exact h _ (by omega)
  · exact h _ (by omega)
set_option maxRecDepth 100000 in
set_option maxHeartbeats 4000000 in
theorem rtotal_in (w : World) (F : Nat → Int) (hI : Inv F) (s : Nat) (hs : s < 2) :
    Calls Try.prog 15 #[.agg (rcs (gF F)), .int .i64 s] w fun e w' => e = .returned (.int .i64 (F (260 + s))) ∧ Below w.heap.size w w' := by
  rw [hI.tot s hs]
  have hB := bel_refl w
  have X := Blk.new w (rcs (gF F)) 33
  have d3 : decide ((0 : Int) ≤ (s : Int)) = true := by simp
  have d4 : decide ((s : Int) ≤ 1) = true := by simp; omega
  have s0 : (0 : Int) ≤ (s : Int) := by omega
  have s2 : (s : Int) < 2 := by omega
  have hBB := bel_alloc hB (.cells (rcs (gF F)) 33)
  go_enter Try.func15, Try.ntmps15
  go_wp2_with fail
  go_loopw [5, 6] (fun n i wr => ∃ x : Nat, x ≤ 65 ∧ i = .int .i64 x ∧ n = .int .i64 (SK F s x) ∧ Blk wr w.heap.size (rcs (gF F)) ∧ Below w.heap.size w wr) (fun _ i _ => 65 - (intOf i).toNat)
  case atStart => exact ⟨0, by omega, rfl, rfl, X, hBB⟩
  case round =>
    clear X hB hBB
    obtain ⟨x, hx, rfl, rfl, hX, hBr⟩ := hrel
    by_cases hx2 : x < 65
    · have ex : decide ((x : Int) < 65) = true := by simp; omega
      have x0 : (0 : Int) ≤ (x : Int) := by omega
      have x1 : (x : Int) < 65 := by omega
      have m1 := SK_nn F s hs x (by omega) hI.nn
      have m2 := SK_up F s hs hI.nn (x + 1) (65 - (x + 1)) (by omega)
      rw [show x + 1 + (65 - (x + 1)) = 65 by omega, ← hI.tot s hs] at m2
      have m3 := hI.lim s hs
      have m4 := hI.nn (x * 4 + s * 2) (by omega)
      have m5 := hI.nn (x * 4 + s * 2 + 1) (by omega)
      have m6 : SK F s (x + 1) = SK F s x + F (x * 4 + s * 2) + F (x * 4 + s * 2 + 1) := rfl
      have w1 : IntKind.i64.wrap (SK F s x + F (x * 4 + s * 2)) = SK F s x + F (x * 4 + s * 2) := IntWalk.i64_in _ (by omega)
      have w2 : IntKind.i64.wrap (SK F s x + F (x * 4 + s * 2) + F (x * 4 + s * 2 + 1)) = SK F s (x + 1) := by rw [m6]; exact IntWalk.i64_in _ (by omega)
      have c1 := (hX.cell (x * 2 + s)).trans (rcs_get _ _ (by omega))
      have c2 := (hX.cell (130 + x * 2 + s)).trans (rcs_get _ _ (by omega))
      rw [gF_free F x s (by omega) hs] at c1
      rw [gF_held F x s (by omega) hs] at c2
      clear m1 m2 m3 m4 m5 m6
      generalize F (x * 4 + s * 2) = p at *
      generalize F (x * 4 + s * 2 + 1) = q at *
      obtain ⟨S', hS'⟩ : ∃ S', SK F s (x + 1) = S' := ⟨_, rfl⟩
      have HX := Lib.hid hS'
      rw [hS'] at w2
      clear hS'
      generalize SK F s x = S at *
      go_wp2_with fail
      refine wp_region_plan [(0, true), (1, true), (2, true), (3, true), (4, true), (5, true), (6, true), (7, true), (8, true), (9, true), (10, true), (11, true), (12, true), (13, true), (14, true), (15, false)] (fun w' => w'.cell? ⟨w.heap.size, x * 2 + s, none⟩ = some (.int .i64 p) ∧ w'.cell? ⟨w.heap.size, 130 + x * 2 + s, none⟩ = some (.int .i64 q)) (by kernel_rfl) (by kernel_rfl) (fun _ _ _ _ h => h) ?_ (fun hS => ?_)
      · go_simp
      iterate 15
        refine plan_light (o := ?_) (v := ?_) ?_ ?_ ?_ ?_
        rotate_left 2
        · simp only [List.getElem?_toArray, List.getElem?_cons_zero, List.getElem?_cons_succ]
          rfl
        · go_simp
        · intro w' hS
          go_simp
          try rfl
        simp only [Act.put, List.setIfInBounds_toArray, List.set_cons_zero, List.set_cons_succ]
      refine plan_sink (o := ?_) ?_ (by kernel_rfl) (fun K' hK => ?_)
      rotate_left
      · simp only [List.getElem?_toArray, List.getElem?_cons_zero, List.getElem?_cons_succ]
        rfl
      go_simp
      refine hK.out _ _ ?_
      clear hK K'
      refine plan_nil ?_
      go_wp2_with fail
      go_roundw
      case rel => exact ⟨x + 1, by omega, by go_num, by rw [HX.out], hX.drew, bel_drew hBr⟩
      case measure => simp [intOf]; omega
    · have hx3 : x = 65 := by omega
      subst hx3
      go_wp2_with fail
      go_ret
      exact ⟨rfl, hBr⟩
end Go.Proofs.Ythkmjfgffofaoaa
