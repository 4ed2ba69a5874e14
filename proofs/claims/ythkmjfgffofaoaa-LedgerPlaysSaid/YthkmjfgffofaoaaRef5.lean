/-
  Contracts of the document's ledger: Release, and a total of what is no asset.
-/
import Derived.Test.YthkmjfgffofaoaaRef4
namespace Go.Proofs.Ythkmjfgffofaoaa
open Go.RowKit
set_option linter.unusedSimpArgs false
set_option linter.unusedVariables false
theorem okT_self (acc asset n : Int) : okT acc acc asset n ↔ okD acc asset n := ⟨fun h => ⟨h.1, h.2.2⟩, fun h => ⟨h.1, h.1, h.2⟩⟩
set_option maxRecDepth 100000 in
theorem rtotal_out (w : World) (F : Nat → Int) (asset : Int) (h : ¬ (0 ≤ asset ∧ asset ≤ 1)) :
    Calls Try.prog 15 #[.agg (rcs (gF F)), .int .i64 asset] w fun e w' => e = .returned (.int .i64 0) ∧ Below w.heap.size w w' := by
  have hB := bel_refl w
  have hc : decide (0 ≤ asset) = false ∨ (decide (0 ≤ asset) = true ∧ decide (asset ≤ 1) = false) := by
    simp only [decide_eq_true_eq, decide_eq_false_iff_not]
    omega
  clear h
  go_enter Try.func15, Try.ntmps15
  go_wp2_with fail
  go_loop [5, 6] (fun n i => n = .int .i64 0 ∧ i = .int .i64 0) (fun _ i => 65 - (intOf i).toNat)
  case atStart => exact ⟨rfl, rfl⟩
  case round =>
    obtain ⟨rfl, rfl⟩ := hrel
    rcases hc with d1 | ⟨d1, d2⟩
    · go_wp2_with fail
      go_ret
      exact ⟨rfl, bel_alloc hB _⟩
    · go_wp2_with fail
      go_ret
      exact ⟨rfl, bel_alloc hB _⟩
theorem rget_free (F : Nat → Int) (acc asset : Int) : rget (gF F) acc asset (rx acc asset) = getF F acc asset (ix acc asset) := by
  unfold rget getF
  by_cases h : okM acc asset 0 = true
  · obtain ⟨a, s, rfl, rfl, ha, hs, hx⟩ := okM_nat h
    rw [if_pos h, if_pos ((okM_iff _ _ _).1 h).1, hx, gF_free F a s ha hs, show ix (a : Int) (s : Int) = a * 4 + s * 2 by unfold ix; simp]
  · rw [if_neg h, if_neg (fun hh => h ((okM_iff _ _ _).2 ⟨hh, by omega, by omega⟩))]
theorem rget_held (F : Nat → Int) (acc asset : Int) : rget (gF F) acc asset (130 + rx acc asset) = getF F acc asset (ix acc asset + 1) := by
  unfold rget getF
  by_cases h : okM acc asset 0 = true
  · obtain ⟨a, s, rfl, rfl, ha, hs, hx⟩ := okM_nat h
    rw [if_pos h, if_pos ((okM_iff _ _ _).1 h).1, hx, ← Nat.add_assoc, gF_held F a s ha hs, show ix (a : Int) (s : Int) = a * 4 + s * 2 by unfold ix; simp]
  · rw [if_neg h, if_neg (fun hh => h ((okM_iff _ _ _).2 ⟨hh, by omega, by omega⟩))]
end Go.Proofs.Ythkmjfgffofaoaa
