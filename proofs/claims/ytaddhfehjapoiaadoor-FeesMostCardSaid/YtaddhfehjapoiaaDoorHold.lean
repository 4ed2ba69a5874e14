/-
  Contracts of package fees and of agioref18: fees, and what is held.
-/
import Derived.Test.YtaddhfehjapoiaaDoorFees
namespace Go.Proofs.YtaddhfehjapoiaaDoor
open Go.RowKit
set_option linter.unusedSimpArgs false
set_option linter.unusedVariables false
theorem i64_lit (a : Int) (h : -9223372036854775808 ≤ a ∧ a ≤ 9223372036854775807) : I64 a := h
theorem TiersAt.alloc {w : World} (h : TiersAt w) (o : Obj) : TiersAt (w.alloc o) := h.bel (bel_alloc (bel_refl w) o)
def feeR (v : Int) (m : Bool) : Int := rateF (tierF v) m
def feeV (a v : Int) (m : Bool) : Int := if m then dnv a (feeR v true) else upv a (feeR v false)
theorem feeR_bd (v : Int) (m : Bool) : 0 ≤ feeR v m ∧ feeR v m ≤ 20 := rateF_bd _ _
theorem feeR_i64 (v : Int) (m : Bool) : I64 (feeR v m) := by have := feeR_bd v m; exact i64_lit _ (by omega)
set_option maxHeartbeats 1000000 in
theorem fee_any (a v : Int) (m : Bool) (ha : I64 a) (w : World) (hT : TiersAt w) :
    Calls Tryd.prog 9 #[.int .i64 a, .int .i64 v, .bool m] w fun e w' => e = .returned (.tuple #[.int .i64 (feeV a v m), .bool (okp a (feeR v m))]) ∧ Below w.heap.size w w' := by
  have hB := bel_refl w
  have HT := Lib.hid hT
  have c1 := Lib.hid (down_any a (feeR v true) ha (feeR_i64 v true))
  have c2 := Lib.hid (up_any a (feeR v false) ha (feeR_i64 v false))
  have c3 := Lib.hid (fun (w : World) (hT : TiersAt w) => rate_any (tierF v) m w hT)
  rw [show rateF (tierF v) m = feeR v m from rfl] at c3
  cases m
  · rw [show feeV a v false = upv a (feeR v false) from rfl]
    generalize feeR v false = r at *
    generalize feeR v true = r2 at *
    generalize upv a r = x at *
    generalize okp a r = k at *
    go_enter Tryd.func9, Tryd.ntmps9
    clear hT
    go_wp2_with fail
    refine (tier_any v _ HT.out).mono ?_
    rintro e w1 ⟨rfl, rfl⟩
    go_wp2_with fail
    refine (c3.out _ HT.out).mono ?_
    rintro e w2 ⟨rfl, hb⟩
    replace hB := bel_call hb hB
    clear hb
    go_wp2_with fail
    refine (c2.out _).mono ?_
    rintro e w3 ⟨rfl, hb⟩
    replace hB := bel_call hb hB
    clear hb
    go_wp2_with fail
    go_ret2
    exact ⟨rfl, hB⟩
  · rw [show feeV a v true = dnv a (feeR v true) from rfl]
    generalize feeR v true = r at *
    generalize feeR v false = r2 at *
    generalize dnv a r = x at *
    generalize okp a r = k at *
    go_enter Tryd.func9, Tryd.ntmps9
    clear hT
    go_wp2_with fail
    refine (tier_any v _ HT.out).mono ?_
    rintro e w1 ⟨rfl, rfl⟩
    go_wp2_with fail
    refine (c3.out _ HT.out).mono ?_
    rintro e w2 ⟨rfl, hb⟩
    replace hB := bel_call hb hB
    clear hb
    go_wp2_with fail
    refine (c1.out _).mono ?_
    rintro e w3 ⟨rfl, hb⟩
    replace hB := bel_call hb hB
    clear hb
    go_wp2_with fail
    go_ret2
    exact ⟨rfl, hB⟩
set_option maxHeartbeats 1000000 in
theorem refFee_any (a v : Int) (m : Bool) (ha : I64 a) (w : World) :
    Calls Tryd.prog 10 #[.int .i64 a, .int .i64 v, .bool m] w fun e w' => e = .returned (.tuple #[.int .i64 (feeV a v m), .bool (okp a (feeR v m))]) ∧ Below w.heap.size w w' := by
  have hB := bel_refl w
  have c1 := Lib.hid (refDown_any a (feeR v true) ha (feeR_i64 v true))
  have c2 := Lib.hid (refUp_any a (feeR v false) ha (feeR_i64 v false))
  have c3 := Lib.hid (refRate_any (tierF v) m)
  have c4 := Lib.hid (refTier_any v)
  rw [show rateF (tierF v) m = feeR v m from rfl] at c3
  cases m
  · rw [show feeV a v false = upv a (feeR v false) from rfl]
    generalize feeR v false = r at *
    generalize feeR v true = r2 at *
    generalize tierF v = z at *
    generalize upv a r = x at *
    generalize okp a r = k at *
    go_enter Tryd.func10, Tryd.ntmps10
    go_wp2_with fail
    refine (c4.out _).mono ?_
    rintro e w1 ⟨rfl, rfl⟩
    go_wp2_with fail
    refine (c3.out _).mono ?_
    rintro e w2 ⟨rfl, hb⟩
    replace hB := bel_call hb hB
    clear hb
    go_wp2_with fail
    refine (c2.out _).mono ?_
    rintro e w3 ⟨rfl, hb⟩
    replace hB := bel_call hb hB
    clear hb
    go_wp2_with fail
    go_ret2
    exact ⟨rfl, hB⟩
  · rw [show feeV a v true = dnv a (feeR v true) from rfl]
    generalize feeR v true = r at *
    generalize feeR v false = r2 at *
    generalize tierF v = z at *
    generalize dnv a r = x at *
    generalize okp a r = k at *
    go_enter Tryd.func10, Tryd.ntmps10
    go_wp2_with fail
    refine (c4.out _).mono ?_
    rintro e w1 ⟨rfl, rfl⟩
    go_wp2_with fail
    refine (c3.out _).mono ?_
    rintro e w2 ⟨rfl, hb⟩
    replace hB := bel_call hb hB
    clear hb
    go_wp2_with fail
    refine (c1.out _).mono ?_
    rintro e w3 ⟨rfl, hb⟩
    replace hB := bel_call hb hB
    clear hb
    go_wp2_with fail
    go_ret2
    exact ⟨rfl, hB⟩
theorem most_any (a : Int) (ha : I64 a) (w : World) :
    Calls Tryd.prog 11 #[.int .i64 a] w fun e w' => e = .returned (.tuple #[.int .i64 (upv a 20), .bool (okp a 20)]) ∧ Below w.heap.size w w' := by
  have hB := bel_refl w
  have c1 := Lib.hid (up_any a 20 ha (i64_lit _ (by omega)))
  generalize upv a 20 = x at *
  generalize okp a 20 = k at *
  go_enter Tryd.func11, Tryd.ntmps11
  go_wp2_with fail
  refine (c1.out _).mono ?_
  rintro e w3 ⟨rfl, hb⟩
  replace hB := bel_call hb hB
  clear hb
  go_wp2_with fail
  go_ret2
  exact ⟨rfl, hB⟩
theorem refMost_any (a : Int) (ha : I64 a) (w : World) :
    Calls Tryd.prog 12 #[.int .i64 a] w fun e w' => e = .returned (.tuple #[.int .i64 (upv a 20), .bool (okp a 20)]) ∧ Below w.heap.size w w' := by
  have hB := bel_refl w
  have c1 := Lib.hid (refUp_any a 20 ha (i64_lit _ (by omega)))
  generalize upv a 20 = x at *
  generalize okp a 20 = k at *
  go_enter Tryd.func12, Tryd.ntmps12
  go_wp2_with fail
  refine (c1.out _).mono ?_
  rintro e w3 ⟨rfl, hb⟩
  replace hB := bel_call hb hB
  clear hb
  go_wp2_with fail
  go_ret2
  exact ⟨rfl, hB⟩
/-! what is held -/
def HoldOk (p q : Int) : Prop := 1 ≤ p ∧ p ≤ 1073741824 ∧ 0 ≤ q ∧ q ≤ 1073741824
instance (p q : Int) : Decidable (HoldOk p q) := by unfold HoldOk; exact inferInstance
def holdV (p q : Int) : Int := if HoldOk p q then p * q + upv (p * q) 20 else 0
def holdOk (p q : Int) : Bool := decide (HoldOk p q)
theorem hold_ways (p q : Int) : (HoldOk p q ∧ decide (p < 1) = false ∧ decide (1073741824 < p) = false ∧ decide (q < 0) = false ∧ decide (1073741824 < q) = false) ∨
    (¬ HoldOk p q ∧ (decide (p < 1) = true ∨ (decide (p < 1) = false ∧ decide (1073741824 < p) = true) ∨ (decide (p < 1) = false ∧ decide (1073741824 < p) = false ∧ decide (q < 0) = true) ∨
      (decide (p < 1) = false ∧ decide (1073741824 < p) = false ∧ decide (q < 0) = false ∧ decide (1073741824 < q) = true))) := by
  unfold HoldOk
  simp only [decide_eq_true_eq, decide_eq_false_iff_not]
  omega
theorem hold_bd (p q : Int) (h : HoldOk p q) : 0 ≤ p * q ∧ p * q ≤ 1152921504606846976 := by
  obtain ⟨h1, h2, h3, h4⟩ := h
  have := Int.mul_nonneg (show (0 : Int) ≤ p by omega) h3
  have := Int.mul_le_mul h2 h4 h3 (by omega)
  omega
set_option maxHeartbeats 1000000 in
theorem hold_any (p q : Int) (hp : I64 p) (hq : I64 q) (w : World) :
    Calls Tryd.prog 17 #[.int .i64 p, .int .i64 q] w fun e w' => e = .returned (.tuple #[.int .i64 (holdV p q), .bool (holdOk p q)]) ∧ Below w.heap.size w w' := by
  have hB := bel_refl w
  rcases hold_ways p q with ⟨h, d1, d2, d3, d4⟩ | ⟨h, hw⟩
  · have hb := hold_bd p q h
    have hu := upv_bd (p * q) 20
    rw [show holdOk p q = true by simp [holdOk, h], show holdV p q = p * q + upv (p * q) 20 by simp [holdV, h]]
    have c1 := Lib.hid (mul_any p q hp hq)
    rw [cutv_yes (by omega), fits_yes (by omega)] at c1
    have c2 := Lib.hid (most_any (p * q) (i64_lit _ (by omega)))
    rw [show okp (p * q) 20 = true by unfold okp; simp; omega] at c2
    have c3 := Lib.hid (add_any (p * q) (upv (p * q) 20) (i64_lit _ (by omega)) (i64_lit _ (by omega)))
    rw [cutv_yes (by omega), fits_yes (by omega)] at c3
    have e0 : decide (1152921504606846976 < p * q) = false := by simp; omega
    generalize upv (p * q) 20 = u at *
    generalize p * q = m at *
    obtain ⟨s, hs⟩ : ∃ s, m + u = s := ⟨_, rfl⟩
    rw [hs] at c3 ⊢
    clear hs hb hu h
    go_enter Tryd.func17, Tryd.ntmps17
    go_wp2_with fail
    refine (c1.out _).mono ?_
    rintro e w1 ⟨rfl, hb⟩
    replace hB := bel_call hb hB
    clear hb
    go_wp2_with fail
    refine (c2.out _).mono ?_
    rintro e w1 ⟨rfl, hb⟩
    replace hB := bel_call hb hB
    clear hb
    go_wp2_with fail
    refine (c3.out _).mono ?_
    rintro e w1 ⟨rfl, rfl⟩
    go_wp2_with fail
    go_ret2
    exact ⟨rfl, hB⟩
  · rw [show holdOk p q = false by simp [holdOk, h], show holdV p q = 0 by simp [holdV, h]]
    clear h hp hq
    go_enter Tryd.func17, Tryd.ntmps17
    rcases hw with d1 | ⟨d1, d2⟩ | ⟨d1, d2, d3⟩ | ⟨d1, d2, d3, d4⟩
    all_goals
      go_wp2_with fail
      go_ret2
      exact ⟨rfl, hB⟩
set_option maxHeartbeats 1000000 in
theorem refHold_any (p q : Int) (hp : I64 p) (hq : I64 q) (w : World) :
    Calls Tryd.prog 18 #[.int .i64 p, .int .i64 q] w fun e w' => e = .returned (.tuple #[.int .i64 (holdV p q), .bool (holdOk p q)]) ∧ Below w.heap.size w w' := by
  have hB := bel_refl w
  rcases hold_ways p q with ⟨h, d1, d2, d3, d4⟩ | ⟨h, hw⟩
  · have hb := hold_bd p q h
    have hu := upv_bd (p * q) 20
    rw [show holdOk p q = true by simp [holdOk, h], show holdV p q = p * q + upv (p * q) 20 by simp [holdV, h]]
    have c2 := Lib.hid (refMost_any (p * q) (i64_lit _ (by omega)))
    rw [show okp (p * q) 20 = true by unfold okp; simp; omega] at c2
    obtain ⟨u, hu'⟩ : ∃ u, upv (p * q) 20 = u := ⟨_, rfl⟩
    obtain ⟨m, hm⟩ : ∃ m, p * q = m := ⟨_, rfl⟩
    rw [hu'] at c2 hu ⊢
    rw [hm] at c2 hb ⊢
    have e1 : IntKind.i64.wrap m = m := IntWalk.i64_in _ (by omega)
    obtain ⟨s, hs⟩ : ∃ s, m + u = s := ⟨_, rfl⟩
    have e2 : IntKind.i64.wrap s = s := IntWalk.i64_in _ (by omega)
    rw [hs]
    clear hb hu h hu'
    go_enter Tryd.func18, Tryd.ntmps18
    go_wp2_with fail
    refine (c2.out _).mono ?_
    rintro e w1 ⟨rfl, hb⟩
    replace hB := bel_call hb hB
    clear hb
    go_wp2_with fail
    go_ret2
    exact ⟨rfl, hB⟩
  · rw [show holdOk p q = false by simp [holdOk, h], show holdV p q = 0 by simp [holdV, h]]
    clear h hp hq
    go_enter Tryd.func18, Tryd.ntmps18
    rcases hw with d1 | ⟨d1, d2⟩ | ⟨d1, d2, d3⟩ | ⟨d1, d2, d3, d4⟩
    all_goals
      go_wp2_with fail
      go_ret2
      exact ⟨rfl, hB⟩
end Go.Proofs.YtaddhfehjapoiaaDoor
