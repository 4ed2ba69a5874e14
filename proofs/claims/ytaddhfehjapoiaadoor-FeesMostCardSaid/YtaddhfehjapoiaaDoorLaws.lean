/-
  The walks of the laws over fees.
-/
import Derived.Test.YtaddhfehjapoiaaDoorHold
namespace Go.Proofs.YtaddhfehjapoiaaDoor
open Go.RowKit
set_option linter.unusedSimpArgs false
set_option linter.unusedVariables false
set_option maxHeartbeats 1000000 in
theorem awake_any (w : World) (hT : TiersAt w) : Calls Tryd.prog 8 #[] w fun e w' => e = .returned (.bool true) ∧ Below w.heap.size w w' := by
  have hB := bel_refl w
  have c1 := Lib.hid (fee_any 10001 0 false (i64_lit _ (by omega)))
  have c2 := Lib.hid (fee_any 10001 0 true (i64_lit _ (by omega)))
  have c3 := Lib.hid (hold_any 100 100 (i64_lit _ (by omega)) (i64_lit _ (by omega)))
  have c4 := Lib.hid (tier_any 1000000)
  rw [show feeV 10001 0 false = 21 from rfl, show okp 10001 (feeR 0 false) = true from rfl] at c1
  rw [show feeV 10001 0 true = 10 from rfl, show okp 10001 (feeR 0 true) = true from rfl] at c2
  rw [show holdV 100 100 = 10020 by decide +kernel, show holdOk 100 100 = true by decide +kernel] at c3
  rw [show tierF 1000000 = 1 from rfl] at c4
  go_enter Tryd.func8, Tryd.ntmps8
  go_wp2_with fail
  refine (c1.out _ hT).mono ?_
  rintro e w1 ⟨rfl, hb⟩
  replace hB := bel_call hb hB
  replace hT := hT.bel hb
  clear hb
  go_wp2_with fail
  refine (c2.out _ hT).mono ?_
  rintro e w2 ⟨rfl, hb⟩
  replace hB := bel_call hb hB
  replace hT := hT.bel hb
  clear hb
  go_wp2_with fail
  refine (c3.out _).mono ?_
  rintro e w3 ⟨rfl, hb⟩
  replace hB := bel_call hb hB
  replace hT := hT.bel hb
  clear hb
  go_wp2_with fail
  refine (c4.out _ hT).mono ?_
  rintro e w4 ⟨rfl, rfl⟩
  go_wp2_with fail
  go_ret
  exact ⟨rfl, hB⟩
set_option maxHeartbeats 2000000 in
theorem all_walk (a v t : Int) (w : World) (g0 : (Lit.int .i64 a).wf = true) (g1 : (Lit.int .i64 v).wf = true) (g2 : (Lit.int .i64 t).wf = true) (hT : TiersAt w) :
    Calls Tryd.prog 3 #[.int .i64 a, .int .i64 v, .int .i64 t] w fun e w' => e = .returned (.bool true) ∧ Below w.heap.size w w' := by
  have hB := bel_refl w
  have ha : I64 a := bounds_i64 g0
  clear g0 g1 g2
  obtain ⟨m, hm⟩ : ∃ m, decide (0 < t) = m := ⟨_, rfl⟩
  have c1 := Lib.hid (fee_any a v m ha)
  have c2 := Lib.hid (refFee_any a v m ha)
  have c3 := Lib.hid (most_any a ha)
  have c4 := Lib.hid (refMost_any a ha)
  have c5 := Lib.hid (tier_any v)
  have c6 := Lib.hid (refTier_any v)
  have c7 := Lib.hid (rate_any t true)
  have c8 := Lib.hid (refRate_any t true)
  have c9 := Lib.hid (rate_any t false)
  have c10 := Lib.hid (refRate_any t false)
  generalize feeV a v m = x1 at *
  generalize okp a (feeR v m) = k1 at *
  generalize upv a 20 = x2 at *
  generalize okp a 20 = k2 at *
  generalize tierF v = x3 at *
  generalize rateF t true = x4 at *
  generalize rateF t false = x5 at *
  go_enter Tryd.func3, Tryd.ntmps3
  go_wp2_with fail
  refine (awake_any _ hT).mono ?_
  rintro e w1 ⟨rfl, hb⟩
  replace hB := bel_call hb hB
  replace hT := hT.bel hb
  clear hb
  go_wp2_with fail
  refine (c1.out _ hT).mono ?_
  rintro e w2 ⟨rfl, hb⟩
  replace hB := bel_call hb hB
  replace hT := hT.bel hb
  clear hb
  go_wp2_with fail
  refine (c2.out _).mono ?_
  rintro e w3 ⟨rfl, hb⟩
  replace hB := bel_call hb hB
  replace hT := hT.bel hb
  clear hb
  go_wp2_with fail
  refine (c3.out _).mono ?_
  rintro e w4 ⟨rfl, hb⟩
  replace hB := bel_call hb hB
  replace hT := hT.bel hb
  clear hb
  go_wp2_with fail
  refine (c4.out _).mono ?_
  rintro e w5 ⟨rfl, hb⟩
  replace hB := bel_call hb hB
  replace hT := hT.bel hb
  clear hb
  cases k1 <;> cases k2
  all_goals
    go_wp2_with fail
    refine (c5.out _ hT).mono ?_
    rintro e w6 ⟨rfl, rfl⟩
    go_wp2_with fail
    refine (c6.out _).mono ?_
    rintro e w7 ⟨rfl, rfl⟩
    go_wp2_with fail
    refine (c7.out _ hT).mono ?_
    rintro e w8 ⟨rfl, hb⟩
    replace hB := bel_call hb hB
    replace hT := hT.bel hb
    clear hb
    go_wp2_with fail
    refine (c8.out _).mono ?_
    rintro e w9 ⟨rfl, hb⟩
    replace hB := bel_call hb hB
    replace hT := hT.bel hb
    clear hb
    go_wp2_with fail
    refine (c9.out _ hT).mono ?_
    rintro e w10 ⟨rfl, hb⟩
    replace hB := bel_call hb hB
    replace hT := hT.bel hb
    clear hb
    go_wp2_with fail
    refine (c10.out _).mono ?_
    rintro e w11 ⟨rfl, hb⟩
    replace hB := bel_call hb hB
    replace hT := hT.bel hb
    clear hb
    go_wp2_with fail
    go_ret
    exact ⟨rfl, hB⟩
set_option maxHeartbeats 2000000 in
theorem holds_walk (p q : Int) (w : World) (g0 : (Lit.int .i64 p).wf = true) (g1 : (Lit.int .i64 q).wf = true) (hT : TiersAt w) :
    Calls Tryd.prog 4 #[.int .i64 p, .int .i64 q] w fun e w' => e = .returned (.bool true) ∧ Below w.heap.size w w' := by
  have hB := bel_refl w
  have hp : I64 p := bounds_i64 g0
  have hq : I64 q := bounds_i64 g1
  clear g0 g1
  have c1 := Lib.hid (hold_any p q hp hq)
  have c2 := Lib.hid (refHold_any p q hp hq)
  generalize holdV p q = x1 at *
  generalize holdOk p q = k1 at *
  go_enter Tryd.func4, Tryd.ntmps4
  go_wp2_with fail
  refine (awake_any _ hT).mono ?_
  rintro e w1 ⟨rfl, hb⟩
  replace hB := bel_call hb hB
  replace hT := hT.bel hb
  clear hb
  go_wp2_with fail
  refine (c1.out _).mono ?_
  rintro e w2 ⟨rfl, hb⟩
  replace hB := bel_call hb hB
  replace hT := hT.bel hb
  clear hb
  go_wp2_with fail
  refine (c2.out _).mono ?_
  rintro e w3 ⟨rfl, hb⟩
  replace hB := bel_call hb hB
  replace hT := hT.bel hb
  clear hb
  cases k1 <;>
  · go_wp2_with fail
    go_ret
    exact ⟨rfl, hB⟩
set_option maxHeartbeats 2000000 in
theorem tiers_walk (a b : Int) (w : World) (g0 : (Lit.int .i64 a).wf = true) (g1 : (Lit.int .i64 b).wf = true) (hT : TiersAt w) :
    Calls Tryd.prog 7 #[.int .i64 a, .int .i64 b] w fun e w' => e = .returned (.bool true) ∧ Below w.heap.size w w' := by
  have hB := bel_refl w
  clear g0 g1
  obtain ⟨p, hp⟩ : ∃ p, min a b = p := ⟨_, rfl⟩
  obtain ⟨q, hq⟩ : ∃ q, max a b = q := ⟨_, rfl⟩
  have law : tierF p ≤ tierF q ∧ 0 ≤ tierF p ∧ tierF q ≤ 3 := by
    have : p ≤ q := by omega
    unfold tierF
    omega
  have c1 := Lib.hid (tier_any p)
  have c2 := Lib.hid (tier_any q)
  have c3 := Lib.hid (tier_any 4611686018427387904)
  have c4 := Lib.hid (tier_any (-1))
  rw [show tierF 4611686018427387904 = 3 from rfl] at c3
  rw [show tierF (-1) = 0 from rfl] at c4
  generalize tierF p = x at *
  generalize tierF q = y at *
  have e1 : decide (x ≤ y) = true := decide_eq_true law.1
  have e2 : decide (0 ≤ x) = true := decide_eq_true law.2.1
  have e3 : decide (y ≤ 3) = true := decide_eq_true law.2.2
  clear law
  go_enter Tryd.func7, Tryd.ntmps7
  go_wp2_with fail
  refine (awake_any _ hT).mono ?_
  rintro e w1 ⟨rfl, hb⟩
  replace hB := bel_call hb hB
  replace hT := hT.bel hb
  clear hb
  go_wp2_with fail
  refine (c1.out _ hT).mono ?_
  rintro e w2 ⟨rfl, rfl⟩
  go_wp2_with fail
  refine (c2.out _ hT).mono ?_
  rintro e w3 ⟨rfl, rfl⟩
  go_wp2_with fail
  refine (c3.out _ hT).mono ?_
  rintro e w4 ⟨rfl, rfl⟩
  go_wp2_with fail
  refine (c4.out _ hT).mono ?_
  rintro e w5 ⟨rfl, rfl⟩
  go_wp2_with fail
  go_ret
  exact ⟨rfl, hB⟩
end Go.Proofs.YtaddhfehjapoiaaDoor
