/-
  Contracts of package fees and of agioref18.
-/
import Derived.Test.YtaddhfehjapoiaaDoorNumB
import Derived.Test.YtaddhfehjapoiaaDoorLaid
namespace Go.Proofs.YtaddhfehjapoiaaDoor
open Go.RowKit
set_option linter.unusedSimpArgs false
set_option linter.unusedVariables false
/-- the tier of a volume, by the first k rows. -/
def tierK (v : Int) (k : Nat) : Int := if 4 ≤ k ∧ 10000000000 ≤ v then 3 else if 3 ≤ k ∧ 100000000 ≤ v then 2 else if 2 ≤ k ∧ 1000000 ≤ v then 1 else 0
def tierF (v : Int) : Int := if 10000000000 ≤ v then 3 else if 100000000 ≤ v then 2 else if 1000000 ≤ v then 1 else 0
theorem tierK_four (v : Int) : tierK v 4 = tierF v := by unfold tierK tierF; simp
theorem tierK_one (v : Int) : tierK v 1 = 0 := by unfold tierK; simp
def rateF (t : Int) (maker : Bool) : Int := if maker then (if t ≤ 0 then 10 else if t = 1 then 8 else if t = 2 then 5 else 0) else (if t ≤ 0 then 20 else if t = 1 then 18 else if t = 2 then 15 else 10)
theorem tier_any (v : Int) (w : World) (hT : TiersAt w) : Calls Tryd.prog 13 #[.int .i64 v] w fun e w' => e = .returned (.int .i64 (tierF v)) ∧ w = w' := by
  have t3 := hT 3 (by decide); have t6 := hT 6 (by decide); have t9 := hT 9 (by decide)
  rw [show tierAt 3 = 1000000 from rfl] at t3
  rw [show tierAt 6 = 100000000 from rfl] at t6
  rw [show tierAt 9 = 10000000000 from rfl] at t9
  clear hT
  go_enter Tryd.func13, Tryd.ntmps13
  go_wp2_with fail
  go_loop [3, 4] (fun t i => (t = .int .i64 (tierK v 1) ∧ i = .int .i64 1) ∨ (t = .int .i64 (tierK v 2) ∧ i = .int .i64 2) ∨ (t = .int .i64 (tierK v 3) ∧ i = .int .i64 3) ∨ (t = .int .i64 (tierK v 4) ∧ i = .int .i64 4)) (fun _ i => 4 - (intOf i).toNat)
  case atStart => exact Or.inl ⟨by rw [tierK_one], rfl⟩
  case round =>
   rcases hrel with ⟨rfl, rfl⟩ | ⟨rfl, rfl⟩ | ⟨rfl, rfl⟩ | ⟨rfl, rfl⟩
   ·
    by_cases hv : 1000000 ≤ v
    · have e0 : decide (1000000 ≤ v) = true := decide_eq_true hv
      have ek : tierK v 2 = 1 := by unfold tierK; simp; omega
      clear hv
      go_wp2_with fail
      go_round
      case rel => exact Or.inr (Or.inl ⟨by rw [ek], rfl⟩)
      case measure => simp [intOf]
    · have e0 : decide (1000000 ≤ v) = false := decide_eq_false hv
      have ek : tierK v 2 = tierK v 1 := by unfold tierK; simp; omega
      clear hv
      generalize tierK v 1 = t at *
      go_wp2_with fail
      go_round
      case rel => exact Or.inr (Or.inl ⟨by rw [ek], rfl⟩)
      case measure => simp [intOf]
   ·
    by_cases hv : 100000000 ≤ v
    · have e0 : decide (100000000 ≤ v) = true := decide_eq_true hv
      have ek : tierK v 3 = 2 := by unfold tierK; simp; omega
      clear hv
      go_wp2_with fail
      go_round
      case rel => exact Or.inr (Or.inr (Or.inl ⟨by rw [ek], rfl⟩))
      case measure => simp [intOf]
    · have e0 : decide (100000000 ≤ v) = false := decide_eq_false hv
      have ek : tierK v 3 = tierK v 2 := by unfold tierK; simp; omega
      clear hv
      generalize tierK v 2 = t at *
      go_wp2_with fail
      go_round
      case rel => exact Or.inr (Or.inr (Or.inl ⟨by rw [ek], rfl⟩))
      case measure => simp [intOf]
   ·
    by_cases hv : 10000000000 ≤ v
    · have e0 : decide (10000000000 ≤ v) = true := decide_eq_true hv
      have ek : tierK v 4 = 3 := by unfold tierK; simp; omega
      clear hv
      go_wp2_with fail
      go_round
      case rel => exact Or.inr (Or.inr (Or.inr ( ⟨by rw [ek], rfl⟩)))
      case measure => simp [intOf]
    · have e0 : decide (10000000000 ≤ v) = false := decide_eq_false hv
      have ek : tierK v 4 = tierK v 3 := by unfold tierK; simp; omega
      clear hv
      generalize tierK v 3 = t at *
      go_wp2_with fail
      go_round
      case rel => exact Or.inr (Or.inr (Or.inr ( ⟨by rw [ek], rfl⟩)))
      case measure => simp [intOf]
   ·
    rw [tierK_four]
    go_wp2_with fail
    go_ret
    exact ⟨rfl, rfl⟩

theorem rateF_bd (t : Int) (m : Bool) : 0 ≤ rateF t m ∧ rateF t m ≤ 20 := by unfold rateF; split <;> (repeat' split) <;> omega
set_option maxHeartbeats 1000000 in
theorem rate_any (t : Int) (maker : Bool) (w : World) (hT : TiersAt w) : Calls Tryd.prog 15 #[.int .i64 t, .bool maker] w fun e w' => e = .returned (.int .i64 (rateF t maker)) ∧ Below w.heap.size w w' := by
  have hB := bel_refl w
  have hc : t ≤ 0 ∨ t = 1 ∨ t = 2 ∨ 3 ≤ t := by omega
  rcases hc with hc | hc | hc | hc
  · have k1 : max 0 (min t 3) = 0 := by omega
    have k2 : max (min t 3) 0 = 0 := by omega
    have v1 : rateF t true = 10 := by unfold rateF; simp; omega
    have v2 : rateF t false = 20 := by unfold rateF; simp; omega
    have c0 := hT 0 (by decide); have c1 := hT 1 (by decide); have c2 := hT 2 (by decide)
    rw [show tierAt 0 = 0 from rfl] at c0
    rw [show tierAt 1 = 10 from rfl] at c1
    rw [show tierAt 2 = 20 from rfl] at c2
    clear hT hc
    cases maker
    · rw [v2]
      clear v1 v2
      go_enter Tryd.func15, Tryd.ntmps15
      go_wp2_with fail
      go_ret
      exact ⟨rfl, bel_alloc hB _⟩
    · rw [v1]
      clear v1 v2
      go_enter Tryd.func15, Tryd.ntmps15
      go_wp2_with fail
      go_ret
      exact ⟨rfl, bel_alloc hB _⟩
  · have k1 : max 0 (min t 3) = 1 := by omega
    have k2 : max (min t 3) 0 = 1 := by omega
    have v1 : rateF t true = 8 := by unfold rateF; simp; omega
    have v2 : rateF t false = 18 := by unfold rateF; simp; omega
    have c0 := hT 3 (by decide); have c1 := hT 4 (by decide); have c2 := hT 5 (by decide)
    rw [show tierAt 3 = 1000000 from rfl] at c0
    rw [show tierAt 4 = 8 from rfl] at c1
    rw [show tierAt 5 = 18 from rfl] at c2
    clear hT hc
    cases maker
    · rw [v2]
      clear v1 v2
      go_enter Tryd.func15, Tryd.ntmps15
      go_wp2_with fail
      go_ret
      exact ⟨rfl, bel_alloc hB _⟩
    · rw [v1]
      clear v1 v2
      go_enter Tryd.func15, Tryd.ntmps15
      go_wp2_with fail
      go_ret
      exact ⟨rfl, bel_alloc hB _⟩
  · have k1 : max 0 (min t 3) = 2 := by omega
    have k2 : max (min t 3) 0 = 2 := by omega
    have v1 : rateF t true = 5 := by unfold rateF; simp; omega
    have v2 : rateF t false = 15 := by unfold rateF; simp; omega
    have c0 := hT 6 (by decide); have c1 := hT 7 (by decide); have c2 := hT 8 (by decide)
    rw [show tierAt 6 = 100000000 from rfl] at c0
    rw [show tierAt 7 = 5 from rfl] at c1
    rw [show tierAt 8 = 15 from rfl] at c2
    clear hT hc
    cases maker
    · rw [v2]
      clear v1 v2
      go_enter Tryd.func15, Tryd.ntmps15
      go_wp2_with fail
      go_ret
      exact ⟨rfl, bel_alloc hB _⟩
    · rw [v1]
      clear v1 v2
      go_enter Tryd.func15, Tryd.ntmps15
      go_wp2_with fail
      go_ret
      exact ⟨rfl, bel_alloc hB _⟩
  · have k1 : max 0 (min t 3) = 3 := by omega
    have k2 : max (min t 3) 0 = 3 := by omega
    have v1 : rateF t true = 0 := by unfold rateF; simp; omega
    have v2 : rateF t false = 10 := by unfold rateF; simp; omega
    have c0 := hT 9 (by decide); have c1 := hT 10 (by decide); have c2 := hT 11 (by decide)
    rw [show tierAt 9 = 10000000000 from rfl] at c0
    rw [show tierAt 10 = 0 from rfl] at c1
    rw [show tierAt 11 = 10 from rfl] at c2
    clear hT hc
    cases maker
    · rw [v2]
      clear v1 v2
      go_enter Tryd.func15, Tryd.ntmps15
      go_wp2_with fail
      go_ret
      exact ⟨rfl, bel_alloc hB _⟩
    · rw [v1]
      clear v1 v2
      go_enter Tryd.func15, Tryd.ntmps15
      go_wp2_with fail
      go_ret
      exact ⟨rfl, bel_alloc hB _⟩
set_option maxHeartbeats 1000000 in
theorem refTier_any (v : Int) (w : World) : Calls Tryd.prog 14 #[.int .i64 v] w fun e w' => e = .returned (.int .i64 (tierF v)) ∧ w = w' := by
  have hc : (10000000000 ≤ v ∧ tierF v = 3) ∨ (¬ 10000000000 ≤ v ∧ 100000000 ≤ v ∧ tierF v = 2) ∨ (¬ 10000000000 ≤ v ∧ ¬ 100000000 ≤ v ∧ 1000000 ≤ v ∧ tierF v = 1) ∨ (¬ 10000000000 ≤ v ∧ ¬ 100000000 ≤ v ∧ ¬ 1000000 ≤ v ∧ tierF v = 0) := by unfold tierF; omega
  rcases hc with ⟨h1, e⟩ | ⟨h1, h2, e⟩ | ⟨h1, h2, h3, e⟩ | ⟨h1, h2, h3, e⟩
  · rw [e]
    clear e
    go_enter Tryd.func14, Tryd.ntmps14
    go_wp2_with fail
    go_ret
    exact ⟨rfl, rfl⟩
  · rw [e]
    clear e
    go_enter Tryd.func14, Tryd.ntmps14
    go_wp2_with fail
    go_ret
    exact ⟨rfl, rfl⟩
  · rw [e]
    clear e
    go_enter Tryd.func14, Tryd.ntmps14
    go_wp2_with fail
    go_ret
    exact ⟨rfl, rfl⟩
  · rw [e]
    clear e
    go_enter Tryd.func14, Tryd.ntmps14
    go_wp2_with fail
    go_ret
    exact ⟨rfl, rfl⟩
set_option maxHeartbeats 1000000 in
theorem refRate_any (t : Int) (maker : Bool) (w : World) : Calls Tryd.prog 16 #[.int .i64 t, .bool maker] w fun e w' => e = .returned (.int .i64 (rateF t maker)) ∧ Below w.heap.size w w' := by
  have hB := bel_refl w
  have hc : (decide (t ≤ 0) = true ∧ rateF t true = 10 ∧ rateF t false = 20) ∨ (decide (t ≤ 0) = false ∧ (t == 1) = true ∧ rateF t true = 8 ∧ rateF t false = 18) ∨ (decide (t ≤ 0) = false ∧ (t == 1) = false ∧ (t == 2) = true ∧ rateF t true = 5 ∧ rateF t false = 15) ∨
      (decide (t ≤ 0) = false ∧ (t == 1) = false ∧ (t == 2) = false ∧ rateF t true = 0 ∧ rateF t false = 10) := by
    unfold rateF
    simp
    omega
  rcases hc with ⟨h1, e1, e2⟩ | ⟨h1, h2, e1, e2⟩ | ⟨h1, h2, h3, e1, e2⟩ | ⟨h1, h2, h3, e1, e2⟩
  · cases maker
    · rw [e2]
      clear e1 e2
      go_enter Tryd.func16, Tryd.ntmps16
      go_wp2_with fail
      go_ret
      exact ⟨rfl, hB⟩
    · rw [e1]
      clear e1 e2
      go_enter Tryd.func16, Tryd.ntmps16
      go_wp2_with fail
      go_ret
      exact ⟨rfl, hB⟩
  · cases maker
    · rw [e2]
      clear e1 e2
      go_enter Tryd.func16, Tryd.ntmps16
      go_wp2_with fail
      go_ret
      exact ⟨rfl, hB⟩
    · rw [e1]
      clear e1 e2
      go_enter Tryd.func16, Tryd.ntmps16
      go_wp2_with fail
      go_ret
      exact ⟨rfl, hB⟩
  · cases maker
    · rw [e2]
      clear e1 e2
      go_enter Tryd.func16, Tryd.ntmps16
      go_wp2_with fail
      go_ret
      exact ⟨rfl, hB⟩
    · rw [e1]
      clear e1 e2
      go_enter Tryd.func16, Tryd.ntmps16
      go_wp2_with fail
      go_ret
      exact ⟨rfl, hB⟩
  · cases maker
    · rw [e2]
      clear e1 e2
      go_enter Tryd.func16, Tryd.ntmps16
      go_wp2_with fail
      go_ret
      exact ⟨rfl, hB⟩
    · rw [e1]
      clear e1 e2
      go_enter Tryd.func16, Tryd.ntmps16
      go_wp2_with fail
      go_ret
      exact ⟨rfl, hB⟩
end Go.Proofs.YtaddhfehjapoiaaDoor
