/-
  Contracts: sums, differences, products, parts, and the document's.
-/
import Derived.Test.YtdjfhcbkfeopoaaNum
namespace Go.Proofs.Ytdjfhcbkfeopoaa
open Go.RowKit
set_option linter.unusedSimpArgs false
set_option linter.unusedVariables false
/-! sums and differences -/
set_option maxHeartbeats 1000000 in
theorem add_any (a b : Int) (ha : I64 a) (hb : I64 b) (w : World) :
    Calls Try.prog 14 #[.int .i64 a, .int .i64 b] w fun e w' => e = .returned (.tuple #[.int .i64 (cutv (a + b)), .bool (fits (a + b))]) ∧ w = w' := by
  unfold I64 at ha hb
  go_enter Try.func14, Try.ntmps14
  by_cases h0 : 0 ≤ b
  · have e0 : decide (0 ≤ b) = true := by simp; omega
    by_cases h1 : a + b ≤ 9223372036854775807
    · rw [cutv_yes (by omega), fits_yes (by omega)]
      have e1 : IntKind.i64.wrap (a + b) = a + b := IntWalk.i64_in _ (by omega)
      have e2 : decide (a ≤ a + b) = true := by simp; omega
      go_wp2
      go_ret2
      exact ⟨rfl, rfl⟩
    · rw [cutv_no (by omega), fits_no (by omega)]
      obtain ⟨v, hv⟩ : ∃ v, (a + b + 9223372036854775808) % 18446744073709551616 - 9223372036854775808 = v := ⟨_, rfl⟩
      have e1 : IntKind.i64.wrap (a + b) = v := by rw [IntKind.wrap_i64]; exact hv
      have e3 : wrap64 (a + b) = v := by unfold wrap64; exact hv
      have e2 : decide (a ≤ v) = false := by simp; omega
      clear hv
      go_wp2
      go_ret2
      exact ⟨rfl, rfl⟩
  · have e0 : decide (0 ≤ b) = false := by simp; omega
    by_cases h1 : -9223372036854775808 ≤ a + b
    · rw [cutv_yes (by omega), fits_yes (by omega)]
      have e1 : IntKind.i64.wrap (a + b) = a + b := IntWalk.i64_in _ (by omega)
      have e2 : decide (a ≤ a + b) = false := by simp; omega
      go_wp2
      go_ret2
      exact ⟨rfl, rfl⟩
    · rw [cutv_no (by omega), fits_no (by omega)]
      obtain ⟨v, hv⟩ : ∃ v, (a + b + 9223372036854775808) % 18446744073709551616 - 9223372036854775808 = v := ⟨_, rfl⟩
      have e1 : IntKind.i64.wrap (a + b) = v := by rw [IntKind.wrap_i64]; exact hv
      have e3 : wrap64 (a + b) = v := by unfold wrap64; exact hv
      have e2 : decide (a ≤ v) = true := by simp; omega
      clear hv
      go_wp2
      go_ret2
      exact ⟨rfl, rfl⟩
set_option maxHeartbeats 1000000 in
theorem sub_any (a b : Int) (ha : I64 a) (hb : I64 b) (w : World) :
    Calls Try.prog 15 #[.int .i64 a, .int .i64 b] w fun e w' => e = .returned (.tuple #[.int .i64 (cutv (a - b)), .bool (fits (a - b))]) ∧ w = w' := by
  unfold I64 at ha hb
  go_enter Try.func15, Try.ntmps15
  by_cases h0 : 0 ≤ b
  · have e0 : decide (0 ≤ b) = true := by simp; omega
    by_cases h1 : -9223372036854775808 ≤ a - b
    · rw [cutv_yes (by omega), fits_yes (by omega)]
      have e1 : IntKind.i64.wrap (a - b) = a - b := IntWalk.i64_in _ (by omega)
      have e2 : decide (a - b ≤ a) = true := by simp; omega
      go_wp2
      go_ret2
      exact ⟨rfl, rfl⟩
    · rw [cutv_no (by omega), fits_no (by omega)]
      obtain ⟨v, hv⟩ : ∃ v, (a - b + 9223372036854775808) % 18446744073709551616 - 9223372036854775808 = v := ⟨_, rfl⟩
      have e1 : IntKind.i64.wrap (a - b) = v := by rw [IntKind.wrap_i64]; exact hv
      have e3 : wrap64 (a - b) = v := by unfold wrap64; exact hv
      have e2 : decide (v ≤ a) = false := by simp; omega
      clear hv
      go_wp2
      go_ret2
      exact ⟨rfl, rfl⟩
  · have e0 : decide (0 ≤ b) = false := by simp; omega
    by_cases h1 : a - b ≤ 9223372036854775807
    · rw [cutv_yes (by omega), fits_yes (by omega)]
      have e1 : IntKind.i64.wrap (a - b) = a - b := IntWalk.i64_in _ (by omega)
      have e2 : decide (a - b ≤ a) = false := by simp; omega
      go_wp2
      go_ret2
      exact ⟨rfl, rfl⟩
    · rw [cutv_no (by omega), fits_no (by omega)]
      obtain ⟨v, hv⟩ : ∃ v, (a - b + 9223372036854775808) % 18446744073709551616 - 9223372036854775808 = v := ⟨_, rfl⟩
      have e1 : IntKind.i64.wrap (a - b) = v := by rw [IntKind.wrap_i64]; exact hv
      have e3 : wrap64 (a - b) = v := by unfold wrap64; exact hv
      have e2 : decide (v ≤ a) = true := by simp; omega
      clear hv
      go_wp2
      go_ret2
      exact ⟨rfl, rfl⟩

/-! the document's -/
set_option maxHeartbeats 1000000 in
theorem refAdd_any (a b : Int) (ha : I64 a) (hb : I64 b) (w : World) :
    Calls Try.prog 17 #[.int .i64 a, .int .i64 b] w fun e w' => e = .returned (.tuple #[.int .i64 (cutv (a + b)), .bool (fits (a + b))]) ∧ Below w.heap.size w w' := by
  have hB := bel_refl w
  unfold I64 at ha hb
  go_enter Try.func17, Try.ntmps17
  rcases Int.lt_trichotomy b 0 with hb0 | hb0 | hb0
  · have e0 : decide (0 < b) = false := by simp; omega
    have e1 : decide (b < 0) = true := by simp; omega
    have e2 : IntKind.i64.wrap (-9223372036854775808 - b) = -9223372036854775808 - b := IntWalk.i64_in _ (by omega)
    by_cases h : a < -9223372036854775808 - b
    · rw [cutv_no (by omega), fits_no (by omega)]
      have e3 : decide (a < -9223372036854775808 - b) = true := by simp; omega
      clear hb0 h
      go_wp2
      go_ret2
      exact ⟨rfl, hB⟩
    · rw [cutv_yes (by omega), fits_yes (by omega)]
      have e3 : decide (a < -9223372036854775808 - b) = false := by simp; omega
      have e4 : IntKind.i64.wrap (a + b) = a + b := IntWalk.i64_in _ (by omega)
      clear hb0 h
      go_wp2
      go_ret2
      exact ⟨rfl, hB⟩
  · subst hb0
    rw [cutv_yes (by omega), fits_yes (by omega)]
    have e4 : IntKind.i64.wrap (a + 0) = a + 0 := IntWalk.i64_in _ (by omega)
    go_wp2
    go_ret2
    exact ⟨by simp, hB⟩
  · have e0 : decide (0 < b) = true := by simp; omega
    have e1 : decide (b < 0) = false := by simp; omega
    have e2 : IntKind.i64.wrap (9223372036854775807 - b) = 9223372036854775807 - b := IntWalk.i64_in _ (by omega)
    by_cases h : 9223372036854775807 - b < a
    · rw [cutv_no (by omega), fits_no (by omega)]
      have e3 : decide (9223372036854775807 - b < a) = true := by simp; omega
      clear hb0 h
      go_wp2
      go_ret2
      exact ⟨rfl, hB⟩
    · rw [cutv_yes (by omega), fits_yes (by omega)]
      have e3 : decide (9223372036854775807 - b < a) = false := by simp; omega
      have e4 : IntKind.i64.wrap (a + b) = a + b := IntWalk.i64_in _ (by omega)
      clear hb0 h
      go_wp2
      go_ret2
      exact ⟨rfl, hB⟩
set_option maxHeartbeats 1000000 in
theorem refSub_any (a b : Int) (ha : I64 a) (hb : I64 b) (w : World) :
    Calls Try.prog 18 #[.int .i64 a, .int .i64 b] w fun e w' => e = .returned (.tuple #[.int .i64 (cutv (a - b)), .bool (fits (a - b))]) ∧ Below w.heap.size w w' := by
  have hB := bel_refl w
  unfold I64 at ha hb
  go_enter Try.func18, Try.ntmps18
  rcases Int.lt_trichotomy b 0 with hb0 | hb0 | hb0
  · have e0 : decide (0 < b) = false := by simp; omega
    have e1 : decide (b < 0) = true := by simp; omega
    have e2 : IntKind.i64.wrap (9223372036854775807 + b) = 9223372036854775807 + b := IntWalk.i64_in _ (by omega)
    by_cases h : 9223372036854775807 + b < a
    · rw [cutv_no (by omega), fits_no (by omega)]
      have e3 : decide (9223372036854775807 + b < a) = true := by simp; omega
      clear hb0 h
      go_wp2
      go_ret2
      exact ⟨rfl, hB⟩
    · rw [cutv_yes (by omega), fits_yes (by omega)]
      have e3 : decide (9223372036854775807 + b < a) = false := by simp; omega
      have e4 : IntKind.i64.wrap (a - b) = a - b := IntWalk.i64_in _ (by omega)
      clear hb0 h
      go_wp2
      go_ret2
      exact ⟨rfl, hB⟩
  · subst hb0
    rw [cutv_yes (by omega), fits_yes (by omega)]
    have e4 : IntKind.i64.wrap (a - 0) = a - 0 := IntWalk.i64_in _ (by omega)
    go_wp2
    go_ret2
    exact ⟨by simp, hB⟩
  · have e0 : decide (0 < b) = true := by simp; omega
    have e1 : decide (b < 0) = false := by simp; omega
    have e2 : IntKind.i64.wrap (-9223372036854775808 + b) = -9223372036854775808 + b := IntWalk.i64_in _ (by omega)
    by_cases h : a < -9223372036854775808 + b
    · rw [cutv_no (by omega), fits_no (by omega)]
      have e3 : decide (a < -9223372036854775808 + b) = true := by simp; omega
      clear hb0 h
      go_wp2
      go_ret2
      exact ⟨rfl, hB⟩
    · rw [cutv_yes (by omega), fits_yes (by omega)]
      have e3 : decide (a < -9223372036854775808 + b) = false := by simp; omega
      have e4 : IntKind.i64.wrap (a - b) = a - b := IntWalk.i64_in _ (by omega)
      clear hb0 h
      go_wp2
      go_ret2
      exact ⟨rfl, hB⟩

/-! products -/
theorem prod_fits (a b : Int) (ha : I64 a) (hb : I64 b) (n : Int) (hn : (a * b + 9223372036854775808) % 18446744073709551616 - 9223372036854775808 = n) :
    I64 n ∧ n % 18446744073709551616 = pLo a b ∧ (pHi a b = n / 9223372036854775808 % 18446744073709551616 ↔ a * b = n) := by
  have h := prod_big a b ha hb
  unfold pHi pLo I64
  generalize a * b = m at *
  refine ⟨by omega, by omega, ?_⟩
  constructor <;> intro h <;> omega
set_option maxHeartbeats 1000000 in
theorem mul_any (a b : Int) (ha : I64 a) (hb : I64 b) (w : World) :
    Calls Try.prog 16 #[.int .i64 a, .int .i64 b] w fun e w' => e = .returned (.tuple #[.int .i64 (cutv (a * b)), .bool (fits (a * b))]) ∧ Below w.heap.size w w' := by
  have hB := bel_refl w
  obtain ⟨n, hn⟩ : ∃ n, (a * b + 9223372036854775808) % 18446744073709551616 - 9223372036854775808 = n := ⟨_, rfl⟩
  obtain ⟨nb, nl, nh⟩ := prod_fits a b ha hb n hn
  have HB := Lib.hid (show 0 ≤ pHi a b ∧ pHi a b < 18446744073709551616 ∧ 0 ≤ pLo a b ∧ pLo a b < 18446744073709551616 by unfold pHi pLo; omega)
  obtain ⟨h, hh⟩ : ∃ h, pHi a b = h := ⟨_, rfl⟩
  obtain ⟨l, hl⟩ : ∃ l, pLo a b = l := ⟨_, rfl⟩
  have e1 : IntKind.i64.wrap l = n := by rw [IntKind.wrap_i64, ← hl]; unfold pLo; omega
  have e2 : IntKind.u64.wrap n = l := by rw [IntKind.wrap_u64]; omega
  have HN := Lib.hid hn
  have HP := Lib.hid (product_any a b ha hb)
  rw [hh, hl] at HP
  go_enter Try.func16, Try.ntmps16
  clear hn hl nl
  by_cases hy : a * b = n
  · have e3 : IntKind.u64.wrap (n / 9223372036854775808) = h := by rw [IntKind.wrap_u64, ← hh]; exact (nh.2 hy).symm
    rw [hy, cutv_yes nb, fits_yes nb]
    clear nh hy hh
    go_wp2_with fail
    refine (HP.out _).mono ?_
    rintro e w1 ⟨rfl, hb1⟩
    replace hB := bel_call hb1 hB
    clear hb1
    go_wp2_with fail
    go_ret2
    exact ⟨rfl, bel_alloc hB _⟩
  · have hne : ¬ (-9223372036854775808 ≤ a * b ∧ a * b ≤ 9223372036854775807) := by
      intro hc
      exact hy (by have := HN.out; omega)
    rw [cutv_no hne, fits_no hne]
    obtain ⟨g, hg⟩ : ∃ g, IntKind.u64.wrap (n / 9223372036854775808) = g := ⟨_, rfl⟩
    have e3 : (h == g) = false := by
      rw [IntKind.wrap_u64] at hg
      simp only [beq_eq_false_iff_ne, ne_eq]
      intro e
      exact hy (nh.1 (by rw [hh, hg, e]))
    have e4 : (h != g) = true := by simp only [bne, e3]; rfl
    clear nh hy hh hne
    go_wp2_with fail
    refine (HP.out _).mono ?_
    rintro e w1 ⟨rfl, hb1⟩
    replace hB := bel_call hb1 hB
    clear hb1
    go_wp2_with fail
    go_ret2
    exact ⟨rfl, bel_alloc hB _⟩
end Go.Proofs.Ytdjfhcbkfeopoaa
