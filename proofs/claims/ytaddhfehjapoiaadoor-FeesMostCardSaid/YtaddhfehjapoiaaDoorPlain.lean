/-
  Plain arithmetic under package num: sums, products in two words, parts of ten thousand. No program in sight.
-/
import Derived.Test.YtaddhfehjapoiaaDoorRows
namespace Go.Proofs.YtaddhfehjapoiaaDoor
set_option linter.unusedSimpArgs false
set_option linter.unusedVariables false
/-- does it fit into 64 bits with a sign? -/
def fits (z : Int) : Bool := decide (-9223372036854775808 ≤ z ∧ z ≤ 9223372036854775807)
/-- what fits, and else 0. -/
def cutv (z : Int) : Int := if -9223372036854775808 ≤ z ∧ z ≤ 9223372036854775807 then z else 0
/-- may there be such a part? -/
def okp (n k : Int) : Bool := decide (0 ≤ n ∧ n ≤ 1152921504606846976 ∧ 0 ≤ k ∧ k ≤ 10000)
def dnv (n k : Int) : Int := if 0 ≤ n ∧ n ≤ 1152921504606846976 ∧ 0 ≤ k ∧ k ≤ 10000 then n * k / 10000 else 0
def lfv (n k : Int) : Int := if 0 ≤ n ∧ n ≤ 1152921504606846976 ∧ 0 ≤ k ∧ k ≤ 10000 then n * k % 10000 else 0
def upv (n k : Int) : Int := if 0 ≤ n ∧ n ≤ 1152921504606846976 ∧ 0 ≤ k ∧ k ≤ 10000 then (n * k + 9999) / 10000 else 0

theorem cutv_bd (z : Int) : -9223372036854775808 ≤ cutv z ∧ cutv z ≤ 9223372036854775807 := by unfold cutv; split <;> omega
theorem fits_yes {z : Int} (h : -9223372036854775808 ≤ z ∧ z ≤ 9223372036854775807) : fits z = true := by simp [fits]; omega
theorem cutv_yes {z : Int} (h : -9223372036854775808 ≤ z ∧ z ≤ 9223372036854775807) : cutv z = z := by simp [cutv]; omega
theorem fits_no {z : Int} (h : ¬ (-9223372036854775808 ≤ z ∧ z ≤ 9223372036854775807)) : fits z = false := by simp [fits]; omega
theorem cutv_no {z : Int} (h : ¬ (-9223372036854775808 ≤ z ∧ z ≤ 9223372036854775807)) : cutv z = 0 := by simp [cutv]; omega
theorem prod_bd {n k : Int} (hn : 0 ≤ n) (hk : 0 ≤ k) : 0 ≤ n * k ∧ (k ≤ 10000 → n * k ≤ n * 10000) :=
  ⟨Int.mul_nonneg hn hk, fun h => Int.mul_le_mul_of_nonneg_left h hn⟩
theorem dnv_bd (n k : Int) : 0 ≤ dnv n k ∧ dnv n k ≤ 1152921504606846976 := by
  unfold dnv; split
  · rename_i h
    have := prod_bd h.1 h.2.2.1
    have := this.2 h.2.2.2
    omega
  · omega
theorem upv_bd (n k : Int) : 0 ≤ upv n k ∧ upv n k ≤ 1152921504606846976 := by
  unfold upv; split
  · rename_i h
    have := prod_bd h.1 h.2.2.1
    have := this.2 h.2.2.2
    omega
  · omega
theorem lfv_bd (n k : Int) : 0 ≤ lfv n k ∧ lfv n k < 10000 := by unfold lfv; split <;> omega
theorem upv_lf (n k : Int) : upv n k = if 0 < lfv n k then dnv n k + 1 else dnv n k := by
  unfold upv lfv dnv
  split
  · split <;> omega
  · simp
/-- the document's way to a part is the part. -/
theorem part_split (n k : Int) : n / 10000 * k + n % 10000 * k / 10000 = n * k / 10000 := by
  have h : n * k = n % 10000 * k + n / 10000 * k * 10000 := by
    conv => lhs; rw [← Int.mul_ediv_add_emod n 10000]
    rw [Int.add_mul, Int.mul_assoc, Int.mul_comm 10000]
    omega
  rw [h, Int.add_mul_ediv_right _ _ (by decide)]
  omega
theorem part_left (n k : Int) : n % 10000 * k % 10000 = n * k % 10000 := by
  have h : n * k = n % 10000 * k + n / 10000 * k * 10000 := by
    conv => lhs; rw [← Int.mul_ediv_add_emod n 10000]
    rw [Int.add_mul, Int.mul_assoc, Int.mul_comm 10000]
    omega
  rw [h, Int.add_mul_emod_self_right]
theorem part_bits (n k : Int) (hn : 0 ≤ n ∧ n ≤ 1152921504606846976) (hk : 0 ≤ k ∧ k ≤ 10000) :
    0 ≤ n / 10000 * k ∧ n / 10000 * k ≤ 1152921504606846976 ∧ 0 ≤ n % 10000 * k ∧ n % 10000 * k ≤ 100000000 := by
  have a := prod_bd (n := n / 10000) (k := k) (by omega) hk.1
  have b := prod_bd (n := n % 10000) (k := k) (by omega) hk.1
  have a' := a.2 hk.2; have b' := b.2 hk.2
  omega
/-- the product of words with signs, out of the one of words without. -/
theorem prod_words (a b : Int) (ha : -9223372036854775808 ≤ a ∧ a ≤ 9223372036854775807) (hb : -9223372036854775808 ≤ b ∧ b ≤ 9223372036854775807) :
    (a % 18446744073709551616) * (b % 18446744073709551616) % 18446744073709551616 = a * b % 18446744073709551616 ∧
    ((a % 18446744073709551616) * (b % 18446744073709551616) / 18446744073709551616 - (if a < 0 then b % 18446744073709551616 else 0) - (if b < 0 then a % 18446744073709551616 else 0)) % 18446744073709551616 = a * b / 18446744073709551616 % 18446744073709551616 := by
  refine ⟨(Int.mul_emod a b _).symm, ?_⟩
  obtain ⟨p, hp⟩ : ∃ p, a * b = p := ⟨_, rfl⟩
  by_cases h1 : a < 0 <;> by_cases h2 : b < 0 <;> simp only [h1, h2, if_true, if_false]
  · have ea : a % 18446744073709551616 = a + 18446744073709551616 := by omega
    have eb : b % 18446744073709551616 = b + 18446744073709551616 := by omega
    rw [ea, eb, Int.add_mul, Int.mul_add, hp]; omega
  · have ea : a % 18446744073709551616 = a + 18446744073709551616 := by omega
    have eb : b % 18446744073709551616 = b := by omega
    rw [ea, eb, Int.add_mul, hp]; omega
  · have ea : a % 18446744073709551616 = a := by omega
    have eb : b % 18446744073709551616 = b + 18446744073709551616 := by omega
    rw [ea, eb, Int.mul_add, hp]; omega
  · have ea : a % 18446744073709551616 = a := by omega
    have eb : b % 18446744073709551616 = b := by omega
    rw [ea, eb, hp]; omega
theorem prod_big (a b : Int) (ha : -9223372036854775808 ≤ a ∧ a ≤ 9223372036854775807) (hb : -9223372036854775808 ≤ b ∧ b ≤ 9223372036854775807) :
    -85070591730234615865843651857942052864 ≤ a * b ∧ a * b ≤ 85070591730234615865843651857942052864 := by
  have h : (a * b).natAbs ≤ 85070591730234615865843651857942052864 := by
    rw [Int.natAbs_mul]
    exact Nat.mul_le_mul (show a.natAbs ≤ 9223372036854775808 by omega) (show b.natAbs ≤ 9223372036854775808 by omega)
  omega
end Go.Proofs.YtaddhfehjapoiaaDoor
