/-
  Contracts: sums, differences, products, parts, and the document's.
-/
import Derived.Test.YtaddhfehjapoiaaDoorNumA
namespace Go.Proofs.YtaddhfehjapoiaaDoor
open Go.RowKit
set_option linter.unusedSimpArgs false
set_option linter.unusedVariables false
/-! sums and differences -/
set_option maxHeartbeats 1000000 in
theorem add_any (a b : Int) (ha : I64 a) (hb : I64 b) (w : World) :
    Calls Tryd.prog 24 #[.int .i64 a, .int .i64 b] w fun e w' => e = .returned (.tuple #[.int .i64 (cutv (a + b)), .bool (fits (a + b))]) ∧ w = w' := by
  unfold I64 at ha hb
  go_enter Tryd.func24, Tryd.ntmps24
  by_cases h0 : 0 ≤ b
  · have e0 : decide (0 ≤ b) = true := by simp; omega
    by_cases h1 : a + b ≤ 9223372036854775807
    · rw [cutv_yes (by omega), fits_yes (by omega)]
      have e1 : IntKind.i64.wrap (a + b) = a + b := IntWalk.i64_in _ (by omega)
      have e2 : decide (a ≤ a + b) = true := by simp; omega
      go_wp2
      go_ret2
      exact ⟨rfl, rfl⟩
    · rw [cutv_no (by omega), fits_no (by omega)]
      obtain ⟨v, hv⟩ : ∃ v, (a + b + 9223372036854775808) % 18446744073709551616 - 9223372036854775808 = v := ⟨_, rfl⟩
      have e1 : IntKind.i64.wrap (a + b) = v := by rw [IntKind.wrap_i64]; exact hv
      have e3 : wrap64 (a + b) = v := by unfold wrap64; exact hv
      have e2 : decide (a ≤ v) = false := by simp; omega
      clear hv
      go_wp2
      go_ret2
      exact ⟨rfl, rfl⟩
  · have e0 : decide (0 ≤ b) = false := by simp; omega
    by_cases h1 : -9223372036854775808 ≤ a + b
    · rw [cutv_yes (by omega), fits_yes (by omega)]
      have e1 : IntKind.i64.wrap (a + b) = a + b := IntWalk.i64_in _ (by omega)
      have e2 : decide (a ≤ a + b) = false := by simp; omega
      go_wp2
      go_ret2
      exact ⟨rfl, rfl⟩
    · rw [cutv_no (by omega), fits_no (by omega)]
      obtain ⟨v, hv⟩ : ∃ v, (a + b + 9223372036854775808) % 18446744073709551616 - 9223372036854775808 = v := ⟨_, rfl⟩
      have e1 : IntKind.i64.wrap (a + b) = v := by rw [IntKind.wrap_i64]; exact hv
      have e3 : wrap64 (a + b) = v := by unfold wrap64; exact hv
      have e2 : decide (a ≤ v) = true := by simp; omega
      clear hv
      go_wp2
      go_ret2
      exact ⟨rfl, rfl⟩
/-! the document's -/
/-! products -/
theorem prod_fits (a b : Int) (ha : I64 a) (hb : I64 b) (n : Int) (hn : (a * b + 9223372036854775808) % 18446744073709551616 - 9223372036854775808 = n) :
    I64 n ∧ n % 18446744073709551616 = pLo a b ∧ (pHi a b = n / 9223372036854775808 % 18446744073709551616 ↔ a * b = n) := by
  have h := prod_big a b ha hb
  unfold pHi pLo I64
  generalize a * b = m at *
  refine ⟨by omega, by omega, ?_⟩
  constructor <;> intro h <;> omega
set_option maxHeartbeats 1000000 in
theorem mul_any (a b : Int) (ha : I64 a) (hb : I64 b) (w : World) :
    Calls Tryd.prog 23 #[.int .i64 a, .int .i64 b] w fun e w' => e = .returned (.tuple #[.int .i64 (cutv (a * b)), .bool (fits (a * b))]) ∧ Below w.heap.size w w' := by
  have hB := bel_refl w
  obtain ⟨n, hn⟩ : ∃ n, (a * b + 9223372036854775808) % 18446744073709551616 - 9223372036854775808 = n := ⟨_, rfl⟩
  obtain ⟨nb, nl, nh⟩ := prod_fits a b ha hb n hn
  have HB := Lib.hid (show 0 ≤ pHi a b ∧ pHi a b < 18446744073709551616 ∧ 0 ≤ pLo a b ∧ pLo a b < 18446744073709551616 by unfold pHi pLo; omega)
  obtain ⟨h, hh⟩ : ∃ h, pHi a b = h := ⟨_, rfl⟩
  obtain ⟨l, hl⟩ : ∃ l, pLo a b = l := ⟨_, rfl⟩
  have e1 : IntKind.i64.wrap l = n := by rw [IntKind.wrap_i64, ← hl]; unfold pLo; omega
  have e2 : IntKind.u64.wrap n = l := by rw [IntKind.wrap_u64]; omega
  have HN := Lib.hid hn
  have HP := Lib.hid (product_any a b ha hb)
  rw [hh, hl] at HP
  go_enter Tryd.func23, Tryd.ntmps23
  clear hn hl nl
  by_cases hy : a * b = n
  · have e3 : IntKind.u64.wrap (n / 9223372036854775808) = h := by rw [IntKind.wrap_u64, ← hh]; exact (nh.2 hy).symm
    rw [hy, cutv_yes nb, fits_yes nb]
    clear nh hy hh
    go_wp2_with fail
    refine (HP.out _).mono ?_
    rintro e w1 ⟨rfl, hb1⟩
    replace hB := bel_call hb1 hB
    clear hb1
    go_wp2_with fail
    go_ret2
    exact ⟨rfl, bel_alloc hB _⟩
  · have hne : ¬ (-9223372036854775808 ≤ a * b ∧ a * b ≤ 9223372036854775807) := by
      intro hc
      exact hy (by have := HN.out; omega)
    rw [cutv_no hne, fits_no hne]
    obtain ⟨g, hg⟩ : ∃ g, IntKind.u64.wrap (n / 9223372036854775808) = g := ⟨_, rfl⟩
    have e3 : (h == g) = false := by
      rw [IntKind.wrap_u64] at hg
      simp only [beq_eq_false_iff_ne, ne_eq]
      intro e
      exact hy (nh.1 (by rw [hh, hg, e]))
    have e4 : (h != g) = true := by simp only [bne, e3]; rfl
    clear nh hy hh hne
    go_wp2_with fail
    refine (HP.out _).mono ?_
    rintro e w1 ⟨rfl, hb1⟩
    replace hB := bel_call hb1 hB
    clear hb1
    go_wp2_with fail
    go_ret2
    exact ⟨rfl, bel_alloc hB _⟩
/-! parts -/
theorem part_words (n k : Int) (hn : 0 ≤ n ∧ n ≤ 1152921504606846976) (hk : 0 ≤ k ∧ k ≤ 10000) :
    0 ≤ pHi n k ∧ pHi n k < 10000 ∧ 0 ≤ pLo n k ∧ pLo n k < 18446744073709551616 ∧ pHi n k * 18446744073709551616 + pLo n k = n * k ∧ okp n k = true ∧ dnv n k = n * k / 10000 ∧ lfv n k = n * k % 10000 := by
  have h := prod_bd (n := n) (k := k) hn.1 hk.1
  have h' := h.2 hk.2
  unfold pHi pLo okp dnv lfv
  rw [if_pos (by omega), if_pos (by omega)]
  generalize n * k = m at *
  refine ⟨by omega, by omega, by omega, by omega, by omega, by simp; omega, rfl, rfl⟩
theorem part_none (n k : Int) (h : ¬ (0 ≤ n ∧ n ≤ 1152921504606846976 ∧ 0 ≤ k ∧ k ≤ 10000)) : okp n k = false ∧ dnv n k = 0 ∧ lfv n k = 0 ∧ upv n k = 0 := by
  unfold okp dnv lfv upv
  rw [if_neg h, if_neg h, if_neg h]
  exact ⟨by simp only [decide_eq_false_iff_not]; exact h, rfl, rfl, rfl⟩
/-- the four ways in which the guard 'n < 0 || n > 2^60 || k < 0 || k > 10000' may go. -/
theorem part_ways (n k : Int) : (0 ≤ n ∧ n ≤ 1152921504606846976 ∧ 0 ≤ k ∧ k ≤ 10000 ∧ decide (n < 0) = false ∧ decide (1152921504606846976 < n) = false ∧ decide (k < 0) = false ∧ decide (10000 < k) = false) ∨
    (¬ (0 ≤ n ∧ n ≤ 1152921504606846976 ∧ 0 ≤ k ∧ k ≤ 10000) ∧ (decide (n < 0) = true ∨ (decide (n < 0) = false ∧ decide (1152921504606846976 < n) = true) ∨ (decide (n < 0) = false ∧ decide (1152921504606846976 < n) = false ∧ decide (k < 0) = true) ∨
      (decide (n < 0) = false ∧ decide (1152921504606846976 < n) = false ∧ decide (k < 0) = false ∧ decide (10000 < k) = true))) := by
  simp only [decide_eq_true_eq, decide_eq_false_iff_not]
  omega
set_option maxHeartbeats 1000000 in
theorem part_any (n k : Int) (hn : I64 n) (hk : I64 k) (w : World) :
    Calls Tryd.prog 25 #[.int .i64 n, .int .i64 k] w fun e w' => e = .returned (.tuple #[.int .i64 (dnv n k), .int .u64 (lfv n k), .bool (okp n k)]) ∧ Below w.heap.size w w' := by
  have hB := bel_refl w
  go_enter Tryd.func25, Tryd.ntmps25
  rcases part_ways n k with ⟨x1, x2, x3, x4, d1, d2, d3, d4⟩ | ⟨hno, hw⟩
  · obtain ⟨p1, p2, p3, p4, p5, p6, p7, p8⟩ := part_words n k ⟨x1, x2⟩ ⟨x3, x4⟩
    have HP := Lib.hid (product_any n k hn hk)
    have bd := dnv_bd n k
    have bl := lfv_bd n k
    have HD := Lib.hid (div64_any (pHi n k) (pLo n k) ⟨p1, p2⟩ ⟨p3, p4⟩)
    rw [p5, ← p7, ← p8] at HD
    rw [p6]
    generalize pHi n k = h at *
    generalize pLo n k = l at *
    generalize dnv n k = d at *
    generalize lfv n k = f at *
    clear x1 x2 x3 x4 p1 p2 p3 p4 p5 p6 p7 p8 hn hk
    have kd : IntKind.i64.wrap d = d := IntWalk.i64_in _ (by omega)
    go_wp2_with fail
    refine (HP.out _).mono ?_
    rintro e w1 ⟨rfl, hb1⟩
    replace hB := bel_call hb1 hB
    clear hb1
    go_wp2_with fail
    refine (HD.out _).mono ?_
    rintro e w2 ⟨rfl, hb2⟩
    replace hB := bel_call hb2 (bel_alloc hB _)
    clear hb2
    go_wp2_with fail
    go_ret3
    exact ⟨rfl, hB⟩
  · obtain ⟨z1, z2, z3, z4⟩ := part_none n k hno
    rw [z1, z2, z3]
    clear hno z1 z2 z3 z4
    rcases hw with d1 | ⟨d1, d2⟩ | ⟨d1, d2, d3⟩ | ⟨d1, d2, d3, d4⟩
    all_goals
      go_wp2
      go_ret3
      exact ⟨rfl, hB⟩
theorem okp_bits (n k : Int) : (okp n k = true ∧ 0 ≤ n ∧ n ≤ 1152921504606846976 ∧ 0 ≤ k ∧ k ≤ 10000) ∨ okp n k = false := by
  unfold okp
  by_cases h : 0 ≤ n ∧ n ≤ 1152921504606846976 ∧ 0 ≤ k ∧ k ≤ 10000
  · exact Or.inl ⟨by simpa using h, h⟩
  · exact Or.inr (by simp only [decide_eq_false_iff_not]; exact h)
theorem down_any (n k : Int) (hn : I64 n) (hk : I64 k) (w : World) :
    Calls Tryd.prog 19 #[.int .i64 n, .int .i64 k] w fun e w' => e = .returned (.tuple #[.int .i64 (dnv n k), .bool (okp n k)]) ∧ Below w.heap.size w w' := by
  have hB := bel_refl w
  go_enter Tryd.func19, Tryd.ntmps19
  go_wp2_with fail
  refine (part_any n k hn hk _).mono ?_
  rintro e w1 ⟨rfl, hb1⟩
  replace hB := bel_call hb1 hB
  clear hb1
  go_wp2_with fail
  go_ret2
  exact ⟨rfl, hB⟩
theorem up_any (n k : Int) (hn : I64 n) (hk : I64 k) (w : World) :
    Calls Tryd.prog 20 #[.int .i64 n, .int .i64 k] w fun e w' => e = .returned (.tuple #[.int .i64 (upv n k), .bool (okp n k)]) ∧ Below w.heap.size w w' := by
  have hB := bel_refl w
  have h1 := dnv_bd n k
  have h2 := upv_lf n k
  by_cases h : 0 < lfv n k
  · rw [if_pos h] at h2
    have e0 : decide (0 < lfv n k) = true := decide_eq_true h
    have e1 : IntKind.i64.wrap (dnv n k + 1) = upv n k := by rw [h2]; exact IntWalk.i64_in _ (by omega)
    have e2 : wrap64 (dnv n k + 1) = upv n k := by rw [h2]; unfold wrap64; omega
    clear h2 h h1
    have HP := Lib.hid (part_any n k hn hk)
    generalize dnv n k = d at *
    generalize upv n k = u at *
    generalize lfv n k = f at *
    go_enter Tryd.func20, Tryd.ntmps20
    go_wp2_with fail
    refine (HP.out _).mono ?_
    rintro e w1 ⟨rfl, hb1⟩
    replace hB := bel_call hb1 hB
    clear hb1
    go_wp2_with fail
    go_ret2
    exact ⟨rfl, hB⟩
  · rw [if_neg h] at h2
    have e0 : decide (0 < lfv n k) = false := decide_eq_false h
    rw [h2]
    clear h2 h h1
    have HP := Lib.hid (part_any n k hn hk)
    generalize dnv n k = d at *
    generalize lfv n k = f at *
    go_enter Tryd.func20, Tryd.ntmps20
    go_wp2_with fail
    refine (HP.out _).mono ?_
    rintro e w1 ⟨rfl, hb1⟩
    replace hB := bel_call hb1 hB
    clear hb1
    go_wp2_with fail
    go_ret2
    exact ⟨rfl, hB⟩
set_option maxHeartbeats 1000000 in
theorem refDown_any (n k : Int) (hn : I64 n) (hk : I64 k) (w : World) :
    Calls Tryd.prog 21 #[.int .i64 n, .int .i64 k] w fun e w' => e = .returned (.tuple #[.int .i64 (dnv n k), .bool (okp n k)]) ∧ Below w.heap.size w w' := by
  have hB := bel_refl w
  go_enter Tryd.func21, Tryd.ntmps21
  rcases part_ways n k with ⟨x1, x2, x3, x4, d1, d2, d3, d4⟩ | ⟨hno, hw⟩
  · obtain ⟨p1, p2, p3, p4, p5, p6, p7, p8⟩ := part_words n k ⟨x1, x2⟩ ⟨x3, x4⟩
    obtain ⟨b1, b2, b3, b4⟩ := part_bits n k ⟨x1, x2⟩ ⟨x3, x4⟩
    have hs := part_split n k
    have t1 : n.tdiv 10000 = n / 10000 := Int.tdiv_eq_ediv_of_nonneg x1
    have t2 : n.tmod 10000 = n % 10000 := Int.tmod_eq_emod_of_nonneg x1
    have t3 : (n % 10000 * k).tdiv 10000 = n % 10000 * k / 10000 := Int.tdiv_eq_ediv_of_nonneg b3
    have w1 : IntKind.i64.wrap (n / 10000) = n / 10000 := IntWalk.i64_in _ (by omega)
    have w2 : IntKind.i64.wrap (n % 10000) = n % 10000 := IntWalk.i64_in _ (by omega)
    have w3 : IntKind.i64.wrap (n / 10000 * k) = n / 10000 * k := IntWalk.i64_in _ (by omega)
    have w4 : IntKind.i64.wrap (n % 10000 * k) = n % 10000 * k := IntWalk.i64_in _ (by omega)
    have w5 : IntKind.i64.wrap (n % 10000 * k / 10000) = n % 10000 * k / 10000 := IntWalk.i64_in _ (by omega)
    have bd := dnv_bd n k
    rw [← p7] at hs
    have w6 : IntKind.i64.wrap (n / 10000 * k + n % 10000 * k / 10000) = dnv n k := by rw [hs]; exact IntWalk.i64_in _ (by omega)
    rw [p6]
    clear hs x1 x2 x3 x4 p1 p2 p3 p4 p5 p6 p7 p8 b1 b2 b3 b4 bd hn hk
    go_wp2
    go_ret2
    exact ⟨rfl, hB⟩
  · obtain ⟨z1, z2, z3, z4⟩ := part_none n k hno
    rw [z1, z2]
    clear hno z1 z2 z3 z4
    rcases hw with d1 | ⟨d1, d2⟩ | ⟨d1, d2, d3⟩ | ⟨d1, d2, d3, d4⟩
    all_goals
      go_wp2
      go_ret2
      exact ⟨rfl, hB⟩
set_option maxHeartbeats 1000000 in
theorem refUp_any (n k : Int) (hn : I64 n) (hk : I64 k) (w : World) :
    Calls Tryd.prog 22 #[.int .i64 n, .int .i64 k] w fun e w' => e = .returned (.tuple #[.int .i64 (upv n k), .bool (okp n k)]) ∧ Below w.heap.size w w' := by
  have hB := bel_refl w
  have HP := Lib.hid (refDown_any n k hn hk)
  rcases part_ways n k with ⟨x1, x2, x3, x4, d1, d2, d3, d4⟩ | ⟨hno, hw⟩
  · obtain ⟨p1, p2, p3, p4, p5, p6, p7, p8⟩ := part_words n k ⟨x1, x2⟩ ⟨x3, x4⟩
    obtain ⟨b1, b2, b3, b4⟩ := part_bits n k ⟨x1, x2⟩ ⟨x3, x4⟩
    have hs := part_left n k
    have hu := upv_lf n k
    have t2 : n.tmod 10000 = n % 10000 := Int.tmod_eq_emod_of_nonneg x1
    have t3 : (n % 10000 * k).tmod 10000 = lfv n k := by rw [Int.tmod_eq_emod_of_nonneg b3, hs, p8]
    have w2 : IntKind.i64.wrap (n % 10000) = n % 10000 := IntWalk.i64_in _ (by omega)
    have w4 : IntKind.i64.wrap (n % 10000 * k) = n % 10000 * k := IntWalk.i64_in _ (by omega)
    have bl := lfv_bd n k
    have w5 : IntKind.i64.wrap (lfv n k) = lfv n k := IntWalk.i64_in _ (by omega)
    have bd := dnv_bd n k
    have w6 : IntKind.i64.wrap (dnv n k + 1) = dnv n k + 1 := IntWalk.i64_in _ (by omega)
    rw [p6] at HP ⊢
    by_cases h : lfv n k = 0
    · rw [if_neg (by omega)] at hu
      rw [hu]
      have f0 : (lfv n k == 0) = true := by simp [h]
      have f1 : (lfv n k != 0) = false := by simp [h]
      clear hu h hs x1 x2 x3 x4 p1 p2 p3 p4 p5 p6 p7 p8 b1 b2 b3 b4 hn hk bd bl
      generalize dnv n k = d at *
      generalize lfv n k = f at *
      go_enter Tryd.func22, Tryd.ntmps22
      go_wp2_with fail
      refine (HP.out _).mono ?_
      rintro e w1 ⟨rfl, hb1⟩
      replace hB := bel_call hb1 hB
      clear hb1
      go_wp2_with fail
      go_ret2
      exact ⟨rfl, hB⟩
    · rw [if_pos (by omega)] at hu
      rw [hu]
      have f0 : (lfv n k == 0) = false := by simp; omega
      have f1 : (lfv n k != 0) = true := by simp; omega
      clear hu h hs x1 x2 x3 x4 p1 p2 p3 p4 p5 p6 p7 p8 b1 b2 b3 b4 hn hk bl
      generalize dnv n k = d at *
      generalize lfv n k = f at *
      go_enter Tryd.func22, Tryd.ntmps22
      go_wp2_with fail
      refine (HP.out _).mono ?_
      rintro e w1 ⟨rfl, hb1⟩
      replace hB := bel_call hb1 hB
      clear hb1
      go_wp2_with fail
      go_ret2
      exact ⟨rfl, hB⟩
  · obtain ⟨z1, z2, z3, z4⟩ := part_none n k hno
    rw [z1, z2] at HP
    rw [z1, z4]
    go_enter Tryd.func22, Tryd.ntmps22
    go_wp2_with fail
    refine (HP.out _).mono ?_
    rintro e w1 ⟨rfl, hb1⟩
    replace hB := bel_call hb1 hB
    clear hb1
    go_wp2_with fail
    go_ret2
    exact ⟨rfl, hB⟩
end Go.Proofs.YtaddhfehjapoiaaDoor
