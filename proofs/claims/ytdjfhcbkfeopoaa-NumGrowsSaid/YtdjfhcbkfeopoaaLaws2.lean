/-
  More walks of the laws over num.
-/
import Derived.Test.YtdjfhcbkfeopoaaLaws
namespace Go.Proofs.Ytdjfhcbkfeopoaa
open Go.RowKit
set_option linter.unusedSimpArgs false
set_option linter.unusedVariables false
set_option maxHeartbeats 2000000 in
theorem back_walk (a b : Int) (w : World) (g0 : (Lit.int .i64 a).wf = true) (g1 : (Lit.int .i64 b).wf = true) :
    Calls Try.prog 8 #[.int .i64 a, .int .i64 b] w fun e w' => e = .returned (.bool true) ∧ Below w.heap.size w w' := by
  have hB := bel_refl w
  have ha : I64 a := bounds_i64 g0
  have hb : I64 b := bounds_i64 g1
  clear g0 g1
  have hone : I64 1 := i64_lit _ (by omega)
  have hneg : I64 (-1) := i64_lit _ (by omega)
  have hz : I64 0 := i64_lit _ (by omega)
  have c1 := Lib.hid (add_any a b ha hb)
  have c2 := Lib.hid (add_any b a hb ha)
  have c3 := Lib.hid (mul_any a b ha hb)
  have c4 := Lib.hid (mul_any b a hb ha)
  have c5 := Lib.hid (mul_any a 1 ha hone)
  have c6 := Lib.hid (mul_any a (-1) ha hneg)
  have c7 := Lib.hid (sub_any 0 a hz ha)
  rw [Int.add_comm b a] at c2
  rw [Int.mul_comm b a] at c4
  rw [Int.mul_one, cutv_yes ha, fits_yes ha] at c5
  rw [show a * -1 = 0 - a by omega] at c6
  have c8 : (fits (a + b) = true ∧ Hid (∀ w : World, Calls Try.prog 15 #[.int .i64 (cutv (a + b)), .int .i64 b] w fun e w' => e = .returned (.tuple #[.int .i64 a, .bool true]) ∧ w = w')) ∨ fits (a + b) = false := by
    by_cases h : -9223372036854775808 ≤ a + b ∧ a + b ≤ 9223372036854775807
    · refine Or.inl ⟨fits_yes h, ?_⟩
      have k := sub_any (a + b) b h hb
      rw [show a + b - b = a by omega, cutv_yes ha, fits_yes ha] at k
      rw [cutv_yes h]
      exact Lib.hid k
    · exact Or.inr (fits_no h)
  clear ha hb hone hneg hz
  generalize cutv (a + b) = x0 at *
  generalize fits (a + b) = t0 at *
  generalize cutv (a * b) = x1 at *
  generalize fits (a * b) = t1 at *
  generalize cutv (0 - a) = x2 at *
  generalize fits (0 - a) = t2 at *
  go_enter Try.func8, Try.ntmps8
  go_wp2_with fail
  refine (awake_any _).mono ?_
  rintro e w1 ⟨rfl, hb⟩
  replace hB := bel_call hb hB
  clear hb
  go_wp2_with fail
  refine (c1.out _).mono ?_
  rintro e w2 ⟨rfl, rfl⟩
  go_wp2_with fail
  refine (c2.out _).mono ?_
  rintro e w3 ⟨rfl, rfl⟩
  go_wp2_with fail
  refine (c3.out _).mono ?_
  rintro e w4 ⟨rfl, hb⟩
  replace hB := bel_call hb hB
  clear hb
  go_wp2_with fail
  refine (c4.out _).mono ?_
  rintro e w5 ⟨rfl, hb⟩
  replace hB := bel_call hb hB
  clear hb
  go_wp2_with fail
  refine (c5.out _).mono ?_
  rintro e w6 ⟨rfl, hb⟩
  replace hB := bel_call hb hB
  clear hb
  go_wp2_with fail
  refine (c6.out _).mono ?_
  rintro e w7 ⟨rfl, hb⟩
  replace hB := bel_call hb hB
  clear hb
  go_wp2_with fail
  refine (c7.out _).mono ?_
  rintro e w9 ⟨rfl, rfl⟩
  rcases c8 with ⟨rfl, c8⟩ | rfl
  · go_wp2_with fail
    refine (c8.out _).mono ?_
    rintro e w10 ⟨rfl, rfl⟩
    cases t1 <;> cases t2 <;>
    · go_wp2_with fail
      go_ret
      exact ⟨rfl, hB⟩
  · cases t1 <;> cases t2 <;>
    · go_wp2_with fail
      go_ret
      exact ⟨rfl, hB⟩
set_option maxHeartbeats 2000000 in
theorem both_walk (n m q : Int) (w : World) (g0 : (Lit.int .u64 n).wf = true) (g1 : (Lit.int .u64 m).wf = true) (g2 : (Lit.int .u16 q).wf = true) :
    Calls Try.prog 4 #[.int .u64 n, .int .u64 m, .int .u16 q] w fun e w' => e = .returned (.bool true) ∧ Below w.heap.size w w' := by
  have hB := bel_refl w
  have bn := bounds_u64 g0; have bm := bounds_u64 g1; have bq := bounds_u16 g2
  clear g0 g1 g2
  have t1 : n.tmod 576460752303423488 = n % 576460752303423488 := Int.tmod_eq_emod_of_nonneg bn.1
  have t2 : m.tmod 576460752303423488 = m % 576460752303423488 := Int.tmod_eq_emod_of_nonneg bm.1
  have t3 : q.tmod 10001 = q % 10001 := Int.tmod_eq_emod_of_nonneg bq.1
  obtain ⟨a, ha⟩ : ∃ a, n % 576460752303423488 = a := ⟨_, rfl⟩
  obtain ⟨b, hb⟩ : ∃ b, m % 576460752303423488 = b := ⟨_, rfl⟩
  obtain ⟨k, hk⟩ : ∃ k, q % 10001 = k := ⟨_, rfl⟩
  have ba : 0 ≤ a ∧ a < 576460752303423488 := by omega
  have bb : 0 ≤ b ∧ b < 576460752303423488 := by omega
  have bk : 0 ≤ k ∧ k ≤ 10000 := by omega
  have w1 : IntKind.u64.wrap a = a := by rw [IntKind.wrap_u64]; omega
  have w2 : IntKind.u64.wrap b = b := by rw [IntKind.wrap_u64]; omega
  have w3 : IntKind.i64.wrap a = a := IntWalk.i64_in _ (by omega)
  have w4 : IntKind.i64.wrap b = b := IntWalk.i64_in _ (by omega)
  have w5 : IntKind.i64.wrap k = k := IntWalk.i64_in _ (by omega)
  have w6 : IntKind.i64.wrap (a + b) = a + b := IntWalk.i64_in _ (by omega)
  have c1 := Lib.hid (down_any a k (i64_lit _ (by omega)) (i64_lit _ (by omega)))
  have c2 := Lib.hid (up_any b k (i64_lit _ (by omega)) (i64_lit _ (by omega)))
  have c3 := Lib.hid (up_any (a + b) k (i64_lit _ (by omega)) (i64_lit _ (by omega)))
  have c4 := Lib.hid (down_any (a + b) k (i64_lit _ (by omega)) (i64_lit _ (by omega)))
  have law : okp (a + b) k = true ∧ 0 ≤ dnv a k ∧ dnv a k ≤ 1152921504606846976 ∧ 0 ≤ upv b k ∧ upv b k ≤ 1152921504606846976 ∧ dnv a k + upv b k ≤ upv (a + b) k ∧ dnv (a + b) k ≤ dnv a k + upv b k ∧ upv (a + b) k - dnv (a + b) k ≤ 1 ∧ 0 ≤ upv (a + b) k - dnv (a + b) k := by
    have h1 := dnv_bd a k; have h2 := upv_bd b k
    refine ⟨by unfold okp; simp; omega, h1.1, h1.2, h2.1, h2.2, ?_⟩
    unfold dnv upv
    rw [if_pos (by omega), if_pos (by omega), if_pos (by omega), if_pos (by omega), Int.add_mul]
    generalize a * k = x
    generalize b * k = y
    omega
  generalize dnv a k = d at *
  generalize upv b k = u at *
  generalize upv (a + b) k = l at *
  generalize dnv (a + b) k = f at *
  obtain ⟨l0, l1, l2, l3, l4, l5, l6, l7, l8⟩ := law
  rw [l0] at c3 c4
  have w7 : IntKind.i64.wrap (d + u) = d + u := IntWalk.i64_in _ (by omega)
  have w8 : IntKind.i64.wrap (l - f) = l - f := IntWalk.i64_in _ (by omega)
  have e1 : decide (d + u ≤ l) = true := by simp; omega
  have e2 : decide (f ≤ d + u) = true := by simp; omega
  have e3 : decide (l - f ≤ 1) = true := by simp; omega
  clear l0 l1 l2 l3 l4 l5 l6 l7 l8 bn bm bq ba bb bk
  go_enter Try.func4, Try.ntmps4
  go_wp2_with fail
  refine (awake_any _).mono ?_
  rintro e w1 ⟨rfl, hb⟩
  replace hB := bel_call hb hB
  clear hb
  go_wp2_with fail
  refine (c1.out _).mono ?_
  rintro e w2 ⟨rfl, hb⟩
  replace hB := bel_call hb hB
  clear hb
  go_wp2_with fail
  refine (c2.out _).mono ?_
  rintro e w3 ⟨rfl, hb⟩
  replace hB := bel_call hb hB
  clear hb
  go_wp2_with fail
  refine (c3.out _).mono ?_
  rintro e w4 ⟨rfl, hb⟩
  replace hB := bel_call hb hB
  clear hb
  go_wp2_with fail
  refine (c4.out _).mono ?_
  rintro e w5 ⟨rfl, hb⟩
  replace hB := bel_call hb hB
  clear hb
  go_wp2_with fail
  go_ret
  exact ⟨rfl, hB⟩
set_option maxHeartbeats 2000000 in
theorem exact_walk (n q : Int) (w : World) (g0 : (Lit.int .u32 n).wf = true) (g1 : (Lit.int .u16 q).wf = true) :
    Calls Try.prog 6 #[.int .u32 n, .int .u16 q] w fun e w' => e = .returned (.bool true) ∧ Below w.heap.size w w' := by
  have hB := bel_refl w
  have bn := bounds_u32 g0; have bq := bounds_u16 g1
  clear g0 g1
  have t3 : q.tmod 10001 = q % 10001 := Int.tmod_eq_emod_of_nonneg bq.1
  obtain ⟨k, hk⟩ : ∃ k, q % 10001 = k := ⟨_, rfl⟩
  have bk : 0 ≤ k ∧ k ≤ 10000 := by omega
  have w3 : IntKind.i64.wrap n = n := IntWalk.i64_in _ (by omega)
  have w5 : IntKind.i64.wrap k = k := IntWalk.i64_in _ (by omega)
  have c1 := Lib.hid (down_any n k (i64_lit _ (by omega)) (i64_lit _ (by omega)))
  have c2 := Lib.hid (up_any n k (i64_lit _ (by omega)) (i64_lit _ (by omega)))
  have pb := prod_bd (n := n) (k := k) (by omega) bk.1
  have pb2 := pb.2 bk.2
  have law : okp n k = true ∧ dnv n k = n * k / 10000 ∧ upv n k = (n * k + 9999) / 10000 := by
    unfold okp dnv upv
    rw [if_pos (by omega), if_pos (by omega)]
    exact ⟨by simp; omega, rfl, rfl⟩
  obtain ⟨l0, l1, l2⟩ := law
  rw [l0, l1] at c1
  rw [l0, l2] at c2
  clear l0 l1 l2
  obtain ⟨x, hx⟩ : ∃ x, n * k = x := ⟨_, rfl⟩
  rw [hx] at c1 c2 pb pb2
  have w6 : IntKind.i64.wrap (n * k) = x := by rw [hx]; exact IntWalk.i64_in _ (by omega)
  have w6' : wrap64 (n * k) = x := by rw [hx]; unfold wrap64; omega
  obtain ⟨d, hd⟩ : ∃ d, x / 10000 = d := ⟨_, rfl⟩
  obtain ⟨u, hu⟩ : ∃ u, (x + 9999) / 10000 = u := ⟨_, rfl⟩
  rw [hd] at c1
  rw [hu] at c2
  have w7 : IntKind.i64.wrap (d * 10000) = d * 10000 := IntWalk.i64_in _ (by omega)
  have w8 : IntKind.i64.wrap (x - d * 10000) = x - d * 10000 := IntWalk.i64_in _ (by omega)
  have w9 : IntKind.i64.wrap (u * 10000) = u * 10000 := IntWalk.i64_in _ (by omega)
  have w10 : IntKind.i64.wrap (u * 10000 - x) = u * 10000 - x := IntWalk.i64_in _ (by omega)
  have e1 : decide (d * 10000 ≤ x) = true := by simp; omega
  have e2 : decide (x - d * 10000 < 10000) = true := by simp; omega
  have e3 : decide (x ≤ u * 10000) = true := by simp; omega
  have e4 : decide (u * 10000 - x < 10000) = true := by simp; omega
  clear hd hu pb pb2 bk bn bq hx
  go_enter Try.func6, Try.ntmps6
  go_wp2_with fail
  refine (awake_any _).mono ?_
  rintro e w1 ⟨rfl, hb⟩
  replace hB := bel_call hb hB
  clear hb
  go_wp2_with fail
  refine (c1.out _).mono ?_
  rintro e w2 ⟨rfl, hb⟩
  replace hB := bel_call hb hB
  clear hb
  go_wp2_with fail
  refine (c2.out _).mono ?_
  rintro e w3 ⟨rfl, hb⟩
  replace hB := bel_call hb hB
  clear hb
  go_wp2_with fail
  go_ret
  exact ⟨rfl, hB⟩
end Go.Proofs.Ytdjfhcbkfeopoaa
