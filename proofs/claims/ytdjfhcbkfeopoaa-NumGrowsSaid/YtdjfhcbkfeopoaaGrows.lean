/-
  The walk of the law NumGrows.
-/
import Derived.Test.YtdjfhcbkfeopoaaLaws2
namespace Go.Proofs.Ytdjfhcbkfeopoaa
open Go.RowKit
set_option linter.unusedSimpArgs false
set_option linter.unusedVariables false
set_option maxRecDepth 100000 in
set_option maxHeartbeats 4000000 in
theorem grows_walk (n m x y : Int) (w : World) (g0 : (Lit.int .u64 n).wf = true) (g1 : (Lit.int .u64 m).wf = true) (g2 : (Lit.int .u16 x).wf = true) (g3 : (Lit.int .u16 y).wf = true) :
    Calls Try.prog 5 #[.int .u64 n, .int .u64 m, .agg #[.int .u16 x, .int .u16 y]] w fun e w' => e = .returned (.bool true) ∧ Below w.heap.size w w' := by
  have hB := bel_refl w
  have bn := bounds_u64 g0; have bm := bounds_u64 g1; have bx := bounds_u16 g2; have by' := bounds_u16 g3
  clear g0 g1 g2 g3
  obtain ⟨p, hp⟩ : ∃ p, min n m = p := ⟨_, rfl⟩
  obtain ⟨q, hq⟩ : ∃ q, max n m = q := ⟨_, rfl⟩
  obtain ⟨s, hs⟩ : ∃ s, min x y = s := ⟨_, rfl⟩
  obtain ⟨t, ht⟩ : ∃ t, max x y = t := ⟨_, rfl⟩
  have bp : 0 ≤ p ∧ 0 ≤ q ∧ 0 ≤ s ∧ s ≤ 65535 ∧ 0 ≤ t := by omega
  obtain ⟨a, ha⟩ : ∃ a, p % 1152921504606846976 = a := ⟨_, rfl⟩
  obtain ⟨r, hr⟩ : ∃ r, q % 1000 = r := ⟨_, rfl⟩
  obtain ⟨b, hb⟩ : ∃ b, a + r = b := ⟨_, rfl⟩
  obtain ⟨k, hk⟩ : ∃ k, s % 10001 = k := ⟨_, rfl⟩
  obtain ⟨j, hj⟩ : ∃ j, t % 50 = j := ⟨_, rfl⟩
  obtain ⟨kj, hkj⟩ : ∃ kj, k + j = kj := ⟨_, rfl⟩
  obtain ⟨l, hl⟩ : ∃ l, min kj 10000 = l := ⟨_, rfl⟩
  have ba : 0 ≤ a ∧ a ≤ b ∧ a < 1152921504606846976 ∧ b < 1152921504606847976 ∧ 0 ≤ r ∧ r < 1000 := by omega
  have bk : 0 ≤ k ∧ k ≤ l ∧ l ≤ 10000 ∧ 0 ≤ j ∧ j < 50 := by omega
  have w1 : IntKind.i64.wrap a = a := IntWalk.i64_in _ (by omega)
  have w2 : IntKind.i64.wrap r = r := IntWalk.i64_in _ (by omega)
  have w3 : IntKind.i64.wrap b = b := IntWalk.i64_in _ (by omega)
  have w4 : IntKind.i64.wrap k = k := IntWalk.i64_in _ (by omega)
  have w5 : IntKind.i64.wrap j = j := IntWalk.i64_in _ (by omega)
  have w6 : IntKind.i64.wrap kj = kj := IntWalk.i64_in _ (by omega)
  have t1 : p.tmod 1152921504606846976 = a := by rw [Int.tmod_eq_emod_of_nonneg bp.1]; exact ha
  have t2 : q.tmod 1000 = r := by rw [Int.tmod_eq_emod_of_nonneg bp.2.1]; exact hr
  have t3 : s.tmod 10001 = k := by rw [Int.tmod_eq_emod_of_nonneg bp.2.2.1]; exact hk
  have t4 : t.tmod 50 = j := by rw [Int.tmod_eq_emod_of_nonneg bp.2.2.2.2]; exact hj
  clear bn bm bx by'
  by_cases hbig : 1152921504606846976 < b
  · have e0 : decide (1152921504606846976 < b) = true := decide_eq_true hbig
    clear hbig ba bk bp
    go_enter Try.func5, Try.ntmps5
    go_wp2_with fail
    refine (awake_any _).mono ?_
    rintro e w1 ⟨rfl, hb⟩
    have C : Blk w1 w.heap.size _ := Blk.call (by first | exact (Blk.new _ _ _) | exact (Blk.new _ _ _).alloc _ | exact ((Blk.new _ _ _).alloc _).alloc _ | exact (((Blk.new _ _ _).alloc _).alloc _).alloc _ | exact (Blk.new _ _ _).drew | exact ((Blk.new _ _ _).alloc _).drew | exact (((Blk.new _ _ _).alloc _).alloc _).drew) hb
    replace hB := bel_call hb (by first | exact hB | exact bel_alloc hB _ | exact bel_alloc (bel_alloc hB _) _ | exact bel_alloc (bel_alloc (bel_alloc hB _) _) _ | exact bel_drew hB | exact bel_drew (bel_alloc hB _) | exact bel_drew (bel_alloc (bel_alloc hB _) _))
    clear hb
    have C_c := C.cell; have C_f := C.free; have C_l := C.lt
    go_wp2_with fail
    go_ret
    exact ⟨rfl, hB⟩
  · have e0 : decide (1152921504606846976 < b) = false := decide_eq_false hbig
    have i1 : I64 a := i64_lit _ (by omega)
    have i2 : I64 b := i64_lit _ (by omega)
    have i3 : I64 k := i64_lit _ (by omega)
    have i4 : I64 l := i64_lit _ (by omega)
    have c1 := Lib.hid (up_any a k i1 i3)
    have c2 := Lib.hid (up_any b l i2 i4)
    have c3 := Lib.hid (down_any a k i1 i3)
    have c4 := Lib.hid (down_any b l i2 i4)
    have c5 := Lib.hid (down_any a 10000 i1 (i64_lit _ (by omega)))
    have c6 := Lib.hid (up_any a 0 i1 (i64_lit _ (by omega)))
    have law : upv a k ≤ upv b l ∧ dnv a k ≤ dnv b l ∧ dnv a k ≤ upv a k ∧ upv a k ≤ a ∧ dnv a 10000 = a ∧ upv a 0 = 0 ∧ okp a 0 = true := by
      have h1 : a * k ≤ b * l := Int.mul_le_mul (by omega) (by omega) (by omega) (by omega)
      have h2 : a * k ≤ a * 10000 := Int.mul_le_mul_of_nonneg_left (by omega) (by omega)
      unfold okp dnv upv
      rw [if_pos (by omega), if_pos (by omega), if_pos (by omega), if_pos (by omega), if_pos (by omega), if_pos (by omega)]
      generalize a * k = u at *
      generalize b * l = v at *
      refine ⟨by omega, by omega, by omega, by omega, by omega, by omega, by simp; omega⟩
    obtain ⟨l1, l2, l3, l4, l5, l6, l7⟩ := law
    rw [l5] at c5
    rw [l6, l7] at c6
    clear l5 l6 l7 i1 i2 i3 i4
    generalize upv a k = x1 at *
    generalize upv b l = x2 at *
    generalize dnv a k = x3 at *
    generalize dnv b l = x4 at *
    have e1 : decide (x1 ≤ x2) = true := decide_eq_true l1
    have e2 : decide (x3 ≤ x4) = true := decide_eq_true l2
    have e3 : decide (x3 ≤ x1) = true := decide_eq_true l3
    have e4 : decide (x1 ≤ a) = true := decide_eq_true l4
    clear l1 l2 l3 l4 hbig ba bk bp
    go_enter Try.func5, Try.ntmps5
    go_wp2_with fail
    refine (awake_any _).mono ?_
    rintro e w1 ⟨rfl, hb⟩
    have C : Blk w1 w.heap.size _ := Blk.call (by first | exact (Blk.new _ _ _) | exact (Blk.new _ _ _).alloc _ | exact ((Blk.new _ _ _).alloc _).alloc _ | exact (((Blk.new _ _ _).alloc _).alloc _).alloc _ | exact (Blk.new _ _ _).drew | exact ((Blk.new _ _ _).alloc _).drew | exact (((Blk.new _ _ _).alloc _).alloc _).drew) hb
    replace hB := bel_call hb (by first | exact hB | exact bel_alloc hB _ | exact bel_alloc (bel_alloc hB _) _ | exact bel_alloc (bel_alloc (bel_alloc hB _) _) _ | exact bel_drew hB | exact bel_drew (bel_alloc hB _) | exact bel_drew (bel_alloc (bel_alloc hB _) _))
    clear hb
    have C_c := C.cell; have C_f := C.free; have C_l := C.lt
    go_wp2_with fail
    refine (c1.out _).mono ?_
    rintro e w2 ⟨rfl, hb1⟩
    replace hB := bel_call hb1 hB
    clear hb1
    clear C C_c C_f C_l
    go_wp2_with fail
    refine (c2.out _).mono ?_
    rintro e w3 ⟨rfl, hb2⟩
    replace hB := bel_call hb2 hB
    clear hb2
    go_wp2_with fail
    refine (c3.out _).mono ?_
    rintro e w4 ⟨rfl, hb3⟩
    replace hB := bel_call hb3 hB
    clear hb3
    go_wp2_with fail
    refine (c4.out _).mono ?_
    rintro e w5 ⟨rfl, hb4⟩
    replace hB := bel_call hb4 hB
    clear hb4
    go_wp2_with fail
    refine (c5.out _).mono ?_
    rintro e w6 ⟨rfl, hb5⟩
    replace hB := bel_call hb5 hB
    clear hb5
    go_wp2_with fail
    refine (c6.out _).mono ?_
    rintro e w7 ⟨rfl, hb6⟩
    replace hB := bel_call hb6 hB
    clear hb6
    go_wp2_with fail
    go_ret
    exact ⟨rfl, hB⟩
end Go.Proofs.Ytdjfhcbkfeopoaa
