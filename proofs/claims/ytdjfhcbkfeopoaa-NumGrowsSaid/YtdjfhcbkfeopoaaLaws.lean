/-
  The walks of the laws over num.
-/
import Derived.Test.YtdjfhcbkfeopoaaParts
namespace Go.Proofs.Ytdjfhcbkfeopoaa
open Go.RowKit
set_option linter.unusedSimpArgs false
set_option linter.unusedVariables false
theorem i64_lit (a : Int) (h : -9223372036854775808 ≤ a ∧ a ≤ 9223372036854775807) : I64 a := h
theorem awake_any (w : World) : Calls Try.prog 9 #[] w fun e w' => e = .returned (.bool true) ∧ Below w.heap.size w w' := by
  have hB := bel_refl w
  have h1 := Lib.hid (up_any 10001 1 (i64_lit _ (by omega)) (i64_lit _ (by omega)))
  have h2 := Lib.hid (down_any 10001 1 (i64_lit _ (by omega)) (i64_lit _ (by omega)))
  have h3 := Lib.hid (mul_any 4294967296 2147483648 (i64_lit _ (by omega)) (i64_lit _ (by omega)))
  rw [show upv 10001 1 = 2 from rfl, show okp 10001 1 = true from rfl] at h1
  rw [show dnv 10001 1 = 1 from rfl, show okp 10001 1 = true from rfl] at h2
  rw [show fits (4294967296 * 2147483648) = false from rfl, show cutv (4294967296 * 2147483648) = 0 from rfl] at h3
  go_enter Try.func9, Try.ntmps9
  go_wp2_with fail
  refine (h1.out _).mono ?_
  rintro e w1 ⟨rfl, hb⟩
  replace hB := bel_call hb hB
  clear hb
  go_wp2_with fail
  refine (h2.out _).mono ?_
  rintro e w2 ⟨rfl, hb⟩
  replace hB := bel_call hb hB
  clear hb
  go_wp2_with fail
  refine (h3.out _).mono ?_
  rintro e w3 ⟨rfl, hb⟩
  replace hB := bel_call hb hB
  clear hb
  go_wp2_with fail
  go_ret
  exact ⟨rfl, hB⟩
set_option maxHeartbeats 2000000 in
theorem parts_walk (n k : Int) (w : World) (g0 : (Lit.int .i64 n).wf = true) (g1 : (Lit.int .i64 k).wf = true) :
    Calls Try.prog 3 #[.int .i64 n, .int .i64 k] w fun e w' => e = .returned (.bool true) ∧ Below w.heap.size w w' := by
  have hB := bel_refl w
  have hn : I64 n := bounds_i64 g0
  have hk : I64 k := bounds_i64 g1
  clear g0 g1
  have c1 := Lib.hid (up_any n k hn hk)
  have c2 := Lib.hid (down_any n k hn hk)
  have c3 := Lib.hid (refUp_any n k hn hk)
  have c4 := Lib.hid (refDown_any n k hn hk)
  generalize upv n k = u at *
  generalize dnv n k = d at *
  generalize okp n k = t at *
  go_enter Try.func3, Try.ntmps3
  go_wp2_with fail
  refine (awake_any _).mono ?_
  rintro e w1 ⟨rfl, hb⟩
  replace hB := bel_call hb hB
  clear hb
  go_wp2_with fail
  refine (c1.out _).mono ?_
  rintro e w2 ⟨rfl, hb⟩
  replace hB := bel_call hb hB
  clear hb
  go_wp2_with fail
  refine (c2.out _).mono ?_
  rintro e w3 ⟨rfl, hb⟩
  replace hB := bel_call hb hB
  clear hb
  go_wp2_with fail
  refine (c3.out _).mono ?_
  rintro e w4 ⟨rfl, hb⟩
  replace hB := bel_call hb hB
  clear hb
  go_wp2_with fail
  refine (c4.out _).mono ?_
  rintro e w5 ⟨rfl, hb⟩
  replace hB := bel_call hb hB
  clear hb
  cases t <;>
  · go_wp2_with fail
    go_ret
    exact ⟨rfl, hB⟩
set_option maxHeartbeats 2000000 in
theorem sums_walk (a b : Int) (w : World) (g0 : (Lit.int .i64 a).wf = true) (g1 : (Lit.int .i64 b).wf = true) :
    Calls Try.prog 7 #[.int .i64 a, .int .i64 b] w fun e w' => e = .returned (.bool true) ∧ Below w.heap.size w w' := by
  have hB := bel_refl w
  have ha : I64 a := bounds_i64 g0
  have hb : I64 b := bounds_i64 g1
  clear g0 g1
  have c1 := Lib.hid (add_any a b ha hb)
  have c2 := Lib.hid (sub_any a b ha hb)
  have c3 := Lib.hid (mul_any a b ha hb)
  have c4 := Lib.hid (refAdd_any a b ha hb)
  have c5 := Lib.hid (refSub_any a b ha hb)
  have c6 := Lib.hid (refMul_any a b ha hb)
  generalize cutv (a + b) = x0 at *
  generalize fits (a + b) = t0 at *
  generalize cutv (a - b) = x1 at *
  generalize fits (a - b) = t1 at *
  generalize cutv (a * b) = x2 at *
  generalize fits (a * b) = t2 at *
  go_enter Try.func7, Try.ntmps7
  go_wp2_with fail
  refine (awake_any _).mono ?_
  rintro e w1 ⟨rfl, hb⟩
  replace hB := bel_call hb hB
  clear hb
  go_wp2_with fail
  refine (c1.out _).mono ?_
  rintro e w2 ⟨rfl, rfl⟩
  go_wp2_with fail
  refine (c2.out _).mono ?_
  rintro e w3 ⟨rfl, rfl⟩
  go_wp2_with fail
  refine (c3.out _).mono ?_
  rintro e w4 ⟨rfl, hb⟩
  replace hB := bel_call hb hB
  clear hb
  go_wp2_with fail
  refine (c4.out _).mono ?_
  rintro e w5 ⟨rfl, hb⟩
  replace hB := bel_call hb hB
  clear hb
  go_wp2_with fail
  refine (c5.out _).mono ?_
  rintro e w6 ⟨rfl, hb⟩
  replace hB := bel_call hb hB
  clear hb
  go_wp2_with fail
  refine (c6.out _).mono ?_
  rintro e w7 ⟨rfl, hb⟩
  replace hB := bel_call hb hB
  clear hb
  cases t0 <;> cases t1 <;> cases t2 <;>
  · go_wp2_with fail
    go_ret
    exact ⟨rfl, hB⟩
end Go.Proofs.Ytdjfhcbkfeopoaa
