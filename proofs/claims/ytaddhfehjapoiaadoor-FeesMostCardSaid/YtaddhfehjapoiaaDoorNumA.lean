/-
  Contracts of package num and of agioref04: what each function returns, at all numbers.
-/
import Derived.Test.YtaddhfehjapoiaaDoorOpen
import Derived.Test.YtaddhfehjapoiaaDoorBlk
import Derived.Test.YtaddhfehjapoiaaDoorPlan
import Derived.Test.YtaddhfehjapoiaaDoorPlain
import Derived.Test.YtaddhfehjapoiaaDoorLays
import Derived.Lib.Hide
namespace Go.Proofs.YtaddhfehjapoiaaDoor
open Go.RowKit
set_option linter.unusedSimpArgs false
set_option linter.unusedVariables false
/-! bits.Mul64, bits.Div64 -/
theorem mul64_any (x y : Int) (hx : 0 ≤ x ∧ x < 18446744073709551616) (hy : 0 ≤ y ∧ y < 18446744073709551616) (w : World) :
    Calls Tryd.prog 28 #[.int .u64 x, .int .u64 y] w fun e w' => e = .returned (.tuple #[.int .u64 (x * y / 18446744073709551616), .int .u64 (x * y % 18446744073709551616)]) ∧ w = w' := by
  obtain ⟨x, rfl⟩ := Int.eq_ofNat_of_zero_le hx.1
  obtain ⟨y, rfl⟩ := Int.eq_ofNat_of_zero_le hy.1
  refine (Tryd.bits_Mul64 x y (by omega) (by omega) w).mono ?_
  rintro e w' ⟨rfl, rfl⟩
  exact ⟨by simp [Int.natCast_mul], rfl⟩
def pHi (a b : Int) : Int := a * b / 18446744073709551616 % 18446744073709551616
def pLo (a b : Int) : Int := a * b % 18446744073709551616
def I64 (a : Int) : Prop := -9223372036854775808 ≤ a ∧ a ≤ 9223372036854775807
set_option maxHeartbeats 1000000 in
theorem product_any (a b : Int) (ha : I64 a) (hb : I64 b) (w : World) :
    Calls Tryd.prog 26 #[.int .i64 a, .int .i64 b] w fun e w' => e = .returned (.agg #[.int .u64 (pHi a b), .int .u64 (pLo a b)]) ∧ Below w.heap.size w w' := by
  have hB := bel_refl w
  unfold I64 at ha hb
  have H := prod_words a b ha hb
  obtain ⟨x, hx⟩ : ∃ x, a % 18446744073709551616 = x := ⟨_, rfl⟩
  obtain ⟨y, hy⟩ : ∃ y, b % 18446744073709551616 = y := ⟨_, rfl⟩
  rw [hx, hy] at H
  have hxb : 0 ≤ x ∧ x < 18446744073709551616 := by omega
  have hyb : 0 ≤ y ∧ y < 18446744073709551616 := by omega
  have ex : IntKind.u64.wrap a = x := by rw [IntKind.wrap_u64]; exact hx
  have ey : IntKind.u64.wrap b = y := by rw [IntKind.wrap_u64]; exact hy
  obtain ⟨s, hs⟩ : ∃ s, (if a < 0 then y else 0) = s := ⟨_, rfl⟩
  obtain ⟨r, hr⟩ : ∃ r, (if b < 0 then x else 0) = r := ⟨_, rfl⟩
  rw [hs, hr] at H
  have HH := Lib.hid H
  have HS := Lib.hid (show (a < 0 → s = y) ∧ (0 ≤ a → s = 0) from ⟨fun h => by rw [← hs, if_pos h], fun h => by rw [← hs, if_neg (by omega)]⟩)
  have HR := Lib.hid (show (b < 0 → r = x) ∧ (0 ≤ b → r = 0) from ⟨fun h => by rw [← hr, if_pos h], fun h => by rw [← hr, if_neg (by omega)]⟩)
  clear hs hr
  clear H
  have v2 : x * y % 18446744073709551616 = pLo a b := HH.out.1
  have hr0 : 0 ≤ x * y / 18446744073709551616 ∧ x * y / 18446744073709551616 < 18446744073709551616 := by
    have := Int.mul_nonneg hxb.1 hyb.1
    have := Int.mul_le_mul_of_nonneg_left (show y ≤ 18446744073709551615 by omega) hxb.1
    omega
  go_enter Tryd.func26, Tryd.ntmps26
  by_cases h1 : a < 0 <;> by_cases h2 : b < 0
  · have v1 : IntKind.u64.wrap (IntKind.u64.wrap (x * y / 18446744073709551616 - y) - x) = pHi a b := by
      have hs := HS.out; have hr := HR.out; have e2 := HH.out.2
      try simp only [IntKind.wrap_u64]
      unfold pHi
      rw [← e2]
      omega
    have hd1 : decide (a < 0) = true := by simp; omega
    have hd2 : decide (b < 0) = true := by simp; omega
    clear h1 h2
    go_wp2_with fail
    refine (mul64_any x y hxb hyb _).mono ?_
    rintro e w1 ⟨rfl, rfl⟩
    go_wp2_with fail
    exact bodyPost_ret (v := .agg #[.int .u64 (pHi a b), .int .u64 (pLo a b)]) (by simp [results, Tryd.results26, go_sem]) rfl ⟨rfl, bel_alloc hB _⟩
  · have v1 : IntKind.u64.wrap (x * y / 18446744073709551616 - y) = pHi a b := by
      have hs := HS.out; have hr := HR.out; have e2 := HH.out.2
      try simp only [IntKind.wrap_u64]
      unfold pHi
      rw [← e2]
      omega
    have hd1 : decide (a < 0) = true := by simp; omega
    have hd2 : decide (b < 0) = false := by simp; omega
    clear h1 h2
    go_wp2_with fail
    refine (mul64_any x y hxb hyb _).mono ?_
    rintro e w1 ⟨rfl, rfl⟩
    go_wp2_with fail
    exact bodyPost_ret (v := .agg #[.int .u64 (pHi a b), .int .u64 (pLo a b)]) (by simp [results, Tryd.results26, go_sem]) rfl ⟨rfl, bel_alloc hB _⟩
  · have v1 : IntKind.u64.wrap (x * y / 18446744073709551616 - x) = pHi a b := by
      have hs := HS.out; have hr := HR.out; have e2 := HH.out.2
      try simp only [IntKind.wrap_u64]
      unfold pHi
      rw [← e2]
      omega
    have hd1 : decide (a < 0) = false := by simp; omega
    have hd2 : decide (b < 0) = true := by simp; omega
    clear h1 h2
    go_wp2_with fail
    refine (mul64_any x y hxb hyb _).mono ?_
    rintro e w1 ⟨rfl, rfl⟩
    go_wp2_with fail
    exact bodyPost_ret (v := .agg #[.int .u64 (pHi a b), .int .u64 (pLo a b)]) (by simp [results, Tryd.results26, go_sem]) rfl ⟨rfl, bel_alloc hB _⟩
  · have v1 : x * y / 18446744073709551616 = pHi a b := by
      have hs := HS.out; have hr := HR.out; have e2 := HH.out.2
      try simp only [IntKind.wrap_u64]
      unfold pHi
      rw [← e2]
      omega
    have hd1 : decide (a < 0) = false := by simp; omega
    have hd2 : decide (b < 0) = false := by simp; omega
    clear h1 h2
    go_wp2_with fail
    refine (mul64_any x y hxb hyb _).mono ?_
    rintro e w1 ⟨rfl, rfl⟩
    go_wp2_with fail
    exact bodyPost_ret (v := .agg #[.int .u64 (pHi a b), .int .u64 (pLo a b)]) (by simp [results, Tryd.results26, go_sem]) rfl ⟨rfl, bel_alloc hB _⟩
theorem bits_mask (a : Int) (h0 : 0 ≤ a) (h1 : a < 18446744073709551616) : bits BinOp.and IntKind.u64 a 4294967295 = a % 4294967296 := by
  obtain ⟨a, rfl⟩ := Int.eq_ofNat_of_zero_le h0
  rw [Mul64.maskN a (by omega)]
  omega
theorem bits_or_split (a b : Int) (ha : 0 ≤ a ∧ a < 10000) (hb : 0 ≤ b ∧ b < 1125899906842624) : bits BinOp.or IntKind.u64 (a * 1125899906842624) b = a * 1125899906842624 + b := by
  obtain ⟨a, rfl⟩ := Int.eq_ofNat_of_zero_le ha.1
  obtain ⟨b, rfl⟩ := Int.eq_ofNat_of_zero_le hb.1
  have h := bits_or_u64_nat (a * 1125899906842624) b (by omega) (by omega)
  have e : a * 1125899906842624 ||| b = a * 1125899906842624 + b := by
    have := Nat.shiftLeft_add_eq_or_of_lt (i := 50) (b := b) (by omega) a
    rw [Nat.shiftLeft_eq] at this
    exact this.symm
  rw [e] at h
  simpa using h
theorem lz_any (w : World) : Calls Tryd.prog 29 #[.int .u64 10000] w fun e w' => e = .returned (.int .i64 50) ∧ w = w' := by
  refine (Tryd.bits_LeadingZeros64 10000 w (by omega) (by omega)).mono ?_
  rintro e w' ⟨rfl, rfl⟩
  exact ⟨by kernel_rfl, rfl⟩
set_option maxRecDepth 100000 in
set_option maxHeartbeats 1000000 in
theorem div64_any (hi lo : Int) (h1 : 0 ≤ hi ∧ hi < 10000) (h2 : 0 ≤ lo ∧ lo < 18446744073709551616) (w : World) :
    Calls Tryd.prog 27 #[.int .u64 hi, .int .u64 lo, .int .u64 10000] w fun e w' => e = .returned (.tuple #[.int .u64 ((hi * 18446744073709551616 + lo) / 10000), .int .u64 ((hi * 18446744073709551616 + lo) % 10000)]) ∧ Below w.heap.size w w' := by
  have hB := bel_refl w
  go_enter Tryd.func27, Tryd.ntmps27
  have e0 : decide ((10000 : Int) ≤ hi) = false := by simp; omega
  by_cases h0 : hi = 0
  · subst h0
    have k1 : lo.tdiv 10000 = lo / 10000 := Int.tdiv_eq_ediv_of_nonneg h2.1
    have k2 : lo.tmod 10000 = lo % 10000 := Int.tmod_eq_emod_of_nonneg h2.1
    have k3 : IntKind.u64.wrap (lo / 10000) = lo / 10000 := by rw [IntKind.wrap_u64]; omega
    have k4 : IntKind.u64.wrap (lo % 10000) = lo % 10000 := by rw [IntKind.wrap_u64]; omega
    go_wp2_with fail
    refine wp_region_plan [(0, true), (1, true), (2, true), (3, true), (4, true), (5, true), (6, false), (7, false)] (fun w' => Below w.heap.size w w') (by kernel_rfl) (by kernel_rfl) (fun _ _ _ _ h => h) ?_ (fun hS => ?_)
    · exact bel_drew hB
    iterate 6
      refine plan_light (o := ?_) (v := ?_) ?_ ?_ ?_ ?_
      rotate_left 2
      · simp only [List.getElem?_toArray, List.getElem?_cons_zero, List.getElem?_cons_succ]
        rfl
      · go_simp
      · intro w' hS
        go_simp
        try rfl
      simp only [Act.put, List.setIfInBounds_toArray, List.set_cons_zero, List.set_cons_succ]
    refine plan_heavy (o := ?_) ?_ (fun K' hK => ?_)
    rotate_left
    · simp only [List.getElem?_toArray, List.getElem?_cons_zero, List.getElem?_cons_succ]
      rfl
    go_simp
    refine hK.out _ _ ?_ (fun hS => ?_)
    · exact hS
    clear hK K'
    refine plan_sink (o := ?_) ?_ (by kernel_rfl) (fun K' hK => ?_)
    rotate_left
    · simp only [List.getElem?_toArray, List.getElem?_cons_zero, List.getElem?_cons_succ]
      rfl
    go_simp
    refine hK.out _ _ ?_
    clear hK K'
    refine plan_nil ?_
    go_wp2_with fail
    go_ret2
    exact ⟨by simp, hS⟩
  · have e1 : (hi == 0) = false := by simp; omega
    clear h0
    obtain ⟨H, hH⟩ : ∃ H, hi * 1125899906842624 + lo / 16384 = H := ⟨_, rfl⟩
    obtain ⟨L, hL⟩ : ∃ L, lo * 1125899906842624 % 18446744073709551616 = L := ⟨_, rfl⟩
    have f0 : bits BinOp.and IntKind.u64 11258999068426240000 4294967295 = 0 := by kernel_rfl
    have f1 : bits BinOp.or IntKind.u64 (hi * 1125899906842624) (lo / 16384) = H := by rw [← hH]; exact bits_or_split hi (lo / 16384) (by omega) (by omega)
    have f2 : IntKind.u64.wrap (lo * 1125899906842624) = L := by rw [IntKind.wrap_u64]; exact hL
    have hLb : 0 ≤ L ∧ L < 18446744073709551616 := by omega
    have hHb : 0 ≤ H ∧ H < 11258999068426240000 := by omega
    obtain ⟨u1, hu1⟩ : ∃ u1, L / 4294967296 = u1 := ⟨_, rfl⟩
    obtain ⟨u0, hu0⟩ : ∃ u0, L % 4294967296 = u0 := ⟨_, rfl⟩
    have f4 : bits BinOp.and IntKind.u64 L 4294967295 = u0 := by rw [← hu0]; exact bits_mask L hLb.1 hLb.2
    obtain ⟨q1, hq1⟩ : ∃ q1, H / 2621440000 = q1 := ⟨_, rfl⟩
    obtain ⟨r1, hr1⟩ : ∃ r1, H - q1 * 2621440000 = r1 := ⟨_, rfl⟩
    have b1 : 0 ≤ q1 ∧ q1 < 4294967296 ∧ 0 ≤ r1 ∧ r1 < 2621440000 := by omega
    have f5 : H.tdiv 2621440000 = q1 := by rw [Int.tdiv_eq_ediv_of_nonneg hHb.1]; exact hq1
    have f6 : IntKind.u64.wrap q1 = q1 := by rw [IntKind.wrap_u64]; omega
    have f7 : IntKind.u64.wrap (q1 * 2621440000) = q1 * 2621440000 := by rw [IntKind.wrap_u64]; omega
    have f8 : IntKind.u64.wrap (H - q1 * 2621440000) = r1 := by rw [IntKind.wrap_u64]; omega
    have g1 : decide (4294967296 ≤ q1) = false := by simp; omega
    have f9 : IntKind.u64.wrap (4294967296 * r1) = 4294967296 * r1 := by rw [IntKind.wrap_u64]; omega
    obtain ⟨U, hU⟩ : ∃ U, 4294967296 * r1 + u1 = U := ⟨_, rfl⟩
    have hUb : 0 ≤ U ∧ U < 11258999068426240000 := by omega
    have f10 : IntKind.u64.wrap (4294967296 * r1 + u1) = U := by rw [IntKind.wrap_u64]; omega
    have g2 : decide (U < 0) = false := by simp; omega
    have f11 : IntKind.u64.wrap (IntKind.u64.wrap (IntKind.u64.wrap (H * 4294967296) + u1) - IntKind.u64.wrap (q1 * 11258999068426240000)) = U := by simp only [IntKind.wrap_u64]; omega
    obtain ⟨q0, hq0⟩ : ∃ q0, U / 2621440000 = q0 := ⟨_, rfl⟩
    obtain ⟨r0, hr0⟩ : ∃ r0, U - q0 * 2621440000 = r0 := ⟨_, rfl⟩
    have b2 : 0 ≤ q0 ∧ q0 < 4294967296 ∧ 0 ≤ r0 ∧ r0 < 2621440000 := by omega
    have f15 : U.tdiv 2621440000 = q0 := by rw [Int.tdiv_eq_ediv_of_nonneg hUb.1]; exact hq0
    have f16 : IntKind.u64.wrap q0 = q0 := by rw [IntKind.wrap_u64]; omega
    have f17 : IntKind.u64.wrap (q0 * 2621440000) = q0 * 2621440000 := by rw [IntKind.wrap_u64]; omega
    have f18 : IntKind.u64.wrap (U - q0 * 2621440000) = r0 := by rw [IntKind.wrap_u64]; omega
    have g3 : decide (4294967296 ≤ q0) = false := by simp; omega
    have f19 : IntKind.u64.wrap (4294967296 * r0) = 4294967296 * r0 := by rw [IntKind.wrap_u64]; omega
    obtain ⟨V, hV⟩ : ∃ V, 4294967296 * r0 + u0 = V := ⟨_, rfl⟩
    have f20 : IntKind.u64.wrap (4294967296 * r0 + u0) = V := by rw [IntKind.wrap_u64]; omega
    have g4 : decide (V < 0) = false := by simp; omega
    have f21 : IntKind.u64.wrap (IntKind.u64.wrap (IntKind.u64.wrap (U * 4294967296) + u0) - IntKind.u64.wrap (q0 * 11258999068426240000)) = V := by simp only [IntKind.wrap_u64]; omega
    have f22 : IntKind.u64.wrap (IntKind.u64.wrap (q1 * 4294967296) + q0) = (hi * 18446744073709551616 + lo) / 10000 := by simp only [IntKind.wrap_u64]; omega
    have f23 : V / 1125899906842624 = (hi * 18446744073709551616 + lo) % 10000 := by omega
    clear hH hL hu0 hq1 hr1 hU hq0 hr0 hV b1 b2 hHb hLb hUb
    go_wp2_with fail
    refine (lz_any _).mono ?_
    rintro e w1 ⟨rfl, rfl⟩
    go_wp2_with fail
    go_loop [15, 16] (fun a b => a = .int .u64 q1 ∧ b = .int .u64 r1) (fun i _ => (intOf i).toNat)
    case atStart => exact ⟨rfl, rfl⟩
    case round =>
      obtain ⟨rfl, rfl⟩ := hrel
      go_wp2_with fail
      go_loop [18, 16] (fun a b => a = .int .u64 q0 ∧ b = .int .u64 r0) (fun i _ => (intOf i).toNat)
      case atStart => exact ⟨rfl, rfl⟩
      case round =>
        obtain ⟨rfl, rfl⟩ := hrel
        go_wp2_with fail
        go_ret2
        exact ⟨rfl, hB⟩
end Go.Proofs.YtaddhfehjapoiaaDoor
