/-
  The walks of the laws FeesMost and FeesEnough.
-/
import Derived.Test.YtaddhfehjapoiaaDoorLaws
namespace Go.Proofs.YtaddhfehjapoiaaDoor
open Go.RowKit
set_option linter.unusedSimpArgs false
set_option linter.unusedVariables false
theorem rate_less (u v : Int) (m : Bool) (h : u ≤ v) : feeR v m ≤ feeR u m := by
  unfold feeR rateF tierF
  cases m <;> simp <;> omega
theorem rate_maker (v : Int) : feeR v true ≤ feeR v false := by
  unfold feeR rateF tierF
  simp
  omega
theorem fee_le (n j k : Int) (hn : 0 ≤ n) (hjk : j ≤ k) : n * j ≤ n * k := Int.mul_le_mul_of_nonneg_left hjk hn
theorem dnv_in (n k : Int) (hn : 0 ≤ n ∧ n ≤ 1152921504606846976) (hk : 0 ≤ k ∧ k ≤ 10000) : dnv n k = n * k / 10000 := by unfold dnv; rw [if_pos (by omega)]
theorem upv_in (n k : Int) (hn : 0 ≤ n ∧ n ≤ 1152921504606846976) (hk : 0 ≤ k ∧ k ≤ 10000) : upv n k = (n * k + 9999) / 10000 := by unfold upv; rw [if_pos (by omega)]
theorem okp_in (n k : Int) (hn : 0 ≤ n ∧ n ≤ 1152921504606846976) (hk : 0 ≤ k ∧ k ≤ 10000) : okp n k = true := by unfold okp; simp; omega
theorem most_law (n u v : Int) (m : Bool) (hn : 0 ≤ n ∧ n ≤ 1152921504606846976) (h : u ≤ v) :
    feeV n v m ≤ feeV n u m ∧ feeV n u m ≤ upv n 20 ∧ 0 ≤ feeV n v m := by
  have r := rate_less u v m h
  have b1 := feeR_bd u m; have b2 := feeR_bd v m
  have m1 := fee_le n _ _ hn.1 r
  have m2 := fee_le n _ _ hn.1 b1.2
  have m3 := Int.mul_nonneg hn.1 b2.1
  unfold feeV
  cases m
  · simp only [Bool.false_eq_true, if_false]
    rw [upv_in n _ hn (by omega), upv_in n _ hn (by omega), upv_in n 20 hn (by omega)]
    omega
  · simp only [if_true]
    rw [dnv_in n _ hn (by omega), dnv_in n _ hn (by omega), upv_in n 20 hn (by omega)]
    omega
theorem most_law2 (n v : Int) (hn : 0 ≤ n ∧ n ≤ 1152921504606846976) : upv n 20 ≤ n ∧ feeV n v true ≤ feeV n v false := by
  have r := rate_maker v
  have b1 := feeR_bd v true; have b2 := feeR_bd v false
  have m1 := fee_le n _ _ hn.1 r
  have e1 : feeV n v true = dnv n (feeR v true) := rfl
  have e2 : feeV n v false = upv n (feeR v false) := rfl
  rw [e1, e2, dnv_in n _ hn (by omega), upv_in n (feeR v false) hn (by omega), upv_in n 20 hn (by omega)]
  omega
set_option maxHeartbeats 2000000 in
theorem most_walk (amount v more : Int) (w : World) (g0 : (Lit.int .u64 amount).wf = true) (g1 : (Lit.int .i64 v).wf = true) (g2 : (Lit.int .i64 more).wf = true) (hT : TiersAt w) :
    Calls Tryd.prog 6 #[.int .u64 amount, .int .i64 v, .int .i64 more] w fun e w' => e = .returned (.bool true) ∧ Below w.heap.size w w' := by
  have hB := bel_refl w
  have ba := bounds_u64 g0
  clear g0 g1 g2
  obtain ⟨n, hn⟩ : ∃ n, amount % 1152921504606846977 = n := ⟨_, rfl⟩
  have t1 : amount.tmod 1152921504606846977 = n := by rw [Int.tmod_eq_emod_of_nonneg ba.1]; exact hn
  have bn : 0 ≤ n ∧ n ≤ 1152921504606846976 := by omega
  have w1 : IntKind.i64.wrap n = n := IntWalk.i64_in _ (by omega)
  have w2 : IntKind.u64.wrap n = n := by rw [IntKind.wrap_u64]; omega
  obtain ⟨p, hp⟩ : ∃ p, max v more = p := ⟨_, rfl⟩
  obtain ⟨q, hq⟩ : ∃ q, min v more = q := ⟨_, rfl⟩
  have hpq : q ≤ p := by omega
  obtain ⟨c, hc⟩ : ∃ c, IntKind.i64.wrap (v.tmod 2) = c := ⟨_, rfl⟩
  obtain ⟨hc2, hc3⟩ : wrap64 (v.tmod 2) = c ∧ v.tmod 2 = c := by
    have h := Int.tmod_lt_of_pos v (show (0 : Int) < 2 by omega)
    have h2 := Int.lt_tmod_of_pos v (show (0 : Int) < 2 by omega)
    rw [IntKind.wrap_i64] at hc
    exact ⟨by unfold wrap64; exact hc, by omega⟩
  obtain ⟨m, hm⟩ : ∃ m, (c == 0) = m := ⟨_, rfl⟩
  have i1 : I64 n := i64_lit _ (by omega)
  have c1 := Lib.hid (fee_any n p m i1)
  have c2 := Lib.hid (fee_any n q m i1)
  have c3 := Lib.hid (most_any n i1)
  have c4 := Lib.hid (fee_any n v true i1)
  have c5 := Lib.hid (fee_any n v false i1)
  have l1 := most_law n q p m bn hpq
  have l2 := most_law2 n v bn
  have b1 := feeR_bd p m; have b2 := feeR_bd q m; have b3 := feeR_bd v true; have b4 := feeR_bd v false
  rw [okp_in n _ bn (by omega)] at c1 c2 c3 c4 c5
  generalize feeV n p m = x1 at *
  generalize feeV n q m = x2 at *
  generalize upv n 20 = x3 at *
  generalize feeV n v true = x4 at *
  generalize feeV n v false = x5 at *
  have e1 : decide (x1 ≤ x2) = true := decide_eq_true l1.1
  have e2 : decide (x2 ≤ x3) = true := decide_eq_true l1.2.1
  have e3 : decide (0 ≤ x1) = true := decide_eq_true l1.2.2
  have e4 : decide (x3 ≤ n) = true := decide_eq_true l2.1
  have e5 : decide (x4 ≤ x5) = true := decide_eq_true l2.2
  clear l1 l2 b1 b2 b3 b4 i1 hpq bn ba
  go_enter Tryd.func6, Tryd.ntmps6
  go_wp2_with fail
  refine (awake_any _ hT).mono ?_
  rintro e w1 ⟨rfl, hb⟩
  replace hB := bel_call hb hB
  replace hT := hT.bel hb
  clear hb
  go_wp2_with fail
  refine (c1.out _ hT).mono ?_
  rintro e w2 ⟨rfl, hb⟩
  replace hB := bel_call hb hB
  replace hT := hT.bel hb
  clear hb
  go_wp2_with fail
  refine (c2.out _ hT).mono ?_
  rintro e w3 ⟨rfl, hb⟩
  replace hB := bel_call hb hB
  replace hT := hT.bel hb
  clear hb
  go_wp2_with fail
  refine (c3.out _).mono ?_
  rintro e w4 ⟨rfl, hb⟩
  replace hB := bel_call hb hB
  replace hT := hT.bel hb
  clear hb
  go_wp2_with fail
  refine (c4.out _ hT).mono ?_
  rintro e w5 ⟨rfl, hb⟩
  replace hB := bel_call hb hB
  replace hT := hT.bel hb
  clear hb
  go_wp2_with fail
  refine (c5.out _ hT).mono ?_
  rintro e w6 ⟨rfl, hb⟩
  replace hB := bel_call hb hB
  replace hT := hT.bel hb
  clear hb
  go_wp2_with fail
  go_ret
  exact ⟨rfl, hB⟩
theorem enough_law (p a b v : Int) (hp : 1 ≤ p ∧ p ≤ 1073741824) (ha : 0 ≤ a ∧ a < 536870912) (hb : 0 ≤ b ∧ b < 536870912) :
    holdOk p (a + b) = true ∧ holdOk p b = true ∧ okp (p * a) (feeR v true) = true ∧ 0 ≤ p * a ∧ p * a ≤ 1152921504606846976 ∧ 0 ≤ feeV (p * a) v true ∧ feeV (p * a) v true ≤ 1152921504606846976 ∧
      0 ≤ holdV p b ∧ holdV p b ≤ 2305843009213693952 ∧ p * a + feeV (p * a) v true + holdV p b ≤ holdV p (a + b) := by
  have h1 : HoldOk p (a + b) := by unfold HoldOk; omega
  have h2 : HoldOk p b := by unfold HoldOk; omega
  have h3 : HoldOk p a := by unfold HoldOk; omega
  have k1 := hold_bd _ _ h1; have k2 := hold_bd _ _ h2; have k3 := hold_bd _ _ h3
  have r := feeR_bd v true
  have m1 := fee_le (p * a) _ _ k3.1 r.2
  have m2 := Int.mul_nonneg k3.1 r.1
  have e1 : feeV (p * a) v true = dnv (p * a) (feeR v true) := rfl
  have e2 : holdV p b = p * b + upv (p * b) 20 := by simp [holdV, h2]
  have e3 : holdV p (a + b) = p * (a + b) + upv (p * (a + b)) 20 := by simp [holdV, h1]
  rw [e1, e2, e3, dnv_in _ _ k3 (by omega), upv_in _ 20 k2 (by omega), upv_in _ 20 k1 (by omega), okp_in _ _ k3 (by omega)]
  rw [Int.mul_add] at *
  refine ⟨by simp [holdOk, h1], by simp [holdOk, h2], rfl, ?_⟩
  generalize p * a * feeR v true = z at *
  generalize p * a = x at *
  generalize p * b = y at *
  omega
set_option maxHeartbeats 2000000 in
theorem enough_walk (price x y v : Int) (w : World) (g0 : (Lit.int .u32 price).wf = true) (g1 : (Lit.int .u32 x).wf = true) (g2 : (Lit.int .u32 y).wf = true) (g3 : (Lit.int .i64 v).wf = true) (hT : TiersAt w) :
    Calls Tryd.prog 5 #[.int .u32 price, .agg #[.int .u32 x, .int .u32 y], .int .i64 v] w fun e w' => e = .returned (.bool true) ∧ Below w.heap.size w w' := by
  have hB := bel_refl w
  have b0 := bounds_u32 g0; have b1 := bounds_u32 g1; have b2 := bounds_u32 g2
  clear g0 g1 g2 g3
  obtain ⟨p0, hp0⟩ : ∃ p, price % 1073741824 = p := ⟨_, rfl⟩
  obtain ⟨p, hp⟩ : ∃ p, 1 + p0 = p := ⟨_, rfl⟩
  obtain ⟨a, ha⟩ : ∃ a, x % 536870912 = a := ⟨_, rfl⟩
  obtain ⟨b, hb⟩ : ∃ b, y % 536870912 = b := ⟨_, rfl⟩
  have t0 : price.tmod 1073741824 = p0 := by rw [Int.tmod_eq_emod_of_nonneg b0.1]; exact hp0
  have t1 : x.tmod 536870912 = a := by rw [Int.tmod_eq_emod_of_nonneg b1.1]; exact ha
  have t2 : y.tmod 536870912 = b := by rw [Int.tmod_eq_emod_of_nonneg b2.1]; exact hb
  have bp : 1 ≤ p ∧ p ≤ 1073741824 := by omega
  have ba : 0 ≤ a ∧ a < 536870912 := by omega
  have bb : 0 ≤ b ∧ b < 536870912 := by omega
  have w0 : IntKind.i64.wrap p0 = p0 := IntWalk.i64_in _ (by omega)
  have w1 : IntKind.i64.wrap p = p := IntWalk.i64_in _ (by omega)
  have w2 : IntKind.i64.wrap a = a := IntWalk.i64_in _ (by omega)
  have w3 : IntKind.i64.wrap b = b := IntWalk.i64_in _ (by omega)
  obtain ⟨s, hs⟩ : ∃ s, a + b = s := ⟨_, rfl⟩
  have w4 : IntKind.i64.wrap s = s := IntWalk.i64_in _ (by omega)
  obtain ⟨l1, l2, l3, l4, l5, l6, l7, l8, l9, l10⟩ := enough_law p a b v bp ba bb
  rw [hs] at l1 l10
  obtain ⟨m, hm⟩ : ∃ m, p * a = m := ⟨_, rfl⟩
  rw [hm] at l3 l4 l5 l6 l7 l10
  have w5 : IntKind.i64.wrap m = m := IntWalk.i64_in _ (by omega)
  have c1 := Lib.hid (hold_any p s (i64_lit _ (by omega)) (i64_lit _ (by omega)))
  have c2 := Lib.hid (hold_any p b (i64_lit _ (by omega)) (i64_lit _ (by omega)))
  have c3 := Lib.hid (fee_any m v true (i64_lit _ (by omega)))
  rw [l1] at c1
  rw [l2] at c2
  rw [l3] at c3
  clear l1 l2 l3
  generalize holdV p s = A1 at *
  generalize holdV p b = A2 at *
  generalize feeV m v true = A3 at *
  have w6 : IntKind.i64.wrap (m + A3) = m + A3 := IntWalk.i64_in _ (by omega)
  have w7 : IntKind.i64.wrap (m + A3 + A2) = m + A3 + A2 := IntWalk.i64_in _ (by omega)
  have e1 : decide (m + A3 + A2 ≤ A1) = true := decide_eq_true l10
  clear l4 l5 l6 l7 l8 l9 l10 bp ba bb b0 b1 b2
  go_enter Tryd.func5, Tryd.ntmps5
  have HT := Lib.hid hT
  go_wp2_with fail
  refine (awake_any _ (by first | exact hT | exact hT.alloc _)).mono ?_
  rintro e w1 ⟨rfl, hb⟩
  have C : Blk w1 w.heap.size _ := Blk.call (by first | exact (Blk.new _ _ _) | exact (Blk.new _ _ _).alloc _ | exact ((Blk.new _ _ _).alloc _).alloc _ | exact (((Blk.new _ _ _).alloc _).alloc _).alloc _ | exact (Blk.new _ _ _).drew | exact ((Blk.new _ _ _).alloc _).drew | exact (((Blk.new _ _ _).alloc _).alloc _).drew) hb
  replace hB := bel_call hb (by first | exact hB | exact bel_alloc hB _ | exact bel_alloc (bel_alloc hB _) _ | exact bel_alloc (bel_alloc (bel_alloc hB _) _) _ | exact bel_drew hB | exact bel_drew (bel_alloc hB _) | exact bel_drew (bel_alloc (bel_alloc hB _) _))
  clear hb
  have C_c := C.cell; have C_f := C.free; have C_l := C.lt
  have hT1 : TiersAt w1 := HT.out.bel hB
  clear hT
  go_wp2_with fail
  refine (c1.out _).mono ?_
  rintro e w2 ⟨rfl, hb0⟩
  replace hB := bel_call hb0 hB
  replace hT1 := hT1.bel hb0
  clear hb0
  clear C C_c C_f C_l
  go_wp2_with fail
  refine (c2.out _).mono ?_
  rintro e w3 ⟨rfl, hb1⟩
  replace hB := bel_call hb1 hB
  replace hT1 := hT1.bel hb1
  clear hb1
  go_wp2_with fail
  refine (c3.out _ hT1).mono ?_
  rintro e w4 ⟨rfl, hb2⟩
  replace hB := bel_call hb2 hB
  replace hT1 := hT1.bel hb2
  clear hb2
  go_wp2_with fail
  go_ret
  exact ⟨rfl, hB⟩
end Go.Proofs.YtaddhfehjapoiaaDoor
