/-
  The laws BucketSplits, BucketRefuses, BucketBack: the walks; for every input they return true. No condition.
-/
import Derived.Test.YtnhdbnahigagjaaBucket
import Derived.Test.YtnhdbnahigagjaaBlk
import Derived.OpenShut
namespace Go.Proofs.Ytnhdbnahigagjaa
open Go.RowKit
set_option linter.unusedSimpArgs false
set_option linter.unusedVariables false

theorem hold_in (n top : Int) (h0 : 0 ≤ n) (h1 : n ≤ top) : hold n top = n := by unfold hold; split; omega; split <;> omega
theorem nowA_small (A t : Int) (hA : 0 ≤ A) (hAt : A ≤ t) (ht : t ≤ 1099511627776) : nowA A t = t := by
  unfold nowA M
  rw [hold_in t _ (by omega) ht, hold_in A _ hA (by omega)]
  split <;> omega
theorem nowT_small (T A t r b : Int) (hT : 0 ≤ T) (hTb : T ≤ b) (hb : b ≤ 1073741824) (hr : 0 ≤ r) (hr1 : r ≤ 1073741824) (hA : 0 ≤ A) (hAt : A ≤ t) (ht : t ≤ 1099511627776) :
    nowT T A t r b = min b (T + r * (t - A)) := by
  unfold nowT M B
  rw [hold_in b _ (by omega) hb, hold_in T _ hT hTb, hold_in r _ hr hr1, hold_in t _ (by omega) ht, hold_in A _ hA (by omega)]
  by_cases h : t ≤ A
  · rw [if_pos h]
    have : t - A = 0 := by omega
    rw [this]; simp; omega
  · rw [if_neg h]
    have hm : 0 ≤ r * (t - A) := Int.mul_nonneg hr (by omega)
    by_cases h2 : 0 < r ∧ (b - T) / r < t - A
    · rw [if_pos h2]
      have h3 : b - T < r * (t - A) := by
        have := Int.lt_mul_of_ediv_lt (show 0 < r from h2.1) h2.2
        rw [Int.mul_comm] at this
        exact this
      omega
    · rw [if_neg h2]
      have h3 : r * (t - A) ≤ b - T := by
        by_cases hr0 : r = 0
        · subst hr0; simp; omega
        · exact mul_room _ _ _ (by omega) (fun h => h2 ⟨by omega, h⟩)
      omega
theorem nowT_twice (T A o t r b : Int) (hT : 0 ≤ T) (hTb : T ≤ b) (hb : b ≤ 1073741824) (hr : 0 ≤ r) (hr1 : r ≤ 1073741824) (hA : 0 ≤ A) (hAo : A ≤ o) (hot : o ≤ t) (ht : t ≤ 1099511627776) :
    nowT (nowT T A o r b) o t r b = nowT T A t r b := by
  have h1 := nowT_small T A o r b hT hTb hb hr hr1 hA hAo (by omega)
  have h0 := nowT_lo T A o r b
  rw [nowT_small (nowT T A o r b) o t r b h0 (by omega) hb hr hr1 (by omega) hot ht, nowT_small T A t r b hT hTb hb hr hr1 hA (by omega) ht, h1]
  have e : r * (t - A) = r * (o - A) + r * (t - o) := by rw [← Int.mul_add]; congr 1; omega
  have n1 : 0 ≤ r * (o - A) := Int.mul_nonneg hr (by omega)
  have n2 : 0 ≤ r * (t - o) := Int.mul_nonneg hr (by omega)
  rw [e]
  omega

set_option maxHeartbeats 4000000 in
theorem splits_walk (x0 x1 x2 x3 x4 x5 : Int) (w : World) (g0 : (Lit.int .u16 x0).wf = true) (g1 : (Lit.int .u16 x1).wf = true) (g2 : (Lit.int .u16 x2).wf = true) (g3 : (Lit.int .u16 x3).wf = true) (g4 : (Lit.int .u16 x4).wf = true) (g5 : (Lit.int .u16 x5).wf = true) :
    Calls Try.prog 5 #[.agg #[.int .u16 x0, .int .u16 x1, .int .u16 x2, .int .u16 x3, .int .u16 x4, .int .u16 x5]] w fun e w' => e = .returned (.bool true) ∧ Below w.heap.size w w' := by
  have b0 := bounds_u16 g0; have b1 := bounds_u16 g1; have b2 := bounds_u16 g2; have b3 := bounds_u16 g3; have b4 := bounds_u16 g4; have b5 := bounds_u16 g5
  clear g0 g1 g2 g3 g4 g5
  obtain ⟨T, hT⟩ : ∃ T, (if x3 < x1 then x3 else x1) = T := ⟨_, rfl⟩
  have hT0 : 0 ≤ T := by rw [← hT]; split <;> omega
  have hT1 : T ≤ x3 := by rw [← hT]; split <;> omega
  obtain ⟨one, h1⟩ : ∃ one, x0 + x4 = one := ⟨_, rfl⟩
  obtain ⟨two, h2⟩ : ∃ two, one + x5 = two := ⟨_, rfl⟩
  obtain ⟨pr, h3⟩ : ∃ pr, x2 * (two - x0) = pr := ⟨_, rfl⟩
  have hp0 : 0 ≤ pr := by rw [← h3]; exact Int.mul_nonneg (by omega) (by omega)
  have hp1 : pr ≤ 65535 * 131070 := by
    rw [← h3]
    exact Int.le_trans (Int.mul_le_mul_of_nonneg_right (show x2 ≤ 65535 by omega) (by omega)) (Int.mul_le_mul_of_nonneg_left (show two - x0 ≤ 131070 by omega) (by omega))
  obtain ⟨v, h4⟩ : ∃ v, (if T + pr < x3 then T + pr else x3) = v := ⟨_, rfl⟩
  have a1 := nowA_small x0 one (by omega) (by omega) (by omega)
  have a2 := nowA_small one two (by omega) (by omega) (by omega)
  have a3 := nowA_small x0 two (by omega) (by omega) (by omega)
  have e3 : nowT T x0 two x2 x3 = v := by
    rw [nowT_small T x0 two x2 x3 hT0 hT1 (by omega) (by omega) (by omega) (by omega) (by omega) (by omega), h3, ← h4]
    split <;> omega
  have e1 : nowT (nowT T x0 one x2 x3) one two x2 x3 = v := by
    rw [nowT_twice T x0 one two x2 x3 hT0 hT1 (by omega) (by omega) (by omega) (by omega) (by omega) (by omega) (by omega)]
    exact e3
  have hB := bel_refl w
  go_enter Try.func5, Try.ntmps5
  go_wp2_with fail
  refine (awake_any _).mono ?_
  rintro e w1 ⟨rfl, hb⟩
  have C : Blk w1 w.heap.size _ := Blk.call (by first | exact (Blk.new _ _ _) | exact (Blk.new _ _ _).alloc _ | exact ((Blk.new _ _ _).alloc _).alloc _ | exact (((Blk.new _ _ _).alloc _).alloc _).alloc _ | exact (Blk.new _ _ _).drew | exact ((Blk.new _ _ _).alloc _).drew | exact (((Blk.new _ _ _).alloc _).alloc _).drew) hb
  replace hB := bel_call hb (by first | exact hB | exact bel_alloc hB _ | exact bel_alloc (bel_alloc hB _) _ | exact bel_alloc (bel_alloc (bel_alloc hB _) _) _ | exact bel_drew hB | exact bel_drew (bel_alloc hB _) | exact bel_drew (bel_alloc (bel_alloc hB _) _))
  clear hb
  have C_c := C.cell; have C_f := C.free; have C_l := C.lt
  go_wp2_with fail
  clear C_c C_f C_l C
  have k1 : IntKind.i64.wrap (two - x0) = two - x0 := IntWalk.i64_in _ (by omega)
  have k2 : IntKind.i64.wrap pr = pr := IntWalk.i64_in _ (by omega)
  have k3 : IntKind.i64.wrap (T + pr) = T + pr := IntWalk.i64_in _ (by omega)
  refine wp_region_plan [(0, true), (1, true), (2, true), (3, true), (4, true), (5, true), (7, true), (8, true), (9, true), (11, true), (12, true), (13, true), (14, true), (6, false), (10, false), (15, false), (16, true), (17, true), (18, true), (19, true), (20, true), (21, true), (22, true), (25, true), (26, true), (27, true), (28, true), (29, true), (30, true), (31, true), (32, true), (33, true), (34, true), (35, true), (23, false), (24, true), (36, true), (37, true), (38, false)] (fun w' => Blk w' (w1.heap.size + 1 + 1) #[.int .i64 T, .int .i64 x0] ∧ Below w.heap.size w w') (by kernel_rfl) (by kernel_rfl) (fun _ _ _ _ h => h) ?_ (fun hS => ?_)
  · exact ⟨(Blk.new' (by simp) _ _).drew, bel_drew (bel_alloc (bel_alloc (bel_alloc hB _) _) _)⟩
  iterate 13
    refine plan_light (o := ?_) (v := ?_) ?_ ?_ ?_ ?_
    rotate_left 2
    · simp only [List.getElem?_toArray, List.getElem?_cons_zero, List.getElem?_cons_succ]
      rfl
    · go_simp
    · intro w' hS
      (obtain ⟨s1, s2⟩ := hS; replace s1 := s1.cell)
      go_simp
      try rfl
    simp only [Act.put, List.setIfInBounds_toArray, List.set_cons_zero, List.set_cons_succ]
  refine plan_heavy (o := ?_) ?_ (fun K' hK => ?_)
  rotate_left
  · simp only [List.getElem?_toArray, List.getElem?_cons_zero, List.getElem?_cons_succ]
    rfl
  go_simp
  go_wp2_with (go_at_call 9; refine (now_any _ _ _ _ _ _).mono ?_; rintro e w7 ⟨rfl, hb⟩)
  refine hK.out _ _ ?_ (fun hS => ?_)
  · (first | exact ⟨hS.1.call hb, bel_call hb hS.2⟩ | exact ⟨(Blk.new' (by simp) _ _).drew.call hb, bel_call hb (bel_drew (bel_alloc (bel_alloc (bel_alloc hB _) _) _))⟩)
  clear hK K'
  refine plan_heavy (o := ?_) ?_ (fun K' hK => ?_)
  rotate_left
  · simp only [List.getElem?_toArray, List.getElem?_cons_zero, List.getElem?_cons_succ]
    rfl
  go_simp
  go_wp2_with (go_at_call 9; refine (now_any _ _ _ _ _ _).mono ?_; rintro e w7 ⟨rfl, hb⟩)
  refine hK.out _ _ ?_ (fun hS => ?_)
  · (first | exact ⟨hS.1.call hb, bel_call hb hS.2⟩ | exact ⟨(Blk.new' (by simp) _ _).drew.call hb, bel_call hb (bel_drew (bel_alloc (bel_alloc (bel_alloc hB _) _) _))⟩)
  clear hK K'
  refine plan_heavy (o := ?_) ?_ (fun K' hK => ?_)
  rotate_left
  · simp only [List.getElem?_toArray, List.getElem?_cons_zero, List.getElem?_cons_succ]
    rfl
  go_simp
  go_wp2_with (go_at_call 9; refine (now_any _ _ _ _ _ _).mono ?_; rintro e w7 ⟨rfl, hb⟩)
  refine hK.out _ _ ?_ (fun hS => ?_)
  · (first | exact ⟨hS.1.call hb, bel_call hb hS.2⟩ | exact ⟨(Blk.new' (by simp) _ _).drew.call hb, bel_call hb (bel_drew (bel_alloc (bel_alloc (bel_alloc hB _) _) _))⟩)
  clear hK K'
  iterate 18
    refine plan_light (o := ?_) (v := ?_) ?_ ?_ ?_ ?_
    rotate_left 2
    · simp only [List.getElem?_toArray, List.getElem?_cons_zero, List.getElem?_cons_succ]
      rfl
    · go_simp
    · intro w' hS
      (obtain ⟨s1, s2⟩ := hS; replace s1 := s1.cell)
      go_simp
      try rfl
    simp only [Act.put, List.setIfInBounds_toArray, List.set_cons_zero, List.set_cons_succ]
  refine plan_heavy (o := ?_) ?_ (fun K' hK => ?_)
  rotate_left
  · simp only [List.getElem?_toArray, List.getElem?_cons_zero, List.getElem?_cons_succ]
    rfl
  go_simp
  go_wp2_with (go_at_call 9; refine (now_any _ _ _ _ _ _).mono ?_; rintro e w7 ⟨rfl, hb⟩)
  refine hK.out _ _ ?_ (fun hS => ?_)
  · (first | exact ⟨hS.1.call hb, bel_call hb hS.2⟩ | exact ⟨(Blk.new' (by simp) _ _).drew.call hb, bel_call hb (bel_drew (bel_alloc (bel_alloc (bel_alloc hB _) _) _))⟩)
  clear hK K'
  iterate 3
    refine plan_light (o := ?_) (v := ?_) ?_ ?_ ?_ ?_
    rotate_left 2
    · simp only [List.getElem?_toArray, List.getElem?_cons_zero, List.getElem?_cons_succ]
      rfl
    · go_simp
    · intro w' hS
      (obtain ⟨s1, s2⟩ := hS; replace s1 := s1.cell)
      go_simp
      try rfl
    simp only [Act.put, List.setIfInBounds_toArray, List.set_cons_zero, List.set_cons_succ]
  refine plan_sink (o := ?_) ?_ (by kernel_rfl) (fun K' hK => ?_)
  rotate_left
  · simp only [List.getElem?_toArray, List.getElem?_cons_zero, List.getElem?_cons_succ]
    rfl
  go_simp
  refine hK.out _ _ ?_
  clear hK K'
  refine plan_nil ?_
  go_wp2
  go_ret
  exact ⟨rfl, hS.2⟩

theorem hold_fix (k top : Int) (h0 : 0 ≤ k) (h1 : k ≤ top) : hold k top = k := hold_in k top h0 h1
theorem nowA_lo (A t : Int) : 0 ≤ nowA A t ∧ nowA A t ≤ M ∧ hold t M ≤ nowA A t := by
  have h1 := hold_lo t M (by decide); have h2 := hold_hi t M (by decide)
  have h3 := hold_lo A M (by decide); have h4 := hold_hi A M (by decide)
  unfold nowA
  split <;> omega
theorem now_back (X A t r burst : Int) (hX : 0 ≤ X) (hXb : X ≤ hold burst B) (hA : 0 ≤ A) (hAM : A ≤ M) (ht : hold t M ≤ A) : nowT X A t r burst = X ∧ nowA A t = A := by
  unfold nowT nowA
  rw [hold_in A M hA hAM, if_pos ht, if_pos ht, hold_in X _ hX hXb]
  exact ⟨rfl, rfl⟩
theorem now_again (tok at_ now rate burst k : Int) (h0 : 0 ≤ k) (h1 : k ≤ nowT tok at_ now rate burst) :
    nowT k (nowA at_ now) now rate burst = k ∧ nowA (nowA at_ now) now = nowA at_ now := by
  have h := nowA_lo at_ now
  have h2 := nowT_hi tok at_ now rate burst
  exact now_back k (nowA at_ now) now rate burst h0 (by omega) h.1 h.2.1 h.2.2

theorem fld0 : ∀ (x y : Int) (w : World), (Instr.field 23 (.agg #[.int .i64 x, .int .i64 y]) 0).run Try.prog w = .ok (.int .i64 x) w := fun _ _ _ => by kernel_rfl
set_option maxHeartbeats 4000000 in
theorem refuses_walk (tok at_ now n rate burst m : Int) (w : World) (g0 : (Lit.int .i64 tok).wf = true) (g1 : (Lit.int .i64 at_).wf = true) (g2 : (Lit.int .i64 now).wf = true) (g3 : (Lit.int .i64 n).wf = true) (g4 : (Lit.int .i64 rate).wf = true) (g5 : (Lit.int .i64 burst).wf = true) (g6 : (Lit.int .i64 m).wf = true) :
    Calls Try.prog 6 #[.agg #[.int .i64 tok, .int .i64 at_, .int .i64 now, .int .i64 n, .int .i64 rate, .int .i64 burst], .int .i64 m] w fun e w' => e = .returned (.bool true) ∧ Below w.heap.size w w' := by
  have b6 := bounds_i64 g6
  clear g0 g1 g2 g3 g4 g5 g6
  have hv0 := nowT_lo tok at_ now rate burst
  have hv1 := nowT_top tok at_ now rate burst
  cases hb1 : takeB tok at_ now n rate burst with
  | false =>
    have hT : takeT tok at_ now n rate burst = tok := by unfold takeT; rw [hb1]; rfl
    have hA : takeA tok at_ now n rate burst = at_ := by unfold takeA; rw [hb1]; rfl
    clear hv0 hv1
    have hB := bel_refl w
    go_enter Try.func6, Try.ntmps6
    go_wp2_with fail
    refine (awake_any _).mono ?_
    rintro e w1 ⟨rfl, hb⟩
    have C : Blk w1 w.heap.size _ := Blk.call (by first | exact (Blk.new _ _ _) | exact (Blk.new _ _ _).alloc _ | exact ((Blk.new _ _ _).alloc _).alloc _ | exact (((Blk.new _ _ _).alloc _).alloc _).alloc _ | exact (Blk.new _ _ _).drew | exact ((Blk.new _ _ _).alloc _).drew | exact (((Blk.new _ _ _).alloc _).alloc _).drew) hb
    replace hB := bel_call hb (by first | exact hB | exact bel_alloc hB _ | exact bel_alloc (bel_alloc hB _) _ | exact bel_alloc (bel_alloc (bel_alloc hB _) _) _ | exact bel_drew hB | exact bel_drew (bel_alloc hB _) | exact bel_drew (bel_alloc (bel_alloc hB _) _))
    clear hb
    have C_c := C.cell; have C_f := C.free; have C_l := C.lt
    go_wp2_with fail
    refine (take_any _ _ _ _ _ _ _).mono ?_
    rintro e w2 ⟨rfl, hb⟩
    clear C_c C_f C_l
    replace C := Blk.call (by first | exact C | exact C.alloc _ | exact (C.alloc _).alloc _ | exact ((C.alloc _).alloc _).alloc _ | exact C.drew | exact (C.alloc _).drew | exact ((C.alloc _).alloc _).drew) hb
    replace hB := bel_call hb (by first | exact hB | exact bel_alloc hB _ | exact bel_alloc (bel_alloc hB _) _ | exact bel_alloc (bel_alloc (bel_alloc hB _) _) _ | exact bel_drew hB | exact bel_drew (bel_alloc hB _) | exact bel_drew (bel_alloc (bel_alloc hB _) _))
    clear hb
    have C_c := C.cell; have C_f := C.free; have C_l := C.lt
    go_wp2
    go_ret
    exact ⟨rfl, bel_alloc hB _⟩
  | true =>
    have hd : 0 ≤ n ∧ n ≤ nowT tok at_ now rate burst := by unfold takeB at hb1; exact of_decide_eq_true hb1
    have hT : takeT tok at_ now n rate burst = nowT tok at_ now rate burst - n := by unfold takeT; rw [hb1]; rfl
    have hA : takeA tok at_ now n rate burst = nowA at_ now := by unfold takeA; rw [hb1]; rfl
    obtain ⟨ag1, ag2⟩ := now_again tok at_ now rate burst (nowT tok at_ now rate burst - n) (by omega) (by omega)
    have tb : takeB (nowT tok at_ now rate burst - n) (nowA at_ now) now m rate burst = decide (0 ≤ m ∧ m ≤ nowT tok at_ now rate burst - n) := by unfold takeB; rw [ag1]
    have tt : takeT (nowT tok at_ now rate burst - n) (nowA at_ now) now m rate burst = if 0 ≤ m ∧ m ≤ nowT tok at_ now rate burst - n then nowT tok at_ now rate burst - n - m else nowT tok at_ now rate burst - n := by
      unfold takeT; rw [tb, ag1]; simp only [decide_eq_true_eq]
    clear ag1 ag2
    obtain ⟨AA, hAA⟩ : ∃ AA, nowA at_ now = AA := ⟨_, rfl⟩
    obtain ⟨hv, hhv⟩ : ∃ hv, nowT tok at_ now rate burst = hv := ⟨_, rfl⟩
    rw [hAA] at hA tb tt
    rw [hhv] at hT tb tt hd hv0 hv1
    have hfd := fld0
    obtain ⟨p0, hp⟩ : ∃ p0, hv - n = p0 := ⟨_, rfl⟩
    rw [hp] at tb tt hT
    by_cases hm0 : 0 ≤ m
    · by_cases hm1 : m ≤ p0
      · rw [decide_eq_true ⟨hm0, hm1⟩] at tb
        rw [if_pos ⟨hm0, hm1⟩] at tt
        have hB := bel_refl w
        go_enter Try.func6, Try.ntmps6
        go_wp2_with fail
        refine (awake_any _).mono ?_
        rintro e w1 ⟨rfl, hb⟩
        have C : Blk w1 w.heap.size _ := Blk.call (by first | exact (Blk.new _ _ _) | exact (Blk.new _ _ _).alloc _ | exact ((Blk.new _ _ _).alloc _).alloc _ | exact (((Blk.new _ _ _).alloc _).alloc _).alloc _ | exact (Blk.new _ _ _).drew | exact ((Blk.new _ _ _).alloc _).drew | exact (((Blk.new _ _ _).alloc _).alloc _).drew) hb
        replace hB := bel_call hb (by first | exact hB | exact bel_alloc hB _ | exact bel_alloc (bel_alloc hB _) _ | exact bel_alloc (bel_alloc (bel_alloc hB _) _) _ | exact bel_drew hB | exact bel_drew (bel_alloc hB _) | exact bel_drew (bel_alloc (bel_alloc hB _) _))
        clear hb
        have C_c := C.cell; have C_f := C.free; have C_l := C.lt
        go_wp2_with fail
        refine (take_any _ _ _ _ _ _ _).mono ?_
        rintro e w2 ⟨rfl, hb⟩
        clear C_c C_f C_l
        replace C := Blk.call (by first | exact C | exact C.alloc _ | exact (C.alloc _).alloc _ | exact ((C.alloc _).alloc _).alloc _ | exact C.drew | exact (C.alloc _).drew | exact ((C.alloc _).alloc _).drew) hb
        replace hB := bel_call hb (by first | exact hB | exact bel_alloc hB _ | exact bel_alloc (bel_alloc hB _) _ | exact bel_alloc (bel_alloc (bel_alloc hB _) _) _ | exact bel_drew hB | exact bel_drew (bel_alloc hB _) | exact bel_drew (bel_alloc (bel_alloc hB _) _))
        clear hb
        have C_c := C.cell; have C_f := C.free; have C_l := C.lt
        go_wp2_with fail
        refine (now_any _ _ _ _ _ _).mono ?_
        rintro e w3 ⟨rfl, hb⟩
        clear C_c C_f C_l
        replace C := Blk.call (by first | exact C | exact C.alloc _ | exact (C.alloc _).alloc _ | exact ((C.alloc _).alloc _).alloc _ | exact C.drew | exact (C.alloc _).drew | exact ((C.alloc _).alloc _).drew) hb
        have P : Blk w3 w2.heap.size _ := Blk.call (by first | exact (Blk.new _ _ _) | exact (Blk.new _ _ _).alloc _ | exact ((Blk.new _ _ _).alloc _).alloc _ | exact (((Blk.new _ _ _).alloc _).alloc _).alloc _ | exact (Blk.new _ _ _).drew | exact ((Blk.new _ _ _).alloc _).drew | exact (((Blk.new _ _ _).alloc _).alloc _).drew) hb
        replace hB := bel_call hb (by first | exact hB | exact bel_alloc hB _ | exact bel_alloc (bel_alloc hB _) _ | exact bel_alloc (bel_alloc (bel_alloc hB _) _) _ | exact bel_drew hB | exact bel_drew (bel_alloc hB _) | exact bel_drew (bel_alloc (bel_alloc hB _) _))
        clear hb
        have C_c := C.cell; have C_f := C.free; have C_l := C.lt
        have P_c := P.cell; have P_f := P.free; have P_l := P.lt
        go_wp2_with fail
        refine (take_any _ _ _ _ _ _ _).mono ?_
        rintro e w4 ⟨rfl, hb⟩
        clear C_c C_f C_l
        clear P_c P_f P_l
        replace C := Blk.call (by first | exact C | exact C.alloc _ | exact (C.alloc _).alloc _ | exact ((C.alloc _).alloc _).alloc _ | exact C.drew | exact (C.alloc _).drew | exact ((C.alloc _).alloc _).drew) hb
        replace P := Blk.call (by first | exact P | exact P.alloc _ | exact (P.alloc _).alloc _ | exact ((P.alloc _).alloc _).alloc _ | exact P.drew | exact (P.alloc _).drew | exact ((P.alloc _).alloc _).drew) hb
        replace hB := bel_call hb (by first | exact hB | exact bel_alloc hB _ | exact bel_alloc (bel_alloc hB _) _ | exact bel_alloc (bel_alloc (bel_alloc hB _) _) _ | exact bel_drew hB | exact bel_drew (bel_alloc hB _) | exact bel_drew (bel_alloc (bel_alloc hB _) _))
        clear hb
        have C_c := C.cell; have C_f := C.free; have C_l := C.lt
        have P_c := P.cell; have P_f := P.free; have P_l := P.lt
        go_wp2
        go_ret
        exact ⟨by first | rfl | (simp; done) | (simp; omega), bel_alloc hB _⟩
      · rw [decide_eq_false (fun h => hm1 h.2)] at tb
        rw [if_neg (fun h => hm1 h.2)] at tt
        have hB := bel_refl w
        go_enter Try.func6, Try.ntmps6
        go_wp2_with fail
        refine (awake_any _).mono ?_
        rintro e w1 ⟨rfl, hb⟩
        have C : Blk w1 w.heap.size _ := Blk.call (by first | exact (Blk.new _ _ _) | exact (Blk.new _ _ _).alloc _ | exact ((Blk.new _ _ _).alloc _).alloc _ | exact (((Blk.new _ _ _).alloc _).alloc _).alloc _ | exact (Blk.new _ _ _).drew | exact ((Blk.new _ _ _).alloc _).drew | exact (((Blk.new _ _ _).alloc _).alloc _).drew) hb
        replace hB := bel_call hb (by first | exact hB | exact bel_alloc hB _ | exact bel_alloc (bel_alloc hB _) _ | exact bel_alloc (bel_alloc (bel_alloc hB _) _) _ | exact bel_drew hB | exact bel_drew (bel_alloc hB _) | exact bel_drew (bel_alloc (bel_alloc hB _) _))
        clear hb
        have C_c := C.cell; have C_f := C.free; have C_l := C.lt
        go_wp2_with fail
        refine (take_any _ _ _ _ _ _ _).mono ?_
        rintro e w2 ⟨rfl, hb⟩
        clear C_c C_f C_l
        replace C := Blk.call (by first | exact C | exact C.alloc _ | exact (C.alloc _).alloc _ | exact ((C.alloc _).alloc _).alloc _ | exact C.drew | exact (C.alloc _).drew | exact ((C.alloc _).alloc _).drew) hb
        replace hB := bel_call hb (by first | exact hB | exact bel_alloc hB _ | exact bel_alloc (bel_alloc hB _) _ | exact bel_alloc (bel_alloc (bel_alloc hB _) _) _ | exact bel_drew hB | exact bel_drew (bel_alloc hB _) | exact bel_drew (bel_alloc (bel_alloc hB _) _))
        clear hb
        have C_c := C.cell; have C_f := C.free; have C_l := C.lt
        go_wp2_with fail
        refine (now_any _ _ _ _ _ _).mono ?_
        rintro e w3 ⟨rfl, hb⟩
        clear C_c C_f C_l
        replace C := Blk.call (by first | exact C | exact C.alloc _ | exact (C.alloc _).alloc _ | exact ((C.alloc _).alloc _).alloc _ | exact C.drew | exact (C.alloc _).drew | exact ((C.alloc _).alloc _).drew) hb
        have P : Blk w3 w2.heap.size _ := Blk.call (by first | exact (Blk.new _ _ _) | exact (Blk.new _ _ _).alloc _ | exact ((Blk.new _ _ _).alloc _).alloc _ | exact (((Blk.new _ _ _).alloc _).alloc _).alloc _ | exact (Blk.new _ _ _).drew | exact ((Blk.new _ _ _).alloc _).drew | exact (((Blk.new _ _ _).alloc _).alloc _).drew) hb
        replace hB := bel_call hb (by first | exact hB | exact bel_alloc hB _ | exact bel_alloc (bel_alloc hB _) _ | exact bel_alloc (bel_alloc (bel_alloc hB _) _) _ | exact bel_drew hB | exact bel_drew (bel_alloc hB _) | exact bel_drew (bel_alloc (bel_alloc hB _) _))
        clear hb
        have C_c := C.cell; have C_f := C.free; have C_l := C.lt
        have P_c := P.cell; have P_f := P.free; have P_l := P.lt
        go_wp2_with fail
        refine (take_any _ _ _ _ _ _ _).mono ?_
        rintro e w4 ⟨rfl, hb⟩
        clear C_c C_f C_l
        clear P_c P_f P_l
        replace C := Blk.call (by first | exact C | exact C.alloc _ | exact (C.alloc _).alloc _ | exact ((C.alloc _).alloc _).alloc _ | exact C.drew | exact (C.alloc _).drew | exact ((C.alloc _).alloc _).drew) hb
        replace P := Blk.call (by first | exact P | exact P.alloc _ | exact (P.alloc _).alloc _ | exact ((P.alloc _).alloc _).alloc _ | exact P.drew | exact (P.alloc _).drew | exact ((P.alloc _).alloc _).drew) hb
        replace hB := bel_call hb (by first | exact hB | exact bel_alloc hB _ | exact bel_alloc (bel_alloc hB _) _ | exact bel_alloc (bel_alloc (bel_alloc hB _) _) _ | exact bel_drew hB | exact bel_drew (bel_alloc hB _) | exact bel_drew (bel_alloc (bel_alloc hB _) _))
        clear hb
        have C_c := C.cell; have C_f := C.free; have C_l := C.lt
        have P_c := P.cell; have P_f := P.free; have P_l := P.lt
        go_wp2
        go_ret
        exact ⟨by first | rfl | (simp; done) | (simp; omega), bel_alloc hB _⟩
    · rw [decide_eq_false (fun h => hm0 h.1)] at tb
      rw [if_neg (fun h => hm0 h.1)] at tt
      have hB := bel_refl w
      go_enter Try.func6, Try.ntmps6
      go_wp2_with fail
      refine (awake_any _).mono ?_
      rintro e w1 ⟨rfl, hb⟩
      have C : Blk w1 w.heap.size _ := Blk.call (by first | exact (Blk.new _ _ _) | exact (Blk.new _ _ _).alloc _ | exact ((Blk.new _ _ _).alloc _).alloc _ | exact (((Blk.new _ _ _).alloc _).alloc _).alloc _ | exact (Blk.new _ _ _).drew | exact ((Blk.new _ _ _).alloc _).drew | exact (((Blk.new _ _ _).alloc _).alloc _).drew) hb
      replace hB := bel_call hb (by first | exact hB | exact bel_alloc hB _ | exact bel_alloc (bel_alloc hB _) _ | exact bel_alloc (bel_alloc (bel_alloc hB _) _) _ | exact bel_drew hB | exact bel_drew (bel_alloc hB _) | exact bel_drew (bel_alloc (bel_alloc hB _) _))
      clear hb
      have C_c := C.cell; have C_f := C.free; have C_l := C.lt
      go_wp2_with fail
      refine (take_any _ _ _ _ _ _ _).mono ?_
      rintro e w2 ⟨rfl, hb⟩
      clear C_c C_f C_l
      replace C := Blk.call (by first | exact C | exact C.alloc _ | exact (C.alloc _).alloc _ | exact ((C.alloc _).alloc _).alloc _ | exact C.drew | exact (C.alloc _).drew | exact ((C.alloc _).alloc _).drew) hb
      replace hB := bel_call hb (by first | exact hB | exact bel_alloc hB _ | exact bel_alloc (bel_alloc hB _) _ | exact bel_alloc (bel_alloc (bel_alloc hB _) _) _ | exact bel_drew hB | exact bel_drew (bel_alloc hB _) | exact bel_drew (bel_alloc (bel_alloc hB _) _))
      clear hb
      have C_c := C.cell; have C_f := C.free; have C_l := C.lt
      go_wp2_with fail
      refine (now_any _ _ _ _ _ _).mono ?_
      rintro e w3 ⟨rfl, hb⟩
      clear C_c C_f C_l
      replace C := Blk.call (by first | exact C | exact C.alloc _ | exact (C.alloc _).alloc _ | exact ((C.alloc _).alloc _).alloc _ | exact C.drew | exact (C.alloc _).drew | exact ((C.alloc _).alloc _).drew) hb
      have P : Blk w3 w2.heap.size _ := Blk.call (by first | exact (Blk.new _ _ _) | exact (Blk.new _ _ _).alloc _ | exact ((Blk.new _ _ _).alloc _).alloc _ | exact (((Blk.new _ _ _).alloc _).alloc _).alloc _ | exact (Blk.new _ _ _).drew | exact ((Blk.new _ _ _).alloc _).drew | exact (((Blk.new _ _ _).alloc _).alloc _).drew) hb
      replace hB := bel_call hb (by first | exact hB | exact bel_alloc hB _ | exact bel_alloc (bel_alloc hB _) _ | exact bel_alloc (bel_alloc (bel_alloc hB _) _) _ | exact bel_drew hB | exact bel_drew (bel_alloc hB _) | exact bel_drew (bel_alloc (bel_alloc hB _) _))
      clear hb
      have C_c := C.cell; have C_f := C.free; have C_l := C.lt
      have P_c := P.cell; have P_f := P.free; have P_l := P.lt
      go_wp2_with fail
      refine (take_any _ _ _ _ _ _ _).mono ?_
      rintro e w4 ⟨rfl, hb⟩
      clear C_c C_f C_l
      clear P_c P_f P_l
      replace C := Blk.call (by first | exact C | exact C.alloc _ | exact (C.alloc _).alloc _ | exact ((C.alloc _).alloc _).alloc _ | exact C.drew | exact (C.alloc _).drew | exact ((C.alloc _).alloc _).drew) hb
      replace P := Blk.call (by first | exact P | exact P.alloc _ | exact (P.alloc _).alloc _ | exact ((P.alloc _).alloc _).alloc _ | exact P.drew | exact (P.alloc _).drew | exact ((P.alloc _).alloc _).drew) hb
      replace hB := bel_call hb (by first | exact hB | exact bel_alloc hB _ | exact bel_alloc (bel_alloc hB _) _ | exact bel_alloc (bel_alloc (bel_alloc hB _) _) _ | exact bel_drew hB | exact bel_drew (bel_alloc hB _) | exact bel_drew (bel_alloc (bel_alloc hB _) _))
      clear hb
      have C_c := C.cell; have C_f := C.free; have C_l := C.lt
      have P_c := P.cell; have P_f := P.free; have P_l := P.lt
      go_wp2
      go_ret
      exact ⟨by first | rfl | (simp; done) | (simp; omega), bel_alloc hB _⟩

set_option maxHeartbeats 4000000 in
theorem back_walk (tok at_ now n rate burst : Int) (w : World) (g0 : (Lit.int .i64 tok).wf = true) (g1 : (Lit.int .i64 at_).wf = true) (g2 : (Lit.int .i64 now).wf = true) (g3 : (Lit.int .i64 n).wf = true) (g4 : (Lit.int .i64 rate).wf = true) (g5 : (Lit.int .i64 burst).wf = true) :
    Calls Try.prog 7 #[.agg #[.int .i64 tok, .int .i64 at_, .int .i64 now, .int .i64 n, .int .i64 rate, .int .i64 burst]] w fun e w' => e = .returned (.bool true) ∧ Below w.heap.size w w' := by
  have b3 := bounds_i64 g3
  clear g0 g1 g2 g3 g4 g5
  obtain ⟨X, hX⟩ : ∃ X, nowT tok at_ now rate burst = X := ⟨_, rfl⟩
  obtain ⟨A, hA⟩ : ∃ A, nowA at_ now = A := ⟨_, rfl⟩
  have hl := nowA_lo at_ now
  have hx0 := nowT_lo tok at_ now rate burst
  have hx1 := nowT_hi tok at_ now rate burst
  rw [hA] at hl
  rw [hX] at hx0 hx1
  have hAM : A ≤ 1099511627776 := hl.2.1
  obtain ⟨y1, y2⟩ := now_back X A A rate burst hx0 hx1 hl.1 hl.2.1 (by rw [hold_in A M hl.1 hl.2.1]; omega)
  have ha1 : hold (A - 1) M ≤ A := by unfold hold; have := hl.1; split <;> (try split) <;> omega
  obtain ⟨z1, z2⟩ := now_back X A (A - 1) rate burst hx0 hx1 hl.1 hl.2.1 ha1
  have hA0 : 0 ≤ A := hl.1
  clear hl ha1 hx0 hx1
  have hB := bel_refl w
  by_cases hn : n < 0
  · go_enter Try.func7, Try.ntmps7
    go_wp2_with fail
    refine (awake_any _).mono ?_
    rintro e w1 ⟨rfl, hb⟩
    have C : Blk w1 w.heap.size _ := Blk.call (by first | exact (Blk.new _ _ _) | exact (Blk.new _ _ _).alloc _ | exact ((Blk.new _ _ _).alloc _).alloc _ | exact (((Blk.new _ _ _).alloc _).alloc _).alloc _ | exact (Blk.new _ _ _).drew | exact ((Blk.new _ _ _).alloc _).drew | exact (((Blk.new _ _ _).alloc _).alloc _).drew) hb
    replace hB := bel_call hb (by first | exact hB | exact bel_alloc hB _ | exact bel_alloc (bel_alloc hB _) _ | exact bel_alloc (bel_alloc (bel_alloc hB _) _) _ | exact bel_drew hB | exact bel_drew (bel_alloc hB _) | exact bel_drew (bel_alloc (bel_alloc hB _) _))
    clear hb
    have C_c := C.cell; have C_f := C.free; have C_l := C.lt
    go_wp2_with fail
    refine (now_any _ _ _ _ _ _).mono ?_
    rintro e w2 ⟨rfl, hb⟩
    clear C_c C_f C_l
    replace C := Blk.call (by first | exact C | exact C.alloc _ | exact (C.alloc _).alloc _ | exact ((C.alloc _).alloc _).alloc _ | exact C.drew | exact (C.alloc _).drew | exact ((C.alloc _).alloc _).drew) hb
    replace hB := bel_call hb (by first | exact hB | exact bel_alloc hB _ | exact bel_alloc (bel_alloc hB _) _ | exact bel_alloc (bel_alloc (bel_alloc hB _) _) _ | exact bel_drew hB | exact bel_drew (bel_alloc hB _) | exact bel_drew (bel_alloc (bel_alloc hB _) _))
    clear hb
    have C_c := C.cell; have C_f := C.free; have C_l := C.lt
    go_wp2_with fail
    refine (now_any _ _ _ _ _ _).mono ?_
    rintro e w3 ⟨rfl, hb⟩
    clear C_c C_f C_l
    replace C := Blk.call (by first | exact C | exact C.alloc _ | exact (C.alloc _).alloc _ | exact ((C.alloc _).alloc _).alloc _ | exact C.drew | exact (C.alloc _).drew | exact ((C.alloc _).alloc _).drew) hb
    have X1 : Blk w3 w2.heap.size _ := Blk.call (by first | exact (Blk.new _ _ _) | exact (Blk.new _ _ _).alloc _ | exact ((Blk.new _ _ _).alloc _).alloc _ | exact (((Blk.new _ _ _).alloc _).alloc _).alloc _ | exact (Blk.new _ _ _).drew | exact ((Blk.new _ _ _).alloc _).drew | exact (((Blk.new _ _ _).alloc _).alloc _).drew) hb
    replace hB := bel_call hb (by first | exact hB | exact bel_alloc hB _ | exact bel_alloc (bel_alloc hB _) _ | exact bel_alloc (bel_alloc (bel_alloc hB _) _) _ | exact bel_drew hB | exact bel_drew (bel_alloc hB _) | exact bel_drew (bel_alloc (bel_alloc hB _) _))
    clear hb
    have C_c := C.cell; have C_f := C.free; have C_l := C.lt
    have X1_c := X1.cell; have X1_f := X1.free; have X1_l := X1.lt
    go_wp2_with fail
    refine (now_any _ _ _ _ _ _).mono ?_
    rintro e w4 ⟨rfl, hb⟩
    clear C_c C_f C_l
    clear X1_c X1_f X1_l
    replace C := Blk.call (by first | exact C | exact C.alloc _ | exact (C.alloc _).alloc _ | exact ((C.alloc _).alloc _).alloc _ | exact C.drew | exact (C.alloc _).drew | exact ((C.alloc _).alloc _).drew) hb
    replace X1 := Blk.call (by first | exact X1 | exact X1.alloc _ | exact (X1.alloc _).alloc _ | exact ((X1.alloc _).alloc _).alloc _ | exact X1.drew | exact (X1.alloc _).drew | exact ((X1.alloc _).alloc _).drew) hb
    have X2 : Blk w4 w3.heap.size _ := Blk.call (by first | exact (Blk.new _ _ _) | exact (Blk.new _ _ _).alloc _ | exact ((Blk.new _ _ _).alloc _).alloc _ | exact (((Blk.new _ _ _).alloc _).alloc _).alloc _ | exact (Blk.new _ _ _).drew | exact ((Blk.new _ _ _).alloc _).drew | exact (((Blk.new _ _ _).alloc _).alloc _).drew) hb
    replace hB := bel_call hb (by first | exact hB | exact bel_alloc hB _ | exact bel_alloc (bel_alloc hB _) _ | exact bel_alloc (bel_alloc (bel_alloc hB _) _) _ | exact bel_drew hB | exact bel_drew (bel_alloc hB _) | exact bel_drew (bel_alloc (bel_alloc hB _) _))
    clear hb
    have C_c := C.cell; have C_f := C.free; have C_l := C.lt
    have X1_c := X1.cell; have X1_f := X1.free; have X1_l := X1.lt
    have X2_c := X2.cell; have X2_f := X2.free; have X2_l := X2.lt
    go_wp2_with fail
    refine (now_any _ _ _ _ _ _).mono ?_
    rintro e w5 ⟨rfl, hb⟩
    clear C_c C_f C_l
    clear X1_c X1_f X1_l
    clear X2_c X2_f X2_l
    replace C := Blk.call (by first | exact C | exact C.alloc _ | exact (C.alloc _).alloc _ | exact ((C.alloc _).alloc _).alloc _ | exact C.drew | exact (C.alloc _).drew | exact ((C.alloc _).alloc _).drew) hb
    replace X1 := Blk.call (by first | exact X1 | exact X1.alloc _ | exact (X1.alloc _).alloc _ | exact ((X1.alloc _).alloc _).alloc _ | exact X1.drew | exact (X1.alloc _).drew | exact ((X1.alloc _).alloc _).drew) hb
    replace X2 := Blk.call (by first | exact X2 | exact X2.alloc _ | exact (X2.alloc _).alloc _ | exact ((X2.alloc _).alloc _).alloc _ | exact X2.drew | exact (X2.alloc _).drew | exact ((X2.alloc _).alloc _).drew) hb
    have X3 : Blk w5 w4.heap.size _ := Blk.call (by first | exact (Blk.new _ _ _) | exact (Blk.new _ _ _).alloc _ | exact ((Blk.new _ _ _).alloc _).alloc _ | exact (((Blk.new _ _ _).alloc _).alloc _).alloc _ | exact (Blk.new _ _ _).drew | exact ((Blk.new _ _ _).alloc _).drew | exact (((Blk.new _ _ _).alloc _).alloc _).drew) hb
    replace hB := bel_call hb (by first | exact hB | exact bel_alloc hB _ | exact bel_alloc (bel_alloc hB _) _ | exact bel_alloc (bel_alloc (bel_alloc hB _) _) _ | exact bel_drew hB | exact bel_drew (bel_alloc hB _) | exact bel_drew (bel_alloc (bel_alloc hB _) _))
    clear hb
    have C_c := C.cell; have C_f := C.free; have C_l := C.lt
    have X1_c := X1.cell; have X1_f := X1.free; have X1_l := X1.lt
    have X2_c := X2.cell; have X2_f := X2.free; have X2_l := X2.lt
    have X3_c := X3.cell; have X3_f := X3.free; have X3_l := X3.lt
    go_wp2
    go_ret
    exact ⟨by first | rfl | (simp; done) | (simp; omega), bel_alloc hB _⟩
  · have hn0 : hold (-n) M ≤ A := by unfold hold; split <;> (try split) <;> omega
    obtain ⟨v1, v2⟩ := now_back X A (-n) 0 burst (by rw [← hX]; exact nowT_lo _ _ _ _ _) (by rw [← hX]; exact nowT_hi _ _ _ _ _) hA0 hAM hn0
    clear hn0
    go_enter Try.func7, Try.ntmps7
    go_wp2_with fail
    refine (awake_any _).mono ?_
    rintro e w1 ⟨rfl, hb⟩
    have C : Blk w1 w.heap.size _ := Blk.call (by first | exact (Blk.new _ _ _) | exact (Blk.new _ _ _).alloc _ | exact ((Blk.new _ _ _).alloc _).alloc _ | exact (((Blk.new _ _ _).alloc _).alloc _).alloc _ | exact (Blk.new _ _ _).drew | exact ((Blk.new _ _ _).alloc _).drew | exact (((Blk.new _ _ _).alloc _).alloc _).drew) hb
    replace hB := bel_call hb (by first | exact hB | exact bel_alloc hB _ | exact bel_alloc (bel_alloc hB _) _ | exact bel_alloc (bel_alloc (bel_alloc hB _) _) _ | exact bel_drew hB | exact bel_drew (bel_alloc hB _) | exact bel_drew (bel_alloc (bel_alloc hB _) _))
    clear hb
    have C_c := C.cell; have C_f := C.free; have C_l := C.lt
    go_wp2_with fail
    refine (now_any _ _ _ _ _ _).mono ?_
    rintro e w2 ⟨rfl, hb⟩
    clear C_c C_f C_l
    replace C := Blk.call (by first | exact C | exact C.alloc _ | exact (C.alloc _).alloc _ | exact ((C.alloc _).alloc _).alloc _ | exact C.drew | exact (C.alloc _).drew | exact ((C.alloc _).alloc _).drew) hb
    replace hB := bel_call hb (by first | exact hB | exact bel_alloc hB _ | exact bel_alloc (bel_alloc hB _) _ | exact bel_alloc (bel_alloc (bel_alloc hB _) _) _ | exact bel_drew hB | exact bel_drew (bel_alloc hB _) | exact bel_drew (bel_alloc (bel_alloc hB _) _))
    clear hb
    have C_c := C.cell; have C_f := C.free; have C_l := C.lt
    go_wp2_with fail
    refine (now_any _ _ _ _ _ _).mono ?_
    rintro e w3 ⟨rfl, hb⟩
    clear C_c C_f C_l
    replace C := Blk.call (by first | exact C | exact C.alloc _ | exact (C.alloc _).alloc _ | exact ((C.alloc _).alloc _).alloc _ | exact C.drew | exact (C.alloc _).drew | exact ((C.alloc _).alloc _).drew) hb
    have X1 : Blk w3 w2.heap.size _ := Blk.call (by first | exact (Blk.new _ _ _) | exact (Blk.new _ _ _).alloc _ | exact ((Blk.new _ _ _).alloc _).alloc _ | exact (((Blk.new _ _ _).alloc _).alloc _).alloc _ | exact (Blk.new _ _ _).drew | exact ((Blk.new _ _ _).alloc _).drew | exact (((Blk.new _ _ _).alloc _).alloc _).drew) hb
    replace hB := bel_call hb (by first | exact hB | exact bel_alloc hB _ | exact bel_alloc (bel_alloc hB _) _ | exact bel_alloc (bel_alloc (bel_alloc hB _) _) _ | exact bel_drew hB | exact bel_drew (bel_alloc hB _) | exact bel_drew (bel_alloc (bel_alloc hB _) _))
    clear hb
    have C_c := C.cell; have C_f := C.free; have C_l := C.lt
    have X1_c := X1.cell; have X1_f := X1.free; have X1_l := X1.lt
    go_wp2_with fail
    refine (now_any _ _ _ _ _ _).mono ?_
    rintro e w4 ⟨rfl, hb⟩
    clear C_c C_f C_l
    clear X1_c X1_f X1_l
    replace C := Blk.call (by first | exact C | exact C.alloc _ | exact (C.alloc _).alloc _ | exact ((C.alloc _).alloc _).alloc _ | exact C.drew | exact (C.alloc _).drew | exact ((C.alloc _).alloc _).drew) hb
    replace X1 := Blk.call (by first | exact X1 | exact X1.alloc _ | exact (X1.alloc _).alloc _ | exact ((X1.alloc _).alloc _).alloc _ | exact X1.drew | exact (X1.alloc _).drew | exact ((X1.alloc _).alloc _).drew) hb
    have X2 : Blk w4 w3.heap.size _ := Blk.call (by first | exact (Blk.new _ _ _) | exact (Blk.new _ _ _).alloc _ | exact ((Blk.new _ _ _).alloc _).alloc _ | exact (((Blk.new _ _ _).alloc _).alloc _).alloc _ | exact (Blk.new _ _ _).drew | exact ((Blk.new _ _ _).alloc _).drew | exact (((Blk.new _ _ _).alloc _).alloc _).drew) hb
    replace hB := bel_call hb (by first | exact hB | exact bel_alloc hB _ | exact bel_alloc (bel_alloc hB _) _ | exact bel_alloc (bel_alloc (bel_alloc hB _) _) _ | exact bel_drew hB | exact bel_drew (bel_alloc hB _) | exact bel_drew (bel_alloc (bel_alloc hB _) _))
    clear hb
    have C_c := C.cell; have C_f := C.free; have C_l := C.lt
    have X1_c := X1.cell; have X1_f := X1.free; have X1_l := X1.lt
    have X2_c := X2.cell; have X2_f := X2.free; have X2_l := X2.lt
    go_wp2_with fail
    refine (now_any _ _ _ _ _ _).mono ?_
    rintro e w5 ⟨rfl, hb⟩
    clear C_c C_f C_l
    clear X1_c X1_f X1_l
    clear X2_c X2_f X2_l
    replace C := Blk.call (by first | exact C | exact C.alloc _ | exact (C.alloc _).alloc _ | exact ((C.alloc _).alloc _).alloc _ | exact C.drew | exact (C.alloc _).drew | exact ((C.alloc _).alloc _).drew) hb
    replace X1 := Blk.call (by first | exact X1 | exact X1.alloc _ | exact (X1.alloc _).alloc _ | exact ((X1.alloc _).alloc _).alloc _ | exact X1.drew | exact (X1.alloc _).drew | exact ((X1.alloc _).alloc _).drew) hb
    replace X2 := Blk.call (by first | exact X2 | exact X2.alloc _ | exact (X2.alloc _).alloc _ | exact ((X2.alloc _).alloc _).alloc _ | exact X2.drew | exact (X2.alloc _).drew | exact ((X2.alloc _).alloc _).drew) hb
    have X3 : Blk w5 w4.heap.size _ := Blk.call (by first | exact (Blk.new _ _ _) | exact (Blk.new _ _ _).alloc _ | exact ((Blk.new _ _ _).alloc _).alloc _ | exact (((Blk.new _ _ _).alloc _).alloc _).alloc _ | exact (Blk.new _ _ _).drew | exact ((Blk.new _ _ _).alloc _).drew | exact (((Blk.new _ _ _).alloc _).alloc _).drew) hb
    replace hB := bel_call hb (by first | exact hB | exact bel_alloc hB _ | exact bel_alloc (bel_alloc hB _) _ | exact bel_alloc (bel_alloc (bel_alloc hB _) _) _ | exact bel_drew hB | exact bel_drew (bel_alloc hB _) | exact bel_drew (bel_alloc (bel_alloc hB _) _))
    clear hb
    have C_c := C.cell; have C_f := C.free; have C_l := C.lt
    have X1_c := X1.cell; have X1_f := X1.free; have X1_l := X1.lt
    have X2_c := X2.cell; have X2_f := X2.free; have X2_l := X2.lt
    have X3_c := X3.cell; have X3_f := X3.free; have X3_l := X3.lt
    go_wp2
    go_ret
    exact ⟨by first | rfl | (simp; done) | (simp; omega), bel_alloc hB _⟩
end Go.Proofs.Ytnhdbnahigagjaa