/-
  What each function of package bucket, and each of the document's answer for it, computes: contracts, each walked once. 'hold', 'nowT', 'nowA', 'takeB' are plain functions on integers. No condition.
-/
import Derived.Test.YtnhdbnahigagjaaPlan
import Derived.WalkKit
import Derived.WalkSpells
import Derived.WalkLawsBesides
import Derived.Handy
import Derived.Deep.QuietTactic
import Derived.BigQuiet
import Derived.Deep.DeepCutAuto
namespace Go.Proofs.Ytnhdbnahigagjaa
open Go.RowKit
set_option linter.unusedSimpArgs false
/-- a number held between 0 and an end. -/
def hold (n top : Int) : Int := if n < 0 then 0 else if top < n then top else n
theorem hold_lo (n top : Int) (h : 0 ≤ top) : 0 ≤ hold n top := by unfold hold; split <;> (try split) <;> omega
theorem hold_hi (n top : Int) (h : 0 ≤ top) : hold n top ≤ top := by unfold hold; split <;> (try split) <;> omega
theorem hold_eq (n top : Int) (h : 0 ≤ top) : max 0 (min n top) = hold n top := by unfold hold; split <;> (try split) <;> omega
set_option maxHeartbeats 400000 in
theorem within1_any (n hi : Int) (a b : Addr) (w : World) (ha : w.cell? a = some (.int .i64 0)) (hb : w.cell? b = some (.int .i64 hi)) (h0 : 0 ≤ hi) :
    Calls Try.prog 17 #[.int .i64 n, .pointer (some a), .pointer (some b)] w fun e w' => e = .returned (.int .i64 (hold n hi)) ∧ w = w' := by
  go_enter Try.func17, Try.ntmps17
  go_wp2
  all_goals
    go_ret
    exact ⟨by congr 1; simp; rw [← hold_eq _ _ h0]; omega, rfl⟩
set_option maxHeartbeats 400000 in
theorem within_any (lo hi : Int) (w : World) :
    Calls Try.prog 15 #[.int .i64 lo, .int .i64 hi] w fun e w' => e = .returned (.func (.func 17) #[] #[.pointer (some ⟨w.heap.size, 0, none⟩), .pointer (some ⟨w.heap.size+1, 0, none⟩)]) ∧ (w.alloc (.cells #[.int .i64 lo] 2)).alloc (.cells #[.int .i64 hi] 2) = w' := by
  go_enter Try.func15, Try.ntmps15
  go_wp2
  go_ret
  exact ⟨rfl, rfl⟩
set_option maxHeartbeats 400000 in
theorem refHold_any (n top : Int) (w : World) :
    Calls Try.prog 16 #[.int .i64 n, .int .i64 top] w fun e w' => e = .returned (.int .i64 (hold n top)) ∧ w = w' := by
  unfold hold
  go_enter Try.func16, Try.ntmps16
  go_wp2
  all_goals
    go_ret
    exact ⟨by simp, rfl⟩
abbrev st (t a : Int) : Value := .agg #[.int .i64 t, .int .i64 a]
def B : Int := 1073741824
def M : Int := 1099511627776
def nowT (tok at_ now rate burst : Int) : Int :=
  if hold now M ≤ hold at_ M then hold tok (hold burst B)
  else if 0 < hold rate B ∧ (hold burst B - hold tok (hold burst B)) / hold rate B < hold now M - hold at_ M then hold burst B
  else hold tok (hold burst B) + hold rate B * (hold now M - hold at_ M)
def nowA (at_ now : Int) : Int := if hold now M ≤ hold at_ M then hold at_ M else hold now M
theorem nowT_def (tok at_ now rate burst : Int) : Hid (nowT tok at_ now rate burst = (if hold now M ≤ hold at_ M then hold tok (hold burst B)
  else if 0 < hold rate B ∧ (hold burst B - hold tok (hold burst B)) / hold rate B < hold now M - hold at_ M then hold burst B
  else hold tok (hold burst B) + hold rate B * (hold now M - hold at_ M))) := rfl
theorem nowA_def (at_ now : Int) : Hid (nowA at_ now = if hold now M ≤ hold at_ M then hold at_ M else hold now M) := rfl
theorem mul_room (r d x : Int) (hr : 1 ≤ r) (hq : ¬ x / r < d) : r * d ≤ x := by
  have h1 : d ≤ x / r := by omega
  have h2 := Int.mul_le_mul_of_nonneg_left h1 (show 0 ≤ r by omega)
  have h3 := Int.mul_ediv_self_le (x := x) (k := r) (by omega)
  omega
set_option maxHeartbeats 1600000 in
theorem now_any (tok at_ now rate burst : Int) (w : World) :
    Calls Try.prog 9 #[st tok at_, .int .i64 now, .int .i64 rate, .int .i64 burst] w fun e w' => e = .returned (st (nowT tok at_ now rate burst) (nowA at_ now)) ∧ Below w.heap.size w w' := by
  have hb0 := hold_lo burst B (by decide)
  have hb1 := hold_hi burst B (by decide)
  have hr0 := hold_lo rate B (by decide)
  have hr1 := hold_hi rate B (by decide)
  have hn0 := hold_lo now M (by decide)
  have hn1 := hold_hi now M (by decide)
  have ha0 := hold_lo at_ M (by decide)
  have ha1 := hold_hi at_ M (by decide)
  have ht0 := hold_lo tok (hold burst B) hb0
  have ht1 := hold_hi tok (hold burst B) hb0
  unfold B M at *
  go_enter Try.func9, Try.ntmps9
  go_upto_region 3 with (first
      | (go_at_call 15; refine (within_any _ _ _).mono ?_; rintro e w' ⟨rfl, rfl⟩)
      | (go_at_call 17; refine (within1_any _ 1073741824 _ _ _ ?_ ?_ ?_).mono ?_; go_simp; go_simp; go_simp; rintro e w' ⟨rfl, rfl⟩)
      | (go_at_call 17; refine (within1_any _ 1099511627776 _ _ _ ?_ ?_ ?_).mono ?_; go_simp; go_simp; go_simp; rintro e w' ⟨rfl, rfl⟩))
  go_cut [] (fun wx => Below w.heap.size w wx ∧ wx.cell? ⟨w.heap.size, 0, none⟩ = some (.int .i64 (hold tok (hold burst 1073741824))) ∧ wx.cell? ⟨w.heap.size, 1, none⟩ = some (.int .i64 (hold at_ 1099511627776)) ∧
     wx.cell? ⟨w.heap.size+1, 0, none⟩ = some (.int .i64 0) ∧ wx.cell? ⟨w.heap.size+1, 1, none⟩ = some (.int .i64 0) ∧
     wx.frozen? ⟨w.heap.size+1, 0, none⟩ = false ∧ wx.frozen? ⟨w.heap.size+1, 1, none⟩ = false)
  case first =>
    refine wp_region_plan [(0, true), (2, true), (3, true), (5, true), (6, true), (7, true), (1, false), (4, false), (8, false), (9, true), (10, false)] (fun w' => w'.cell? ⟨w.heap.size, 0, none⟩ = some (.int .i64 tok) ∧ w'.cell? ⟨w.heap.size, 1, none⟩ = some (.int .i64 at_)) (by kernel_rfl) (by kernel_rfl) (fun _ _ _ _ h => h) ?_ (fun hS => ?_)
    · go_simp
    iterate 6
      refine plan_light (o := ?_) (v := ?_) ?_ ?_ ?_ ?_
      rotate_left 2
      · simp only [List.getElem?_toArray, List.getElem?_cons_zero, List.getElem?_cons_succ]
        rfl
      · go_simp
      · intro w' hS
        go_simp
        try rfl
      simp only [Act.put, List.setIfInBounds_toArray, List.set_cons_zero, List.set_cons_succ]
    refine plan_heavy (o := ?_) ?_ (fun K' hK => ?_)
    rotate_left
    · simp only [List.getElem?_toArray, List.getElem?_cons_zero, List.getElem?_cons_succ]
      rfl
    go_simp
    go_wp2_with (first | (go_at_call 15; refine (within_any _ _ _).mono ?_; rintro e w' ⟨rfl, rfl⟩) | (go_at_call 17; refine (within1_any _ (hold burst 1073741824) _ _ _ ?_ ?_ ?_).mono ?_; go_simp; go_simp; go_simp; rintro e w' ⟨rfl, rfl⟩) | (go_at_call 17; refine (within1_any _ 1099511627776 _ _ _ ?_ ?_ ?_).mono ?_; go_simp; go_simp; go_simp; rintro e w' ⟨rfl, rfl⟩))
    refine hK.out _ _ ?_ (fun hS => ?_)
    · go_simp
    clear hK K'
    refine plan_heavy (o := ?_) ?_ (fun K' hK => ?_)
    rotate_left
    · simp only [List.getElem?_toArray, List.getElem?_cons_zero, List.getElem?_cons_succ]
      rfl
    go_simp
    go_wp2_with (first | (go_at_call 15; refine (within_any _ _ _).mono ?_; rintro e w' ⟨rfl, rfl⟩) | (go_at_call 17; refine (within1_any _ (hold burst 1073741824) _ _ _ ?_ ?_ ?_).mono ?_; go_simp; go_simp; go_simp; rintro e w' ⟨rfl, rfl⟩) | (go_at_call 17; refine (within1_any _ 1099511627776 _ _ _ ?_ ?_ ?_).mono ?_; go_simp; go_simp; go_simp; rintro e w' ⟨rfl, rfl⟩))
    refine hK.out _ _ ?_ (fun hS => ?_)
    · go_simp
    clear hK K'
    refine plan_heavy (o := ?_) ?_ (fun K' hK => ?_)
    rotate_left
    · simp only [List.getElem?_toArray, List.getElem?_cons_zero, List.getElem?_cons_succ]
      rfl
    go_simp
    go_wp2_with (first | (go_at_call 15; refine (within_any _ _ _).mono ?_; rintro e w' ⟨rfl, rfl⟩) | (go_at_call 17; refine (within1_any _ (hold burst 1073741824) _ _ _ ?_ ?_ ?_).mono ?_; go_simp; go_simp; go_simp; rintro e w' ⟨rfl, rfl⟩) | (go_at_call 17; refine (within1_any _ 1099511627776 _ _ _ ?_ ?_ ?_).mono ?_; go_simp; go_simp; go_simp; rintro e w' ⟨rfl, rfl⟩))
    refine hK.out _ _ ?_ (fun hS => ?_)
    · go_simp
    clear hK K'
    refine plan_light (o := ?_) (v := ?_) ?_ ?_ ?_ ?_
    rotate_left 2
    · simp only [List.getElem?_toArray, List.getElem?_cons_zero, List.getElem?_cons_succ]
      rfl
    · go_simp
    · intro w' hS
      go_simp
      try rfl
    simp only [Act.put, List.setIfInBounds_toArray, List.set_cons_zero, List.set_cons_succ]
    refine plan_sink (o := ?_) ?_ (by kernel_rfl) (fun K' hK => ?_)
    rotate_left
    · simp only [List.getElem?_toArray, List.getElem?_cons_zero, List.getElem?_cons_succ]
      rfl
    go_simp
    refine hK.out _ _ ?_
    clear hK K'
    refine plan_nil ?_
    go_wp2_with fail
    go_meet
    refine ⟨by go_grown, ?_, ?_, ?_, ?_, ?_, ?_⟩ <;> go_simp
  case rest =>
    obtain ⟨hB, h0, h1, h2, h3, h4, h5⟩ := hcut
    have HT := nowT_def tok at_ now rate burst
    have HA := nowA_def at_ now
    unfold B M at HT
    unfold M at HA
    generalize hold tok (hold burst 1073741824) = T at *
    generalize hold burst 1073741824 = b at *
    generalize hold now 1099511627776 = nw at *
    generalize hold at_ 1099511627776 = A at *
    generalize hold rate 1073741824 = r at *
    by_cases hle : nw ≤ A
    · go_wp2
      refine bodyPost_ret (v := st T A) (by simp [results, Try.results9, go_sem, h2, h3]) rfl ⟨?_, by go_grown⟩
      have e1 := HT.out; have e2 := HA.out
      rw [if_pos hle] at e1 e2
      rw [e1, e2]
    · have hN : Hid (nowT tok at_ now rate burst = if 0 < r ∧ (b - T) / r < nw - A then b else T + r * (nw - A)) := by
        have := HT.out; rw [if_neg hle] at this; exact this
      have hA : Hid (nowA at_ now = nw) := by have := HA.out; rw [if_neg hle] at this; exact this
      clear HT HA
      go_wp2
      go_quiet (fail)
      by_cases hr : r ≤ 0
      · obtain rfl : r = 0 := by omega
        go_wp2
        refine bodyPost_ret (v := st T nw) (by simp [results, Try.results9, go_sem, h2, h3]) rfl ⟨?_, by go_grown; all_goals exact below_drewN hB _⟩
        have e1 := hN.out; have e2 := hA.out
        rw [e1, e2]; simp
      · by_cases hq : (b - T) / r < nw - A
        · go_wp2
          refine bodyPost_ret (v := st b nw) (by simp [results, Try.results9, go_sem, h2, h3]) rfl ⟨?_, by go_grown; all_goals exact below_drewN hB _⟩
          have e1 := hN.out; have e2 := hA.out
          rw [e1, e2, if_pos ⟨by omega, by assumption⟩]
        · have hm : r * (nw - A) ≤ b - T := mul_room _ _ _ (by omega) hq
          have hm0 : 0 ≤ r * (nw - A) := Int.mul_nonneg (by omega) (by omega)
          go_wp2
          refine bodyPost_ret (v := st (T + r * (nw - A)) nw) (by simp [results, Try.results9, go_sem, h2, h3]) rfl ⟨?_, by go_grown; all_goals exact below_drewN hB _⟩
          have e1 := hN.out; have e2 := hA.out
          rw [e1, e2, if_neg (by omega)]

theorem bcell {W w1 : World} (hb : Below W.heap.size W w1) : (∀ b o, b < W.heap.size → w1.cell? ⟨b, o, none⟩ = W.cell? ⟨b, o, none⟩) ∧ (∀ b o, b < W.heap.size → w1.frozen? ⟨b, o, none⟩ = W.frozen? ⟨b, o, none⟩) :=
  ⟨fun b o h => hb.cell (p := ⟨b, o, none⟩) h, fun b o h => hb.frozen (p := ⟨b, o, none⟩) h⟩

set_option maxHeartbeats 1600000 in
theorem refNow_any (tok at_ now rate burst : Int) (w : World) :
    Calls Try.prog 10 #[st tok at_, .int .i64 now, .int .i64 rate, .int .i64 burst] w fun e w' => e = .returned (st (nowT tok at_ now rate burst) (nowA at_ now)) ∧ Below w.heap.size w w' := by
  have hb0 := hold_lo burst B (by decide)
  have hb1 := hold_hi burst B (by decide)
  have hr0 := hold_lo rate B (by decide)
  have hr1 := hold_hi rate B (by decide)
  have hn0 := hold_lo now M (by decide)
  have hn1 := hold_hi now M (by decide)
  have ha0 := hold_lo at_ M (by decide)
  have ha1 := hold_hi at_ M (by decide)
  have ht0 := hold_lo tok (hold burst B) hb0
  have ht1 := hold_hi tok (hold burst B) hb0
  unfold B M at *
  go_enter Try.func10, Try.ntmps10
  go_upto_region 4 with (go_at_call 16; refine (refHold_any _ _ _).mono ?_; rintro e w' ⟨rfl, rfl⟩)
  go_cut [] (fun wx => Below w.heap.size w wx ∧ wx.cell? ⟨w.heap.size, 0, none⟩ = some (.int .i64 (hold tok (hold burst 1073741824))) ∧ wx.cell? ⟨w.heap.size, 1, none⟩ = some (.int .i64 (hold at_ 1099511627776)) ∧
     wx.cell? ⟨w.heap.size+1, 0, none⟩ = some (.int .i64 0) ∧ wx.cell? ⟨w.heap.size+1, 1, none⟩ = some (.int .i64 0) ∧
     wx.frozen? ⟨w.heap.size+1, 0, none⟩ = false ∧ wx.frozen? ⟨w.heap.size+1, 1, none⟩ = false)
  case first =>
    refine wp_region_plan [(0, true), (1, true), (2, true), (4, true), (5, true), (3, false), (6, false), (7, true), (8, false)] (fun w' => w'.cell? ⟨w.heap.size, 0, none⟩ = some (.int .i64 tok) ∧ w'.cell? ⟨w.heap.size, 1, none⟩ = some (.int .i64 at_)) (by kernel_rfl) (by kernel_rfl) (fun _ _ _ _ h => h) ?_ (fun hS => ?_)
    · go_simp
    iterate 5
      refine plan_light (o := ?_) (v := ?_) ?_ ?_ ?_ ?_
      rotate_left 2
      · simp only [List.getElem?_toArray, List.getElem?_cons_zero, List.getElem?_cons_succ]
        rfl
      · go_simp
      · intro w' hS
        go_simp
        try rfl
      simp only [Act.put, List.setIfInBounds_toArray, List.set_cons_zero, List.set_cons_succ]
    refine plan_heavy (o := ?_) ?_ (fun K' hK => ?_)
    rotate_left
    · simp only [List.getElem?_toArray, List.getElem?_cons_zero, List.getElem?_cons_succ]
      rfl
    go_simp
    go_wp2_with (go_at_call 16; refine (refHold_any _ _ _).mono ?_; rintro e w' ⟨rfl, rfl⟩)
    refine hK.out _ _ ?_ (fun hS => ?_)
    · go_simp
    clear hK K'
    refine plan_heavy (o := ?_) ?_ (fun K' hK => ?_)
    rotate_left
    · simp only [List.getElem?_toArray, List.getElem?_cons_zero, List.getElem?_cons_succ]
      rfl
    go_simp
    go_wp2_with (go_at_call 16; refine (refHold_any _ _ _).mono ?_; rintro e w' ⟨rfl, rfl⟩)
    refine hK.out _ _ ?_ (fun hS => ?_)
    · go_simp
    clear hK K'
    refine plan_light (o := ?_) (v := ?_) ?_ ?_ ?_ ?_
    rotate_left 2
    · simp only [List.getElem?_toArray, List.getElem?_cons_zero, List.getElem?_cons_succ]
      rfl
    · go_simp
    · intro w' hS
      go_simp
      try rfl
    simp only [Act.put, List.setIfInBounds_toArray, List.set_cons_zero, List.set_cons_succ]
    refine plan_sink (o := ?_) ?_ (by kernel_rfl) (fun K' hK => ?_)
    rotate_left
    · simp only [List.getElem?_toArray, List.getElem?_cons_zero, List.getElem?_cons_succ]
      rfl
    go_simp
    refine hK.out _ _ ?_
    clear hK K'
    refine plan_nil ?_
    go_wp2_with fail
    go_meet
    refine ⟨by go_grown, ?_, ?_, ?_, ?_, ?_, ?_⟩ <;> go_simp
  case rest =>
    obtain ⟨hB, h0, h1, h2, h3, h4, h5⟩ := hcut
    have HT := nowT_def tok at_ now rate burst
    have HA := nowA_def at_ now
    unfold B M at HT
    unfold M at HA
    generalize hold tok (hold burst 1073741824) = T at *
    generalize hold burst 1073741824 = b at *
    generalize hold now 1099511627776 = nw at *
    generalize hold at_ 1099511627776 = A at *
    generalize hold rate 1073741824 = r at *
    by_cases hle : nw ≤ A
    · go_wp2
      refine bodyPost_ret (v := st T A) (by simp [results, Try.results10, go_sem, h2, h3]) rfl ⟨?_, by go_grown⟩
      have e1 := HT.out; have e2 := HA.out
      rw [if_pos hle] at e1 e2
      rw [e1, e2]
    · have hN : Hid (nowT tok at_ now rate burst = if 0 < r ∧ (b - T) / r < nw - A then b else T + r * (nw - A)) := by
        have := HT.out; rw [if_neg hle] at this; exact this
      have hA : Hid (nowA at_ now = nw) := by have := HA.out; rw [if_neg hle] at this; exact this
      clear HT HA
      by_cases hr : r ≤ 0
      · obtain rfl : r = 0 := by omega
        go_wp2
        refine bodyPost_ret (v := st T nw) (by simp [results, Try.results10, go_sem, h2, h3]) rfl ⟨?_, by go_grown⟩
        have e1 := hN.out; have e2 := hA.out
        rw [e1, e2]; simp
      · by_cases hq : (b - T) / r < nw - A
        · go_wp2
          refine bodyPost_ret (v := st b nw) (by simp [results, Try.results10, go_sem, h2, h3]) rfl ⟨?_, by go_grown⟩
          have e1 := hN.out; have e2 := hA.out
          rw [e1, e2, if_pos ⟨by omega, by assumption⟩]
        · have hm : (nw - A) * r ≤ b - T := by rw [Int.mul_comm]; exact mul_room _ _ _ (by omega) hq
          have hm0 : 0 ≤ (nw - A) * r := Int.mul_nonneg (by omega) (by omega)
          go_wp2
          refine bodyPost_ret (v := st (T + (nw - A) * r) nw) (by simp [results, Try.results10, go_sem, h2, h3]) rfl ⟨?_, by go_grown⟩
          have e1 := hN.out; have e2 := hA.out
          rw [e1, e2, if_neg (by omega), Int.mul_comm]

def takeB (tok at_ now n rate burst : Int) : Bool := decide (0 ≤ n ∧ n ≤ nowT tok at_ now rate burst)
def takeT (tok at_ now n rate burst : Int) : Int := if takeB tok at_ now n rate burst = true then nowT tok at_ now rate burst - n else tok
def takeA (tok at_ now n rate burst : Int) : Int := if takeB tok at_ now n rate burst = true then nowA at_ now else at_
theorem nowT_lo (tok at_ now rate burst : Int) : 0 ≤ nowT tok at_ now rate burst := by
  have hb0 := hold_lo burst B (by decide)
  have hr0 := hold_lo rate B (by decide)
  have ht0 := hold_lo tok (hold burst B) hb0
  unfold nowT
  split
  · exact ht0
  · split
    · exact hb0
    · have := Int.mul_nonneg hr0 (show 0 ≤ hold now M - hold at_ M by omega)
      omega
theorem nowT_hi (tok at_ now rate burst : Int) : nowT tok at_ now rate burst ≤ hold burst B := by
  have hb0 := hold_lo burst B (by decide)
  have hr0 := hold_lo rate B (by decide)
  have ht1 := hold_hi tok (hold burst B) hb0
  unfold nowT
  split
  · exact ht1
  · split
    · omega
    · rename_i h1 h2
      by_cases hr : hold rate B = 0
      · rw [hr]; omega
      · have := mul_room (hold rate B) (hold now M - hold at_ M) (hold burst B - hold tok (hold burst B)) (by omega) (fun h => h2 ⟨by omega, h⟩)
        omega
theorem nowT_top (tok at_ now rate burst : Int) : nowT tok at_ now rate burst ≤ 1073741824 := by
  have h1 := nowT_hi tok at_ now rate burst
  have h2 := hold_hi burst B (by decide)
  unfold B at h2
  unfold B at h1
  omega
theorem takes_def (tok at_ now n rate burst : Int) : Hid (takeB tok at_ now n rate burst = decide (0 ≤ n ∧ n ≤ nowT tok at_ now rate burst) ∧ takeT tok at_ now n rate burst = (if takeB tok at_ now n rate burst = true then nowT tok at_ now rate burst - n else tok) ∧ takeA tok at_ now n rate burst = (if takeB tok at_ now n rate burst = true then nowA at_ now else at_)) := ⟨rfl, rfl, rfl⟩

set_option maxHeartbeats 1600000 in
theorem take_any (tok at_ now n rate burst : Int) (w : World) :
    Calls Try.prog 11 #[st tok at_, .int .i64 now, .int .i64 n, .int .i64 rate, .int .i64 burst] w fun e w' => e = .returned (.tuple #[st (takeT tok at_ now n rate burst) (takeA tok at_ now n rate burst), .bool (takeB tok at_ now n rate burst)]) ∧ Below w.heap.size w w' := by
  have ht0 := nowT_lo tok at_ now rate burst
  have ht1 := nowT_top tok at_ now rate burst
  have HD := takes_def tok at_ now n rate burst
  go_enter Try.func11, Try.ntmps11
  go_wp2_with fail
  refine (now_any tok at_ now rate burst _).mono ?_
  rintro e w1 ⟨rfl, hb⟩
  have hz : w.heap.size + 1 < w1.heap.size := by have := hb.size; simp at this; omega
  have hz0 : w.heap.size < w1.heap.size := by omega
  have hB : Below w.heap.size w w1 := Below.trans (by go_grown) (hb.mono (by simp; omega))
  have c0 : w1.cell? ⟨w.heap.size, 0, none⟩ = some (.int .i64 tok) := by rw [hb.cell (by simp; omega)]; go_simp
  have c1 : w1.cell? ⟨w.heap.size, 1, none⟩ = some (.int .i64 at_) := by rw [hb.cell (by simp; omega)]; go_simp
  have c2 : w1.cell? ⟨w.heap.size+1, 0, none⟩ = some (.int .i64 0) := by rw [hb.cell (by simp)]; go_simp
  have c3 : w1.cell? ⟨w.heap.size+1, 1, none⟩ = some (.int .i64 0) := by rw [hb.cell (by simp)]; go_simp
  have f2 : w1.frozen? ⟨w.heap.size+1, 0, none⟩ = false := by rw [hb.frozen (by simp)]; go_simp
  have f3 : w1.frozen? ⟨w.heap.size+1, 1, none⟩ = false := by rw [hb.frozen (by simp)]; go_simp
  clear hb
  generalize nowT tok at_ now rate burst = T at *
  generalize nowA at_ now = A at *
  by_cases hn : n < 0
  · go_wp2
    refine bodyPost_ret (v := .tuple #[st tok at_, .bool false]) (by simp [results, Try.results11, go_sem, *]) rfl ⟨?_, by go_grown⟩
    obtain ⟨d1, d2, d3⟩ := HD.out
    have d4 : takeB tok at_ now n rate burst = false := by rw [d1]; simp; omega
    rw [d2, d3, d4]; rfl
  · by_cases hT : T < n
    · have hT' : (decide (T < n)) = true := by simp [hT]
      go_wp2
      refine bodyPost_ret (v := .tuple #[st tok at_, .bool false]) (by simp [results, Try.results11, go_sem, *]) rfl ⟨?_, by go_grown⟩
      obtain ⟨d1, d2, d3⟩ := HD.out
      have d4 : takeB tok at_ now n rate burst = false := by rw [d1]; simp; omega
      rw [d2, d3, d4]; rfl
    · go_wp2
      refine bodyPost_ret (v := .tuple #[st (T - n) A, .bool true]) (by simp [results, Try.results11, go_sem, *]) rfl ⟨?_, by go_grown⟩
      obtain ⟨d1, d2, d3⟩ := HD.out
      have d4 : takeB tok at_ now n rate burst = true := by rw [d1]; simp; omega
      rw [d2, d3, d4]; rfl
set_option maxHeartbeats 1600000 in
theorem refTake_any (tok at_ now n rate burst : Int) (w : World) :
    Calls Try.prog 12 #[st tok at_, .int .i64 now, .int .i64 n, .int .i64 rate, .int .i64 burst] w fun e w' => e = .returned (.tuple #[st (takeT tok at_ now n rate burst) (takeA tok at_ now n rate burst), .bool (takeB tok at_ now n rate burst)]) ∧ Below w.heap.size w w' := by
  have ht0 := nowT_lo tok at_ now rate burst
  have ht1 := nowT_top tok at_ now rate burst
  have HD := takes_def tok at_ now n rate burst
  go_enter Try.func12, Try.ntmps12
  go_wp2_with fail
  refine (refNow_any tok at_ now rate burst _).mono ?_
  rintro e w1 ⟨rfl, hb⟩
  have hz : w.heap.size + 1 < w1.heap.size := by have := hb.size; simp at this; omega
  have hz0 : w.heap.size < w1.heap.size := by omega
  have hB : Below w.heap.size w w1 := Below.trans (by go_grown) (hb.mono (by simp; omega))
  have c0 : w1.cell? ⟨w.heap.size, 0, none⟩ = some (.int .i64 tok) := by rw [hb.cell (by simp; omega)]; go_simp
  have c1 : w1.cell? ⟨w.heap.size, 1, none⟩ = some (.int .i64 at_) := by rw [hb.cell (by simp; omega)]; go_simp
  have c2 : w1.cell? ⟨w.heap.size+1, 0, none⟩ = some (.int .i64 0) := by rw [hb.cell (by simp)]; go_simp
  have c3 : w1.cell? ⟨w.heap.size+1, 1, none⟩ = some (.int .i64 0) := by rw [hb.cell (by simp)]; go_simp
  have f2 : w1.frozen? ⟨w.heap.size+1, 0, none⟩ = false := by rw [hb.frozen (by simp)]; go_simp
  have f3 : w1.frozen? ⟨w.heap.size+1, 1, none⟩ = false := by rw [hb.frozen (by simp)]; go_simp
  clear hb
  generalize nowT tok at_ now rate burst = T at *
  generalize nowA at_ now = A at *
  by_cases hn : n < 0
  · go_wp2
    refine bodyPost_ret (v := .tuple #[st tok at_, .bool false]) (by simp [results, Try.results12, go_sem, *]) rfl ⟨?_, by go_grown⟩
    obtain ⟨d1, d2, d3⟩ := HD.out
    have d4 : takeB tok at_ now n rate burst = false := by rw [d1]; simp; omega
    rw [d2, d3, d4]; rfl
  · by_cases hT : T < n
    · have hT' : (decide (T < n)) = true := by simp [hT]
      go_wp2
      refine bodyPost_ret (v := .tuple #[st tok at_, .bool false]) (by simp [results, Try.results12, go_sem, *]) rfl ⟨?_, by go_grown⟩
      obtain ⟨d1, d2, d3⟩ := HD.out
      have d4 : takeB tok at_ now n rate burst = false := by rw [d1]; simp; omega
      rw [d2, d3, d4]; rfl
    · go_wp2
      refine bodyPost_ret (v := .tuple #[st (T - n) A, .bool true]) (by simp [results, Try.results12, go_sem, *]) rfl ⟨?_, by go_grown⟩
      obtain ⟨d1, d2, d3⟩ := HD.out
      have d4 : takeB tok at_ now n rate burst = true := by rw [d1]; simp; omega
      rw [d2, d3, d4]; rfl

set_option maxHeartbeats 400000 in
theorem full_any (burst : Int) (w : World) :
    Calls Try.prog 13 #[.int .i64 burst] w fun e w' => e = .returned (st (hold burst B) 0) ∧ Below w.heap.size w w' := by
  unfold B
  go_enter Try.func13, Try.ntmps13
  go_wp2_with (first
      | (go_at_call 15; refine (within_any _ _ _).mono ?_; rintro e w' ⟨rfl, rfl⟩)
      | (go_at_call 17; refine (within1_any _ 1073741824 _ _ _ ?_ ?_ ?_).mono ?_; go_simp; go_simp; go_simp; rintro e w' ⟨rfl, rfl⟩))
  refine bodyPost_ret (v := st (hold burst 1073741824) 0) (by simp [results, Try.results13, go_sem]) rfl ⟨rfl, by go_grown⟩
set_option maxHeartbeats 400000 in
theorem refFull_any (burst : Int) (w : World) :
    Calls Try.prog 14 #[.int .i64 burst] w fun e w' => e = .returned (st (hold burst B) 0) ∧ Below w.heap.size w w' := by
  unfold B
  go_enter Try.func14, Try.ntmps14
  go_wp2_with (go_at_call 16; refine (refHold_any _ _ _).mono ?_; rintro e w' ⟨rfl, rfl⟩)
  refine bodyPost_ret (v := st (hold burst 1073741824) 0) (by simp [results, Try.results14, go_sem]) rfl ⟨rfl, by go_grown⟩
theorem aw1 : Hid (hold 5 B = 5 ∧ takeT 5 0 0 3 2 5 = 2 ∧ takeA 5 0 0 3 2 5 = 0 ∧ takeB 5 0 0 3 2 5 = true ∧ takeT 2 0 1 3 2 5 = 1 ∧ takeA 2 0 1 3 2 5 = 1 ∧ takeB 2 0 1 3 2 5 = true ∧
  takeT 1 1 1 2 2 5 = 1 ∧ takeA 1 1 1 2 2 5 = 1 ∧ takeB 1 1 1 2 2 5 = false) := by refine ⟨?_, ?_, ?_, ?_, ?_, ?_, ?_, ?_, ?_, ?_⟩ <;> decide
set_option maxHeartbeats 1600000 in
theorem awake_any (w : World) : Calls Try.prog 8 #[] w fun e w' => e = .returned (.bool true) ∧ Below w.heap.size w w' := by
  have HH := aw1
  go_enter Try.func8, Try.ntmps8
  go_wp2_with fail
  refine (full_any _ _).mono ?_
  rintro e w1 ⟨rfl, hb⟩
  rw [HH.out.1]
  go_wp2_with fail
  refine (take_any 5 0 _ _ _ _ _).mono ?_
  rintro e w2 ⟨rfl, hb2⟩
  rw [HH.out.2.1, HH.out.2.2.1, HH.out.2.2.2.1]
  go_wp2_with fail
  refine (take_any 2 0 _ _ _ _ _).mono ?_
  rintro e w3 ⟨rfl, hb3⟩
  rw [HH.out.2.2.2.2.1, HH.out.2.2.2.2.2.1, HH.out.2.2.2.2.2.2.1]
  have s0 : w3.cell? ⟨w2.heap.size, 0, none⟩ = some (.int .i64 2) := by rw [hb3.cell (by simp)]; go_simp
  have s1 : w3.cell? ⟨w2.heap.size, 1, none⟩ = some (.int .i64 0) := by rw [hb3.cell (by simp)]; go_simp
  have hz3 : w2.heap.size < w3.heap.size := by have := hb3.size; simp at this; omega
  go_wp2_with fail
  refine (take_any 1 1 _ _ _ _ _).mono ?_
  rintro e w4 ⟨rfl, hb4⟩
  rw [HH.out.2.2.2.2.2.2.2.1, HH.out.2.2.2.2.2.2.2.2.1, HH.out.2.2.2.2.2.2.2.2.2]
  have t0 : w4.cell? ⟨w3.heap.size, 0, none⟩ = some (.int .i64 1) := by rw [hb4.cell (by simp)]; go_simp
  have t1 : w4.cell? ⟨w3.heap.size, 1, none⟩ = some (.int .i64 1) := by rw [hb4.cell (by simp)]; go_simp
  have r0 : w4.cell? ⟨w2.heap.size, 0, none⟩ = some (.int .i64 2) := by rw [hb4.cell (by simp; omega)]; go_simp
  have r1 : w4.cell? ⟨w2.heap.size, 1, none⟩ = some (.int .i64 0) := by rw [hb4.cell (by simp; omega)]; go_simp
  have hz4 : w3.heap.size < w4.heap.size := by have := hb4.size; simp at this; omega
  have hz5 : w2.heap.size < w4.heap.size := by omega
  have hB : Below w.heap.size w w4 := by
    have h1 := hb.size; have h2 := hb2.size
    exact (hb.trans (hb2.mono h1)).trans ((Below.trans (by go_grown) (hb3.mono (by simp; omega))).trans (Below.trans (by go_grown) (hb4.mono (by simp; omega))))
  clear hb hb2 hb3 hb4 HH s0 s1
  go_wp2
  go_ret
  exact ⟨rfl, by go_grown; all_goals exact hB.size⟩
end Go.Proofs.Ytnhdbnahigagjaa
