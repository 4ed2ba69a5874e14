/-
  What each function of package timer, and each of the document's answer for it, computes: contracts, each walked once. A watch: its own number, how many sites, its patience, and for how long each was silent (a function of the place). No condition but those that a caller meets.
-/
import Derived.Test.YtkgfikaojbfoiaaPlan
import Derived.Test.YtkgfikaojbfoiaaBlk
import Derived.WalkKit
import Derived.WalkSpells
import Derived.WalkLawsBesides
import Derived.Handy
import Derived.Deep.QuietTactic
import Derived.BigQuiet
import Derived.Lib.Hide
import Derived.Deep.DeepCutAuto
namespace Go.Proofs.Ytkgfikaojbfoiaa
open Go.RowKit
set_option linter.unusedSimpArgs false
set_option linter.unusedVariables false

/-- block b is a watch. -/
structure WatchAt (w : World) (b : Nat) (me n p : Int) (s : Nat → Int) : Prop where
  lt : b < w.heap.size
  me : w.cell? ⟨b, 0, none⟩ = some (.int .i64 me)
  n : w.cell? ⟨b, 1, none⟩ = some (.int .i64 n)
  p : w.cell? ⟨b, 2, none⟩ = some (.int .i64 p)
  s : ∀ i, i < 7 → w.cell? ⟨b, 3 + i, none⟩ = some (.int .i64 (s i))
  free : ∀ i, w.frozen? ⟨b, i, none⟩ = false
/-- the same, by value. -/
abbrev wagg (me n p : Int) (s : Nat → Int) : Value := .agg #[.int .i64 me, .int .i64 n, .int .i64 p, .int .i64 (s 0), .int .i64 (s 1), .int .i64 (s 2), .int .i64 (s 3), .int .i64 (s 4), .int .i64 (s 5), .int .i64 (s 6)]
theorem WatchAt.of_heap {w w' : World} {b : Nat} {me n p : Int} {s : Nat → Int} (h : WatchAt w b me n p s) (hs : w.heap.size ≤ w'.heap.size) (hb : w'.heap[b]? = w.heap[b]?) : WatchAt w' b me n p s :=
  ⟨Nat.lt_of_lt_of_le h.lt hs, by rw [World.cell?_of_block (w := w) hb]; exact h.me, by rw [World.cell?_of_block (w := w) hb]; exact h.n, by rw [World.cell?_of_block (w := w) hb]; exact h.p,
   fun i hi => by rw [World.cell?_of_block (w := w) hb]; exact h.s i hi, fun i => by rw [World.frozen?_of_block (w := w) hb]; exact h.free i⟩
theorem WatchAt.call {w w' : World} {b : Nat} {me n p : Int} {s : Nat → Int} (h : WatchAt w b me n p s) (hb : Below w.heap.size w w') : WatchAt w' b me n p s := h.of_heap hb.size (hb.block b h.lt)
theorem WatchAt.grown {w w' : World} {b : Nat} {me n p : Int} {s : Nat → Int} {row : Option Nat} (h : WatchAt w b me n p s) (hg : w.grownBy w' row) (hne : some b ≠ row) : WatchAt w' b me n p s := h.of_heap hg.size (hg.block b h.lt hne)
theorem WatchAt.alloc {w : World} {b : Nat} {me n p : Int} {s : Nat → Int} (h : WatchAt w b me n p s) (o : Obj) : WatchAt (w.alloc o) b me n p s := h.of_heap (by simp) (Below.heap_alloc w o b h.lt)
theorem WatchAt.drew {w : World} {b : Nat} {me n p : Int} {s : Nat → Int} (h : WatchAt w b me n p s) : WatchAt w.drew b me n p s := h.of_heap (Nat.le_refl _) rfl
theorem WatchAt.drewN {w : World} {b : Nat} {me n p : Int} {s : Nat → Int} (h : WatchAt w b me n p s) (k : Nat) : WatchAt (w.drewN k) b me n p s := h.of_heap (Nat.le_refl _) rfl
def upd (s : Nat → Int) (k : Nat) (v : Int) : Nat → Int := fun i => if i = k then v else s i
theorem WatchAt.set {w : World} {b : Nat} {me n p : Int} {s : Nat → Int} (h : WatchAt w b me n p s) (k : Nat) (hk : k < 7) (v : Int) : WatchAt (w.setCell ⟨b, 3 + k, none⟩ (.int .i64 v)) b me n p (upd s k v) := by
  have hl := h.lt
  have hb : w.heap[b]? = some (w.heap[b]) := by simp [hl]
  cases ho : w.heap[b] with
  | cells c t fr =>
    have hb' : (w.setCell ⟨b, 3 + k, none⟩ (.int .i64 v)).heap[b]? = some (.cells (c.setIfInBounds (3 + k) (.int .i64 v)) t fr) := by
      simp [World.setCell, Array.getElem?_modify, hb, ho]
    have hc : ∀ i x, w.cell? ⟨b, i, none⟩ = some x → c[i]? = some x := fun i x hx => by simpa [World.cell?, hb, ho] using hx
    have hz : 3 + k < c.size := (Array.getElem?_eq_some_iff.1 (hc _ _ (h.s k hk))).1
    refine ⟨by simp [World.setCell]; exact hl, ?_, ?_, ?_, fun i hi => ?_, fun i => ?_⟩
    · have hne : ¬ (3 + k = 0) := by omega
      have := hc _ _ h.me
      simp [World.cell?, hb', Array.getElem?_setIfInBounds, hne, this]
    · have hne : ¬ (3 + k = 1) := by omega
      have := hc _ _ h.n
      simp [World.cell?, hb', Array.getElem?_setIfInBounds, hne, this]
    · have hne : ¬ (3 + k = 2) := by omega
      have := hc _ _ h.p
      simp [World.cell?, hb', Array.getElem?_setIfInBounds, hne, this]
    · simp only [World.cell?, hb', Array.getElem?_setIfInBounds, upd]
      by_cases e : i = k
      · subst e; simp [hz]
      · have hne : ¬ (3 + k = 3 + i) := by omega
        have := hc _ _ (h.s i hi)
        simp [hne, e, this]
        intro h1; exact absurd h1.symm e
    · have := h.free i
      simp only [World.frozen?, hb, ho] at this
      simp only [World.frozen?, hb']
      exact this
  | _ =>
    all_goals
      have := h.me
      simp [World.cell?, hb, ho] at this

set_option maxHeartbeats 400000 in
theorem is_any (w : World) (b : Nat) (me n p : Int) (s : Nat → Int) (h : WatchAt w b me n p s) (site : Int) :
    Calls Try.prog 25 #[.pointer (some ⟨b, 0, none⟩), .int .i64 site] w fun e w' => e = .returned (.bool (decide (0 ≤ site ∧ site < n))) ∧ w = w' := by
  have hn := h.n
  by_cases h0 : 0 ≤ site
  · by_cases h1 : site < n
    · go_enter Try.func25, Try.ntmps25
      go_wp2
      go_ret
      exact ⟨by simp [h0, h1], rfl⟩
    · go_enter Try.func25, Try.ntmps25
      go_wp2
      go_ret
      exact ⟨by simp; omega, rfl⟩
  · go_enter Try.func25, Try.ntmps25
    go_wp2
    go_ret
    exact ⟨by simp; omega, rfl⟩
set_option maxHeartbeats 400000 in
theorem site_any (w : World) (site n : Int) :
    Calls Try.prog 24 #[.int .i64 site, .int .i64 n] w fun e w' => e = .returned (.bool (decide (0 ≤ site ∧ site < n))) ∧ w = w' := by
  by_cases h0 : 0 ≤ site
  · by_cases h1 : site < n
    · go_enter Try.func24, Try.ntmps24
      go_wp2
      go_ret
      exact ⟨by simp [h0, h1], rfl⟩
    · go_enter Try.func24, Try.ntmps24
      go_wp2
      go_ret
      exact ⟨by simp; omega, rfl⟩
  · go_enter Try.func24, Try.ntmps24
    go_wp2
    go_ret
    exact ⟨by simp; omega, rfl⟩
set_option maxHeartbeats 400000 in
theorem heard_in (w : World) (b : Nat) (me n p : Int) (s : Nat → Int) (h : WatchAt w b me n p s) (k : Nat) (hk : (k : Int) < n) (hn : n ≤ 7) :
    Calls Try.prog 14 #[.pointer (some ⟨b, 0, none⟩), .int .i64 k] w fun e w' => e = .returned (.tuple #[]) ∧ w.setCell ⟨b, 3 + k, none⟩ (.int .i64 0) = w' := by
  have hs := h.s k (by omega)
  have hf := h.free (3 + k)
  have hk0 : (0 : Int) ≤ (k : Int) := by omega
  have hk7 : (k : Int) < 7 := by omega
  have hd : decide (0 ≤ (k : Int) ∧ (k : Int) < n) = true := by simp; omega
  go_enter Try.func14, Try.ntmps14
  go_wp2_with fail
  refine (is_any w b me n p s h k).mono ?_
  rintro e w1 ⟨rfl, rfl⟩
  rw [hd]
  go_wp2
  go_end0
  exact ⟨rfl, rfl⟩
set_option maxHeartbeats 400000 in
theorem heard_out (w : World) (b : Nat) (me n p : Int) (s : Nat → Int) (h : WatchAt w b me n p s) (site : Int) (hk : ¬ (0 ≤ site ∧ site < n)) :
    Calls Try.prog 14 #[.pointer (some ⟨b, 0, none⟩), .int .i64 site] w fun e w' => e = .returned (.tuple #[]) ∧ w = w' := by
  have hd : decide (0 ≤ site ∧ site < n) = false := decide_eq_false hk
  go_enter Try.func14, Try.ntmps14
  go_wp2_with fail
  refine (is_any w b me n p s h site).mono ?_
  rintro e w1 ⟨rfl, rfl⟩
  rw [hd]
  go_wp2
  go_end0
  exact ⟨rfl, rfl⟩
def silentF (n : Int) (s : Nat → Int) (site : Int) : Int := if 0 ≤ site ∧ site < n then s site.toNat else 0
set_option maxHeartbeats 400000 in
theorem silent_any (w : World) (b : Nat) (me n p : Int) (s : Nat → Int) (h : WatchAt w b me n p s) (site : Int) (hn : n ≤ 7) :
    Calls Try.prog 16 #[.pointer (some ⟨b, 0, none⟩), .int .i64 site] w fun e w' => e = .returned (.int .i64 (silentF n s site)) ∧ w = w' := by
  by_cases hk : 0 ≤ site ∧ site < n
  · have hd : decide (0 ≤ site ∧ site < n) = true := decide_eq_true hk
    have hf : silentF n s site = s site.toNat := by unfold silentF; rw [if_pos hk]
    obtain ⟨k, rfl⟩ : ∃ k : Nat, site = k := ⟨site.toNat, by omega⟩
    have hs := h.s k (by omega)
    have hk7 : (k : Int) < 7 := by omega
    have hk0 : (0 : Int) ≤ (k : Int) := by omega
    have HF : Hid (silentF n s k = s k) := hf.trans (congrArg s (Int.toNat_natCast k))
    clear hf
    go_enter Try.func16, Try.ntmps16
    go_wp2_with fail
    refine (is_any w b me n p s h k).mono ?_
    rintro e w1 ⟨rfl, rfl⟩
    rw [hd]
    go_wp2
    go_ret
    exact ⟨by rw [HF.out]; rfl, rfl⟩
  · have hd : decide (0 ≤ site ∧ site < n) = false := decide_eq_false hk
    have HF : Hid (silentF n s site = 0) := by unfold silentF; rw [if_neg hk]; rfl
    go_enter Try.func16, Try.ntmps16
    go_wp2_with fail
    refine (is_any w b me n p s h site).mono ?_
    rintro e w1 ⟨rfl, rfl⟩
    rw [hd]
    go_wp2
    go_ret
    exact ⟨by rw [HF.out]; rfl, rfl⟩

/-- one tick, so far as it has gone. -/
def tickK (me : Int) (s : Nat → Int) (k : Nat) : Nat → Int := fun i => if i < k ∧ (i : Int) ≠ me ∧ s i < 1000000 then s i + 1 else s i
theorem tickK_zero (me : Int) (s : Nat → Int) : tickK me s 0 = s := by funext i; unfold tickK; rw [if_neg (by omega)]
theorem tickK_at (me : Int) (s : Nat → Int) (k : Nat) : tickK me s k k = s k := by unfold tickK; rw [if_neg (by omega)]
theorem tickK_hit (me : Int) (s : Nat → Int) (k : Nat) (h1 : (k : Int) ≠ me) (h2 : s k < 1000000) : tickK me s (k + 1) = upd (tickK me s k) k (s k + 1) := by
  funext i
  unfold upd
  show (if i < k + 1 ∧ (i : Int) ≠ me ∧ s i < 1000000 then s i + 1 else s i) = if i = k then s k + 1 else if i < k ∧ (i : Int) ≠ me ∧ s i < 1000000 then s i + 1 else s i
  by_cases e : i = k
  · subst e; rw [if_pos ⟨by omega, h1, h2⟩, if_pos rfl]
  · rw [if_neg e]
    by_cases h : i < k
    · by_cases h3 : (i : Int) ≠ me ∧ s i < 1000000
      · rw [if_pos ⟨by omega, h3⟩, if_pos ⟨h, h3⟩]
      · rw [if_neg (fun h' => h3 h'.2), if_neg (fun h' => h3 h'.2)]
    · rw [if_neg (by omega), if_neg (by omega)]
theorem tickK_miss (me : Int) (s : Nat → Int) (k : Nat) (h : ¬ ((k : Int) ≠ me ∧ s k < 1000000)) : tickK me s (k + 1) = tickK me s k := by
  funext i
  unfold tickK
  by_cases e : i = k
  · subst e; rw [if_neg (fun h' => h h'.2), if_neg (by omega)]
  · by_cases h3 : i < k
    · by_cases h4 : (i : Int) ≠ me ∧ s i < 1000000
      · rw [if_pos ⟨by omega, h4⟩, if_pos ⟨h3, h4⟩]
      · rw [if_neg (fun h' => h4 h'.2), if_neg (fun h' => h4 h'.2)]
    · rw [if_neg (by omega), if_neg (by omega)]

set_option maxHeartbeats 1600000 in
theorem tick_any (w : World) (b : Nat) (me p : Int) (n : Nat) (s : Nat → Int) (h : WatchAt w b me n p s) (hn : n ≤ 7) (hs : ∀ i, i < 7 → 0 ≤ s i) :
    Calls Try.prog 12 #[.pointer (some ⟨b, 0, none⟩)] w fun e w' => e = .returned (.tuple #[]) ∧ WatchAt w' b me n p (tickK me s n) ∧ w.grownBy w' (some b) := by
  have h1 := h.n
  go_enter Try.func12, Try.ntmps12
  go_wp2
  clear h1
  go_loopw [9] (fun i wr => ∃ k : Nat, k ≤ n ∧ i = .int .i64 k ∧ WatchAt wr b me n p (tickK me s k) ∧ w.grownBy wr (some b)) (fun i _ => n - (intOf i).toNat)
  case atStart => exact ⟨0, by omega, rfl, by rw [tickK_zero]; exact h, gr_refl _ _⟩
  case round =>
    obtain ⟨k, hk, rfl, hw, hg⟩ := hrel
    by_cases hlt : k < n
    · have e0 := hw.me
      have es : wr.cell? ⟨b, 3 + k, none⟩ = some (.int .i64 (s k)) := by rw [hw.s k (by omega), tickK_at]
      have ef := hw.free (3 + k)
      have hsk := hs k (by omega)
      have hk7 : (k : Int) < 7 := by omega
      have hk0 : (0 : Int) ≤ (k : Int) := by omega
      by_cases hme : (k : Int) = me
      · have q1 : ((k : Int) == me) = true := by simp [hme]
        have q2 : ((k : Int) != me) = false := by simp [hme]
        have HT := Lib.hid (tickK_miss me s k (fun h' => h'.1 hme))
        have HM := Lib.hid hme
        clear hme
        go_wp2
        go_roundw
        case rel => exact ⟨k + 1, by omega, by go_num, by rw [HT.out]; exact hw, hg⟩
        case measure => simp [intOf]; omega
      · have q1 : ((k : Int) == me) = false := by simp [hme]
        have q2 : ((k : Int) != me) = true := by simp [hme]
        by_cases hlim : s k < 1000000
        · have HT := Lib.hid (tickK_hit me s k hme hlim)
          clear hme
          go_wp2_with fail
          refine wp_region_plan [(0, true), (1, true), (2, true), (3, true), (4, true), (5, true), (6, true), (7, true), (8, true), (9, true), (10, false)] (fun w' => w'.cell? ⟨b, 3 + k, none⟩ = some (.int .i64 (s k)) ∧ w'.frozen? ⟨b, 3 + k, none⟩ = false) (by kernel_rfl) (by kernel_rfl) (fun _ _ _ _ h => h) ?_ (fun hS => ?_)
          · go_simp
          iterate 10
            refine plan_light (o := ?_) (v := ?_) ?_ ?_ ?_ ?_
            rotate_left 2
            · simp only [List.getElem?_toArray, List.getElem?_cons_zero, List.getElem?_cons_succ]
              rfl
            · go_simp
            · intro w' hS
              go_simp
              try rfl
            simp only [Act.put, List.setIfInBounds_toArray, List.set_cons_zero, List.set_cons_succ]
          refine plan_sink (o := ?_) ?_ (by kernel_rfl) (fun K' hK => ?_)
          rotate_left
          · simp only [List.getElem?_toArray, List.getElem?_cons_zero, List.getElem?_cons_succ]
            rfl
          go_simp
          refine hK.out _ _ ?_
          clear hK K'
          refine plan_nil ?_
          go_wp2
          go_roundw
          case rel => exact ⟨k + 1, by omega, by go_num, by rw [HT.out]; exact hw.drew.set k (by omega) _, gr_set (gr_drew hg) _ _ (.inl rfl)⟩
          case measure => simp [intOf]; omega
        · have HT := Lib.hid (tickK_miss me s k (fun h' => hlim h'.2))
          clear hme
          go_wp2
          go_roundw
          case rel => exact ⟨k + 1, by omega, by go_num, by rw [HT.out]; exact hw, hg⟩
          case measure => simp [intOf]; omega
    · have hk' : k = n := by omega
      subst hk'
      go_wp2
      go_end0
      exact ⟨rfl, hw, hg⟩

/-- the least place that is no suspect. -/
def lead (p : Int) (s : Nat → Int) (n : Nat) : Int := match (List.range n).find? (fun i => decide (s i ≤ p)) with | some i => (i : Int) | none => -1
theorem lead_hit (p : Int) (s : Nat → Int) (n k : Nat) (hk : k < n) (h : ∀ i, i < k → p < s i) (hs : s k ≤ p) : lead p s n = k := by
  unfold lead
  have : (List.range n).find? (fun i => decide (s i ≤ p)) = some k := by
    rw [List.find?_range_eq_some]
    refine ⟨by simpa using hs, by simpa using hk, fun j hj => ?_⟩
    have := h j hj
    simp; omega
  rw [this]
theorem lead_none (p : Int) (s : Nat → Int) (n : Nat) (h : ∀ i, i < n → p < s i) : lead p s n = -1 := by
  unfold lead
  have : (List.range n).find? (fun i => decide (s i ≤ p)) = none := by
    rw [List.find?_range_eq_none]
    intro i hi
    have := h i hi
    simp; omega
  rw [this]
/-- the suspects, rising. -/
def susp (p : Int) (s : Nat → Int) (n : Nat) : List Int := ((List.range n).filter (fun i => decide (p < s i))).map (fun (i : Nat) => (i : Int))
theorem susp_zero (p : Int) (s : Nat → Int) : susp p s 0 = [] := rfl
theorem susp_hit (p : Int) (s : Nat → Int) (k : Nat) (h : p < s k) : susp p s (k + 1) = susp p s k ++ [(k : Int)] := by
  unfold susp; rw [List.range_succ, List.filter_append, List.map_append]; simp [h]
theorem susp_miss (p : Int) (s : Nat → Int) (k : Nat) (h : ¬ p < s k) : susp p s (k + 1) = susp p s k := by
  unfold susp; rw [List.range_succ, List.filter_append, List.map_append]; simp [h]
theorem susp_len (p : Int) (s : Nat → Int) (k : Nat) : (susp p s k).length ≤ k := by
  unfold susp; rw [List.length_map]; have := List.length_filter_le (fun i => decide (p < s i)) (List.range k); simpa using this

set_option maxHeartbeats 1600000 in
theorem leader_any (w : World) (b : Nat) (me p : Int) (n : Nat) (s : Nat → Int) (h : WatchAt w b me n p s) (hn : n ≤ 7) :
    Calls Try.prog 21 #[.pointer (some ⟨b, 0, none⟩)] w fun e w' => e = .returned (.int .i64 (lead p s n)) ∧ Below w.heap.size w w' := by
  have h1 := h.n
  go_enter Try.func21, Try.ntmps21
  go_wp2
  clear h1
  go_loopw [10] (fun i wr => ∃ k : Nat, k ≤ n ∧ i = .int .i64 k ∧ WatchAt wr b me n p s ∧ Below w.heap.size w wr ∧ ∀ i, i < k → p < s i) (fun i _ => n - (intOf i).toNat)
  case atStart => exact ⟨0, by omega, rfl, h, bel_refl _, fun i hi => absurd hi (by omega)⟩
  case round =>
    obtain ⟨k, hk, rfl, hw, hg, hall⟩ := hrel
    by_cases hlt : k < n
    · have e0 := hw.p
      have es := hw.s k (by omega)
      have hk7 : (k : Int) < 7 := by omega
      have hk0 : (0 : Int) ≤ (k : Int) := by omega
      by_cases hme : s k ≤ p
      · have HT := Lib.hid (lead_hit p s n k hlt hall hme)
        clear hall
        go_wp2
        go_quiet (fail)
        go_wp2
        go_ret
        exact ⟨by rw [HT.out]; rfl, bel_drewN hg _⟩
      · have HT := Lib.hid (show ∀ i, i < k + 1 → p < s i from fun i hi => by by_cases e : i = k; (subst e; omega); exact hall i (by omega))
        clear hall
        go_wp2
        go_quiet (fail)
        go_wp2
        go_roundw
        case rel => exact ⟨k + 1, by omega, by go_num, hw.drewN _, bel_drewN hg _, HT.out⟩
        case measure => simp [intOf]; omega
    · have hk' : k = n := by omega
      subst hk'
      have HT := Lib.hid (lead_none p s k hall)
      clear hall
      go_wp2
      go_ret
      exact ⟨by rw [HT.out]; rfl, hg⟩
theorem own_drewN {w : World} {base : Nat} {e : TypeId} {size : Nat} {v : Value} {n : Nat} {xs : List Value} (h : w.ownsRow base e size v n xs) (k : Nat) : (w.drewN k).ownsRow base e size v n xs := h
theorem info3 : (Try.prog.info? 3).map (fun i => (i.zero, i.size, i.bytes)) = some (some (.int .i64 0), 1, 8) := by kernel_rfl
set_option maxHeartbeats 1600000 in
theorem suspects_any (w : World) (b : Nat) (me p : Int) (n : Nat) (s : Nat → Int) (h : WatchAt w b me n p s) (hn : n ≤ 7) :
    Calls Try.prog 19 #[.pointer (some ⟨b, 0, none⟩)] w fun e w' => ∃ v, e = .returned v ∧ w'.ownsRow w.heap.size 3 1 v (susp p s n).length ((susp p s n).map (Value.int .i64)) ∧ Below w.heap.size w w' := by
  have h1 := h.n
  obtain ⟨i0, hi, hz0, hz1, hz2⟩ := info_parts info3
  go_enter Try.func19, Try.ntmps19
  go_wp2
  clear h1
  go_loopw [3, 11] (fun v i wr => ∃ k : Nat, k ≤ n ∧ i = .int .i64 k ∧ WatchAt wr b me n p s ∧ Below w.heap.size w wr ∧ wr.ownsRow w.heap.size 3 1 v (susp p s k).length ((susp p s k).map (Value.int .i64))) (fun _ i _ => n - (intOf i).toNat)
  case atStart => exact ⟨0, by omega, rfl, h, bel_refl _, World.ownsRow_nil _ _ _ _⟩
  case round =>
    obtain ⟨k, hk, rfl, hw, hg, hown⟩ := hrel
    by_cases hlt : k < n
    · have e0 := hw.p
      have es := hw.s k (by omega)
      have hk7 : (k : Int) < 7 := by omega
      have hk0 : (0 : Int) ≤ (k : Int) := by omega
      by_cases hme : p < s k
      · have HT := Lib.hid (susp_hit p s k hme)
        have HL := Lib.hid (susp_len p s k)
        go_wp2
        go_quiet (fail)
        go_wp2_with (at_builtin; refine wpList_append_own _ rfl _ _ 23 rfl w.heap.size 3 i0 (.int .i64 0) 1 8 Try.underlying23 hi hz0 hz1 hz2 rfl (by decide) _ _ _ rfl (own_drewN (hown.alloc _) _) ⟨wr.heap.size, 0, none⟩ 1 1 [.int .i64 k] rfl rfl ?c1 ?c2 ?c3 ?c4 ?c5 ?_)
        case c1 => exact cell_one_new _ _ _
        case c2 => intro u hu; simp at hu; subst hu; rfl
        case c3 => have := HL.out; unfold maxLen; omega
        case c4 => have := HL.out; omega
        case c5 => have := hg.size; simp; omega
        · intro v' w1 hown' hgrow _
          have hne : some b ≠ u3.ownBlock := fun e => by have := (hown.lt b e.symm).1; have := h.lt; omega
          have HW := Lib.hid (((hw.drewN nq).alloc (.cells #[.int .i64 (k : Int)] 3)).grown hgrow hne)
          have HG := Lib.hid (bel_grown hgrow (bel_alloc (bel_drewN hg nq) _) (fun j hj => (hown.lt j hj).1))
          have HO := Lib.hid hown'
          clear hown' hgrow hne
          go_wp2
          go_roundw
          case rel => exact ⟨k + 1, by omega, by go_num, HW.out, HG.out, by rw [HT.out]; simpa using HO.out⟩
          case measure => simp [intOf]; omega
      · have HT := Lib.hid (susp_miss p s k hme)
        go_wp2
        go_quiet (fail)
        go_wp2
        go_roundw
        case rel => exact ⟨k + 1, by omega, by go_num, hw.drewN _, bel_drewN hg _, by rw [HT.out]; exact own_drewN hown _⟩
        case measure => simp [intOf]; omega
    · have hk' : k = n := by omega
      subst hk'
      go_wp2
      go_ret
      exact ⟨_, rfl, hown, hg⟩

theorem WatchAt.new (w : World) (me n p : Int) (s : Nat → Int) (t : TypeId) : WatchAt (w.alloc (.cells #[.int .i64 me, .int .i64 n, .int .i64 p, .int .i64 (s 0), .int .i64 (s 1), .int .i64 (s 2), .int .i64 (s 3), .int .i64 (s 4), .int .i64 (s 5), .int .i64 (s 6)] t)) w.heap.size me n p s := by
  have B := Blk.new w #[.int .i64 me, .int .i64 n, .int .i64 p, .int .i64 (s 0), .int .i64 (s 1), .int .i64 (s 2), .int .i64 (s 3), .int .i64 (s 4), .int .i64 (s 5), .int .i64 (s 6)] t
  refine ⟨B.lt, B.cell 0, B.cell 1, B.cell 2, fun i hi => ?_, B.free⟩
  match i, hi with
  | 0, _ => exact B.cell 3
  | 1, _ => exact B.cell 4
  | 2, _ => exact B.cell 5
  | 3, _ => exact B.cell 6
  | 4, _ => exact B.cell 7
  | 5, _ => exact B.cell 8
  | 6, _ => exact B.cell 9
def okNew (me n p : Int) : Prop := 1 ≤ n ∧ n ≤ 7 ∧ 0 ≤ me ∧ me < n ∧ 1 ≤ p ∧ p ≤ 1000
set_option maxHeartbeats 400000 in
theorem new_ok (w : World) (me n p : Int) (h : okNew me n p) :
    Calls Try.prog 10 #[.int .i64 me, .int .i64 n, .int .i64 p] w fun e w' => e = .returned (.tuple #[.pointer (some ⟨w.heap.size, 0, none⟩), .int .i64 0]) ∧ WatchAt w' w.heap.size me n p (fun _ => 0) ∧ Below w.heap.size w w' := by
  obtain ⟨h1, h2, h3, h4, h5, h6⟩ := h
  go_enter Try.func10, Try.ntmps10
  go_wp2
  go_ret2
  exact ⟨rfl, WatchAt.new w me n p (fun _ => 0) _, bel_alloc (bel_refl _) _⟩
set_option maxHeartbeats 1000000 in
theorem new_bad (w : World) (me n p : Int) (h : ¬ okNew me n p) :
    Calls Try.prog 10 #[.int .i64 me, .int .i64 n, .int .i64 p] w fun e w' => e = .returned (.tuple #[.pointer none, .int .i64 1]) ∧ w = w' := by
  by_cases h1 : n < 1
  · go_enter Try.func10, Try.ntmps10
    go_wp2
    go_ret2
    exact ⟨rfl, rfl⟩
  · by_cases h2 : 7 < n
    · go_enter Try.func10, Try.ntmps10
      go_wp2
      go_ret2
      exact ⟨rfl, rfl⟩
    · by_cases h3 : me < 0
      · go_enter Try.func10, Try.ntmps10
        go_wp2
        go_ret2
        exact ⟨rfl, rfl⟩
      · by_cases h4 : n ≤ me
        · go_enter Try.func10, Try.ntmps10
          go_wp2
          go_ret2
          exact ⟨rfl, rfl⟩
        · by_cases h5 : p < 1
          · go_enter Try.func10, Try.ntmps10
            go_wp2
            go_ret2
            exact ⟨rfl, rfl⟩
          · have h6 : 1000 < p := by unfold okNew at h; omega
            clear h
            go_enter Try.func10, Try.ntmps10
            go_wp2
            go_ret2
            exact ⟨rfl, rfl⟩
set_option maxHeartbeats 1000000 in
theorem refNew_ok (w : World) (me n p : Int) (h : okNew me n p) :
    Calls Try.prog 11 #[.int .i64 me, .int .i64 n, .int .i64 p] w fun e w' => e = .returned (.tuple #[wagg me n p (fun _ => 0), .int .i64 0]) ∧ Below w.heap.size w w' := by
  obtain ⟨h1, h2, h3, h4, h5, h6⟩ := h
  have hd : decide (0 ≤ me ∧ me < n) = true := decide_eq_true ⟨h3, h4⟩
  go_enter Try.func11, Try.ntmps11
  go_wp2_with fail
  refine (site_any _ _ _).mono ?_
  rintro e w1 ⟨rfl, rfl⟩
  rw [hd]
  go_wp2
  refine bodyPost_ret (v := .tuple #[wagg me n p (fun _ => 0), .int .i64 0]) (by simp [results, Try.results11, go_sem]) rfl ⟨rfl, by go_grown⟩
set_option maxHeartbeats 2000000 in
theorem refNew_bad (w : World) (me n p : Int) (h : ¬ okNew me n p) :
    Calls Try.prog 11 #[.int .i64 me, .int .i64 n, .int .i64 p] w fun e w' => e = .returned (.tuple #[wagg 0 0 0 (fun _ => 0), .int .i64 1]) ∧ Below w.heap.size w w' := by
  by_cases h1 : n < 1
  · go_enter Try.func11, Try.ntmps11
    go_wp2
    refine bodyPost_ret (v := .tuple #[wagg 0 0 0 (fun _ => 0), .int .i64 1]) (by simp [results, Try.results11, go_sem]) rfl ⟨rfl, by go_grown⟩
  · by_cases h2 : 7 < n
    · go_enter Try.func11, Try.ntmps11
      go_wp2
      refine bodyPost_ret (v := .tuple #[wagg 0 0 0 (fun _ => 0), .int .i64 1]) (by simp [results, Try.results11, go_sem]) rfl ⟨rfl, by go_grown⟩
    · by_cases h3 : 0 ≤ me ∧ me < n
      · have hd : decide (0 ≤ me ∧ me < n) = true := decide_eq_true h3
        by_cases h5 : p < 1
        · clear h h3
          go_enter Try.func11, Try.ntmps11
          go_wp2_with fail
          refine (site_any _ _ _).mono ?_
          rintro e w1 ⟨rfl, rfl⟩
          rw [hd]
          go_wp2
          refine bodyPost_ret (v := .tuple #[wagg 0 0 0 (fun _ => 0), .int .i64 1]) (by simp [results, Try.results11, go_sem]) rfl ⟨rfl, by go_grown⟩
        · have h6 : 1000 < p := by unfold okNew at h; omega
          clear h h3
          go_enter Try.func11, Try.ntmps11
          go_wp2_with fail
          refine (site_any _ _ _).mono ?_
          rintro e w1 ⟨rfl, rfl⟩
          rw [hd]
          go_wp2
          refine bodyPost_ret (v := .tuple #[wagg 0 0 0 (fun _ => 0), .int .i64 1]) (by simp [results, Try.results11, go_sem]) rfl ⟨rfl, by go_grown⟩
      · have hd : decide (0 ≤ me ∧ me < n) = false := decide_eq_false h3
        clear h h3
        go_enter Try.func11, Try.ntmps11
        go_wp2_with fail
        refine (site_any _ _ _).mono ?_
        rintro e w1 ⟨rfl, rfl⟩
        rw [hd]
        go_wp2
        refine bodyPost_ret (v := .tuple #[wagg 0 0 0 (fun _ => 0), .int .i64 1]) (by simp [results, Try.results11, go_sem]) rfl ⟨rfl, by go_grown⟩

theorem site_yes (w : World) (site n : Int) (h : 0 ≤ site ∧ site < n) : Calls Try.prog 24 #[.int .i64 site, .int .i64 n] w fun e w' => e = .returned (.bool true) ∧ w = w' := by
  refine (site_any w site n).mono ?_
  rintro e w' ⟨rfl, rfl⟩
  exact ⟨by rw [decide_eq_true h], rfl⟩
abbrev z10 : Array Value := #[.int .i64 0, .int .i64 0, .int .i64 0, .int .i64 0, .int .i64 0, .int .i64 0, .int .i64 0, .int .i64 0, .int .i64 0, .int .i64 0]
set_option maxHeartbeats 4000000 in
theorem refHeard_in (w : World) (me n p : Int) (s : Nat → Int) (k : Nat) (hk : (k : Int) < n) (hn : n ≤ 7) :
    Calls Try.prog 15 #[wagg me n p s, .int .i64 k] w fun e w' => e = .returned (wagg me n p (upd s k 0)) ∧ Below w.heap.size w w' := by
  obtain rfl | rfl | rfl | rfl | rfl | rfl | rfl : k = 0 ∨ k = 1 ∨ k = 2 ∨ k = 3 ∨ k = 4 ∨ k = 5 ∨ k = 6 := by omega
  all_goals
    go_enter Try.func15, Try.ntmps15
    go_wp2_with fail
    refine (site_yes _ _ _ (by omega)).mono ?_
    rintro e w1 ⟨rfl, rfl⟩
    go_wp2
    refine bodyPost_ret (v := wagg me n p (upd s _ 0)) (by first | (simp [results, Try.results15, go_sem, upd]; done) | (simp [results, Try.results15, go_sem, upd]; rfl)) rfl ⟨rfl, by go_grown⟩
set_option maxHeartbeats 1000000 in
theorem refHeard_out (w : World) (me n p : Int) (s : Nat → Int) (site : Int) (hk : ¬ (0 ≤ site ∧ site < n)) :
    Calls Try.prog 15 #[wagg me n p s, .int .i64 site] w fun e w' => e = .returned (wagg me n p s) ∧ Below w.heap.size w w' := by
  have hd : decide (0 ≤ site ∧ site < n) = false := decide_eq_false hk
  go_enter Try.func15, Try.ntmps15
  go_wp2_with fail
  refine (site_any _ _ _).mono ?_
  rintro e w1 ⟨rfl, rfl⟩
  rw [hd]
  go_wp2
  refine bodyPost_ret (v := wagg me n p s) (by simp [results, Try.results15, go_sem]) rfl ⟨rfl, by go_grown⟩

theorem own_base {w : World} {base base' : Nat} {e : TypeId} {size : Nat} {v : Value} {n : Nat} {xs : List Value} (h : w.ownsRow base e size v n xs) (hb : base' ≤ base) : w.ownsRow base' e size v n xs := by
  refine ⟨h.1, ?_⟩
  rcases h.2 with h | ⟨g, cap, cur, hv, hg, r⟩
  · exact .inl h
  · exact .inr ⟨g, cap, cur, hv, by omega, r⟩
set_option maxHeartbeats 4000000 in
theorem refSilent_any (w : World) (me n p : Int) (s : Nat → Int) (site : Int) (hn : n ≤ 7) :
    Calls Try.prog 17 #[wagg me n p s, .int .i64 site] w fun e w' => e = .returned (.int .i64 (silentF n s site)) ∧ Below w.heap.size w w' := by
  by_cases hk : 0 ≤ site ∧ site < n
  · have hf : silentF n s site = s site.toNat := by unfold silentF; rw [if_pos hk]
    obtain ⟨k, rfl⟩ : ∃ k : Nat, site = k := ⟨site.toNat, by omega⟩
    have HF : silentF n s k = s k := hf.trans (congrArg s (Int.toNat_natCast k))
    clear hf
    obtain rfl | rfl | rfl | rfl | rfl | rfl | rfl : k = 0 ∨ k = 1 ∨ k = 2 ∨ k = 3 ∨ k = 4 ∨ k = 5 ∨ k = 6 := by omega
    all_goals
      have HH := Lib.hid HF
      clear HF
      go_enter Try.func17, Try.ntmps17
      go_wp2_with fail
      refine (site_yes _ _ _ (by omega)).mono ?_
      rintro e w1 ⟨rfl, rfl⟩
      go_wp2
      go_ret
      exact ⟨by rw [HH.out]; rfl, by go_grown⟩
  · have hd : decide (0 ≤ site ∧ site < n) = false := decide_eq_false hk
    have HF : Hid (silentF n s site = 0) := by unfold silentF; rw [if_neg hk]; rfl
    go_enter Try.func17, Try.ntmps17
    go_wp2_with fail
    refine (site_any _ _ _).mono ?_
    rintro e w1 ⟨rfl, rfl⟩
    rw [hd]
    go_wp2
    go_ret
    exact ⟨by rw [HF.out]; rfl, by go_grown⟩

set_option maxHeartbeats 1600000 in
theorem refLeader_any (w : World) (me p : Int) (n : Nat) (s : Nat → Int) (hn : n ≤ 7) :
    Calls Try.prog 22 #[wagg me n p s] w fun e w' => e = .returned (.int .i64 (lead p s n)) ∧ Below w.heap.size w w' := by
  go_enter Try.func22, Try.ntmps22
  go_wp2
  go_loopw [3] (fun i wr => ∃ k : Nat, k ≤ n ∧ i = .int .i64 k ∧ WatchAt wr w.heap.size me n p s ∧ Below w.heap.size w wr ∧ ∀ i, i < k → p < s i) (fun i _ => n - (intOf i).toNat)
  case atStart => exact ⟨0, by omega, rfl, WatchAt.new w me n p s _, bel_alloc (bel_refl _) _, fun i hi => absurd hi (by omega)⟩
  case round =>
    obtain ⟨k, hk, rfl, hw, hg, hall⟩ := hrel
    have e1 := hw.n
    by_cases hlt : k < n
    · have e0 := hw.p
      have es := hw.s k (by omega)
      have hk7 : (k : Int) < 7 := by omega
      have hk0 : (0 : Int) ≤ (k : Int) := by omega
      by_cases hme : s k ≤ p
      · have HT := Lib.hid (lead_hit p s n k hlt hall hme)
        clear hall
        go_wp2
        go_quiet (fail)
        go_wp2
        go_ret
        exact ⟨by rw [HT.out]; rfl, bel_drewN hg _⟩
      · have HT := Lib.hid (show ∀ i, i < k + 1 → p < s i from fun i hi => by by_cases e : i = k; (subst e; omega); exact hall i (by omega))
        clear hall
        go_wp2
        go_quiet (fail)
        go_wp2
        go_roundw
        case rel => exact ⟨k + 1, by omega, by go_num, hw.drewN _, bel_drewN hg _, HT.out⟩
        case measure => simp [intOf]; omega
    · have hk' : k = n := by omega
      subst hk'
      have HT := Lib.hid (lead_none p s k hall)
      clear hall
      go_wp2
      go_ret
      exact ⟨by rw [HT.out]; rfl, hg⟩
set_option maxHeartbeats 1600000 in
theorem refSuspects_any (w : World) (me p : Int) (n : Nat) (s : Nat → Int) (hn : n ≤ 7) :
    Calls Try.prog 20 #[wagg me n p s] w fun e w' => ∃ v, e = .returned v ∧ w'.ownsRow w.heap.size 3 1 v (susp p s n).length ((susp p s n).map (Value.int .i64)) ∧ Below w.heap.size w w' := by
  obtain ⟨i0, hi, hz0, hz1, hz2⟩ := info_parts info3
  go_enter Try.func20, Try.ntmps20
  go_wp2
  go_loopw [3, 4] (fun v i wr => ∃ k : Nat, k ≤ n ∧ i = .int .i64 k ∧ WatchAt wr w.heap.size me n p s ∧ Below w.heap.size w wr ∧ wr.ownsRow (w.heap.size + 1) 3 1 v (susp p s k).length ((susp p s k).map (Value.int .i64)) ∧ w.heap.size + 1 ≤ wr.heap.size) (fun _ i _ => n - (intOf i).toNat)
  case atStart => exact ⟨0, by omega, rfl, WatchAt.new w me n p s _, bel_alloc (bel_refl _) _, World.ownsRow_nil _ _ _ _, by simp⟩
  case round =>
    obtain ⟨k, hk, rfl, hw, hg, hown, hsz⟩ := hrel
    have e1 := hw.n
    by_cases hlt : k < n
    · have e0 := hw.p
      have es := hw.s k (by omega)
      have hk7 : (k : Int) < 7 := by omega
      have hk0 : (0 : Int) ≤ (k : Int) := by omega
      by_cases hme : p < s k
      · have HT := Lib.hid (susp_hit p s k hme)
        have HL := Lib.hid (susp_len p s k)
        go_wp2
        go_quiet (fail)
        go_wp2_with (at_builtin; refine wpList_append_own _ rfl _ _ 23 rfl (w.heap.size + 1) 3 i0 (.int .i64 0) 1 8 Try.underlying23 hi hz0 hz1 hz2 rfl (by decide) _ _ _ rfl (own_drewN (hown.alloc _) _) ⟨wr.heap.size, 0, none⟩ 1 1 [.int .i64 k] rfl rfl ?c1 ?c2 ?c3 ?c4 ?c5 ?_)
        case c1 => exact cell_one_new _ _ _
        case c2 => intro u hu; simp at hu; subst hu; rfl
        case c3 => have := HL.out; unfold maxLen; omega
        case c4 => have := HL.out; omega
        case c5 => simp; omega
        · intro v' w1 hown' hgrow _
          have hne : some w.heap.size ≠ u3.ownBlock := fun e => by have := (hown.lt _ e.symm).1; omega
          have HW := Lib.hid (((hw.drewN nq).alloc (.cells #[.int .i64 (k : Int)] 3)).grown hgrow hne)
          have HG := Lib.hid (bel_grown hgrow (bel_alloc (bel_drewN hg nq) _) (fun j hj => by have := (hown.lt j hj).1; omega))
          have HO := Lib.hid hown'
          have HZ := Lib.hid hgrow.size
          clear hown' hgrow hne
          go_wp2
          go_roundw
          case rel => exact ⟨k + 1, by omega, by go_num, HW.out, HG.out, by rw [HT.out]; simpa using HO.out, by have := HZ.out; simp at this; omega⟩
          case measure => simp [intOf]; omega
      · have HT := Lib.hid (susp_miss p s k hme)
        go_wp2
        go_quiet (fail)
        go_wp2
        go_roundw
        case rel => exact ⟨k + 1, by omega, by go_num, hw.drewN _, bel_drewN hg _, by rw [HT.out]; exact own_drewN hown _, by simpa using hsz⟩
        case measure => simp [intOf]; omega
    · have hk' : k = n := by omega
      subst hk'
      go_wp2
      go_ret
      exact ⟨_, rfl, own_base hown (by omega), hg⟩
set_option maxHeartbeats 4000000 in
theorem refTick_any (w : World) (me p : Int) (n : Nat) (s : Nat → Int) (hn : n ≤ 7) (hs : ∀ i, i < 7 → 0 ≤ s i) :
    Calls Try.prog 13 #[wagg me n p s] w fun e w' => e = .returned (wagg me n p (tickK me s n)) ∧ Below w.heap.size w w' := by
  go_enter Try.func13, Try.ntmps13
  go_wp2
  go_loopw [3] (fun i wr => ∃ k : Nat, k ≤ n ∧ i = .int .i64 k ∧ WatchAt wr w.heap.size me n p (tickK me s k) ∧ Below w.heap.size w wr ∧ Blk wr (w.heap.size + 1) z10) (fun i _ => n - (intOf i).toNat)
  case atStart => exact ⟨0, by omega, rfl, by rw [tickK_zero]; exact (WatchAt.new w me n p s _).alloc _, bel_alloc (bel_alloc (bel_refl _) _) _, Blk.new' (by simp) _ _⟩
  case round =>
    obtain ⟨k, hk, rfl, hw, hg, hz⟩ := hrel
    have e1 := hw.n
    by_cases hlt : k < n
    · have e0 := hw.me
      have es : wr.cell? ⟨w.heap.size, 3 + k, none⟩ = some (.int .i64 (s k)) := by rw [hw.s k (by omega), tickK_at]
      have ef := hw.free (3 + k)
      have hsk := hs k (by omega)
      have hk7 : (k : Int) < 7 := by omega
      have hk0 : (0 : Int) ≤ (k : Int) := by omega
      by_cases hme : (k : Int) = me
      · have q1 : ((k : Int) == me) = true := by simp [hme]
        have q2 : ((k : Int) != me) = false := by simp [hme]
        have HT := Lib.hid (tickK_miss me s k (fun h' => h'.1 hme))
        clear hme
        go_wp2
        go_roundw
        case rel => exact ⟨k + 1, by omega, by go_num, by rw [HT.out]; exact hw, hg, hz⟩
        case measure => simp [intOf]; omega
      · have q1 : ((k : Int) == me) = false := by simp [hme]
        have q2 : ((k : Int) != me) = true := by simp [hme]
        by_cases hlim : s k < 1000000
        · have HT := Lib.hid (tickK_hit me s k hme hlim)
          clear hme
          go_wp2
          go_roundw
          case rel => exact ⟨k + 1, by omega, by go_num, by rw [HT.out]; exact hw.set k (by omega) _, bel_set hg (Nat.le_refl _) _, hz.set_other _ _ (by simp)⟩
          case measure => simp [intOf]; omega
        · have HT := Lib.hid (tickK_miss me s k (fun h' => hlim h'.2))
          clear hme
          go_wp2
          go_roundw
          case rel => exact ⟨k + 1, by omega, by go_num, by rw [HT.out]; exact hw, hg, hz⟩
          case measure => simp [intOf]; omega
    · have hk' : k = n := by omega
      subst hk'
      obtain ⟨s', hs'⟩ : ∃ s', tickK me s k = s' := ⟨_, rfl⟩
      rw [hs'] at hw
      have HS := Lib.hid hs'
      clear hs'
      have c0 := hw.me; have c2 := hw.p
      have c3 : wr.cell? ⟨w.heap.size, 3, none⟩ = _ := hw.s 0 (by omega)
      have c4 : wr.cell? ⟨w.heap.size, 4, none⟩ = _ := hw.s 1 (by omega)
      have c5 : wr.cell? ⟨w.heap.size, 5, none⟩ = _ := hw.s 2 (by omega)
      have c6 : wr.cell? ⟨w.heap.size, 6, none⟩ = _ := hw.s 3 (by omega)
      have c7 : wr.cell? ⟨w.heap.size, 7, none⟩ = _ := hw.s 4 (by omega)
      have c8 : wr.cell? ⟨w.heap.size, 8, none⟩ = _ := hw.s 5 (by omega)
      have c9 : wr.cell? ⟨w.heap.size, 9, none⟩ = _ := hw.s 6 (by omega)
      have d0 : wr.cell? ⟨w.heap.size + 1, 0, none⟩ = some (.int .i64 0) := hz.cell 0
      have d1 : wr.cell? ⟨w.heap.size + 1, 1, none⟩ = some (.int .i64 0) := hz.cell 1
      have d2 : wr.cell? ⟨w.heap.size + 1, 2, none⟩ = some (.int .i64 0) := hz.cell 2
      have d3 : wr.cell? ⟨w.heap.size + 1, 3, none⟩ = some (.int .i64 0) := hz.cell 3
      have d4 : wr.cell? ⟨w.heap.size + 1, 4, none⟩ = some (.int .i64 0) := hz.cell 4
      have d5 : wr.cell? ⟨w.heap.size + 1, 5, none⟩ = some (.int .i64 0) := hz.cell 5
      have d6 : wr.cell? ⟨w.heap.size + 1, 6, none⟩ = some (.int .i64 0) := hz.cell 6
      have d7 : wr.cell? ⟨w.heap.size + 1, 7, none⟩ = some (.int .i64 0) := hz.cell 7
      have d8 : wr.cell? ⟨w.heap.size + 1, 8, none⟩ = some (.int .i64 0) := hz.cell 8
      have d9 : wr.cell? ⟨w.heap.size + 1, 9, none⟩ = some (.int .i64 0) := hz.cell 9
      have f := hz.free
      go_wp2
      refine bodyPost_ret (v := wagg me k p s') (by simp [results, Try.results13, go_sem, *]) rfl ⟨by rw [HS.out], by go_grown⟩
end Go.Proofs.Ytkgfikaojbfoiaa
