/-
  A region that draws its order, walked along ONE plan: what is proved here is that a plan of the region's operations, in which each 'light' operation (a load, a copy, an address, arithmetic) yields one and the same value in every world that meets S, and in which the other operations are forced one behind the other, speaks for every order that may be drawn. Conditions: 'planOk' is true; S holds behind each operation that is carried out, but for one that waits for all others.
-/
import Derived.Test.YtkebpibcoklglaaRows
import Derived.OrdersHeld
import Derived.Deep.RegionHeld
import Derived.WalkKit
namespace Go.Proofs.Ytkebpibcoklglaa
section
variable {P : Program} {ops : Array Oper} {Q : Exit → Act → World → Prop} {md : Region.Mode} {S : World → Prop}

/-- operation j waits, over at most so many steps, for k. -/
def waitsN (md : Region.Mode) (ops : Array Oper) : Nat → Nat → Nat → Bool
  | 0, _, _ => false
  | n + 1, j, k => match ops[j]? with
    | some o => o.after.any fun e => Region.binds md e && (e.on == k || waitsN md ops n e.on k)
    | none => false
/-- operation j waits for every other one. -/
def sinkB (md : Region.Mode) (ops : Array Oper) (j : Nat) : Bool := (List.range ops.size).all fun k => k == j || waitsN md ops 6 j k
/-- what is listed waits for nothing that isn't. -/
def Closed (md : Region.Mode) (ops : Array Oper) (listed : Array Bool) : Prop :=
  ∀ j oj, ops[j]? = some oj → listed.getD j false = true → ∀ e ∈ oj.after, Region.binds md e = true → listed.getD e.on false = true
def closedB (md : Region.Mode) (ops : Array Oper) (listed : Array Bool) : Bool :=
  (List.range ops.size).all fun j => !listed.getD j false || match ops[j]? with
    | some oj => oj.after.all fun e => !Region.binds md e || listed.getD e.on false
    | none => true
theorem closed_of_B {listed : Array Bool} (h : closedB md ops listed = true) : Closed md ops listed := by
  intro j oj hj hl e he hb
  have h1 := List.all_eq_true.1 h j (List.mem_range.2 (Array.getElem?_eq_some_iff.1 hj).1)
  rw [hl, hj] at h1
  simp only [Bool.not_true, Bool.false_or, Array.all_eq_true_iff_forall_mem] at h1
  have h2 := h1 e he
  rw [hb] at h2
  simpa using h2
theorem closed_none (n : Nat) : Closed md ops (Array.replicate n false) := by
  intro j oj hj hl e he hb
  exfalso
  rcases Nat.lt_or_ge j n with h | h
  · simp [h] at hl
  · simp [h] at hl
theorem Closed.set {i : Nat} {listed : Array Bool} (h : Closed md ops listed) (hi : i ∈ Region.ready md ops listed) : Closed md ops (listed.setIfInBounds i true) := by
  obtain ⟨_, oi, hoi, hall⟩ := mem_ready.1 hi
  intro j oj hj hl e he hb
  by_cases hij : i = j
  · subst hij
    have : oj = oi := Option.some.inj (hj.symm.trans hoi)
    subst this
    exact getD_set_true (hall e he hb)
  · rw [getD_set_ne false hij] at hl
    exact getD_set_true (h j oj hj hl e he hb)
theorem waits_listed {listed : Array Bool} (hc : Closed md ops listed) : ∀ (n j k : Nat), (∀ oj, ops[j]? = some oj → ∀ e ∈ oj.after, Region.binds md e = true → listed.getD e.on false = true) → waitsN md ops n j k = true → listed.getD k false = true
  | 0, _, _, _, h => by simp [waitsN] at h
  | n + 1, j, k, hd, h => by
    unfold waitsN at h
    split at h
    · rename_i o ho
      obtain ⟨e, he, hb⟩ := Array.any_eq_true'.1 h
      simp only [Bool.and_eq_true, Bool.or_eq_true, beq_iff_eq] at hb
      have h1 := hd o ho e he hb.1
      rcases hb.2 with h2 | h2
      · rw [← h2]; exact h1
      · exact waits_listed hc n e.on k (fun oj hj => hc e.on oj hj h1) h2
    · cases h
theorem sink_waits {j i : Nat} {listed : Array Bool} (hc : Closed md ops listed) (hs : sinkB md ops j = true) (hj : j ∈ Region.ready md ops listed) (hi : i < ops.size) (hij : j ≠ i) : listed.getD i false = true := by
  obtain ⟨_, o, ho, hall⟩ := mem_ready.1 hj
  have h := List.all_eq_true.1 hs i (List.mem_range.2 hi)
  simp only [Bool.or_eq_true, beq_iff_eq] at h
  rcases h with h | h
  · exact absurd h.symm hij
  · refine waits_listed hc 6 j i (fun oj hj => ?_) h
    obtain rfl : oj = o := Option.some.inj (hj.symm.trans ho)
    exact hall

/-- whatever order is picked from here on, and S holds behind every operation but a sink. -/
def wpAnyT (P : Program) (md : Region.Mode) (ops : Array Oper) (Q : Exit → Act → World → Prop) (S : World → Prop) : Nat → Array Bool → Act → World → Prop
  | 0, listed, a, w => Region.ready md ops listed = [] ∧ Q .normal a w
  | fuel + 1, listed, a, w =>
    (Region.ready md ops listed = [] → Q .normal a w) ∧
    ∀ i ∈ Region.ready md ops listed, wpOp P ops Q i (fun a' w' => (sinkB md ops i = false → S w') ∧ wpAnyT P md ops Q S fuel (listed.setIfInBounds i true) a' w') a w

theorem wpAny_of_T : ∀ (fuel : Nat) (listed : Array Bool) (a : Act) (w : World), wpAnyT P md ops Q S fuel listed a w → wpAny P md ops Q fuel listed a w
  | 0, _, _, _, h => h
  | fuel + 1, _, _, _, h => ⟨h.1, fun i hi => wpOp_mono (fun a' w' h' => wpAny_of_T fuel _ a' w' h'.2) (h.2 i hi)⟩

theorem wpAnyT_first {i : Nat} {oi : Oper} {v : Value} (hi : ops[i]? = some oi) (hsel : ∀ (j : Nat) (o : Oper) cs b, ops[j]? = some o → o.op ≠ .select cs b)
    (hQ : ∀ c a w, Q (.panic c) (a.put oi.dst v) w → Q (.panic c) a w) :
    ∀ (fuel : Nat) (listed : Array Bool) (a : Act) (w : World), Closed md ops listed →
      (∀ j oj, ops[j]? = some oj → j ≠ i → listed.getD j true = false → (∀ e ∈ oj.after, Region.binds md e = true → e.on ≠ i) → oi.apart ops oj = true) →
      i ∈ Region.ready md ops listed → YieldsIf P ops S oi v a → S w →
      wpAnyT P md ops Q S fuel (listed.setIfInBounds i true) (a.put oi.dst v) w → wpAnyT P md ops Q S (fuel + 1) listed a w := by
  intro fuel
  induction fuel with
  | zero =>
    intro listed a w hcl _ hr hy hS H
    refine ⟨fun h => (by rw [h] at hr; cases hr), fun j hj => ?_⟩
    by_cases hji : j = i
    · subst hji; exact hy.wpOp hi hS ⟨fun _ => hS, H⟩
    · have := ready_mono hj hji
      rw [H.1] at this
      cases this
  | succ fuel ih =>
    intro listed a w hcl hfree hr hy hS H
    refine ⟨fun h => (by rw [h] at hr; cases hr), fun j hj => ?_⟩
    by_cases hji : j = i
    · subst hji; exact hy.wpOp hi hS ⟨fun _ => hS, H⟩
    · have h1 := H.2 j (ready_mono hj hji)
      obtain ⟨hjun, oj, hoj, hall⟩ := mem_ready.1 hj
      have h0i := (mem_ready.1 hr).1
      have hnot : ∀ e ∈ oj.after, Region.binds md e = true → e.on ≠ i := fun e he hb heq => by
        have h1 := hall e he hb
        rw [heq] at h1
        rcases Nat.lt_or_ge i listed.size with h' | h'
        · simp [h'] at h0i h1; rw [h0i] at h1; cases h1
        · simp [Array.getElem?_eq_none h'] at h1
      have hns : sinkB md ops j = false := by
        cases hsk : sinkB md ops j with
        | false => rfl
        | true =>
          have := sink_waits hcl hsk hj (Array.getElem?_eq_some_iff.1 hi).1 hji
          rcases Nat.lt_or_ge i listed.size with h' | h'
          · simp [h'] at h0i this; rw [h0i] at this; cases this
          · simp [Array.getElem?_eq_none h'] at this
      have h2 := wpOp_putIf hoj (hfree j oj hoj hji hjun hnot) (fun cs b => hsel i oi cs b hi) (fun cs b => hsel j oj cs b hoj) hQ hy h1
      have hfree' : ∀ k ok, ops[k]? = some ok → k ≠ i → (listed.setIfInBounds j true).getD k true = false →
          (∀ e ∈ ok.after, Region.binds md e = true → e.on ≠ i) → oi.apart ops ok = true := fun k ok hk hki hun hno => by
        refine hfree k ok hk hki ?_ hno
        by_cases hjk : j = k
        · subst hjk; exact hjun
        · rw [getD_set_ne true hjk] at hun; exact hun
      refine wpOp_mono (fun a' w' h3 => ⟨fun _ => h3.2.1 hns, ih (listed.setIfInBounds j true) a' w' (hcl.set hj) hfree' (ready_mono hr (Ne.symm hji)) h3.1 (h3.2.1 hns) ?_⟩) h2
      rw [Array.setIfInBounds_comm _ _ hji]
      exact h3.2.2

theorem ne_nil_of_mem {x : Nat} {l : List Nat} (h : x ∈ l) : ¬ l = [] := fun e => by rw [e] at h; cases h

/-- is it a plan: a light one (true) may be taken first; another one is the only one that may come up. What is listed behind it. -/
def planRun (md : Region.Mode) (ops : Array Oper) : List (Nat × Bool) → Array Bool → Option (Array Bool)
  | [], listed => some listed
  | (i, true) :: rest, listed => if ((Region.ready md ops listed).contains i && Region.free md ops listed i) = true then planRun md ops rest (listed.setIfInBounds i true) else none
  | (i, false) :: rest, listed => if (Region.ready md ops listed == [i]) = true then planRun md ops rest (listed.setIfInBounds i true) else none

/-- the walk along the plan, to R. -/
def planWp (P : Program) (md : Region.Mode) (ops : Array Oper) (Q : Exit → Act → World → Prop) (S : World → Prop) (R : Act → World → Prop) : List (Nat × Bool) → Act → World → Prop
  | [], a, w => R a w
  | (i, true) :: rest, a, w => ∃ oi v, ops[i]? = some oi ∧ YieldsIf P ops S oi v a ∧ planWp P md ops Q S R rest (a.put oi.dst v) w
  | (i, false) :: rest, a, w => wpOp P ops Q i (fun a' w' => (sinkB md ops i = false → S w') ∧ (S w' → planWp P md ops Q S R rest a' w') ∧ (sinkB md ops i = true → planWp P md ops Q S R rest a' w')) a w

theorem ready_of_sink {i : Nat} {listed : Array Bool} (hcl : Closed md ops listed) (hsk : sinkB md ops i = true) (hr : Region.ready md ops listed = [i]) : Region.ready md ops (listed.setIfInBounds i true) = [] := by
  have hj : i ∈ Region.ready md ops listed := by rw [hr]; exact List.mem_singleton.2 rfl
  apply List.eq_nil_iff_forall_not_mem.2
  intro k hk
  obtain ⟨h0, o, ho, _⟩ := mem_ready.1 hk
  by_cases hjk : i = k
  · subst hjk
    obtain ⟨h1, oj, hoj, _⟩ := mem_ready.1 hj
    rcases Nat.lt_or_ge i listed.size with h' | h'
    · simp [h'] at h0
    · simp [Array.getElem?_eq_none h'] at h1
  · have := sink_waits hcl hsk hj (Array.getElem?_eq_some_iff.1 ho).1 hjk
    rw [getD_set_ne true hjk] at h0
    rcases Nat.lt_or_ge k listed.size with h' | h'
    · simp [h'] at h0 this; rw [h0] at this; cases this
    · simp [Array.getElem?_eq_none h'] at this

theorem wpAnyT_of_plan (hs : Region.noSelect ops = true) (hQ : ∀ c a d v w, Q (.panic c) (a.put d v) w → Q (.panic c) a w) {R : Act → World → Prop} {fuel : Nat} {last : Array Bool}
    (hR : ∀ a w, R a w → wpAnyT P md ops Q S fuel last a w) :
    ∀ (plan : List (Nat × Bool)) (listed : Array Bool) (a : Act) (w : World), Closed md ops listed → planRun md ops plan listed = some last → (S w ∨ Region.ready md ops listed = []) → planWp P md ops Q S R plan a w → wpAnyT P md ops Q S (plan.length + fuel) listed a w
  | [], listed, a, w, _, hok, _, h => by
    simp only [planRun, Option.some.injEq] at hok
    subst hok
    rw [List.length_nil, Nat.zero_add]
    exact hR a w h
  | (i, true) :: rest, listed, a, w, hcl, hok, hS, h => by
    simp only [planRun] at hok
    split at hok
    · rename_i hc
      simp only [Bool.and_eq_true, List.contains_iff_mem] at hc
      obtain ⟨hr, hf⟩ := hc
      obtain ⟨oi, v, hi, hy, h⟩ := h
      have hS' : S w := hS.resolve_right (ne_nil_of_mem hr)
      rw [List.length_cons, Nat.add_right_comm]
      exact wpAnyT_first hi (Region.noSelect_spec hs) (fun c a w => hQ c a _ _ w) _ listed a w hcl (Region.free_spec hi hf) hr hy hS'
        (wpAnyT_of_plan hs hQ hR rest _ _ _ (hcl.set hr) hok (.inl hS') h)
    · cases hok
  | (i, false) :: rest, listed, a, w, hcl, hok, hS, h => by
    simp only [planRun] at hok
    split at hok
    · rename_i hc
      have hr : Region.ready md ops listed = [i] := by simpa using hc
      rw [List.length_cons, Nat.add_right_comm]
      refine ⟨fun h0 => absurd (hr.symm.trans h0) (by simp), fun j hj => ?_⟩
      rw [hr, List.mem_singleton] at hj
      subst hj
      refine wpOp_mono (fun a' w' hh => ⟨hh.1, ?_⟩) h
      have hjr : j ∈ Region.ready md ops listed := by rw [hr]; exact List.mem_singleton.2 rfl
      cases hsk : sinkB md ops j with
      | false => exact wpAnyT_of_plan hs hQ hR rest _ _ _ (hcl.set hjr) hok (.inl (hh.1 hsk)) (hh.2.1 (hh.1 hsk))
      | true => exact wpAnyT_of_plan hs hQ hR rest _ _ _ (hcl.set hjr) hok (.inr (ready_of_sink hcl hsk hr)) (hh.2.2 hsk)
    · cases hok

theorem put_of_tmps (hQ0 : ∀ (c : List PanicEntry) (a : Act) (t : Array Value) (w : World), Q (.panic c) { a with tmps := t } w → Q (.panic c) a w) :
    ∀ (c : List PanicEntry) (a : Act) (d : Option Tmp) (v : Value) (w : World), Q (.panic c) (a.put d v) w → Q (.panic c) a w := fun c a d v w h => by
  cases d with
  | none => exact h
  | some d => exact hQ0 c a _ w h

/-- The beginning of a walk along a plan that goes to the region's end. -/
theorem wp_region_plan {id : Nat} {a : Act} {w : World} (plan : List (Nat × Bool)) (S : World → Prop) (hm : P.follows .mixedOrders = true)
    (hok : (Region.noSelect ops && (plan.length == ops.size) && ((planRun .any ops plan (Array.replicate ops.size false)).any fun l => (Region.ready .any ops l).isEmpty)) = true)
    (hQ0 : ∀ (c : List PanicEntry) (a : Act) (t : Array Value) (w : World), Q (.panic c) { a with tmps := t } w → Q (.panic c) a w) (hS : S w.drew)
    (h : S w.drew → planWp P .any ops Q S (Q .normal) plan a w.drew) : (Code.region id ops true).wp P Q a w := by
  simp only [Bool.and_eq_true, beq_iff_eq] at hok
  obtain ⟨⟨hs, hl⟩, hok⟩ := hok
  cases hp : planRun .any ops plan (Array.replicate ops.size false) with
  | none => rw [hp] at hok; cases hok
  | some last =>
    rw [hp] at hok
    have hn : Region.ready .any ops last = [] := by simpa using hok
    refine wp_region_any hm (wpAny_of_T (S := S) _ _ _ _ ?_)
    have := wpAnyT_of_plan (fuel := 0) (P := P) (Q := Q) (S := S) hs (put_of_tmps hQ0) (R := Q .normal) (fun a w h => ⟨hn, h⟩) plan _ a w.drew (closed_none _) hp (.inl hS) (h hS)
    rw [Nat.add_zero, hl] at this
    exact this

/-- The beginning of a walk along a plan that goes to a place where one of several may come up next. -/
theorem wp_region_part {id : Nat} {a : Act} {w : World} (plan : List (Nat × Bool)) (S : World → Prop) (fuel : Nat) (last : Array Bool) (hm : P.follows .mixedOrders = true)
    (hok : (Region.noSelect ops && (plan.length + fuel == ops.size) && (planRun .any ops plan (Array.replicate ops.size false) == some last)) = true)
    (hQ0 : ∀ (c : List PanicEntry) (a : Act) (t : Array Value) (w : World), Q (.panic c) { a with tmps := t } w → Q (.panic c) a w) (hS : S w.drew)
    (h : S w.drew → planWp P .any ops Q S (wpAnyT P .any ops Q S fuel last) plan a w.drew) : (Code.region id ops true).wp P Q a w := by
  simp only [Bool.and_eq_true, beq_iff_eq] at hok
  obtain ⟨⟨hs, hl⟩, hp⟩ := hok
  refine wp_region_any hm (wpAny_of_T (S := S) _ _ _ _ ?_)
  have := wpAnyT_of_plan (P := P) (Q := Q) (S := S) hs (put_of_tmps hQ0) (R := wpAnyT P .any ops Q S fuel last) (fun a w h => h) plan _ a w.drew (closed_none _) hp (.inl hS) (h hS)
  rw [hl] at this
  exact this

/-- On along a plan, to the region's end. -/
theorem anyT_plan {fuel : Nat} {listed : Array Bool} {a : Act} {w : World} (plan : List (Nat × Bool))
    (hok : (closedB md ops listed && Region.noSelect ops && (plan.length == fuel) && ((planRun md ops plan listed).any fun l => (Region.ready md ops l).isEmpty)) = true)
    (hQ0 : ∀ (c : List PanicEntry) (a : Act) (t : Array Value) (w : World), Q (.panic c) { a with tmps := t } w → Q (.panic c) a w) (hS : S w)
    (h : planWp P md ops Q S (Q .normal) plan a w) : wpAnyT P md ops Q S fuel listed a w := by
  simp only [Bool.and_eq_true, beq_iff_eq] at hok
  obtain ⟨⟨⟨hc, hs⟩, hl⟩, hok⟩ := hok
  cases hp : planRun md ops plan listed with
  | none => rw [hp] at hok; cases hok
  | some last =>
    rw [hp] at hok
    have hn : Region.ready md ops last = [] := by simpa using hok
    have := wpAnyT_of_plan (fuel := 0) (P := P) (Q := Q) (S := S) hs (put_of_tmps hQ0) (R := Q .normal) (fun a w h => ⟨hn, h⟩) plan _ a w (closed_of_B hc) hp (.inl hS) h
    rw [Nat.add_zero, hl] at this
    exact this

/-- On along a plan, to the next such place. -/
theorem anyT_part {fuel : Nat} {listed : Array Bool} {a : Act} {w : World} (plan : List (Nat × Bool)) (fuel' : Nat) (last : Array Bool)
    (hok : (closedB md ops listed && Region.noSelect ops && (plan.length + fuel' == fuel) && (planRun md ops plan listed == some last)) = true)
    (hQ0 : ∀ (c : List PanicEntry) (a : Act) (t : Array Value) (w : World), Q (.panic c) { a with tmps := t } w → Q (.panic c) a w) (hS : S w)
    (h : planWp P md ops Q S (wpAnyT P md ops Q S fuel' last) plan a w) : wpAnyT P md ops Q S fuel listed a w := by
  simp only [Bool.and_eq_true, beq_iff_eq] at hok
  obtain ⟨⟨⟨hc, hs⟩, hl⟩, hp⟩ := hok
  have := wpAnyT_of_plan (P := P) (Q := Q) (S := S) hs (put_of_tmps hQ0) (R := wpAnyT P md ops Q S fuel' last) (fun a w h => h) plan _ a w (closed_of_B hc) hp (.inl hS) h
  rw [hl] at this
  exact this

/-- One of two comes up next. -/
theorem anyT_two {i j : Nat} {fuel : Nat} {listed : Array Bool} {a : Act} {w : World} {oi oj : Oper} (hr : Region.ready md ops listed = [i, j]) (hoi : ops[i]? = some oi) (hoj : ops[j]? = some oj)
    (hi : ∀ K' : Act → World → Prop, Shut (∀ a w, S w → (S w → wpAnyT P md ops Q S fuel (listed.setIfInBounds i true) a w) → K' a w) → if Region.wanted oi (yielded ops a.tmps) = true then Oper.wp P oi a w K' Q else K' (a.put oi.dst undef) w)
    (hj : ∀ K' : Act → World → Prop, Shut (∀ a w, S w → (S w → wpAnyT P md ops Q S fuel (listed.setIfInBounds j true) a w) → K' a w) → if Region.wanted oj (yielded ops a.tmps) = true then Oper.wp P oj a w K' Q else K' (a.put oj.dst undef) w) :
    wpAnyT P md ops Q S (fuel + 1) listed a w := by
  refine ⟨fun h0 => absurd (hr.symm.trans h0) (by simp), fun k hk => ?_⟩
  rw [hr] at hk
  rcases List.mem_cons.1 hk with rfl | hk
  · exact wpOp_step hoi fun K' hK => hi K' (fun a w hS hW => hK a w ⟨fun _ => hS, hW hS⟩)
  · obtain rfl := List.mem_singleton.1 hk
    exact wpOp_step hoj fun K' hK => hj K' (fun a w hS hW => hK a w ⟨fun _ => hS, hW hS⟩)

section
variable {R : Act → World → Prop}
theorem plan_nil {a : Act} {w : World} (h : R a w) : planWp P md ops Q S R [] a w := h

theorem plan_light {i : Nat} {rest : List (Nat × Bool)} {a : Act} {w : World} {o : Oper} {v : Value} (ho : ops[i]? = some o) (hw : Region.wanted o (yielded ops a.tmps) = true)
    (hy : ∀ w', S w' → (execOp a.eval o).run P w' = .ok (.value v) w') (h : planWp P md ops Q S R rest (a.put o.dst v) w) : planWp P md ops Q S R ((i, true) :: rest) a w :=
  ⟨o, v, ho, .inl ⟨hw, hy⟩, h⟩

theorem plan_unwanted {i : Nat} {rest : List (Nat × Bool)} {a : Act} {w : World} {o : Oper} (ho : ops[i]? = some o) (hw : Region.wanted o (yielded ops a.tmps) = false)
    (h : planWp P md ops Q S R rest (a.put o.dst undef) w) : planWp P md ops Q S R ((i, true) :: rest) a w :=
  ⟨o, undef, ho, .inr ⟨hw, rfl⟩, h⟩

theorem plan_heavy {i : Nat} {rest : List (Nat × Bool)} {a : Act} {w : World} {o : Oper} (ho : ops[i]? = some o)
    (h : ∀ K' : Act → World → Prop, Shut (∀ a w, S w → (S w → planWp P md ops Q S R rest a w) → K' a w) → if Region.wanted o (yielded ops a.tmps) = true then Oper.wp P o a w K' Q else K' (a.put o.dst undef) w) : planWp P md ops Q S R ((i, false) :: rest) a w :=
  wpOp_step ho fun K' hK => h K' (fun a w hS hW => hK a w ⟨fun _ => hS, hW, fun _ => hW hS⟩)

theorem plan_sink {i : Nat} {rest : List (Nat × Bool)} {a : Act} {w : World} {o : Oper} (ho : ops[i]? = some o) (hs : sinkB md ops i = true)
    (h : ∀ K' : Act → World → Prop, Shut (∀ a w, planWp P md ops Q S R rest a w → K' a w) → if Region.wanted o (yielded ops a.tmps) = true then Oper.wp P o a w K' Q else K' (a.put o.dst undef) w) : planWp P md ops Q S R ((i, false) :: rest) a w :=
  wpOp_step ho fun K' hK => h K' (fun a w hW => hK a w ⟨(by rw [hs]; intro h; cases h), fun _ => hW, fun _ => hW⟩)
end
end
end Go.Proofs.Ytkebpibcoklglaa
