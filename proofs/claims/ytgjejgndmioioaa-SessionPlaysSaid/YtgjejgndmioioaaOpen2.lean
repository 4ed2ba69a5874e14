/-
  Readings with the form's own reach: what a slice inside a struct, or inside a slice's element, takes is no more than the reach. Plain lemmas over any program.
-/
import Derived.Test.YtgjejgndmioioaaOpen
import Derived.SizedLaws
namespace Go.Proofs.Ytgjejgndmioioaa
open Go.ChangeShapes Go.WideShapes Go.RowKit Go.Deep
set_option linter.unusedVariables false
section
variable {H : Type} {enc : TypeId × Value → H} {P : Program} {w : World} {base : Nat} {spare : Nat → Bool} {held : Bool}
/-- no slice or string of the reading takes more than the reach. -/
def Small (P : Program) (t : TypeId) (x : DataW H) : Prop := ∀ k ∈ x.weights P t, k ≤ reachBytes
theorem small_arg {ts : List TypeId} {ds : List (DataW H)} (h : (DataW.weightsEach P ts ds).all (· ≤ reachBytes) = true) (j : Nat) {t : TypeId} {d : DataW H} (ht : ts[j]? = some t) (hd : ds[j]? = some d) : Small P t d := fun k hk => by
  have := List.all_eq_true.1 h _ (DataW.weights_mem_each ht hd k hk)
  simpa using this
theorem all_mem {e : TypeId} : ∀ {l : List (DataW H)} {d : DataW H}, d ∈ l → ∀ n ∈ d.weights P e, n ∈ DataW.weightsAll P e l
  | d' :: r, d, hd, n, hn => by
    simp only [DataW.weightsAll, List.mem_append]
    rcases List.mem_cons.1 hd with rfl | h
    · exact Or.inl hn
    · exact Or.inr (all_mem h n hn)
theorem small_leaf : ∀ (m : Nat) (t : TypeId) (i : Nat) (e : TypeId) (fuel : Nat) (cs : List Value) (x : DataW H × List MemPlace),
    leafAt P m t i = some e → DataW.trod enc P w base spare held fuel t cs = some x → Small P t x.1 → ∃ n c y, cs[i]? = some c ∧ DataW.trod enc P w base spare held n e [c] = some y ∧ Small P e y.1 := by
  intro m
  induction m with
  | zero => intro t i e fuel cs x hl; simp [leafAt] at hl
  | succ m ih =>
    intro t i e fuel cs x hl h hx
    unfold leafAt at hl
    split at hl
    · rename_i fs hu
      cases hf : (fs.toList.find? fun f => decide (f.offset ≤ i) && decide (i < f.offset + P.cellsOf f.type)) with
      | none => rw [hf] at hl; cases hl
      | some f =>
        rw [hf] at hl
        simp only [Option.bind_some] at hl
        have hp := List.find?_some hf
        have hm := List.mem_of_find?_eq_some hf
        simp only [Bool.and_eq_true, decide_eq_true_eq] at hp
        obtain ⟨xs, n, _, hxx, _, hxl, hall⟩ := DataW.trod_struct hu h
        obtain ⟨j, hj⟩ := List.getElem?_of_mem hm
        have hj' : fs[j]? = some f := by simpa using hj
        have hjl : j < fs.size := (Array.getElem?_eq_some_iff.1 hj').1
        have h1 := hall j f hj'
        have hx' : xs[j]? = some (xs[j]'(by omega)) := List.getElem?_eq_getElem (by omega)
        obtain ⟨n', c, y, hc, hy, hs⟩ := ih f.type (i - f.offset) e n _ _ hl (h1.trans hx') (fun k hk => hx k (by
          rw [hxx]
          simp only [DataW.weights, hu]
          exact DataW.weights_mem_each (j := j) (t := f.type) (d := (xs[j]'(by omega)).1) (by rw [List.getElem?_map, hj]; rfl) (by rw [List.getElem?_map, hx']; rfl) k hk))
        have := getElem?_drop_take cs _ _ _ c hc
        rw [show f.offset + (i - f.offset) = i by omega] at this
        exact ⟨n', c, y, this, hy, hs⟩
    · rename_i n e' hu
      split at hl
      · rename_i hlt
        obtain ⟨xs, k, _, hxx, _, hxl, hall⟩ := DataW.trod_array hu h
        have hpos : 0 < P.cellsOf e' := by
          rcases Nat.eq_zero_or_pos (P.cellsOf e') with h0 | h0
          · rw [h0] at hlt; simp at hlt
          · exact h0
        have hd : i / P.cellsOf e' < n := by
          rw [Nat.div_lt_iff_lt_mul hpos]; exact hlt
        have h1 := hall _ hd
        have hx' : xs[i / P.cellsOf e']? = some (xs[i / P.cellsOf e']'(by omega)) := List.getElem?_eq_getElem (by omega)
        obtain ⟨n', c, y, hc, hy, hs⟩ := ih e' (i % P.cellsOf e') e k _ _ hl (h1.trans hx') (fun k hk => hx k (by
          rw [hxx]
          simp only [DataW.weights, hu]
          exact all_mem (List.mem_map.2 ⟨_, List.mem_of_getElem? hx', rfl⟩) k hk))
        have := getElem?_drop_take cs _ _ _ c hc
        rw [show i / P.cellsOf e' * P.cellsOf e' + i % P.cellsOf e' = i by rw [Nat.mul_comm]; exact Nat.div_add_mod i (P.cellsOf e')] at this
        exact ⟨n', c, y, this, hy, hs⟩
      · cases hl
    · rename_i h1 h2
      split at hl
      · rename_i hi
        subst hi
        obtain rfl : t = e := by simpa using hl
        obtain ⟨c, rfl⟩ := leaf_one (fun fs hf => h1 fs hf) (fun n e hf => h2 n e hf) h
        exact ⟨fuel, c, x, rfl, h, hx⟩
      · cases hl
/-- the i-th cell, whatever it is, with its own reading. -/
theorem leaf_any_small {t : TypeId} {fuel : Nat} {cs : List Value} {x : DataW H × List MemPlace} (h : DataW.trod enc P w base spare held fuel t cs = some x) (hx : Small P t x.1) (m i : Nat) (e : TypeId)
    (hl : leafAt P m t i = some e) : ∃ c, cs[i]? = some c ∧ ∃ n y, DataW.trod enc P w base spare held n e [c] = some y ∧ Small P e y.1 := by
  obtain ⟨n', c, y, hc, hy, hs⟩ := small_leaf m t i e fuel cs x hl h hx
  exact ⟨c, hc, n', y, hy, hs⟩
/-- so many elements take no more than the reach. -/
theorem slice_small {t e : TypeId} {fuel : Nat} {sa : Option Addr} {len cap : Nat} {x : DataW H × List MemPlace} (ht : P.underlying t = some (.slice e)) (h : DataW.trod enc P w base spare held fuel t [.slice sa len cap] = some x) (hx : Small P t x.1) :
    len * P.bytesOf e ≤ reachBytes := by
  rcases open_slice ht h with ⟨h0, _⟩ | ⟨a, len', cap', m, n, D, Pl, h0, _, hl, hm, hmm, hxx, hall⟩
  · simp at h0
    rw [h0.2.1]
    simp
  · simp at h0
    obtain ⟨_, rfl, _⟩ := h0
    have := hx ((len + (m - len)) * P.bytesOf e) (by rw [hxx]; simp [DataW.weights, ht])
    exact Nat.le_trans (Nat.mul_le_mul_right _ (by omega)) this
theorem slice_nil {t e : TypeId} {fuel : Nat} {len cap : Nat} {x : DataW H × List MemPlace} (ht : P.underlying t = some (.slice e)) (h : DataW.trod enc P w base spare held fuel t [.slice none len cap] = some x) : len = 0 ∧ cap = 0 := by
  rcases open_slice ht h with ⟨h0, _⟩ | ⟨a, len', cap', m, n, D, Pl, h0, _⟩
  · simpa using h0
  · simp at h0
theorem open_rows_small {t e : TypeId} {fuel : Nat} {v : Value} {x : DataW H × List MemPlace} (ht : P.underlying t = some (.slice e)) {k : Nat} (hC : P.cellsOf e = k) (h : DataW.trod enc P w base spare held fuel t [v] = some x) (hx : Small P t x.1) :
    v = .slice none 0 0 ∨ ∃ (a : Addr) (len cap : Nat), v = .slice (some a) len cap ∧ len ≤ cap ∧ cap ≤ maxLen ∧
      ∀ i, i < len → ∃ (cs : List Value) (n : Nat) (y : DataW H × List MemPlace), DataW.trod enc P w base spare held n e cs = some y ∧ Small P e y.1 ∧ cs.length = k ∧ ∀ j c, cs[j]? = some c → w.cell? (a.add (i * k + j)) = some c := by
  rcases open_slice ht h with ⟨h0, _⟩ | ⟨a, len, cap, m, n, D, Pl, h0, _, hl, hm, hmm, hxx, hall⟩
  · left; simpa using h0
  · right
    refine ⟨a, len, cap, by simpa using h0, hl, hm, fun i hi => ?_⟩
    have him : i < m := by rw [hmm]; split <;> omega
    obtain ⟨cs', hc, ht'⟩ := hall i him
    obtain ⟨_, hcl, hat⟩ := World.cells?_some hc
    rw [hC] at hcl hat
    refine ⟨cs', n, _, ht', fun k hk => hx k ?_, hcl, fun j c hj => ?_⟩
    · rw [hxx]
      simp only [DataW.weights, ht]
      exact List.mem_cons_of_mem _ (List.mem_append_left _ (all_mem (List.mem_map.2 ⟨i, List.mem_range.2 hi, rfl⟩) k hk))
    · have hjl : j < k := by have := (List.getElem?_eq_some_iff.1 hj).1; omega
      have := hat j hjl
      rw [← hj, ← this, Go.Deep.add_add]
end
end Go.Proofs.Ytgjejgndmioioaa
