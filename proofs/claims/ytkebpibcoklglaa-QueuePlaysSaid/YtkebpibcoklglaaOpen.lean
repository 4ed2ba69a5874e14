/-
  What a reading of a struct, an array, or a slice of such, by value, says of its cells: at each place the cell's own value, of the leaf type there. No program's text; plain lemmas over any program.
-/
import Derived.Test.YtkebpibcoklglaaRows
import Derived.WalkKit
import Derived.ProofKit
import Derived.OpenShut
import Derived.Deep.Slices
import Derived.Below
namespace Go.Proofs.Ytkebpibcoklglaa
open Go.ChangeShapes Go.WideShapes Go.RowKit Go.Deep
section
variable {H : Type} {enc : TypeId × Value → H} {P : Program} {w : World} {base : Nat} {spare : Nat → Bool} {held : Bool}

/-- the type of the i-th cell of a value of type t. -/
def leafAt (P : Program) : Nat → TypeId → Nat → Option TypeId
  | 0, _, _ => none
  | m + 1, t, i =>
    match P.underlying t with
    | some (.struct fs) => (fs.toList.find? fun f => decide (f.offset ≤ i) && decide (i < f.offset + P.cellsOf f.type)).bind fun f => leafAt P m f.type (i - f.offset)
    | some (.array n e) => if i < n * P.cellsOf e then leafAt P m e (i % P.cellsOf e) else none
    | _ => if i = 0 then some t else none

theorem getElem?_drop_take (cs : List Value) (o k i : Nat) (c : Value) (h : ((cs.drop o).take k)[i]? = some c) : cs[o + i]? = some c := by
  rw [List.getElem?_take] at h
  split at h
  · rw [List.getElem?_drop] at h; exact h
  · cases h

theorem leaf_one {t : TypeId} {fuel : Nat} {cs : List Value} {x : DataW H × List MemPlace} (h1 : ∀ fs, P.underlying t ≠ some (.struct fs)) (h2 : ∀ n e, P.underlying t ≠ some (.array n e))
    (h : DataW.trod enc P w base spare held fuel t cs = some x) : ∃ c, cs = [c] := by
  cases fuel with
  | zero => simp [DataW.trod] at h
  | succ n =>
    unfold DataW.trod at h
    split at h
    all_goals first
      | exact ⟨_, rfl⟩
      | (rename_i fs hfs; exact absurd hfs (h1 _))
      | (exact absurd ‹_› (h1 _))
      | (exact absurd ‹_› (h2 _ _))
      | (cases h)

theorem leafAt_trod : ∀ (m : Nat) (t : TypeId) (i : Nat) (e : TypeId) (fuel : Nat) (cs : List Value) (x : DataW H × List MemPlace),
    leafAt P m t i = some e → DataW.trod enc P w base spare held fuel t cs = some x → ∃ n c y, cs[i]? = some c ∧ DataW.trod enc P w base spare held n e [c] = some y := by
  intro m
  induction m with
  | zero => intro t i e fuel cs x hl; simp [leafAt] at hl
  | succ m ih =>
    intro t i e fuel cs x hl h
    unfold leafAt at hl
    split at hl
    · rename_i fs hu
      cases hf : (fs.toList.find? fun f => decide (f.offset ≤ i) && decide (i < f.offset + P.cellsOf f.type)) with
      | none => rw [hf] at hl; cases hl
      | some f =>
        rw [hf] at hl
        simp only [Option.bind_some] at hl
        have hp := List.find?_some hf
        have hm := List.mem_of_find?_eq_some hf
        simp only [Bool.and_eq_true, decide_eq_true_eq] at hp
        obtain ⟨xs, n, _, _, _, hxl, hall⟩ := DataW.trod_struct hu h
        obtain ⟨j, hj⟩ := List.getElem?_of_mem hm
        have hj' : fs[j]? = some f := by simpa using hj
        have hjl : j < fs.size := (Array.getElem?_eq_some_iff.1 hj').1
        have h1 := hall j f hj'
        have hx : xs[j]? = some (xs[j]'(by omega)) := List.getElem?_eq_getElem (by omega)
        obtain ⟨n', c, y, hc, hy⟩ := ih f.type (i - f.offset) e n _ _ hl (h1.trans hx)
        have := getElem?_drop_take cs _ _ _ c hc
        rw [show f.offset + (i - f.offset) = i by omega] at this
        exact ⟨n', c, y, this, hy⟩
    · rename_i n e' hu
      split at hl
      · rename_i hlt
        obtain ⟨xs, k, _, _, _, hxl, hall⟩ := DataW.trod_array hu h
        have hpos : 0 < P.cellsOf e' := by
          rcases Nat.eq_zero_or_pos (P.cellsOf e') with h0 | h0
          · rw [h0] at hlt; simp at hlt
          · exact h0
        have hd : i / P.cellsOf e' < n := by
          rw [Nat.div_lt_iff_lt_mul hpos]; exact hlt
        have h1 := hall _ hd
        have hx : xs[i / P.cellsOf e']? = some (xs[i / P.cellsOf e']'(by omega)) := List.getElem?_eq_getElem (by omega)
        obtain ⟨n', c, y, hc, hy⟩ := ih e' (i % P.cellsOf e') e k _ _ hl (h1.trans hx)
        have := getElem?_drop_take cs _ _ _ c hc
        rw [show i / P.cellsOf e' * P.cellsOf e' + i % P.cellsOf e' = i by rw [Nat.mul_comm]; exact Nat.div_add_mod i (P.cellsOf e')] at this
        exact ⟨n', c, y, this, hy⟩
      · cases hl
    · rename_i h1 h2
      split at hl
      · rename_i hi
        subst hi
        obtain rfl : t = e := by simpa using hl
        obtain ⟨c, rfl⟩ := leaf_one (fun fs hf => h1 fs hf) (fun n e hf => h2 n e hf) h
        exact ⟨fuel, c, x, rfl, h⟩
      · cases hl

/-- the i-th cell is an integer of its kind. -/
theorem leaf_int {t : TypeId} {fuel : Nat} {cs : List Value} {x : DataW H × List MemPlace} (h : DataW.trod enc P w base spare held fuel t cs = some x) (m i : Nat) (e : TypeId) (k : IntKind)
    (hl : leafAt P m t i = some e) (he : P.underlying e = some (.int k)) : ∃ n, cs[i]? = some (.int k n) ∧ (Lit.int k n).wf = true := by
  obtain ⟨n', c, y, hc, hy⟩ := leafAt_trod m t i e fuel cs x hl h
  obtain ⟨z, hz, _, hw⟩ := DataW.trod_int he hy
  obtain rfl : c = .int k z := by simpa using hz
  exact ⟨z, hc, hw⟩

theorem leaf_bool {t : TypeId} {fuel : Nat} {cs : List Value} {x : DataW H × List MemPlace} (h : DataW.trod enc P w base spare held fuel t cs = some x) (m i : Nat) (e : TypeId)
    (hl : leafAt P m t i = some e) (he : P.underlying e = some .bool) : ∃ b, cs[i]? = some (.bool b) := by
  obtain ⟨n', c, y, hc, hy⟩ := leafAt_trod m t i e fuel cs x hl h
  cases n' with
  | zero => simp [DataW.trod] at hy
  | succ n =>
    unfold DataW.trod at hy
    rw [he] at hy
    split at hy <;> simp_all

/-- the i-th cell is a slice: nil, or a row that reads as so many elements. -/
theorem leaf_slice {t : TypeId} {fuel : Nat} {cs : List Value} {x : DataW H × List MemPlace} (h : DataW.trod enc P w base spare held fuel t cs = some x) (m i : Nat) (e e' : TypeId)
    (hl : leafAt P m t i = some e) (he : P.underlying e = some (.slice e')) :
    ∃ n y, (cs[i]? = some (.slice none 0 0) ∨ ∃ (a : Addr) (len cap : Nat), cs[i]? = some (.slice (some a) len cap)) ∧ ∃ c, cs[i]? = some c ∧ DataW.trod enc P w base spare held n e [c] = some y := by
  obtain ⟨n', c, y, hc, hy⟩ := leafAt_trod m t i e fuel cs x hl h
  refine ⟨n', y, ?_, c, hc, hy⟩
  rcases open_slice he hy with ⟨h0, _⟩ | ⟨a, len, cap, _, _, _, _, h0, _⟩
  · left; simp at h0; rw [hc, h0]
  · right; simp at h0; exact ⟨a, len, cap, by rw [hc, h0]⟩

theorem toList_of_agg {cs : Array Value} : (Value.agg cs).cells.toList = cs.toList := rfl

/-- an argument that is a struct or an array, by value: so many cells. -/
theorem arg_agg {r : Reach} {b0 : Nat} {t : TypeId} {v : Value} {d : DataW H} {p : List MemPlace} (hs : (∃ fs, P.underlying t = some (.struct fs)) ∨ ∃ n e, P.underlying t = some (.array n e)) {k : Nat} (hC : P.cellsOf t = k)
    (hv : Value.okWide P w r b0 t v) (h : DataW.Trod enc P w base spare held t v d p) :
    ∃ (cs : List Value) (fuel : Nat), v = .agg cs.toArray ∧ cs.length = k ∧ DataW.trod enc P w base spare held fuel t cs = some (d, p) := by
  have hh : ∃ cs, v = .agg cs ∧ cs.size = P.cellsOf t := by
    rcases hs with ⟨fs, hs⟩ | ⟨n, e, hs⟩
    · exact okWide_struct hs hv
    · simp only [Value.okWide, hs] at hv
      obtain ⟨cs, h1, h2, _⟩ := hv
      exact ⟨cs, h1, h2⟩
  obtain ⟨cs, rfl, hsz⟩ := hh
  obtain ⟨fuel, hf⟩ := h
  exact ⟨cs.toList, fuel, by simp, by simpa using hsz.trans hC, hf⟩

/-- a slice whose elements have cells of known leaf types: nil, or a row of them. -/
theorem open_rows {t e : TypeId} {fuel : Nat} {v : Value} {x : DataW H × List MemPlace} (ht : P.underlying t = some (.slice e)) {k : Nat} (hC : P.cellsOf e = k) (h : DataW.trod enc P w base spare held fuel t [v] = some x) :
    v = .slice none 0 0 ∨ ∃ (a : Addr) (len cap : Nat), v = .slice (some a) len cap ∧ len ≤ cap ∧ cap ≤ maxLen ∧ (∃ elems spare', x.1 = .slice elems spare' ∧ elems.length = len) ∧
      ∀ i, i < len → ∃ (cs : List Value) (n : Nat) (y : DataW H × List MemPlace), DataW.trod enc P w base spare held n e cs = some y ∧ cs.length = k ∧ ∀ j c, cs[j]? = some c → w.cell? (a.add (i * k + j)) = some c := by
  rcases open_slice ht h with ⟨h0, _⟩ | ⟨a, len, cap, m, n, D, Pl, h0, _, hl, hm, hmm, hx, hall⟩
  · left; simpa using h0
  · right
    refine ⟨a, len, cap, by simpa using h0, hl, hm, ⟨_, _, by rw [hx], by simp⟩, fun i hi => ?_⟩
    have him : i < m := by rw [hmm]; split <;> omega
    obtain ⟨cs', hc, ht'⟩ := hall i him
    obtain ⟨_, hcl, hat⟩ := World.cells?_some hc
    rw [hC] at hcl hat
    refine ⟨cs', n, _, ht', hcl, fun j c hj => ?_⟩
    have hjl : j < k := by have := (List.getElem?_eq_some_iff.1 hj).1; omega
    have := hat j hjl
    rw [← hj, ← this, Go.Deep.add_add]

/-- the i-th cell, whatever it is, with its own reading. -/
theorem leaf_any {t : TypeId} {fuel : Nat} {cs : List Value} {x : DataW H × List MemPlace} (h : DataW.trod enc P w base spare held fuel t cs = some x) (m i : Nat) (e : TypeId)
    (hl : leafAt P m t i = some e) : ∃ c, cs[i]? = some c ∧ ∃ n y, DataW.trod enc P w base spare held n e [c] = some y := by
  obtain ⟨n', c, y, hc, hy⟩ := leafAt_trod m t i e fuel cs x hl h
  exact ⟨c, hc, n', y, hy⟩

theorem list_of_gets : ∀ (cs l : List Value), cs.length = l.length → (∀ i, i < l.length → cs[i]? = l[i]?) → cs = l := fun cs l hl h => by
  apply List.ext_getElem?
  intro i
  by_cases hi : i < l.length
  · exact h i hi
  · rw [List.getElem?_eq_none (by omega), List.getElem?_eq_none (by omega)]

/-- a slice whose elements are so many integers each: what its cells hold. -/
structure RowsOf (w : World) (sa : Option Addr) (len cap k : Nat) (K : Nat → IntKind) (D : Nat → Nat → Int) : Prop where
  lenCap : len ≤ cap
  capMax : cap ≤ maxLen
  cells : 0 < len → ∃ b off, sa = some ⟨b, off, none⟩ ∧ ∀ i, i < len → ∀ j, j < k → w.cell? ⟨b, off + (i * k + j), none⟩ = some (.int (K j) (D i j))
  wf : ∀ i, i < len → ∀ j, j < k → (Lit.int (K j) (D i j)).wf = true

theorem add_none (b off n : Nat) : (⟨b, off, none⟩ : Addr).add n = ⟨b, off + n, none⟩ := by
  unfold Addr.add
  by_cases h : n = 0
  · subst h; simp
  · simp [h]

theorem rows_ints {t e : TypeId} {fuel : Nat} {v : Value} {x : DataW H × List MemPlace} (ht : P.underlying t = some (.slice e)) {k : Nat} (hC : P.cellsOf e = k) (hk : 0 < k) (h : DataW.trod enc P w base spare held fuel t [v] = some x)
    (K : Nat → IntKind) (hK : ∀ j, j < k → ∃ m e', leafAt P m e j = some e' ∧ P.underlying e' = some (.int (K j))) :
    ∃ (sa : Option Addr) (len cap : Nat) (D : Nat → Nat → Int), v = .slice sa len cap ∧ RowsOf w sa len cap k K D := by
  rcases open_rows ht hC h with rfl | ⟨a, len, cap, rfl, hl, hm, _, hall⟩
  · exact ⟨none, 0, 0, fun _ _ => 0, rfl, Nat.le_refl _, Nat.zero_le _, fun h => absurd h (by omega), fun i hi => absurd hi (by omega)⟩
  · have hx : ∀ i j, ∃ n : Int, i < len → j < k → w.cell? (a.add (i * k + j)) = some (.int (K j) n) ∧ (Lit.int (K j) n).wf = true := by
      intro i j
      by_cases hi : i < len
      · by_cases hj : j < k
        · obtain ⟨cs, n, y, hy, hcl, hat⟩ := hall i hi
          obtain ⟨m, e', hle, hu⟩ := hK j hj
          obtain ⟨z, hz, hw⟩ := leaf_int hy m j e' (K j) hle hu
          exact ⟨z, fun _ _ => ⟨hat j _ hz, hw⟩⟩
        · exact ⟨0, fun _ h => absurd h hj⟩
      · exact ⟨0, fun h => absurd h hi⟩
    refine ⟨some a, len, cap, fun i j => Classical.choose (hx i j), rfl, hl, hm, fun h0 => ?_, fun i hi j hj => (Classical.choose_spec (hx i j) hi hj).2⟩
    obtain ⟨b, off, spot⟩ := a
    have h1 := (Classical.choose_spec (hx 0 0) h0 hk).1
    have hspot : spot = none := by simpa [Addr.add] using World.cell?_spot h1
    subst hspot
    exact ⟨b, off, rfl, fun i hi j hj => (congrArg w.cell? (add_none b off (i * k + j))).symm.trans (Classical.choose_spec (hx i j) hi hj).1⟩
end
end Go.Proofs.Ytkebpibcoklglaa