/-
  Whole structs in a block of the call's own: loaded and stored at once, as one value; results that lie in a cell. Plain lemmas.
-/
import Derived.Test.YtkebpibcoklglaaBlk
import Derived.WalkKit
import Derived.Deep.MidRow
namespace Go.Proofs.Ytkebpibcoklglaa
open Go.RowKit
set_option linter.unusedVariables false
section
variable {P : Program}
theorem blk_load {w : World} {b : Nat} {cs : Array Value} (h : Blk w b cs) (t : TypeId) (d : TypeDesc) (hu : P.underlying t = some d) (hd : d.isRow = true) (hi : (P.info? t).map (·.size) = some cs.size) : (loadVar t ⟨b, 0, none⟩).run P w = .ok (.agg cs) w := by
  have := run_loadVar_mid (P := P) w b 0 t cs.toList d (fun j v hv => by rw [Nat.zero_add, h.cell j]; simpa using hv) hu hd (by simpa using hi)
  simpa using this
theorem setCells_size : ∀ (vs : List Value) (b o : Nat) (w : World), (w.setCells b o vs).heap.size = w.heap.size
  | [], _, _, _ => rfl
  | v :: r, b, o, _ => by simp only [World.setCells]; rw [setCells_size r]; simp [World.setCell]
theorem setCells_gr : ∀ (vs : List Value) (b o : Nat) (w : World), w.grownBy (w.setCells b o vs) (some b)
  | [], _, _, _ => gr_refl _ _
  | v :: r, b, _, w => gr_trans (gr_set (gr_refl w (some b)) _ v (.inl rfl)) (setCells_gr r _ _ _)
theorem setCells_blk {w : World} {b : Nat} {cs cs' : Array Value} (h : Blk w b cs) (hs : cs'.size = cs.size) : Blk (w.setCells b 0 cs'.toList) b cs' := by
  have ht : ∀ j, j < cs'.toList.length → (w.cell? ⟨b, 0 + j, none⟩).isSome = true := fun j hj => by
    rw [Array.length_toList, hs] at hj
    rw [Nat.zero_add, h.cell j, Array.getElem?_eq_getElem hj]; rfl
  refine ⟨by rw [setCells_size]; exact h.lt, fun i => ?_, fun i => by rw [World.frozen?_setCells]; exact h.free i⟩
  by_cases hi : i < cs'.size
  · have := World.cell?_setCells_in b cs'.toList 0 w ht i (by rw [Array.length_toList]; exact hi)
    rw [Nat.zero_add] at this
    rw [this, ← Array.getElem?_toList, List.getElem?_eq_getElem]
  · rw [World.cell?_setCells_out b _ 0 w ⟨b, i, none⟩ (fun _ _ => .inr (by rw [Array.length_toList]; show 0 + cs'.size ≤ i; omega)), h.cell i, Array.getElem?_eq_none (by omega), Array.getElem?_eq_none (by omega)]
/-- the load of a whole struct. -/
theorem wpList_bload {ops : Array Oper} {rest : List Oper} {op : Oper} {a : Act} {w : World} {Q : Exit → Act → World → Prop} (hgd : op.guard = none) (t : TypeId) (x : Operand) (ho : op.op = .load t x)
    (b : Nat) (hx : a.eval x = .pointer (some ⟨b, 0, none⟩)) (cs : Array Value) (d : TypeDesc) (h : Blk w b cs) (hu : P.underlying t = some d) (hd : d.isRow = true) (hi : (P.info? t).map (·.size) = some cs.size)
    (k : wpList P ops Q rest (a.put op.dst (.agg cs)) w) : wpList P ops Q (op :: rest) a w :=
  wpList_load_mid hgd t x ho b 0 hx cs.toList d (fun j v hv => by rw [Nat.zero_add, h.cell j]; simpa using hv) hu hd (by simpa using hi) (by simpa using k)
/-- the store of a whole struct: the new world is a variable. -/
theorem wpList_bstore {ops : Array Oper} {rest : List Oper} {op : Oper} {a : Act} {w : World} {Q : Exit → Act → World → Prop} (hgd : op.guard = none) (t : TypeId) (x y : Operand) (ho : op.op = .store t x y)
    (b : Nat) (cs' : Array Value) (hx : a.eval x = .pointer (some ⟨b, 0, none⟩)) (hy : a.eval y = .agg cs') (cs : Array Value) (h : Blk w b cs) (hs : cs'.size = cs.size) (hi : (P.info? t).map (·.size) = some cs'.size) (h1 : cs'.all (·.oneCell') = true)
    (k : ∀ w', Blk w' b cs' → w.grownBy w' (some b) → wpList P ops Q rest (a.put op.dst undef) w') : wpList P ops Q (op :: rest) a w :=
  wpList_store_mid hgd t x y ho b 0 cs' hx hy (fun j hj => by
    rw [hs] at hj
    rw [Nat.zero_add, h.cell j, h.free j, Array.getElem?_eq_getElem hj]
    exact ⟨rfl, rfl⟩) hi h1 (k _ (setCells_blk h hs) (setCells_gr _ _ _ _))
/-- a load of a whole struct in a region that draws. -/
theorem exec_bload {a : Act} {w : World} {o : Oper} (t : TypeId) (x : Operand) (ho : o.op = .load t x) (b : Nat) (hx : a.eval x = .pointer (some ⟨b, 0, none⟩)) (cs : Array Value) (d : TypeDesc) (h : Blk w b cs) (hu : P.underlying t = some d) (hd : d.isRow = true) (hi : (P.info? t).map (·.size) = some cs.size) :
    (execOp a.eval o).run P w = .ok (.value (.agg cs)) w := by
  have l := blk_load (P := P) h t d hu hd hi
  unfold execOp
  simp only [ho, hx, Instr.loadAt, Instr.sureAddr, Sem.run_bind, Sem.run_pure, Result.andThen_ok, l]
theorem results_cell {fn : Func} {s : Tmp} {t : TypeId} (h : fn.results = #[.cell s t]) (tmps : Array Value) (w : World) (p : Addr) (v : Value) (ha : tmps.getD s undef = .pointer (some p)) (hl : (loadVar t p).run P w = .ok v w) :
    (results fn tmps).run P w = .ok v w := by
  have ha' : tmps[s]?.getD undef = .pointer (some p) := by simpa using ha
  simp [results, h, ha', hl, asAddr]
theorem results_cell_and_tmp {fn : Func} {s u : Tmp} {t : TypeId} (h : fn.results = #[.cell s t, .tmp u]) (tmps : Array Value) (w : World) (p : Addr) (v : Value) (ha : tmps.getD s undef = .pointer (some p)) (hl : (loadVar t p).run P w = .ok v w) :
    (results fn tmps).run P w = .ok (.tuple #[v, tmps.getD u undef]) w := by
  have ha' : tmps[s]?.getD undef = .pointer (some p) := by simpa using ha
  simp [results, h, ha', hl, asAddr]
end
end Go.Proofs.Ytkebpibcoklglaa
