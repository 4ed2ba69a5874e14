/-
  A block of the call's own, whole: what its cells hold, and that none is frozen; kept behind new blocks, draws, stores elsewhere, and calls that turn nothing below a block number. Plain lemmas.
-/
import Derived.Test.YtkebpibcoklglaaRows
import Derived.WalkKit
import Derived.WalkSmall
import Derived.Below
namespace Go.Proofs.Ytkebpibcoklglaa
open Go.RowKit

/-- block b holds cs, and none of its cells is frozen. -/
structure Blk (w : World) (b : Nat) (cs : Array Value) : Prop where
  lt : b < w.heap.size
  cell : ∀ i, w.cell? ⟨b, i, none⟩ = cs[i]?
  free : ∀ i, w.frozen? ⟨b, i, none⟩ = false

theorem Blk.new (w : World) (cs : Array Value) (t : TypeId) : Blk (w.alloc (.cells cs t)) w.heap.size cs :=
  ⟨by simp, fun i => by simp, fun i => by go_simp⟩
theorem Blk.new' {w : World} {n : Nat} (h : n = w.heap.size) (cs : Array Value) (t : TypeId) : Blk (w.alloc (.cells cs t)) n cs := by subst h; exact Blk.new w cs t
theorem Blk.alloc {w : World} {b : Nat} {cs : Array Value} (h : Blk w b cs) (o : Obj) : Blk (w.alloc o) b cs :=
  ⟨by have := h.lt; simp; omega, fun i => by rw [World.cell?_alloc_lt _ _ _ h.lt]; exact h.cell i,
   fun i => by rw [World.frozen?_of_block (w := w) (Below.heap_alloc w o b h.lt)]; exact h.free i⟩
theorem Blk.drew {w : World} {b : Nat} {cs : Array Value} (h : Blk w b cs) : Blk w.drew b cs := ⟨h.lt, h.cell, h.free⟩
theorem Blk.drewN {w : World} {b : Nat} {cs : Array Value} (h : Blk w b cs) (n : Nat) : Blk (w.drewN n) b cs := ⟨h.lt, h.cell, h.free⟩
theorem Blk.below {w w' : World} {b B : Nat} {cs : Array Value} (h : Blk w b cs) (hb : Below B w w') (hB : b < B) : Blk w' b cs :=
  ⟨Nat.lt_of_lt_of_le h.lt hb.size, fun i => by rw [hb.cell hB]; exact h.cell i, fun i => by rw [hb.frozen hB]; exact h.free i⟩
theorem Blk.call {w w' : World} {b : Nat} {cs : Array Value} (h : Blk w b cs) (hb : Below w.heap.size w w') : Blk w' b cs := h.below hb h.lt
theorem Blk.set_other {w : World} {b : Nat} {cs : Array Value} (h : Blk w b cs) (a : Addr) (v : Value) (hne : a.block ≠ b) : Blk (w.setCell a v) b cs :=
  ⟨by have := h.lt; simp [World.setCell]; exact this, fun i => by rw [World.cell?_of_block (w := w) (Below.heap_setCell w a v b (Ne.symm hne))]; exact h.cell i,
   fun i => by rw [World.frozen?_of_block (w := w) (Below.heap_setCell w a v b (Ne.symm hne))]; exact h.free i⟩
theorem Blk.set {w : World} {b : Nat} {cs : Array Value} (h : Blk w b cs) (j : Nat) (v : Value) : Blk (w.setCell ⟨b, j, none⟩ v) b (cs.setIfInBounds j v) := by
  have hl := h.lt
  have hb : w.heap[b]? = some (w.heap[b]) := by simp [hl]
  cases ho : w.heap[b] with
  | cells c t fr =>
    have hc : c = cs := by
      apply Array.ext_getElem?
      intro i
      have := h.cell i
      simp only [World.cell?, hb, ho] at this
      simpa using this
    subst hc
    have hb' : (w.setCell ⟨b, j, none⟩ v).heap[b]? = some (.cells (c.setIfInBounds j v) t fr) := by
      simp [World.setCell, Array.getElem?_modify, hb, ho]
    refine ⟨by simp [World.setCell]; exact hl, fun i => by simp [World.cell?, hb'], fun i => ?_⟩
    have := h.free i
    simp only [World.frozen?, hb, ho] at this
    simp only [World.frozen?, hb']
    exact this
  | _ =>
    all_goals
      have hz : cs = #[] := by
        apply Array.ext_getElem?
        intro i
        have := h.cell i
        simp only [World.cell?, hb, ho] at this
        simpa using this.symm
      subst hz
      have hb' : (w.setCell ⟨b, j, none⟩ v).heap[b]? = w.heap[b]? := by
        simp [World.setCell, Array.getElem?_modify, hb, ho]
      exact ⟨by simp [World.setCell]; exact hl, fun i => by rw [World.cell?_of_block (w := w) hb']; simpa using h.cell i, fun i => by rw [World.frozen?_of_block (w := w) hb']; exact h.free i⟩

/-- a block that came in (an argument's): its cells, read only. -/
theorem cell_call {w w' : World} {a : Addr} {v : Value} (h : w.cell? a = some v) (hb : Below w.heap.size w w') : w'.cell? a = some v := by
  rw [hb.cell (World.block_lt_of_cell? w a h)]; exact h

/-! what was there when the call began is as it was -/
theorem bel_refl (w : World) : Below w.heap.size w w := Below.refl _ _
theorem bel_alloc {w w1 : World} (h : Below w.heap.size w w1) (o : Obj) : Below w.heap.size w (w1.alloc o) := h.alloc h.size o
theorem bel_drew {w w1 : World} (h : Below w.heap.size w w1) : Below w.heap.size w w1.drew := h.drew
theorem bel_drewN {w w1 : World} (h : Below w.heap.size w w1) (n : Nat) : Below w.heap.size w (w1.drewN n) := below_drewN h n
theorem bel_call {w w1 w2 : World} (hb : Below w1.heap.size w1 w2) (h : Below w.heap.size w w1) : Below w.heap.size w w2 := h.trans (hb.mono h.size)
theorem bel_set {w w1 : World} {a : Addr} (h : Below w.heap.size w w1) (ha : w.heap.size ≤ a.block) (v : Value) : Below w.heap.size w (w1.setCell a v) := h.setCell ha v

/-! calls that turn one block of the call's own at most ('grownBy', Laws/AppendOwn) -/
theorem Blk.grown {w w' : World} {b : Nat} {cs : Array Value} {row : Option Nat} (h : Blk w b cs) (hg : w.grownBy w' row) (hne : some b ≠ row) : Blk w' b cs := by
  have hb := hg.block b h.lt hne
  exact ⟨Nat.lt_of_lt_of_le h.lt hg.size, fun i => by rw [World.cell?_of_block (w := w) hb]; exact h.cell i, fun i => by rw [World.frozen?_of_block (w := w) hb]; exact h.free i⟩
theorem bel_grown {w w1 w2 : World} {row : Option Nat} (hg : w1.grownBy w2 row) (h : Below w.heap.size w w1) (hr : ∀ k, row = some k → w.heap.size ≤ k) : Below w.heap.size w w2 := h.grown hg h.size hr
theorem gr_refl (w : World) (row : Option Nat) : w.grownBy w row := ⟨rfl, rfl, rfl, Nat.le_refl _, fun _ _ _ => rfl⟩
theorem gr_below {w w' : World} (h : Below w.heap.size w w') (row : Option Nat) : w.grownBy w' row := ⟨h.os, h.tape, h.output, h.size, fun k hk _ => h.block k hk⟩
theorem gr_trans {w w1 w2 : World} {row : Option Nat} (h1 : w.grownBy w1 row) (h2 : w1.grownBy w2 row) : w.grownBy w2 row :=
  ⟨h2.os.trans h1.os, h2.tape.trans h1.tape, h2.output.trans h1.output, Nat.le_trans h1.size h2.size, fun k hk hne => (h2.block k (Nat.lt_of_lt_of_le hk h1.size) hne).trans (h1.block k hk hne)⟩
/-- behind a call that turned nothing that was there. -/
theorem gr_call {w w1 w2 : World} {row : Option Nat} (h2 : Below w1.heap.size w1 w2) (h1 : w.grownBy w1 row) : w.grownBy w2 row := gr_trans h1 (gr_below h2 row)
/-- behind a call that may have turned a block that is new here. -/
theorem gr_new {w w1 w2 : World} {row row2 : Option Nat} (h2 : w1.grownBy w2 row2) (h1 : w.grownBy w1 row) (hn : ∀ k, row2 = some k → w.heap.size ≤ k) : w.grownBy w2 row :=
  ⟨h2.os.trans h1.os, h2.tape.trans h1.tape, h2.output.trans h1.output, Nat.le_trans h1.size h2.size, fun k hk hne => (h2.block k (Nat.lt_of_lt_of_le hk h1.size) (fun e => by have := hn k e.symm; omega)).trans (h1.block k hk hne)⟩
theorem gr_alloc {w w1 : World} {row : Option Nat} (h : w.grownBy w1 row) (o : Obj) : w.grownBy (w1.alloc o) row := gr_trans h (World.grownBy_alloc _ _ _)
theorem gr_drew {w w1 : World} {row : Option Nat} (h : w.grownBy w1 row) : w.grownBy w1.drew row := ⟨h.os, h.tape, h.output, h.size, h.block⟩
theorem gr_drewN {w w1 : World} {row : Option Nat} (h : w.grownBy w1 row) (n : Nat) : w.grownBy (w1.drewN n) row := ⟨h.os, h.tape, h.output, h.size, h.block⟩
theorem gr_set {w w1 : World} {b : Nat} (h : w.grownBy w1 (some b)) (a : Addr) (v : Value) (ha : a.block = b ∨ w.heap.size ≤ a.block) : w.grownBy (w1.setCell a v) (some b) :=
  ⟨h.os, h.tape, h.output, by have := h.size; simp [World.setCell]; exact this, fun k hk hne => by
    rw [Below.heap_setCell w1 a v k (fun e => by rcases ha with ha | ha; exact hne (by rw [e, ha]); omega)]
    exact h.block k hk hne⟩
theorem gr_none {w w' : World} (h : w.grownBy w' none) : Below w.heap.size w w' := ⟨h.os, h.tape, h.output, h.size, fun k hk => h.block k hk (by simp)⟩
end Go.Proofs.Ytkebpibcoklglaa