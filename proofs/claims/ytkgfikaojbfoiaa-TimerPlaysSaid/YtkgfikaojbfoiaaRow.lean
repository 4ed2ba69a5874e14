/-
  A slice of integers that a call has made: its value opened, its cells read, kept behind calls. Plain lemmas.
-/
import Derived.Test.YtkgfikaojbfoiaaBlk
namespace Go.Proofs.Ytkgfikaojbfoiaa
open Go.RowKit
/-- v is a slice of the integers xs in memory from block base on. -/
structure IntRow (w : World) (base : Nat) (sa : Option Addr) (cap : Nat) (xs : List Int) : Prop where
  len : xs.length ≤ maxLen
  cells : 0 < xs.length → ∃ g, sa = some ⟨g, 0, none⟩ ∧ base ≤ g ∧ g < w.heap.size ∧ ∀ i, i < xs.length → w.cell? ⟨g, i, none⟩ = some (.int .i64 (xs.getD i 0))
theorem own_open {w : World} {base : Nat} {e : TypeId} {v : Value} {xs : List Int} (h : w.ownsRow base e 1 v xs.length (xs.map (Value.int .i64))) :
    ∃ sa cap, v = .slice sa xs.length cap ∧ IntRow w base sa cap xs := by
  rcases h.2 with ⟨rfl, hn⟩ | ⟨g, cap, cur, rfl, hg, hb, hle, hm, hs, ht⟩
  · refine ⟨none, 0, by rw [hn], ?_, fun h => by omega⟩
    rw [hn]; exact Nat.zero_le _
  · refine ⟨some ⟨g, 0, none⟩, cap, rfl, Nat.le_trans hle hm, fun _ => ⟨g, rfl, hg, (Array.getElem?_eq_some_iff.1 hb).1, fun i hi => ?_⟩⟩
    have hc := h.cells (g := g) rfl i (.int .i64 (xs.getD i 0)) (by rw [List.getElem?_map, List.getElem?_eq_getElem hi, List.getD_eq_getElem?_getD, List.getElem?_eq_getElem hi]; rfl)
    have hadd : (⟨g, 0, none⟩ : Addr).add i = ⟨g, i, none⟩ := by unfold Addr.add; split <;> simp_all
    rw [hadd] at hc
    exact hc
theorem IntRow.of_heap {w w' : World} {base cap : Nat} {sa : Option Addr} {xs : List Int} (h : IntRow w base sa cap xs) (hs : w.heap.size ≤ w'.heap.size) (hb : ∀ g, base ≤ g → g < w.heap.size → w'.heap[g]? = w.heap[g]?) : IntRow w' base sa cap xs :=
  ⟨h.len, fun h0 => by
    obtain ⟨g, e, hg, hl, hc⟩ := h.cells h0
    exact ⟨g, e, hg, Nat.lt_of_lt_of_le hl hs, fun i hi => by rw [World.cell?_of_block (w := w) (hb g hg hl)]; exact hc i hi⟩⟩
theorem IntRow.call {w w' : World} {base cap : Nat} {sa : Option Addr} {xs : List Int} (h : IntRow w base sa cap xs) (hb : Below w.heap.size w w') : IntRow w' base sa cap xs := h.of_heap hb.size (fun g _ hl => hb.block g hl)
theorem IntRow.grown {w w' : World} {base cap : Nat} {sa : Option Addr} {xs : List Int} {row : Option Nat} (h : IntRow w base sa cap xs) (hg : w.grownBy w' row) (hr : ∀ k, row = some k → k < base) : IntRow w' base sa cap xs :=
  h.of_heap hg.size (fun g hb hl => hg.block g hl (fun e => by have := hr g e.symm; omega))
theorem IntRow.alloc {w : World} {base cap : Nat} {sa : Option Addr} {xs : List Int} (h : IntRow w base sa cap xs) (o : Obj) : IntRow (w.alloc o) base sa cap xs := h.of_heap (by simp) (fun g _ hl => Below.heap_alloc w o g hl)
theorem IntRow.drew {w : World} {base cap : Nat} {sa : Option Addr} {xs : List Int} (h : IntRow w base sa cap xs) : IntRow w.drew base sa cap xs := h.of_heap (Nat.le_refl _) (fun _ _ _ => rfl)
theorem IntRow.drewN {w : World} {base cap : Nat} {sa : Option Addr} {xs : List Int} (h : IntRow w base sa cap xs) (n : Nat) : IntRow (w.drewN n) base sa cap xs := h.of_heap (Nat.le_refl _) (fun _ _ _ => rfl)
end Go.Proofs.Ytkgfikaojbfoiaa
