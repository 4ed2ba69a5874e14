/-
  Fills kept behind what turns nothing below a block. A plain lemma.
-/
import Derived.Test.YtgjejgndmioioaaData
namespace Go.Proofs.Ytgjejgndmioioaa
open Go.RowKit
theorem FillsAt.low {w w' : World} {lo hi b : Nat} {sa : Option Addr} {n cap : Nat} {X : Nat → Nat → Int} (h : FillsAt w lo hi sa n cap X) (hb : Below b w w') (h2 : hi ≤ b) : FillsAt w' lo hi sa n cap X :=
  ⟨Nat.le_trans h.top hb.size, h.lenCap, h.capMax, fun h0 => by
    obtain ⟨g, off, e, q1, q2, hc⟩ := h.cells h0
    exact ⟨g, off, e, q1, q2, fun i hi j hj => by rw [World.cell?_of_block (w := w) (hb.block g (by omega))]; exact hc i hi j hj⟩, h.big, h.nil⟩
end Go.Proofs.Ytgjejgndmioioaa
