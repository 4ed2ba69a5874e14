/-
  What the row's listed variable gives the walks: the cells of fees.tiers.
-/
import Derived.Test.YtaddhfehjapoiaaDoorBlk
import Derived.Test.YtaddhfehjapoiaaDoorOpen
import Derived.ProofKit
import Derived.LaidMore
import Derived.OpenShut
import Derived.Stop.Joined
namespace Go.Proofs.YtaddhfehjapoiaaDoor
open Go.ChangeShapes Go.WideShapes Go.ChangeAt Go.RowKit
set_option linter.unusedSimpArgs false
set_option linter.unusedVariables false
def tierAt : Nat → Int := fun i => ([0, 10, 20, 1000000, 8, 18, 100000000, 5, 15, 10000000000, 0, 10] : List Int).getD i 0
/-- the variable's cells hold the tiers. -/
def TiersAt (w : World) : Prop := ∀ i, i < 12 → w.cell? ⟨0, i, none⟩ = some (.int .i64 (tierAt i))
theorem TiersAt.bel {w w' : World} (h : TiersAt w) (hb : Below w.heap.size w w') : TiersAt w' := fun i hi => cell_call (h i hi) hb
theorem gTiers : Tryd.prog.globalNamed "agio/fees.tiers" = some 0 := by kernel_rfl
theorem tTiers : (Tryd.prog.globals[0]?).map (·.type) = some 39 := by kernel_rfl
theorem row_open {H : Type} {enc : TypeId × Value → H} {w : World} {base : Nat} {spare : Nat → Bool} {held : Bool} {fuel : Nat} {cs : List Value} {x : DataW H × List MemPlace} {a b c : Int}
    (h : DataW.trod enc Tryd.prog w base spare held fuel 38 cs = some x) (hx : x.1 = .agg [.lit (.int .i64 a), .lit (.int .i64 b), .lit (.int .i64 c)]) : cs = [.int .i64 a, .int .i64 b, .int .i64 c] := by
  obtain ⟨xs, n, _, rfl, hl, hlen, hf⟩ := DataW.trod_struct Tryd.underlying38 h
  have c38 : Tryd.prog.cellsOf 38 = 3 := by kernel_rfl
  have c2 : Tryd.prog.cellsOf 2 = 1 := by kernel_rfl
  have c3 : Tryd.prog.cellsOf 3 = 1 := by kernel_rfl
  rw [c38] at hl
  have f0 := hf 0 _ rfl
  have f1 := hf 1 _ rfl
  have f2 := hf 2 _ rfl
  match cs, hl with
  | [v0, v1, v2], _ =>
    match xs, hlen with
    | [y0, y1, y2], _ =>
      simp [c2, c3] at f0 f1 f2
      simp at hx
      obtain ⟨k0, e0, g0, _⟩ := DataW.trod_int Tryd.underlying2 f0
      obtain ⟨k1, e1, g1, _⟩ := DataW.trod_int Tryd.underlying3 f1
      obtain ⟨k2, e2, g2, _⟩ := DataW.trod_int Tryd.underlying3 f2
      rw [g0, g1, g2] at hx
      simp at e0 e1 e2 hx
      obtain ⟨rfl, rfl, rfl⟩ := hx
      rw [e0, e1, e2]
theorem of_laid {W : World} (h : laidMetH Tryd.prog [("agio/fees.tiers", Rows.laid_agio_fees_tiers)] W) : TiersAt W := by
  rw [MakeChecks.laidMetH_plain _ _ _ (by kernel_rfl)] at h
  obtain ⟨ps, ⟨g0, t0, cs0, f0, p0, q0, hg0, ht0, hv0, hd0, _, _⟩, _, _⟩ := h
  obtain rfl := Option.some.inj (gTiers.symm.trans hg0)
  obtain rfl := Option.some.inj (tTiers.symm.trans ht0)
  obtain ⟨xs, m1, rfl, hx1, hlen, hn4, hel⟩ := DataW.trod_array Tryd.underlying39 hd0
  have c38 : Tryd.prog.cellsOf 38 = 3 := by kernel_rfl
  have c39 : Tryd.prog.cellsOf 39 = 12 := by kernel_rfl
  rw [c38] at hel
  rw [c39] at hlen
  have e0 := hel 0 (by decide)
  have e1 := hel 1 (by decide)
  have e2 := hel 2 (by decide)
  have e3 := hel 3 (by decide)
  simp only [Rows.laid_agio_fees_tiers, Prod.mk.injEq, DataW.agg.injEq] at hx1
  match xs, hn4 with
  | [x0, x1, x2, x3], _ =>
    simp only [List.map_cons, List.map_nil, List.cons.injEq] at hx1
    obtain ⟨⟨h0, h1, h2, h3, _⟩, _⟩ := hx1
    have r0 := row_open (show DataW.trod _ Tryd.prog W 0 _ false m1 38 _ = some x0 from e0) h0.symm
    have r1 := row_open (show DataW.trod _ Tryd.prog W 0 _ false m1 38 _ = some x1 from e1) h1.symm
    have r2 := row_open (show DataW.trod _ Tryd.prog W 0 _ false m1 38 _ = some x2 from e2) h2.symm
    have r3 := row_open (show DataW.trod _ Tryd.prog W 0 _ false m1 38 _ = some x3 from e3) h3.symm
    intro i hi
    have hc := World.var?_cell hg0 hv0 i
    rw [hc]
    obtain ⟨l⟩ := cs0
    have hl : l.length = 12 := hlen
    match l, hl with
    | [a0, a1, a2, a3, a4, a5, a6, a7, a8, a9, a10, a11], _ =>
      simp at r0 r1 r2 r3
      obtain ⟨rfl, rfl, rfl⟩ := r0
      obtain ⟨rfl, rfl, rfl⟩ := r1
      obtain ⟨rfl, rfl, rfl⟩ := r2
      obtain ⟨rfl, rfl, rfl⟩ := r3
      match i, hi with
      | 0, _ => rfl
      | 1, _ => rfl
      | 2, _ => rfl
      | 3, _ => rfl
      | 4, _ => rfl
      | 5, _ => rfl
      | 6, _ => rfl
      | 7, _ => rfl
      | 8, _ => rfl
      | 9, _ => rfl
      | 10, _ => rfl
      | 11, _ => rfl
end Go.Proofs.YtaddhfehjapoiaaDoor
