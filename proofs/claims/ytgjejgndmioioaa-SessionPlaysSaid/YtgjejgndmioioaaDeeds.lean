/-
  Arguments of session's laws: replies, deeds, slices of deeds, opened. Plain lemmas.
-/
import Derived.Test.YtgjejgndmioioaaSame
import Derived.Test.YtgjejgndmioioaaOpen2
namespace Go.Proofs.Ytgjejgndmioioaa
open Go.ChangeShapes Go.WideShapes Go.RowKit Go.Deep
set_option linter.unusedSimpArgs false
set_option linter.unusedVariables false
/-- a deed: its numbers, its reply, and where its fills lie. -/
structure Deed where
  k : Int
  c : Int
  s : Int
  R : Rep
  fa : Option Addr
  fc : Nat
/-- so many deeds. -/
structure DeedsOf (w : World) (sa : Option Addr) (len cap : Nat) (D : Nat → Deed) : Prop where
  lenCap : len ≤ cap
  capMax : cap ≤ maxLen
  cells : 0 < len → ∃ b off, sa = some ⟨b, off, none⟩ ∧ ∀ i, i < len →
    w.cell? ⟨b, off + i * 8, none⟩ = some (.int .i64 (D i).k) ∧ w.cell? ⟨b, off + i * 8 + 1, none⟩ = some (.int .i64 (D i).c) ∧ w.cell? ⟨b, off + i * 8 + 2, none⟩ = some (.int .i64 (D i).s) ∧
    w.cell? ⟨b, off + i * 8 + 3, none⟩ = some (.int .i64 (D i).R.e) ∧ w.cell? ⟨b, off + i * 8 + 4, none⟩ = some (.int .i64 (D i).R.id) ∧ w.cell? ⟨b, off + i * 8 + 5, none⟩ = some (.int .i64 (D i).R.d) ∧
    w.cell? ⟨b, off + i * 8 + 6, none⟩ = some (.int .i64 (D i).R.r) ∧ w.cell? ⟨b, off + i * 8 + 7, none⟩ = some (.slice (D i).fa (D i).R.n (D i).fc)
  wf : ∀ i, i < len → (Lit.int .i64 (D i).c).wf = true ∧ (Lit.int .i64 (D i).s).wf = true
  fills : ∀ i, i < len → FillsAt w 0 w.heap.size (D i).fa (D i).R.n (D i).fc (D i).R.X
section
variable {H : Type} {enc : TypeId × Value → H} {w : World} {base : Nat} {spare : Nat → Bool} {held : Bool}
theorem open_fills {fuel : Nat} {v : Value} {x : DataW H × List MemPlace} (h : DataW.trod enc Try.prog w base spare held fuel 27 [v] = some x) (hx : Small Try.prog 27 x.1) :
    ∃ sa n cap X, v = .slice sa n cap ∧ FillsAt w 0 w.heap.size sa n cap X := by
  obtain ⟨sa, n, cap, X, rfl, hr⟩ := rows_ints Try.underlying27 (k := 6) (by kernel_rfl) (by decide) h (fun _ => .i64) (by
    intro i hi
    match i, hi with
    | 0, _ => exact ⟨9, 2, by kernel_rfl, Try.underlying2⟩
    | 1, _ => exact ⟨9, 2, by kernel_rfl, Try.underlying2⟩
    | 2, _ => exact ⟨9, 2, by kernel_rfl, Try.underlying2⟩
    | 3, _ => exact ⟨9, 2, by kernel_rfl, Try.underlying2⟩
    | 4, _ => exact ⟨9, 2, by kernel_rfl, Try.underlying2⟩
    | 5, _ => exact ⟨9, 2, by kernel_rfl, Try.underlying2⟩)
  have hs := slice_small Try.underlying27 h hx
  rw [show Try.prog.bytesOf 46 = 48 by kernel_rfl] at hs
  refine ⟨sa, n, cap, X, rfl, Nat.le_refl _, hr.lenCap, hr.capMax, fun h0 => ?_, Nat.le_trans hs (by decide), fun e => by subst e; exact (slice_nil Try.underlying27 h).2⟩
  obtain ⟨g, off, e, hc⟩ := hr.cells h0
  exact ⟨g, off, e, Nat.zero_le _, World.block_lt_of_cell? w _ (hc 0 h0 0 (by decide)), hc⟩
/-- a reply by value. -/
theorem open_reply {fuel : Nat} {cs : List Value} {x : DataW H × List MemPlace} (h : DataW.trod enc Try.prog w base spare held fuel 29 cs = some x) (hx : Small Try.prog 29 x.1) (hl : cs.length = 5) :
    ∃ D : Deed, cs = [.int .i64 D.R.e, .int .i64 D.R.id, .int .i64 D.R.d, .int .i64 D.R.r, .slice D.fa D.R.n D.fc] ∧ FillsAt w 0 w.heap.size D.fa D.R.n D.fc D.R.X := by
  obtain ⟨x3, e3, w3⟩ := leaf_int h 9 0 26 .i64 (by kernel_rfl) Try.underlying26
  obtain ⟨x4, e4, w4⟩ := leaf_int h 9 1 2 .i64 (by kernel_rfl) Try.underlying2
  obtain ⟨x5, e5, w5⟩ := leaf_int h 9 2 2 .i64 (by kernel_rfl) Try.underlying2
  obtain ⟨x6, e6, w6⟩ := leaf_int h 9 3 2 .i64 (by kernel_rfl) Try.underlying2
  obtain ⟨x7, e7, n7, y7, q7, s7⟩ := leaf_any_small h hx 9 4 27 (by kernel_rfl)
  obtain ⟨sa, n, cap, X, rfl, hF⟩ := open_fills q7 s7
  refine ⟨⟨0, 0, 0, ⟨x3, x4, x5, x6, n, X⟩, sa, cap⟩, ?_, hF⟩
  apply list_of_gets _ _ (by simpa using hl)
  intro i hi
  match i, hi with
  | 0, _ => exact e3
  | 1, _ => exact e4
  | 2, _ => exact e5
  | 3, _ => exact e6
  | 4, _ => exact e7
/-- an aggregate of a deed's type. -/
theorem open_deed {fuel : Nat} {cs : List Value} {x : DataW H × List MemPlace} (h : DataW.trod enc Try.prog w base spare held fuel 31 cs = some x) (hx : Small Try.prog 31 x.1) (hl : cs.length = 8) :
    ∃ D : Deed, cs = [.int .i64 D.k, .int .i64 D.c, .int .i64 D.s, .int .i64 D.R.e, .int .i64 D.R.id, .int .i64 D.R.d, .int .i64 D.R.r, .slice D.fa D.R.n D.fc] ∧
      ((Lit.int .i64 D.c).wf = true ∧ (Lit.int .i64 D.s).wf = true) ∧ FillsAt w 0 w.heap.size D.fa D.R.n D.fc D.R.X := by
  obtain ⟨x0, e0, w0⟩ := leaf_int h 9 0 3 .i64 (by kernel_rfl) Try.underlying3
  obtain ⟨x1, e1, w1⟩ := leaf_int h 9 1 3 .i64 (by kernel_rfl) Try.underlying3
  obtain ⟨x2, e2, w2⟩ := leaf_int h 9 2 2 .i64 (by kernel_rfl) Try.underlying2
  obtain ⟨x3, e3, w3⟩ := leaf_int h 9 3 26 .i64 (by kernel_rfl) Try.underlying26
  obtain ⟨x4, e4, w4⟩ := leaf_int h 9 4 2 .i64 (by kernel_rfl) Try.underlying2
  obtain ⟨x5, e5, w5⟩ := leaf_int h 9 5 2 .i64 (by kernel_rfl) Try.underlying2
  obtain ⟨x6, e6, w6⟩ := leaf_int h 9 6 2 .i64 (by kernel_rfl) Try.underlying2
  obtain ⟨x7, e7, n7, y7, q7, s7⟩ := leaf_any_small h hx 9 7 27 (by kernel_rfl)
  obtain ⟨sa, n, cap, X, rfl, hF⟩ := open_fills q7 s7
  refine ⟨⟨x0, x1, x2, ⟨x3, x4, x5, x6, n, X⟩, sa, cap⟩, ?_, ⟨w1, w2⟩, hF⟩
  apply list_of_gets _ _ (by simpa using hl)
  intro i hi
  match i, hi with
  | 0, _ => exact e0
  | 1, _ => exact e1
  | 2, _ => exact e2
  | 3, _ => exact e3
  | 4, _ => exact e4
  | 5, _ => exact e5
  | 6, _ => exact e6
  | 7, _ => exact e7
theorem open_deeds {fuel : Nat} {v : Value} {x : DataW H × List MemPlace} (h : DataW.trod enc Try.prog w base spare held fuel 22 [v] = some x) (hx : Small Try.prog 22 x.1) :
    ∃ sa len cap D, v = .slice sa len cap ∧ DeedsOf w sa len cap D := by
  rcases open_rows_small Try.underlying22 (k := 8) (by kernel_rfl) h hx with rfl | ⟨a, len, cap, rfl, hl, hm, hall⟩
  · exact ⟨none, 0, 0, fun _ => ⟨0, 0, 0, Rep.zero, none, 0⟩, rfl, Nat.le_refl _, Nat.zero_le _, fun h => absurd h (by omega), fun i hi => absurd hi (by omega), fun i hi => absurd hi (by omega)⟩
  · have hq : ∀ i, ∃ D : Deed, i < len → (∀ j c, [Value.int .i64 D.k, .int .i64 D.c, .int .i64 D.s, .int .i64 D.R.e, .int .i64 D.R.id, .int .i64 D.R.d, .int .i64 D.R.r, .slice D.fa D.R.n D.fc][j]? = some c → w.cell? (a.add (i * 8 + j)) = some c) ∧
        ((Lit.int .i64 D.c).wf = true ∧ (Lit.int .i64 D.s).wf = true) ∧ FillsAt w 0 w.heap.size D.fa D.R.n D.fc D.R.X := by
      intro i
      by_cases hi : i < len
      · obtain ⟨cs, n, y, hy, hsy, hcl, hat⟩ := hall i hi
        obtain ⟨D, rfl, hw, hF⟩ := open_deed hy hsy hcl
        exact ⟨D, fun _ => ⟨hat, hw, hF⟩⟩
      · exact ⟨⟨0, 0, 0, Rep.zero, none, 0⟩, fun h => absurd h hi⟩
    refine ⟨some a, len, cap, fun i => Classical.choose (hq i), rfl, hl, hm, fun h0 => ?_, fun i hi => (Classical.choose_spec (hq i) hi).2.1, fun i hi => (Classical.choose_spec (hq i) hi).2.2⟩
    have h1 := (Classical.choose_spec (hq 0) h0).1 0 _ rfl
    obtain ⟨b, off, spot⟩ := a
    have hspot : spot = none := by simpa [Addr.add] using World.cell?_spot h1
    subst hspot
    refine ⟨b, off, rfl, fun i hi => ?_⟩
    have q := (Classical.choose_spec (hq i) hi).1
    have p : ∀ j, (⟨b, off + i * 8 + j, none⟩ : Addr) = (⟨b, off, none⟩ : Addr).add (i * 8 + j) := fun j => by rw [add_none, Nat.add_assoc]
    refine ⟨?_, ?_, ?_, ?_, ?_, ?_, ?_, ?_⟩
    · have := q 0 _ rfl
      rw [← p 0] at this
      exact this
    · rw [p 1]; exact q 1 _ rfl
    · rw [p 2]; exact q 2 _ rfl
    · rw [p 3]; exact q 3 _ rfl
    · rw [p 4]; exact q 4 _ rfl
    · rw [p 5]; exact q 5 _ rfl
    · rw [p 6]; exact q 6 _ rfl
    · rw [p 7]; exact q 7 _ rfl
end
theorem DeedsOf.call {w w' : World} {sa : Option Addr} {len cap : Nat} {D : Nat → Deed} (h : DeedsOf w sa len cap D) (hb : Below w.heap.size w w') (i : Nat) (hi : i < len) :
    FillsAt w' 0 w.heap.size (D i).fa (D i).R.n (D i).fc (D i).R.X := (h.fills i hi).call hb
end Go.Proofs.Ytgjejgndmioioaa
