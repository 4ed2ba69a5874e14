/-
  What a reply reads as, and a table's entries; kept behind calls. slices.Clone at fills. Plain lemmas, and one walk.
-/
import Derived.Test.YtgjejgndmioioaaTab
import Derived.Test.YtgjejgndmioioaaOpen
import Derived.Test.YtgjejgndmioioaaLays
namespace Go.Proofs.Ytgjejgndmioioaa
open Go.RowKit
set_option linter.unusedSimpArgs false
set_option linter.unusedVariables false
/-- so many fills, in a block from lo to hi. -/
structure FillsAt (w : World) (lo hi : Nat) (sa : Option Addr) (n cap : Nat) (X : Nat → Nat → Int) : Prop where
  top : hi ≤ w.heap.size
  lenCap : n ≤ cap
  capMax : cap ≤ maxLen
  cells : 0 < n → ∃ g off, sa = some ⟨g, off, none⟩ ∧ lo ≤ g ∧ g < hi ∧ ∀ i, i < n → ∀ j, j < 6 → w.cell? ⟨g, off + (i * 6 + j), none⟩ = some (.int .i64 (X i j))
  big : n * 48 ≤ 140737488355328
  nil : sa = none → cap = 0
section
variable {w w' : World} {lo hi : Nat} {sa : Option Addr} {n cap : Nat} {X : Nat → Nat → Int}
theorem FillsAt.of_heap (h : FillsAt w lo hi sa n cap X) (hs : w.heap.size ≤ w'.heap.size) (hb : ∀ g, lo ≤ g → g < hi → w'.heap[g]? = w.heap[g]?) : FillsAt w' lo hi sa n cap X :=
  ⟨Nat.le_trans h.top hs, h.lenCap, h.capMax, fun h0 => by
    obtain ⟨g, off, e, h1, h2, hc⟩ := h.cells h0
    exact ⟨g, off, e, h1, h2, fun i hi j hj => by rw [World.cell?_of_block (w := w) (hb g h1 h2)]; exact hc i hi j hj⟩, h.big, h.nil⟩
theorem FillsAt.grown {row : Option Nat} (h : FillsAt w lo hi sa n cap X) (hg : w.grownBy w' row) (hr : ∀ k, row = some k → k < lo ∨ hi ≤ k) : FillsAt w' lo hi sa n cap X :=
  h.of_heap hg.size (fun g h1 h2 => hg.block g (Nat.lt_of_lt_of_le h2 h.top) (fun e => by have := hr g e.symm; omega))
theorem FillsAt.call (h : FillsAt w lo hi sa n cap X) (hb : Below w.heap.size w w') : FillsAt w' lo hi sa n cap X := h.of_heap hb.size (fun g _ h2 => hb.block g (Nat.lt_of_lt_of_le h2 h.top))
theorem FillsAt.alloc (h : FillsAt w lo hi sa n cap X) (o : Obj) : FillsAt (w.alloc o) lo hi sa n cap X := h.of_heap (by simp) (fun g _ h2 => Below.heap_alloc w o g (Nat.lt_of_lt_of_le h2 h.top))
theorem FillsAt.drew (h : FillsAt w lo hi sa n cap X) : FillsAt w.drew lo hi sa n cap X := h.of_heap (Nat.le_refl _) (fun _ _ _ => rfl)
theorem FillsAt.wide {lo' hi' : Nat} (h : FillsAt w lo hi sa n cap X) (h1 : lo' ≤ lo) (h2 : hi ≤ hi') (h3 : hi' ≤ w.heap.size) : FillsAt w lo' hi' sa n cap X :=
  ⟨h3, h.lenCap, h.capMax, fun h0 => by
    obtain ⟨g, off, e, q1, q2, hc⟩ := h.cells h0
    exact ⟨g, off, e, Nat.le_trans h1 q1, Nat.lt_of_lt_of_le q2 h2, hc⟩, h.big, h.nil⟩
theorem FillsAt.none0 (w : World) (lo : Nat) (X : Nat → Nat → Int) (h : lo ≤ w.heap.size) : FillsAt w lo lo none 0 0 X := ⟨h, Nat.le_refl _, Nat.zero_le _, fun h => absurd h (by omega), by omega, fun _ => rfl⟩
end
/-- a reply's data: its numbers, and its fills. -/
structure Rep where
  e : Int
  id : Int
  d : Int
  r : Int
  n : Nat
  X : Nat → Nat → Int
def Rep.zero : Rep := ⟨0, 0, 0, 0, 0, fun _ _ => 0⟩
/-- v reads as the reply R. -/
def RepAt (w : World) (lo hi : Nat) (v : Value) (R : Rep) : Prop := ∃ sa cap, v = .agg #[.int .i64 R.e, .int .i64 R.id, .int .i64 R.d, .int .i64 R.r, .slice sa R.n cap] ∧ FillsAt w lo hi sa R.n cap R.X
/-- v reads as an entry. -/
def EntAt (w : World) (lo hi : Nat) (v : Value) (E : Int × Rep) : Prop := ∃ sa cap, v = ent E.1 E.2.e E.2.id E.2.d E.2.r (.slice sa E.2.n cap) ∧ FillsAt w lo hi sa E.2.n cap E.2.X
/-- a table: its block, its map's, its entries; their fills lie in blocks from lo to hi. -/
structure TabS (w : World) (tb mb cnt lo hi : Nat) (E : Int → Int × Rep) : Prop where
  tab : ∃ f, TabAt w tb mb cnt f ∧ ∀ c, EntAt w lo hi (f c) (E c)
  ne : tb ≠ mb
  tlo : tb < lo
  mlo : mb < lo
  lohi : lo ≤ hi
  top : hi ≤ w.heap.size
theorem RepAt.call {w w' : World} {lo hi : Nat} {v : Value} {R : Rep} (h : RepAt w lo hi v R) (hb : Below w.heap.size w w') : RepAt w' lo hi v R := by
  obtain ⟨sa, cap, e, h⟩ := h
  exact ⟨sa, cap, e, h.call hb⟩
theorem RepAt.grown {w w' : World} {lo hi : Nat} {v : Value} {R : Rep} {row : Option Nat} (h : RepAt w lo hi v R) (hg : w.grownBy w' row) (hr : ∀ k, row = some k → k < lo ∨ hi ≤ k) : RepAt w' lo hi v R := by
  obtain ⟨sa, cap, e, h⟩ := h
  exact ⟨sa, cap, e, h.grown hg hr⟩
theorem RepAt.wide {w : World} {lo hi lo' hi' : Nat} {v : Value} {R : Rep} (h : RepAt w lo hi v R) (h1 : lo' ≤ lo) (h2 : hi ≤ hi') (h3 : hi' ≤ w.heap.size) : RepAt w lo' hi' v R := by
  obtain ⟨sa, cap, e, h⟩ := h
  exact ⟨sa, cap, e, h.wide h1 h2 h3⟩
theorem RepAt.zero (w : World) (lo : Nat) (h : lo ≤ w.heap.size) : RepAt w lo lo (.agg #[.int .i64 0, .int .i64 0, .int .i64 0, .int .i64 0, .slice none 0 0]) Rep.zero := ⟨none, 0, rfl, FillsAt.none0 w lo _ h⟩
theorem EntAt.zero (w : World) (lo : Nat) (h : lo ≤ w.heap.size) : EntAt w lo lo zeroE (0, Rep.zero) := ⟨none, 0, rfl, FillsAt.none0 w lo _ h⟩
theorem EntAt.grown {w w' : World} {lo hi : Nat} {v : Value} {E : Int × Rep} {row : Option Nat} (h : EntAt w lo hi v E) (hg : w.grownBy w' row) (hr : ∀ k, row = some k → k < lo ∨ hi ≤ k) : EntAt w' lo hi v E := by
  obtain ⟨sa, cap, e, h⟩ := h
  exact ⟨sa, cap, e, h.grown hg hr⟩
theorem EntAt.call {w w' : World} {lo hi : Nat} {v : Value} {E : Int × Rep} (h : EntAt w lo hi v E) (hb : Below w.heap.size w w') : EntAt w' lo hi v E := h.grown (gr_below hb none) (fun k e => by cases e)
theorem EntAt.wide {w : World} {lo hi lo' hi' : Nat} {v : Value} {E : Int × Rep} (h : EntAt w lo hi v E) (h1 : lo' ≤ lo) (h2 : hi ≤ hi') (h3 : hi' ≤ w.heap.size) : EntAt w lo' hi' v E := by
  obtain ⟨sa, cap, e, h⟩ := h
  exact ⟨sa, cap, e, h.wide h1 h2 h3⟩
theorem TabS.grown {w w' : World} {tb mb cnt lo hi : Nat} {E : Int → Int × Rep} {row : Option Nat} (h : TabS w tb mb cnt lo hi E) (hg : w.grownBy w' row) (hr : ∀ k, row = some k → k ≠ tb ∧ k ≠ mb ∧ (k < lo ∨ hi ≤ k)) : TabS w' tb mb cnt lo hi E := by
  obtain ⟨⟨f, ht, hf⟩, h0, h1, h2, h3, h4⟩ := h
  refine ⟨⟨f, ht.kept hg (fun e => (hr tb e.symm).1 rfl) (fun e => (hr mb e.symm).2.1 rfl), fun c => ?_⟩, h0, h1, h2, h3, Nat.le_trans h4 hg.size⟩
  obtain ⟨sa, cap, e, hh⟩ := hf c
  exact ⟨sa, cap, e, hh.grown hg (fun k e => (hr k e).2.2)⟩
theorem TabS.call {w w' : World} {tb mb cnt lo hi : Nat} {E : Int → Int × Rep} (h : TabS w tb mb cnt lo hi E) (hb : Below w.heap.size w w') : TabS w' tb mb cnt lo hi E := h.grown (gr_below hb none) (fun k e => by cases e)
theorem TabS.alloc {w : World} {tb mb cnt lo hi : Nat} {E : Int → Int × Rep} (h : TabS w tb mb cnt lo hi E) (o : Obj) : TabS (w.alloc o) tb mb cnt lo hi E := h.call (bel_alloc (bel_refl w) o)
theorem TabS.drew {w : World} {tb mb cnt lo hi : Nat} {E : Int → Int × Rep} (h : TabS w tb mb cnt lo hi E) : TabS w.drew tb mb cnt lo hi E := h.call (bel_drew (bel_refl w))
/-- the cells of so many fills, one behind the other. -/
def fcells (n : Nat) (X : Nat → Nat → Int) : List Value := List.ofFn (n := n * 6) fun j => .int .i64 (X (j / 6) (j % 6))
theorem fcells_len (n : Nat) (X : Nat → Nat → Int) : (fcells n X).length = n * 6 := by simp [fcells]
theorem fcells_get (n : Nat) (X : Nat → Nat → Int) (i j : Nat) (hi : i < n) (hj : j < 6) : (fcells n X)[i * 6 + j]? = some (.int .i64 (X i j)) := by
  have : i * 6 + j < n * 6 := by omega
  simp only [fcells, List.getElem?_ofFn, this, dif_pos]
  rw [show (i * 6 + j) / 6 = i by omega, show (i * 6 + j) % 6 = j by omega]
theorem fcells_one (n : Nat) (X : Nat → Nat → Int) : ∀ u ∈ fcells n X, u.oneCell' = true := by
  intro u hu
  obtain ⟨i, hi, rfl⟩ := List.mem_iff_getElem.1 hu
  simp only [fcells, List.getElem_ofFn]
  rfl
theorem fcells_cell {w : World} {g off n : Nat} {X : Nat → Nat → Int} (h : ∀ i, i < n → ∀ j, j < 6 → w.cell? ⟨g, off + (i * 6 + j), none⟩ = some (.int .i64 (X i j))) : ∀ j u, (fcells n X)[j]? = some u → w.cell? ⟨g, off + j, none⟩ = some u := by
  intro j u hu
  have hj : j < n * 6 := by have := (List.getElem?_eq_some_iff.1 hu).1; rwa [fcells_len] at this
  have h1 := fcells_get n X (j / 6) (j % 6) (by omega) (by omega)
  rw [show j / 6 * 6 + j % 6 = j by omega, hu] at h1
  have h2 := h (j / 6) (by omega) (j % 6) (by omega)
  rw [show j / 6 * 6 + j % 6 = j by omega] at h2
  rw [h2, ← Option.some.inj h1]
/-- a slice of the call's own: its fills, none of them frozen. -/
theorem fills_own {w : World} {base : Nat} {v : Value} {n : Nat} {X : Nat → Nat → Int} (h : w.ownsRow base 46 6 v n (fcells n X)) (hb : base ≤ w.heap.size) (hbig : n * 48 ≤ 140737488355328) :
    ∃ sa cap, v = .slice sa n cap ∧ FillsAt w base w.heap.size sa n cap X ∧ ∀ g off, sa = some ⟨g, off, none⟩ → off = 0 ∧ ∀ i, w.frozen? ⟨g, i, none⟩ = false := by
  rcases h.2 with ⟨rfl, hn⟩ | ⟨g, cap, cur, rfl, hg, hh, hle, hm, hs, ht⟩
  · subst hn
    exact ⟨none, 0, rfl, ⟨Nat.le_refl _, Nat.le_refl _, Nat.zero_le _, fun h => absurd h (by omega), hbig, fun _ => rfl⟩, fun g off e => by cases e⟩
  · refine ⟨some ⟨g, 0, none⟩, cap, rfl, ⟨Nat.le_refl _, hle, hm, fun h0 => ⟨g, 0, rfl, hg, (Array.getElem?_eq_some_iff.1 hh).1, fun i hi j hj => ?_⟩, hbig, fun e => by cases e⟩, fun g' off e => ?_⟩
    · have hc := h.cells (g := g) rfl (i * 6 + j) _ (fcells_get n X i j hi hj)
      rw [add_none] at hc
      exact hc
    · simp only [Option.some.injEq, Addr.mk.injEq] at e
      obtain ⟨rfl, rfl, _⟩ := e
      exact ⟨rfl, fun i => by simp [World.frozen?, hh]⟩
set_option maxHeartbeats 2000000 in
set_option maxRecDepth 100000 in
/-- slices.Clone at any slice that is not nil, an empty one that lies anywhere too: the kit's own proof, at this program. -/
theorem clone_some (n c : Nat) (ad : Addr) (news : List Value) (w : World) (hl : news.length = n * 6) (hn : n ≤ maxLen) (hbig : n * 48 ≤ 140737488355328)
    (hc : ∀ j u, news[j]? = some u → w.cell? (ad.add j) = some u) (h1 : ∀ u ∈ news, u.oneCell' = true) :
    Calls Try.prog 21 #[.slice (some ad) n c] w fun e w' => ∃ v', e = .returned v' ∧ w'.ownsRow w.heap.size 46 6 v' n news ∧ Below w.heap.size w w' := by
  have A : Go.Aside (∀ j u, news[j]? = some u → w.cell? (ad.add j) = some u) := hc
  clear hc
  have q22 : ∀ (w : World) (a : Option Addr) (n c n' c' : Nat), (binOp .eql 27 (.slice a n c) (.slice none n' c')).run Try.prog w = .ok (.bool a.isNone) w := fun w a n c n' c' => Lib.run_eql_slice_nil w _ _ a n c n' c' Try.underlying27
  go_enter Try.func21, Try.ntmps21
  go_wp2_with (at_builtin; refine wpList_append_own _ rfl _ _ 27 rfl w.heap.size 46 _ _ 6 48 Try.underlying27 rfl rfl rfl rfl rfl (by decide) _ _ _ rfl (World.ownsRow_made w #[] 0 (Nat.le_refl _) (Nat.zero_le _) (by simp)) ad n c news rfl ?qc1 ?qc2 ?qc3 ?qc4 ?qc5 ?qc6 ?_)
  case qc1 => exact hl
  case qc2 =>
    intro j u hj
    exact Lib.cell?_alloc_some _ (A.out j u hj)
  case qc3 => exact h1
  case qc4 => rw [Nat.zero_add]; exact hn
  case qc5 => rw [Nat.zero_add]; exact hbig
  case qc6 => simp
  intro v' w1 hown hgrow hnil
  go_wp2
  go_ret
  refine ⟨v', rfl, by simpa using hown, ?_⟩
  exact ((Below.refl _ w).alloc (Nat.le_refl _) _).grown hgrow (by simp) (by intro k hk; simp [Value.ownBlock] at hk; omega)
/-- slices.Clone of fills: as many, in memory of its own. -/
theorem clone_any (w : World) (lo hi : Nat) (sa : Option Addr) (n cap : Nat) (X : Nat → Nat → Int) (h : FillsAt w lo hi sa n cap X) :
    Calls Try.prog 21 #[.slice sa n cap] w fun e w' => (∃ sa' cap', e = .returned (.slice sa' n cap') ∧ FillsAt w' w.heap.size w'.heap.size sa' n cap' X ∧ ∀ g off, sa' = some ⟨g, off, none⟩ → off = 0 ∧ ∀ i, w'.frozen? ⟨g, i, none⟩ = false) ∧ Below w.heap.size w w' := by
  cases sa with
  | none =>
    have hn : n = 0 := by
      rcases Nat.eq_zero_or_pos n with h0 | h0
      · exact h0
      · obtain ⟨g, off, e, _⟩ := h.cells h0; cases e
    subst hn
    refine (AnyE.slices_Clone_nil (ρ := Try.clone21_ren) Try.clone21 0 cap w).mono ?_
    rintro e w' ⟨rfl, rfl⟩
    exact ⟨⟨none, 0, rfl, ⟨Nat.le_refl _, Nat.le_refl _, Nat.zero_le _, fun h => absurd h (by omega), by omega, fun _ => rfl⟩, fun g off e => by cases e⟩, bel_refl _⟩
  | some ad =>
    have hc : ∀ j u, (fcells n X)[j]? = some u → w.cell? (ad.add j) = some u := by
      intro j u hu
      have hj : j < n * 6 := by have := (List.getElem?_eq_some_iff.1 hu).1; rwa [fcells_len] at this
      obtain ⟨g, off, e, _, _, hc⟩ := h.cells (by omega)
      obtain rfl := Option.some.inj e
      rw [add_none]
      exact fcells_cell hc j u hu
    refine (clone_some n cap ad (fcells n X) w (fcells_len n X) (Nat.le_trans h.lenCap h.capMax) h.big hc (fcells_one n X)).mono ?_
    rintro e w' ⟨v', rfl, hown, hb⟩
    obtain ⟨sa', cap', rfl, hF, hz⟩ := fills_own hown hb.size h.big
    exact ⟨⟨sa', cap', rfl, hF, hz⟩, hb⟩
end Go.Proofs.Ytgjejgndmioioaa
