/-
  Contracts of package session: a copy, Ask, Note, New.
-/
import Derived.Test.YtgjejgndmioioaaData
import Derived.Test.YtgjejgndmioioaaWhole
import Derived.Deep.QuietTactic
import Derived.BigQuiet
import Derived.Deep.DeepCutAuto
namespace Go.Proofs.Ytgjejgndmioioaa
open Go.RowKit
set_option linter.unusedSimpArgs false
set_option linter.unusedVariables false
/-- fills of the call's own: none of their cells is frozen. -/
structure Own (w : World) (lo hi : Nat) (sa : Option Addr) (n cap : Nat) (X : Nat → Nat → Int) : Prop where
  fills : FillsAt w lo hi sa n cap X
  free : 0 < n → ∀ g off, sa = some ⟨g, off, none⟩ → off = 0 ∧ ∀ i, w.frozen? ⟨g, i, none⟩ = false
section
variable {w w' : World} {lo hi : Nat} {sa : Option Addr} {n cap : Nat} {X : Nat → Nat → Int}
theorem Own.of_heap (h : Own w lo hi sa n cap X) (hs : w.heap.size ≤ w'.heap.size) (hb : ∀ g, lo ≤ g → g < hi → w'.heap[g]? = w.heap[g]?) : Own w' lo hi sa n cap X :=
  ⟨h.fills.of_heap hs hb, fun h0 g off e => by
    obtain ⟨g', off', e', h1, h2, _⟩ := h.fills.cells h0
    rw [e] at e'
    simp only [Option.some.injEq, Addr.mk.injEq] at e'
    obtain ⟨rfl, rfl, _⟩ := e'
    exact ⟨(h.free h0 g off e).1, fun i => by rw [World.frozen?_of_block (w := w) (hb g h1 h2)]; exact (h.free h0 g off e).2 i⟩⟩
theorem Own.grown {row : Option Nat} (h : Own w lo hi sa n cap X) (hg : w.grownBy w' row) (hr : ∀ k, row = some k → k < lo ∨ hi ≤ k) : Own w' lo hi sa n cap X :=
  h.of_heap hg.size (fun g h1 h2 => hg.block g (Nat.lt_of_lt_of_le h2 h.fills.top) (fun e => by have := hr g e.symm; omega))
theorem Own.call (h : Own w lo hi sa n cap X) (hb : Below w.heap.size w w') : Own w' lo hi sa n cap X := h.grown (gr_below hb none) (fun k e => by cases e)
theorem Own.wide {lo' hi' : Nat} (h : Own w lo hi sa n cap X) (h1 : lo' ≤ lo) (h2 : hi ≤ hi') (h3 : hi' ≤ w.heap.size) : Own w lo' hi' sa n cap X := ⟨h.fills.wide h1 h2 h3, h.free⟩
theorem Own.nil (w : World) (lo : Nat) (X : Nat → Nat → Int) (h : lo ≤ w.heap.size) : Own w lo lo none 0 0 X := ⟨FillsAt.none0 w lo X h, fun h => absurd h (by omega)⟩
end
/-- a reply whose fills are the call's own. -/
def RepOwn (w : World) (lo hi : Nat) (v : Value) (R : Rep) : Prop := ∃ sa cap, v = .agg #[.int .i64 R.e, .int .i64 R.id, .int .i64 R.d, .int .i64 R.r, .slice sa R.n cap] ∧ Own w lo hi sa R.n cap R.X
theorem RepOwn.rep {w : World} {lo hi : Nat} {v : Value} {R : Rep} (h : RepOwn w lo hi v R) : RepAt w lo hi v R := by
  obtain ⟨sa, cap, e, h⟩ := h
  exact ⟨sa, cap, e, h.fills⟩
theorem RepOwn.grown {w w' : World} {lo hi : Nat} {v : Value} {R : Rep} {row : Option Nat} (h : RepOwn w lo hi v R) (hg : w.grownBy w' row) (hr : ∀ k, row = some k → k < lo ∨ hi ≤ k) : RepOwn w' lo hi v R := by
  obtain ⟨sa, cap, e, h⟩ := h
  exact ⟨sa, cap, e, h.grown hg hr⟩
theorem RepOwn.zero (w : World) (lo : Nat) (h : lo ≤ w.heap.size) : RepOwn w lo lo (.agg #[.int .i64 0, .int .i64 0, .int .i64 0, .int .i64 0, .slice none 0 0]) Rep.zero := ⟨none, 0, rfl, Own.nil w lo _ h⟩
theorem RepOwn.wide {w : World} {lo hi lo' hi' : Nat} {v : Value} {R : Rep} (h : RepOwn w lo hi v R) (h1 : lo' ≤ lo) (h2 : hi ≤ hi') (h3 : hi' ≤ w.heap.size) : RepOwn w lo' hi' v R := by
  obtain ⟨sa, cap, e, h⟩ := h
  exact ⟨sa, cap, e, h.wide h1 h2 h3⟩
theorem Blk.put5 {w : World} {b : Nat} {x0 x1 x2 x3 x4 : Value} (h : Blk w b #[x0, x1, x2, x3, x4]) (y0 y1 y2 y3 y4 : Value) :
    Blk (((((w.setCell ⟨b, 0, none⟩ y0).setCell ⟨b, 1, none⟩ y1).setCell ⟨b, 2, none⟩ y2).setCell ⟨b, 3, none⟩ y3).setCell ⟨b, 4, none⟩ y4) b #[y0, y1, y2, y3, y4] := ((((h.set 0 y0).set 1 y1).set 2 y2).set 3 y3).set 4 y4
theorem gr_put5 (w : World) (b : Nat) (y0 y1 y2 y3 y4 : Value) :
    w.grownBy (((((w.setCell ⟨b, 0, none⟩ y0).setCell ⟨b, 1, none⟩ y1).setCell ⟨b, 2, none⟩ y2).setCell ⟨b, 3, none⟩ y3).setCell ⟨b, 4, none⟩ y4) (some b) :=
  gr_set (gr_set (gr_set (gr_set (gr_set (gr_refl w (some b)) _ _ (.inl rfl)) _ _ (.inl rfl)) _ _ (.inl rfl)) _ _ (.inl rfl)) _ _ (.inl rfl)
set_option maxHeartbeats 1000000 in
set_option maxRecDepth 100000 in
theorem copied_any (w : World) (lo hi : Nat) (v : Value) (R : Rep) (h : RepAt w lo hi v R) :
    Calls Try.prog 18 #[v] w fun e w' => (∃ v', e = .returned v' ∧ RepOwn w' w.heap.size w'.heap.size v' R) ∧ Below w.heap.size w w' := by
  obtain ⟨sa, cap, rfl, hF⟩ := h
  obtain ⟨e, id, d, r, n, X⟩ := R
  dsimp only at hF ⊢
  have hB := bel_refl w
  go_enter Try.func18, Try.ntmps18
  go_wp2_with fail
  refine (clone_any _ lo hi sa n cap X ((hF.alloc _).alloc _)).mono ?_
  rintro e' w1 ⟨⟨sa', cap', rfl, hF', hz⟩, hb⟩
  have C : Blk w1 w.heap.size _ := ((Blk.new w #[.int .i64 e, .int .i64 id, .int .i64 d, .int .i64 r, .slice sa n cap] 29).alloc (.cells #[.int .i64 0, .int .i64 0, .int .i64 0, .int .i64 0, .slice none 0 0] 29)).call hb
  have D : Blk w1 (w.heap.size + 1) _ := (Blk.new' (w := w.alloc (.cells #[.int .i64 e, .int .i64 id, .int .i64 d, .int .i64 r, .slice sa n cap] 29)) (n := w.heap.size + 1) (by simp) #[.int .i64 0, .int .i64 0, .int .i64 0, .int .i64 0, .slice none 0 0] 29).call hb
  replace hB := bel_call hb (bel_alloc (bel_alloc hB _) _)
  replace hF' : Own w1 (w.heap.size + 1 + 1) w1.heap.size sa' n cap' X := ⟨by simpa using hF', fun _ => hz⟩
  have C_c := C.cell
  have C_f := C.free
  clear hb hF
  go_upto_region 2 with fail
  have C2 : Blk _ w.heap.size #[.int .i64 e, .int .i64 id, .int .i64 d, .int .i64 r, .slice sa' n cap'] := C.set 4 (.slice sa' n cap')
  have D2 := D.set_other ⟨w.heap.size, 4, none⟩ (.slice sa' n cap') (by show w.heap.size ≠ w.heap.size + 1; omega)
  have B2 := bel_set (a := ⟨w.heap.size, 4, none⟩) hB (Nat.le_refl _) (.slice sa' n cap')
  have F2 : Own (w1.setCell ⟨w.heap.size, 4, none⟩ (.slice sa' n cap')) (w.heap.size + 1 + 1) w1.heap.size sa' n cap' X := hF'.grown (gr_set (gr_refl w1 (some w.heap.size)) _ _ (.inl rfl)) (fun k hk => by cases hk; omega)
  obtain ⟨w2, hw2⟩ : ∃ w2, w1.setCell ⟨w.heap.size, 4, none⟩ (.slice sa' n cap') = w2 := ⟨_, rfl⟩
  have hs2 : w1.heap.size = w2.heap.size := by rw [← hw2]; simp [World.setCell]
  rw [hw2] at C2 D2 B2 F2 ⊢
  rw [hs2] at F2
  clear hw2 C C_c C_f D hB hF' hz hs2
  have C_c := C2.cell
  have D_f := D2.free
  have D_c := D2.cell
  go_wp2_with fail
  have D3 := D2.put5 (.int .i64 e) (.int .i64 id) (.int .i64 d) (.int .i64 r) (.slice sa' n cap')
  have g3 := gr_put5 w2 (w.heap.size + 1) (.int .i64 e) (.int .i64 id) (.int .i64 d) (.int .i64 r) (.slice sa' n cap')
  exact bodyPost_ret (results_cell Try.results18 _ _ _ _ rfl (blk_load D3 29 _ Try.underlying29 rfl rfl)) rfl
    ⟨⟨_, rfl, sa', cap', rfl, (F2.grown g3 (fun k hk => by cases hk; omega)).wide (by omega) g3.size (Nat.le_refl _)⟩, bel_grown g3 B2 (fun j hj => by cases hj; omega)⟩
def askE (E : Int × Rep) (c seq : Int) : Int := if mayB c seq = true then (if E.1 < seq then 0 else if seq = E.1 then 7 else 11) else 1
def askR (E : Int × Rep) (c seq : Int) : Rep := if mayB c seq = true ∧ seq = E.1 then E.2 else Rep.zero
set_option maxHeartbeats 1000000 in
set_option maxRecDepth 100000 in
theorem ask_any (w : World) (tb mb cnt lo hi : Nat) (E : Int → Int × Rep) (h : TabS w tb mb cnt lo hi E) (c seq : Int) (hc : (Lit.int .i64 c).wf = true) :
    Calls Try.prog 10 #[.pointer (some ⟨tb, 0, none⟩), .int .i64 c, .int .i64 seq] w fun e w' => (∃ v, e = .returned (.tuple #[v, .int .i64 (askE (E c) c seq)]) ∧ RepOwn w' w.heap.size w'.heap.size v (askR (E c) c seq)) ∧ Below w.heap.size w w' := by
  have hB := bel_refl w
  obtain ⟨⟨f, ht, hf⟩, h0, h1, h2, h3, h4⟩ := h
  by_cases hm : mayB c seq = true
  · obtain ⟨sa, cap, hfc, hF⟩ := hf c
    generalize E c = Ec at *
    obtain ⟨s, e, id, d, r, n, X⟩ := Ec
    dsimp only at hfc hF
    have A : Blk (w.alloc (.cells #[.int .i64 0, .int .i64 0, .int .i64 0, .int .i64 0, .slice none 0 0] 29)) tb #[.map (some mb)] := ht.blk.alloc _
    have hrun := (ht.map.kept (World.grownBy_alloc w (.cells #[.int .i64 0, .int .i64 0, .int .i64 0, .int .i64 0, .slice none 0 0] 29) none) (by simp)).look c hc
    rw [hfc] at hrun
    unfold ent at hrun
    have hF1 := hF.alloc (.cells #[.int .i64 0, .int .i64 0, .int .i64 0, .int .i64 0, .slice none 0 0] 29)
    have R := Blk.new w #[.int .i64 0, .int .i64 0, .int .i64 0, .int .i64 0, .slice none 0 0] 29
    have hB1 := bel_alloc hB (.cells #[.int .i64 0, .int .i64 0, .int .i64 0, .int .i64 0, .slice none 0 0] 29)
    have hs1 : (w.alloc (.cells #[.int .i64 0, .int .i64 0, .int .i64 0, .int .i64 0, .slice none 0 0] 29)).heap.size = w.heap.size + 1 := by simp
    clear hf ht hfc hF hB
    go_enter Try.func10, Try.ntmps10
    go_upto_region 1 with fail
    obtain ⟨w1, hw1⟩ : ∃ w1, w.alloc (.cells #[.int .i64 0, .int .i64 0, .int .i64 0, .int .i64 0, .slice none 0 0] 29) = w1 := ⟨_, rfl⟩
    rw [hw1] at A hrun hF1 R hB1 hs1 ⊢
    clear hw1
    go_wp2_with fail
    refine (may_any _ tb c seq).mono ?_
    rintro e' w1' ⟨rfl, rfl⟩
    rw [hm]
    have A_c := A.cell
    go_upto_region 4 with fail
    have C := Blk.new' hs1.symm #[.int .i64 s, .int .i64 e, .int .i64 id, .int .i64 d, .int .i64 r, .slice sa n cap] 54
    have R2 := R.alloc (.cells #[.int .i64 s, .int .i64 e, .int .i64 id, .int .i64 d, .int .i64 r, .slice sa n cap] 54)
    have hF2 := hF1.alloc (.cells #[.int .i64 s, .int .i64 e, .int .i64 id, .int .i64 d, .int .i64 r, .slice sa n cap] 54)
    have hB2 := bel_alloc hB1 (.cells #[.int .i64 s, .int .i64 e, .int .i64 id, .int .i64 d, .int .i64 r, .slice sa n cap] 54)
    obtain ⟨w2, hw2⟩ : ∃ w2, w1.alloc (.cells #[.int .i64 s, .int .i64 e, .int .i64 id, .int .i64 d, .int .i64 r, .slice sa n cap] 54) = w2 := ⟨_, rfl⟩
    rw [hw2] at C R2 hF2 hB2 ⊢
    clear hw2 A A_c R hF1 hB1 hrun
    have C_c := C.cell
    have C_l := C.lt
    clear hs1
    rcases Int.lt_trichotomy s seq with hlt | heq | hgt
    · have QQ := Lib.hid (And.intro (show askE (s, ⟨e, id, d, r, n, X⟩) c seq = 0 by unfold askE; rw [if_pos hm, if_pos hlt]) (show askR (s, ⟨e, id, d, r, n, X⟩) c seq = Rep.zero by unfold askR; rw [if_neg (fun hh => by have := hh.2; dsimp only at this; omega)]))
      have e1 : decide (s < seq) = true := decide_eq_true hlt
      have R_c := R2.cell
      have R_f := R2.free
      clear hlt
      go_wp2_with fail
      have D := R2.put5 (.int .i64 0) (.int .i64 0) (.int .i64 0) (.int .i64 0) (.slice none 0 0)
      have g := gr_put5 w2 w.heap.size (.int .i64 0) (.int .i64 0) (.int .i64 0) (.int .i64 0) (.slice none 0 0)
      have hB3 := bel_grown g hB2 (fun j hj => by cases hj; exact Nat.le_refl _)
      exact bodyPost_ret (results_cell_and_tmp Try.results10 _ _ _ _ rfl (blk_load D 29 _ Try.underlying29 rfl rfl)) rfl
        (by rw [QQ.out.1, QQ.out.2]; exact ⟨⟨_, rfl, (RepOwn.zero _ _ hB3.size).wide (Nat.le_refl _) hB3.size (Nat.le_refl _)⟩, hB3⟩)
    · have QQ := Lib.hid (And.intro (show askE (s, ⟨e, id, d, r, n, X⟩) c seq = 7 by unfold askE; rw [if_pos hm, if_neg (by dsimp only; omega), if_pos heq.symm]) (show askR (s, ⟨e, id, d, r, n, X⟩) c seq = ⟨e, id, d, r, n, X⟩ by unfold askR; rw [if_pos ⟨hm, heq.symm⟩]))
      have e1 : decide (s < seq) = false := by simp; omega
      have e2 : (seq == s) = true := by simp; omega
      clear heq
      go_wp2_with fail
      refine (copied_any _ lo hi _ ⟨e, id, d, r, n, X⟩ ⟨sa, cap, rfl, hF2⟩).mono ?_
      rintro e' w3 ⟨⟨v', rfl, sa', cap', rfl, hO⟩, hb⟩
      have R3 := R2.call hb
      have hB3 := bel_call hb hB2
      have R_c := R3.cell
      have R_f := R3.free
      clear hb C_c hF2
      dsimp only at hO ⊢
      go_wp2_with fail
      have D := R3.put5 (.int .i64 e) (.int .i64 id) (.int .i64 d) (.int .i64 r) (.slice sa' n cap')
      have g := gr_put5 w3 w.heap.size (.int .i64 e) (.int .i64 id) (.int .i64 d) (.int .i64 r) (.slice sa' n cap')
      exact bodyPost_ret (results_cell_and_tmp Try.results10 _ _ _ _ rfl (blk_load D 29 _ Try.underlying29 rfl rfl)) rfl
        (by rw [QQ.out.1, QQ.out.2]; exact ⟨⟨_, rfl, sa', cap', rfl, (hO.grown g (fun k hk => by cases hk; omega)).wide (by omega) g.size (Nat.le_refl _)⟩, bel_grown g hB3 (fun j hj => by cases hj; omega)⟩)
    · have QQ := Lib.hid (And.intro (show askE (s, ⟨e, id, d, r, n, X⟩) c seq = 11 by unfold askE; rw [if_pos hm, if_neg (by dsimp only; omega), if_neg (by dsimp only; omega)]) (show askR (s, ⟨e, id, d, r, n, X⟩) c seq = Rep.zero by unfold askR; rw [if_neg (fun hh => by have := hh.2; dsimp only at this; omega)]))
      have e1 : decide (s < seq) = false := by simp; omega
      have e2 : (seq == s) = false := by simp; omega
      have R_c := R2.cell
      have R_f := R2.free
      clear hgt
      go_wp2_with fail
      have D := R2.put5 (.int .i64 0) (.int .i64 0) (.int .i64 0) (.int .i64 0) (.slice none 0 0)
      have g := gr_put5 w2 w.heap.size (.int .i64 0) (.int .i64 0) (.int .i64 0) (.int .i64 0) (.slice none 0 0)
      have hB3 := bel_grown g hB2 (fun j hj => by cases hj; exact Nat.le_refl _)
      exact bodyPost_ret (results_cell_and_tmp Try.results10 _ _ _ _ rfl (blk_load D 29 _ Try.underlying29 rfl rfl)) rfl
        (by rw [QQ.out.1, QQ.out.2]; exact ⟨⟨_, rfl, (RepOwn.zero _ _ hB3.size).wide (Nat.le_refl _) hB3.size (Nat.le_refl _)⟩, hB3⟩)
  · rw [show askE (E c) c seq = 1 by unfold askE; rw [if_neg hm], show askR (E c) c seq = Rep.zero by unfold askR; rw [if_neg (fun hh => hm hh.1)]]
    have hm' : mayB c seq = false := by simpa using hm
    have R := Blk.new w #[.int .i64 0, .int .i64 0, .int .i64 0, .int .i64 0, .slice none 0 0] 29
    have hB1 := bel_alloc hB (.cells #[.int .i64 0, .int .i64 0, .int .i64 0, .int .i64 0, .slice none 0 0] 29)
    clear hf ht hm hB
    go_enter Try.func10, Try.ntmps10
    go_upto_region 1 with fail
    obtain ⟨w1, hw1⟩ : ∃ w1, w.alloc (.cells #[.int .i64 0, .int .i64 0, .int .i64 0, .int .i64 0, .slice none 0 0] 29) = w1 := ⟨_, rfl⟩
    rw [hw1] at R hB1 ⊢
    clear hw1
    go_wp2_with fail
    refine (may_any _ tb c seq).mono ?_
    rintro e' w1' ⟨rfl, rfl⟩
    rw [hm']
    have R_c := R.cell
    have R_f := R.free
    go_wp2_with fail
    have D := R.put5 (.int .i64 0) (.int .i64 0) (.int .i64 0) (.int .i64 0) (.slice none 0 0)
    have g := gr_put5 w1 w.heap.size (.int .i64 0) (.int .i64 0) (.int .i64 0) (.int .i64 0) (.slice none 0 0)
    have hB3 := bel_grown g hB1 (fun j hj => by cases hj; exact Nat.le_refl _)
    exact bodyPost_ret (results_cell_and_tmp Try.results10 _ _ _ _ rfl (blk_load D 29 _ Try.underlying29 rfl rfl)) rfl
      ⟨⟨_, rfl, (RepOwn.zero _ _ hB3.size).wide (Nat.le_refl _) hB3.size (Nat.le_refl _)⟩, hB3⟩
end Go.Proofs.Ytgjejgndmioioaa
