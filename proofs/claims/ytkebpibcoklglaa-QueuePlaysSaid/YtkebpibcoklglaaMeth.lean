/-
  Contracts of package queue.
-/
import Derived.Test.YtkebpibcoklglaaIter
import Derived.Test.YtkebpibcoklglaaPlan
import Derived.Test.YtkebpibcoklglaaWhole
import Derived.WalkSpells
import Derived.WalkLawsBesides
import Derived.Handy
import Derived.Deep.QuietTactic
import Derived.BigQuiet
import Derived.Deep.DeepCutAuto
import Derived.Laws.AppendOwnNone
namespace Go.Proofs.Ytkebpibcoklglaa
open Go.RowKit
set_option linter.unusedSimpArgs false
set_option linter.unusedVariables false
/-- the items' cells. -/
def jcells (L : List (Int × Int)) : List Value := L.flatMap fun p => [.int .i64 p.1, .int .i64 p.2]
theorem jcells_len : ∀ L : List (Int × Int), (jcells L).length = L.length * 2
  | [] => rfl
  | p :: L => by
    have ih := jcells_len L
    unfold jcells at ih ⊢
    rw [List.flatMap_cons, List.length_append, ih, List.length_cons]
    show 2 + L.length * 2 = (L.length + 1) * 2
    omega
theorem jcells_snoc (L : List (Int × Int)) (p : Int × Int) : jcells (L ++ [p]) = jcells L ++ [.int .i64 p.1, .int .i64 p.2] := by
  unfold jcells
  rw [List.flatMap_append]
  simp
theorem jcells_get : ∀ (L : List (Int × Int)) (i : Nat) (h : i < L.length), (jcells L)[i * 2]? = some (.int .i64 L[i].1) ∧ (jcells L)[i * 2 + 1]? = some (.int .i64 L[i].2)
  | p :: L, 0, h => ⟨rfl, rfl⟩
  | p :: L, i + 1, h => by
    have ih := jcells_get L i (by simpa using h)
    unfold jcells at ih ⊢
    rw [List.flatMap_cons, List.getElem?_append_right (by show 2 ≤ _; omega), List.getElem?_append_right (by show 2 ≤ _; omega)]
    show (List.flatMap _ L)[(i + 1) * 2 - 2]? = _ ∧ (List.flatMap _ L)[(i + 1) * 2 + 1 - 2]? = _
    rw [show (i + 1) * 2 - 2 = i * 2 by omega, show (i + 1) * 2 + 1 - 2 = i * 2 + 1 by omega]
    exact ih
theorem icells_map (f : Nat → Int × Int) : ∀ n, icells ((List.range n).map fun j => (j, (f j).1, (f j).2)) = jcells ((List.range n).map f)
  | 0 => rfl
  | n + 1 => by
    rw [List.range_succ, List.map_append, List.map_append]
    show icells (_ ++ [_]) = jcells (_ ++ [_])
    rw [icells_snoc, jcells_snoc, icells_map f n]
theorem range_get (L : List (Int × Int)) : (List.range L.length).map (fun j => L[j]?.getD (0, 0)) = L := by
  apply List.ext_getElem
  · simp
  · intro i h1 h2
    simp [List.getElem?_eq_getElem h2]
theorem icells_upto (L : List (Int × Int)) : icells (upto (itm L) L.length) = jcells L := by
  have := icells_map (fun j => L[j]?.getD (0, 0)) L.length
  rw [range_get] at this
  exact this
/-- a queue at block qb; its items lie in block gq. -/
def QAt (w : World) (qb : Nat) (gq : Option Nat) (L : List (Int × Int)) : Prop :=
  ∃ sa cap, Blk w qb #[.slice sa L.length cap] ∧ (Value.slice sa L.length cap).ownBlock = gq ∧ w.ownsRow (qb + 1) 34 2 (.slice sa L.length cap) L.length (jcells L)
/-- but for a queue's two blocks all is as it was. -/
structure Turn (w w' : World) (qb : Nat) (gq : Option Nat) : Prop where
  os : w'.os = w.os
  tape : w'.tape = w.tape
  output : w'.output = w.output
  size : w.heap.size ≤ w'.heap.size
  block : ∀ k, k < w.heap.size → k ≠ qb → some k ≠ gq → w'.heap[k]? = w.heap[k]?
section
variable {w w1 w2 w' : World} {qb : Nat} {gq : Option Nat} {L : List (Int × Int)}
theorem Turn.refl (w : World) (qb : Nat) (gq : Option Nat) : Turn w w qb gq := ⟨rfl, rfl, rfl, Nat.le_refl _, fun _ _ _ _ => rfl⟩
theorem Turn.below (h : Turn w w1 qb gq) (hb : Below w1.heap.size w1 w2) : Turn w w2 qb gq :=
  ⟨hb.os.trans h.os, hb.tape.trans h.tape, hb.output.trans h.output, Nat.le_trans h.size hb.size, fun k hk h1 h2 => (hb.block k (Nat.lt_of_lt_of_le hk h.size)).trans (h.block k hk h1 h2)⟩
theorem Turn.grown {row : Option Nat} (h : Turn w w1 qb gq) (hg : w1.grownBy w2 row) (hr : row = gq ∨ ∀ k, row = some k → k = qb ∨ w.heap.size ≤ k) : Turn w w2 qb gq :=
  ⟨hg.os.trans h.os, hg.tape.trans h.tape, hg.output.trans h.output, Nat.le_trans h.size hg.size, fun k hk h1 h2 => (hg.block k (Nat.lt_of_lt_of_le hk h.size) (by
    rcases hr with rfl | hr
    · exact h2
    · intro e; rcases hr k e.symm with h3 | h3 <;> omega)).trans (h.block k hk h1 h2)⟩
theorem Turn.set (h : Turn w w1 qb gq) (v : Value) : Turn w (w1.setCell ⟨qb, 0, none⟩ v) qb gq := h.grown (gr_set (gr_refl w1 (some qb)) _ v (.inl rfl)) (.inr (fun k e => by cases e; exact .inl rfl))
theorem bel_turn {w0 : World} (h : Below w0.heap.size w0 w1) (t : Turn w1 w2 qb gq) (h1 : w0.heap.size ≤ qb) (h2 : ∀ k, gq = some k → w0.heap.size ≤ k) : Below w0.heap.size w0 w2 :=
  ⟨t.os.trans h.os, t.tape.trans h.tape, t.output.trans h.output, Nat.le_trans h.size t.size, fun k hk => (t.block k (Nat.lt_of_lt_of_le hk h.size) (by omega) (fun e => by have := h2 k e.symm; omega)).trans (h.block k hk)⟩
theorem Blk.turn {b : Nat} {cs : Array Value} (h : Blk w b cs) (t : Turn w w' qb gq) (h1 : b ≠ qb) (h2 : some b ≠ gq) : Blk w' b cs :=
  ⟨Nat.lt_of_lt_of_le h.lt t.size, fun i => by rw [World.cell?_of_block (w := w) (t.block b h.lt h1 h2)]; exact h.cell i, fun i => by rw [World.frozen?_of_block (w := w) (t.block b h.lt h1 h2)]; exact h.free i⟩
theorem QAt.grown {row : Option Nat} (h : QAt w qb gq L) (hg : w.grownBy w' row) (h1 : some qb ≠ row) (h2 : gq = none ∨ gq ≠ row) : QAt w' qb gq L := by
  obtain ⟨sa, cap, hb, hv, ho⟩ := h
  exact ⟨sa, cap, hb.grown hg h1, hv, ho.kept hg (by rw [hv]; exact h2)⟩
theorem QAt.call (h : QAt w qb gq L) (hb : Below w.heap.size w w') : QAt w' qb gq L := h.grown (gr_below hb none) (by simp) (by cases gq <;> simp)
theorem QAt.alloc (h : QAt w qb gq L) (o : Obj) : QAt (w.alloc o) qb gq L := h.call (bel_alloc (bel_refl w) o)
theorem QAt.drew (h : QAt w qb gq L) : QAt w.drew qb gq L := h.call (bel_drew (bel_refl w))
theorem QAt.lt (h : QAt w qb gq L) : qb < w.heap.size ∧ ∀ k, gq = some k → qb < k ∧ k < w.heap.size := by
  obtain ⟨sa, cap, hb, hv, ho⟩ := h
  exact ⟨hb.lt, fun k hk => by have := ho.lt k (hv.trans hk); omega⟩
theorem QAt.isQ (h : QAt w qb gq L) : IsQ w.heap.size w (some ⟨qb, 0, none⟩) L := by
  obtain ⟨sa, cap, hb, hv, ho⟩ := h
  refine .inr ⟨qb, _, rfl, hb.lt, by rw [hb.cell]; rfl, ?_⟩
  rcases ho.2 with ⟨e, hn⟩ | ⟨g, cap', cur, e, hg, hh, hle, hm, hs, ht⟩
  · exact .inl ⟨e, List.length_eq_zero_iff.1 hn⟩
  · simp only [Value.slice.injEq] at e
    obtain ⟨rfl, _, rfl⟩ := e
    refine .inr ⟨g, cap, rfl, (Array.getElem?_eq_some_iff.1 hh).1, fun j hj => ?_⟩
    have hi := jcells_get L j hj
    have e1 : (itm L j).2.1 = L[j].1 := itm_lt L j hj
    have e2 : (itm L j).2.2 = L[j].2 := by simp [itm, List.getElem?_eq_getElem hj]
    have q := ho.cells (g := g) rfl
    have a0 : ∀ k, (⟨g, 0, none⟩ : Addr).add k = ⟨g, k, none⟩ := fun k => by unfold Addr.add; split <;> simp_all
    rw [e1, e2]
    refine ⟨?_, ?_⟩
    · have := q _ _ hi.1; rwa [a0] at this
    · have := q _ _ hi.2; rwa [a0] at this
end
theorem find_any (w : World) (p : Option Addr) (L : List (Int × Int)) (hI : IsQ w.heap.size w p L) (hlen : L.length ≤ 1000000) (id : Int) : Calls Try.prog 26 #[.pointer p, .int .i64 id] w fun e w' => e = .returned (.int .i64 (findI L id)) ∧ Below w.heap.size w w' :=
  (callsIn_wide (n := 3)).1 (find_in Fence.wide 3 trivial trivial trivial rfl (Nat.le_refl _) p id L hlen w hI)
theorem sum_any (w : World) (p : Option Addr) (L : List (Int × Int)) (hI : IsQ w.heap.size w p L) (hlen : L.length ≤ 1000000) : Calls Try.prog 15 #[.pointer p] w fun e w' => e = .returned (.int .i64 (sumW (upto (itm L) L.length))) ∧ Below w.heap.size w w' :=
  (callsIn_wide (n := 3)).1 (sum_in Fence.wide 3 trivial trivial trivial rfl (Nat.le_refl _) p L hlen w hI)
theorem list_any (w : World) (p : Option Addr) (L : List (Int × Int)) (hI : IsQ w.heap.size w p L) (hlen : L.length ≤ 1000000) : Calls Try.prog 11 #[.pointer p] w fun e w' => ∃ v, e = .returned v ∧ w'.ownsRow w.heap.size 34 2 v L.length (jcells L) ∧ Below w.heap.size w w' := by
  have := (callsIn_wide (n := 3)).1 (list_in Fence.wide 3 trivial trivial trivial rfl (Nat.le_refl _) p L hlen w hI)
  rw [icells_upto] at this
  exact this
theorem new_any (w : World) : Calls Try.prog 18 #[] w fun e w' => e = .returned (.pointer (some ⟨w.heap.size, 0, none⟩)) ∧ QAt w' w.heap.size none [] ∧ Below w.heap.size w w' := by
  go_enter Try.func18, Try.ntmps18
  go_wp2
  go_ret
  exact ⟨rfl, ⟨none, 0, Blk.new _ _ _, rfl, World.ownsRow_nil _ _ _ _⟩, bel_alloc (bel_refl w) _⟩
theorem len_any (w : World) (qb : Nat) (gq : Option Nat) (L : List (Int × Int)) (h : QAt w qb gq L) : Calls Try.prog 17 #[.pointer (some ⟨qb, 0, none⟩)] w fun e w' => e = .returned (.int .i64 (L.length : Int)) ∧ w = w' := by
  obtain ⟨sa, cap, hb, hv, ho⟩ := h
  have hc := hb.cell
  go_enter Try.func17, Try.ntmps17
  go_wp2
  go_ret
  exact ⟨rfl, rfl⟩
theorem len_nil (w : World) : Calls Try.prog 17 #[.pointer none] w fun e w' => e = .returned (.int .i64 0) ∧ w = w' := by
  go_enter Try.func17, Try.ntmps17
  go_wp2
  go_ret
  exact ⟨rfl, rfl⟩
theorem findI_nil (id : Int) : findI [] id = -1 := rfl
theorem find_nil (w : World) (id : Int) : Calls Try.prog 26 #[.pointer none, .int .i64 id] w fun e w' => e = .returned (.int .i64 (-1)) ∧ Below w.heap.size w w' := by
  have := find_any w none [] (.inl ⟨rfl, rfl⟩) (by decide) id
  rwa [findI_nil] at this
theorem findI_pos {L : List (Int × Int)} {id : Int} (h : 0 ≤ findI L id) : ∃ k : Nat, findI L id = k ∧ k < L.length := by
  unfold findI at h ⊢
  split at h
  · rename_i hlt
    exact ⟨_, if_pos hlt, hlt⟩
  · omega
theorem findI_neg {L : List (Int × Int)} {id : Int} (h : ¬ 0 ≤ findI L id) : findI L id = -1 := by
  unfold findI at h ⊢
  split at h
  · omega
  · rename_i hlt
    rw [if_neg hlt]
def getQ (L : List (Int × Int)) (id : Int) : Int := if 0 ≤ findI L id then (L[(findI L id).toNat]?.getD (0, 0)).2 else 0
set_option maxHeartbeats 1000000 in
theorem get_any (w : World) (qb : Nat) (gq : Option Nat) (L : List (Int × Int)) (h : QAt w qb gq L) (hlen : L.length ≤ 1000000) (id : Int) :
    Calls Try.prog 13 #[.pointer (some ⟨qb, 0, none⟩), .int .i64 id] w fun e w' => e = .returned (.tuple #[.int .i64 (getQ L id), .bool (decide (0 ≤ findI L id))]) ∧ Below w.heap.size w w' := by
  have cf := Lib.hid (find_any w (some ⟨qb, 0, none⟩) L h.isQ hlen id)
  have hB := bel_refl w
  have h0 := h
  obtain ⟨sa, cap, hb, hv, ho⟩ := h
  by_cases hk : 0 ≤ findI L id
  · obtain ⟨k, e, hlt⟩ := findI_pos hk
    have HQ := Lib.hid (show getQ L id = L[k].2 ∧ decide (0 ≤ findI L id) = true by
      refine ⟨?_, by rw [e]; simp⟩
      unfold getQ
      rw [if_pos hk, e]
      simp [List.getElem?_eq_getElem hlt])
    rw [e] at cf
    obtain ⟨g, rfl⟩ : ∃ g, sa = some ⟨g, 0, none⟩ := by
      rcases ho.2 with ⟨e1, e2⟩ | ⟨g, cap', cur, e1, _⟩
      · omega
      · simp only [Value.slice.injEq] at e1; exact ⟨g, e1.1⟩
    have q := (jcells_get L k hlt).2
    rw [← ho.cellAt (k * 2 + 1) (by omega)] at q
    generalize L[k].2 = x at *
    have hk0 : (0 : Int) ≤ (k : Int) := by omega
    have hk1 : (k : Int) < (L.length : Int) := by omega
    have hd1 : decide ((k : Int) < 0) = false := by simp
    clear hk e hlt ho h0
    go_enter Try.func13, Try.ntmps13
    go_wp2_with fail
    refine cf.out.mono ?_
    rintro e' w1 ⟨rfl, hb1⟩
    have hc := (hb.call hb1).cell
    have q1 := cell_call q hb1
    replace hB := bel_call hb1 hB
    clear hb1 hb q
    go_wp2_with fail
    go_ret2
    exact ⟨by rw [HQ.out.1, HQ.out.2]; rfl, hB⟩
  · have e := findI_neg hk
    have HQ := Lib.hid (show getQ L id = 0 ∧ decide (0 ≤ findI L id) = false by
      refine ⟨?_, by rw [e]; decide⟩
      unfold getQ
      rw [if_neg hk])
    rw [e] at cf
    clear hk e ho h0
    go_enter Try.func13, Try.ntmps13
    go_wp2_with fail
    refine cf.out.mono ?_
    rintro e' w1 ⟨rfl, hb1⟩
    replace hB := bel_call hb1 hB
    go_wp2_with fail
    go_ret2
    exact ⟨by rw [HQ.out.1, HQ.out.2]; rfl, hB⟩
theorem get_nil (w : World) (id : Int) : Calls Try.prog 13 #[.pointer none, .int .i64 id] w fun e w' => e = .returned (.tuple #[.int .i64 0, .bool false]) ∧ Below w.heap.size w w' := by
  have hB := bel_refl w
  go_enter Try.func13, Try.ntmps13
  go_wp2_with fail
  refine (find_nil _ _).mono ?_
  rintro e' w1 ⟨rfl, hb1⟩
  go_wp2_with fail
  go_ret2
  exact ⟨rfl, bel_call hb1 hB⟩
def putE (L : List (Int × Int)) (id qty : Int) : Int := if id < 1 ∨ qty < 1 ∨ 1073741824 < qty then 1 else if 0 ≤ findI L id then 7 else if 256 ≤ L.length then 5 else 0
def putN (L : List (Int × Int)) (id qty : Int) : List (Int × Int) := if putE L id qty = 0 then L ++ [(id, qty)] else L
set_option maxHeartbeats 4000000 in
theorem put_any (w : World) (qb : Nat) (gq : Option Nat) (L : List (Int × Int)) (h : QAt w qb gq L) (hlen : L.length ≤ 256) (id qty : Int) :
    Calls Try.prog 12 #[.pointer (some ⟨qb, 0, none⟩), .int .i64 id, .int .i64 qty] w fun e w' => e = .returned (.int .i64 (putE L id qty)) ∧ (∃ gq', QAt w' qb gq' (putN L id qty) ∧ (gq' = gq ∨ ∃ k, gq' = some k ∧ w.heap.size ≤ k)) ∧ Turn w w' qb gq ∧ (putE L id qty ≠ 0 → Below w.heap.size w w') := by
  have cf := Lib.hid (find_any w (some ⟨qb, 0, none⟩) L h.isQ (by omega) id)
  have h0 := Lib.hid h
  by_cases ha : id < 1 ∨ qty < 1 ∨ 1073741824 < qty
  · have HQ := Lib.hid (show putE L id qty = 1 ∧ putN L id qty = L by
      have : putE L id qty = 1 := by unfold putE; rw [if_pos ha]
      exact ⟨this, by unfold putN; rw [this]; rfl⟩)
    have hd : decide (id < 1) = true ∨ (decide (id < 1) = false ∧ decide (qty < 1) = true) ∨ (decide (id < 1) = false ∧ decide (qty < 1) = false ∧ decide (1073741824 < qty) = true) := by
      simp only [decide_eq_true_eq, decide_eq_false_iff_not]; omega
    clear ha h
    go_enter Try.func12, Try.ntmps12
    rcases hd with h1 | ⟨h1, h2⟩ | ⟨h1, h2, h3⟩
    all_goals
      go_wp2_with fail
      go_ret
      exact ⟨by rw [HQ.out.1]; rfl, ⟨gq, by rw [HQ.out.2]; exact h0.out, .inl rfl⟩, Turn.refl _ _ _, fun _ => bel_refl _⟩
  · have d1 : decide (id < 1) = false := by simp only [decide_eq_false_iff_not]; omega
    have d2 : decide (qty < 1) = false := by simp only [decide_eq_false_iff_not]; omega
    have d3 : decide (1073741824 < qty) = false := by simp only [decide_eq_false_iff_not]; omega
    by_cases hk : 0 ≤ findI L id
    · have HQ := Lib.hid (show putE L id qty = 7 ∧ putN L id qty = L by
        have : putE L id qty = 7 := by unfold putE; rw [if_neg ha, if_pos hk]
        exact ⟨this, by unfold putN; rw [this]; rfl⟩)
      have d4 : decide (0 ≤ findI L id) = true := decide_eq_true hk
      clear ha h hk
      generalize findI L id = fi at *
      go_enter Try.func12, Try.ntmps12
      go_wp2_with fail
      refine cf.out.mono ?_
      rintro e' w1 ⟨rfl, hb1⟩
      go_wp2_with fail
      go_ret
      exact ⟨by rw [HQ.out.1]; rfl, ⟨gq, by rw [HQ.out.2]; exact h0.out.call hb1, .inl rfl⟩, (Turn.refl _ _ _).below hb1, fun _ => hb1⟩
    · have e := findI_neg hk
      obtain ⟨sa, cap, hb, hv, ho⟩ := h
      by_cases hl : 256 ≤ L.length
      · have HQ := Lib.hid (show putE L id qty = 5 ∧ putN L id qty = L by
          have : putE L id qty = 5 := by unfold putE; rw [if_neg ha, if_neg hk, if_pos hl]
          exact ⟨this, by unfold putN; rw [this]; rfl⟩)
        have d5 : decide ((256 : Int) ≤ (L.length : Int)) = true := by simp; omega
        rw [e] at cf
        clear ha hk e ho
        go_enter Try.func12, Try.ntmps12
        go_wp2_with fail
        refine cf.out.mono ?_
        rintro e' w1 ⟨rfl, hb1⟩
        have hc := (hb.call hb1).cell
        go_wp2_with fail
        go_ret
        exact ⟨by rw [HQ.out.1]; rfl, ⟨gq, by rw [HQ.out.2]; exact h0.out.call hb1, .inl rfl⟩, (Turn.refl _ _ _).below hb1, fun _ => hb1⟩
      · have HQ := Lib.hid (show putE L id qty = 0 ∧ putN L id qty = L ++ [(id, qty)] by
          have : putE L id qty = 0 := by unfold putE; rw [if_neg ha, if_neg hk, if_neg hl]
          exact ⟨this, by unfold putN; rw [if_pos this]⟩)
        have d5 : decide ((256 : Int) ≤ (L.length : Int)) = false := by simp; omega
        rw [e] at cf
        have hmx : L.length + 1 ≤ maxLen := by unfold maxLen; omega
        have hby : (L.length + 1) * 16 ≤ 140737488355328 := by omega
        have hqs : qb < w.heap.size := hb.lt
        clear ha hk e hl h0
        rcases ho.2 with ⟨e1, e2⟩ | ⟨g, cap0, cur, e1, _⟩
        · obtain rfl := List.length_eq_zero_iff.1 e2
          simp only [Value.slice.injEq] at e1
          obtain ⟨rfl, _, rfl⟩ := e1
          go_enter Try.func12, Try.ntmps12
          go_wp2_with fail
          refine cf.out.mono ?_
          rintro e' w1 ⟨rfl, hb1⟩
          have A := hb.call hb1
          have hc := A.cell
          have ho1 := ho.kept (gr_below hb1 none) (by rw [hv]; cases gq <;> simp)
          have hsz := hb1.size
          go_wp2_with (at_builtin; refine wpList_append_own_at _ rfl _ _ 26 rfl (qb + 1) 34 _ _ 2 16 Try.underlying26 rfl rfl rfl rfl rfl (by decide) (.slice none ([] : List (Int × Int)).length 0) ([] : List (Int × Int)).length (jcells ([] : List (Int × Int))) rfl (ho1.alloc _) ⟨w1.heap.size, 0, none⟩ 1 1 [.int .i64 id, .int .i64 qty] rfl rfl (two_cells w1 _ _ 0) (by simp [Value.oneCell']) hmx hby (by simp; omega) ?_; intro v' w2 hown' hg _ hat; obtain ⟨g', cap', rfl⟩ := ownsRow_succ hown'; have A2 := (A.alloc (.cells #[.int .i64 id, .int .i64 qty] 34)).grown hg (fun e => by have := ho.lt _ e.symm; omega); clear hc; have hc := A2.cell; have hf := A2.free)
          go_ret
          have hlt' := hown'.lt g' rfl
          refine ⟨by rw [HQ.out.1]; rfl, ⟨some g', ?_, ?_⟩, (((Turn.refl w qb gq).below hb1).below (bel_alloc (bel_refl w1) _) |>.grown hg (.inl hv)).set _, fun h => absurd HQ.out.1 h⟩
          · rw [HQ.out.2]
            refine ⟨some ⟨g', 0, none⟩, cap', ?_, rfl, ?_⟩
            · rw [List.length_append]
              exact A2.set 0 _
            · rw [List.length_append, jcells_snoc]
              exact hown'.kept (gr_set (gr_refl w2 (some qb)) _ _ (.inl rfl)) (.inr (fun e => by have : g' = qb := Option.some.inj e; omega))
          · rcases hat with e | e
            · exact .inl (e.trans hv)
            · exact .inr ⟨_, e, by simp; omega⟩
        · simp only [Value.slice.injEq] at e1
          obtain ⟨rfl, _, rfl⟩ := e1
          go_enter Try.func12, Try.ntmps12
          go_wp2_with fail
          refine cf.out.mono ?_
          rintro e' w1 ⟨rfl, hb1⟩
          have A := hb.call hb1
          have hc := A.cell
          have ho1 := ho.kept (gr_below hb1 none) (by rw [hv]; cases gq <;> simp)
          have hsz := hb1.size
          go_wp2_with (at_builtin; refine wpList_append_own_at _ rfl _ _ 26 rfl (qb + 1) 34 _ _ 2 16 Try.underlying26 rfl rfl rfl rfl rfl (by decide) (.slice (some ⟨g, 0, none⟩) L.length cap) L.length (jcells L) rfl (ho1.alloc _) ⟨w1.heap.size, 0, none⟩ 1 1 [.int .i64 id, .int .i64 qty] rfl rfl (two_cells w1 _ _ 0) (by simp [Value.oneCell']) hmx hby (by simp; omega) ?_; intro v' w2 hown' hg _ hat; obtain ⟨g', cap', rfl⟩ := ownsRow_succ hown'; have A2 := (A.alloc (.cells #[.int .i64 id, .int .i64 qty] 34)).grown hg (fun e => by have := ho.lt _ e.symm; omega); clear hc; have hc := A2.cell; have hf := A2.free)
          go_ret
          have hlt' := hown'.lt g' rfl
          refine ⟨by rw [HQ.out.1]; rfl, ⟨some g', ?_, ?_⟩, (((Turn.refl w qb gq).below hb1).below (bel_alloc (bel_refl w1) _) |>.grown hg (.inl hv)).set _, fun h => absurd HQ.out.1 h⟩
          · rw [HQ.out.2]
            refine ⟨some ⟨g', 0, none⟩, cap', ?_, rfl, ?_⟩
            · rw [List.length_append]
              exact A2.set 0 _
            · rw [List.length_append, jcells_snoc]
              exact hown'.kept (gr_set (gr_refl w2 (some qb)) _ _ (.inl rfl)) (.inr (fun e => by have : g' = qb := Option.some.inj e; omega))
          · rcases hat with e | e
            · exact .inl (e.trans hv)
            · exact .inr ⟨_, e, by simp; omega⟩
theorem put_nil (w : World) (id qty : Int) : Calls Try.prog 12 #[.pointer none, .int .i64 id, .int .i64 qty] w fun e w' => e = .returned (.int .i64 1) ∧ w = w' := by
  go_enter Try.func12, Try.ntmps12
  go_wp2
  go_ret
  exact ⟨rfl, rfl⟩
end Go.Proofs.Ytkebpibcoklglaa
