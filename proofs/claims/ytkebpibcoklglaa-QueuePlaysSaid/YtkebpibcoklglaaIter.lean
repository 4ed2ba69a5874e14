/-
  The iterator over a queue's items, and the functions that range over it: find, Sum, List.
-/
import Derived.RangeFuncNested
import Derived.RangeFuncBound
import Derived.RangeFuncCalls
import Derived.RangeFuncLeaves
import Derived.RangeFuncBox
import Derived.Shelf.Abstract
import Derived.Shelf.RegionOpen
import Derived.WalkKit
import Derived.OwnWalkIn
import Derived.TacticsInMore
import Derived.LoopNIn
import Derived.LoopIn
import Derived.Maps.AppendAt
import Derived.Lib.Hide
import Derived.Test.YtkebpibcoklglaaBlk
namespace Go.Proofs.Ytkebpibcoklglaa
open Go.RowKit Go.Shelf
set_option linter.unusedSimpArgs false
set_option linter.unusedVariables false
attribute [local go_sem] Oper.semAt_some
/-- what has come when k rounds are over: f 0, .., f (k - 1). -/
def upto {α : Type} (f : Nat → α) (k : Nat) : List α := (List.range k).map f
theorem upto_succ {α : Type} (f : Nat → α) (k : Nat) : upto f (k + 1) = upto f k ++ [f k] := by simp [upto, List.range_succ]
theorem upto_length {α : Type} (f : Nat → α) (k : Nat) : (upto f k).length = k := by simp [upto]
/-- a place, and the item that stands there. -/
def itm (L : List (Int × Int)) (j : Nat) : Nat × Int × Int := (j, (L[j]?.getD (0, 0)).1, (L[j]?.getD (0, 0)).2)
/-- a pointer to a queue with the items L, in blocks below n₀; or nil, and no items. -/
def IsQ (n₀ : Nat) (W : World) (p : Option Addr) (L : List (Int × Int)) : Prop :=
  (p = none ∧ L = []) ∨ ∃ qb v, p = some ⟨qb, 0, none⟩ ∧ qb < n₀ ∧ W.cell? ⟨qb, 0, none⟩ = some v ∧
    ((v = .slice none 0 0 ∧ L = []) ∨ ∃ g cap, v = .slice (some ⟨g, 0, none⟩) L.length cap ∧ g < n₀ ∧ ∀ j, j < L.length → W.cell? ⟨g, j * 2, none⟩ = some (.int .i64 (itm L j).2.1) ∧ W.cell? ⟨g, j * 2 + 1, none⟩ = some (.int .i64 (itm L j).2.2))
theorem IsQ.below {n₀ : Nat} {A B : World} (h : Below n₀ A B) {p : Option Addr} {L : List (Int × Int)} : IsQ n₀ A p L → IsQ n₀ B p L
  | .inl e => .inl e
  | .inr ⟨qb, v, e, hq, hc, hv⟩ => .inr ⟨qb, v, e, hq, (h.cell (p := ⟨qb, 0, none⟩) hq).trans hc, by
    rcases hv with hv | ⟨g, cap, e2, hg, hi⟩
    · exact .inl hv
    · exact .inr ⟨g, cap, e2, hg, fun j hj => ⟨(h.cell (p := ⟨g, j * 2, none⟩) hg).trans (hi j hj).1, (h.cell (p := ⟨g, j * 2 + 1, none⟩) hg).trans (hi j hj).2⟩⟩⟩
set_option maxRecDepth 100000 in
set_option maxHeartbeats 2000000 in
/-- the iterator's closure, at a queue with items. -/
theorem all1_in (F : Fence) (n : Nat) (h28 : F.fn 28) (hro : F.round = none) (hn : 1 ≤ n) (l Bs n₀ qb g cap : Nat) (L : List (Int × Int)) (hlen : L.length ≤ 1000000) (hqb : qb < n₀) (hg : g < n₀) (J Jx : List (Nat × Int × Int) → World → Prop) (W : World) (hn₀ : n₀ ≤ W.heap.size) (hJ : AbidesFrom W.heap.size J)
    (hY : ∀ pre x W, J pre W → pre.length < L.length → YieldAt F (n - 1) Try.prog l #[.int .i64 (x.1 : Int), .agg #[.int .i64 x.2.1, .int .i64 x.2.2]] W fun e W' =>
      (e = .returned (.bool true) ∧ J (pre ++ [x]) W' ∧ Below n₀ W W') ∨ (e = .returned (.bool false) ∧ Jx (pre ++ [x]) W'))
    (hBs : W.cell? ⟨Bs, 0, none⟩ = some (.pointer (some ⟨qb, 0, none⟩))) (hq : W.cell? ⟨qb, 0, none⟩ = some (.slice (some ⟨g, 0, none⟩) L.length cap)) (hc : ∀ j, j < L.length → W.cell? ⟨g, j * 2, none⟩ = some (.int .i64 (itm L j).2.1) ∧ W.cell? ⟨g, j * 2 + 1, none⟩ = some (.int .i64 (itm L j).2.2)) (h0 : J [] W) :
    CallsIn F n Try.prog 28 #[.func (.yield l) #[] #[], .pointer (some ⟨Bs, 0, none⟩)] W fun e W' => (∃ v, e = .returned v) ∧
      ((∃ ys, ys = upto (itm L) L.length ∧ J ys W') ∨ (∃ pre, (∃ k, k ≤ L.length ∧ pre = upto (itm L) k) ∧ Jx pre W')) := by
  refine callsIn_of_wp Try.func28 rfl h28 ?_ hro
  simp only [Try.ntmps28, List.size_toArray, List.length_cons, List.length_nil, Nat.reduceAdd, Nat.reduceSub, Array.replicate_succ, Array.replicate_zero, List.push_toArray, List.append_toArray, List.nil_append, List.cons_append]
  gi_wp2
  gi_loopw [12] (fun i wr => ∃ k : Nat, k ≤ L.length ∧ i = .int .i64 k ∧ J (upto (itm L) k) wr ∧ Below n₀ W wr)
    (fun i _ => L.length - (intOf i).toNat)
  case atStart => exact ⟨0, Nat.zero_le _, rfl, h0, Below.refl _ _⟩
  case round =>
    obtain ⟨k, hk, rfl, hJs, hnx⟩ := hrel
    by_cases hlt : k < L.length
    · have hcx1 : wr.cell? ⟨g, k * 2, none⟩ = some (.int .i64 (itm L k).2.1) := (hnx.cell (p := ⟨g, k * 2, none⟩) hg).trans (hc k hlt).1
      have hcx2 : wr.cell? ⟨g, k * 2 + 1, none⟩ = some (.int .i64 (itm L k).2.2) := (hnx.cell (p := ⟨g, k * 2 + 1, none⟩) hg).trans (hc k hlt).2
      have hJ1 : J (upto (itm L) k) (wr.alloc (.cells #[.int .i64 (itm L k).2.1, .int .i64 (itm L k).2.2] 34)) := by
        have hsz := hnx.size
        exact hJ _ _ _ none hJs (World.grownBy_alloc _ _ _) (fun r e => by cases e)
      obtain ⟨fn, tmps, assign, body, hy, hR⟩ := hY _ (itm L k) _ hJ1 (by rw [upto_length]; exact hlt)
      have hk1 : (itm L k).1 = k := rfl
      rw [hk1] at hy
      have hR2 := upto_succ (itm L) k
      generalize hx : itm L k = x at *
      gi_wp2
      refine hR.mono ?_
      rintro e W3 (⟨rfl, hJ3, hk3⟩ | ⟨rfl, hJx3⟩)
      · have hk4 : Below n₀ wr W3 := ((Below.refl _ wr).alloc (by have := hnx.size; omega) _).trans hk3
        gi_wp2
        go_roundw
        case rel => exact ⟨k + 1, by omega, by simp, by rw [hR2]; exact hJ3, hnx.trans hk4⟩
        case measure => simp [intOf]; omega
      · gi_wp2
        refine bodyPost_ret (results_none rfl _ _ _) rfl ?_
        exact ⟨⟨_, rfl⟩, .inr ⟨_, ⟨k + 1, by omega, hR2.symm⟩, hJx3⟩⟩
    · obtain rfl : k = L.length := by omega
      gi_wp2
      go_end0
      exact ⟨⟨_, rfl⟩, .inl ⟨_, rfl, hJs⟩⟩
set_option maxRecDepth 100000 in
set_option maxHeartbeats 1000000 in
/-- .. of a queue without any. -/
theorem all1_none_in (F : Fence) (n : Nat) (h28 : F.fn 28) (hro : F.round = none) (l Bs qb : Nat) (J : List (Nat × Int × Int) → World → Prop) (W : World)
    (hBs : W.cell? ⟨Bs, 0, none⟩ = some (.pointer (some ⟨qb, 0, none⟩))) (hq : W.cell? ⟨qb, 0, none⟩ = some (.slice none 0 0)) (h0 : J [] W) :
    CallsIn F n Try.prog 28 #[.func (.yield l) #[] #[], .pointer (some ⟨Bs, 0, none⟩)] W fun e W' => (∃ v, e = .returned v) ∧ J [] W' := by
  refine callsIn_of_wp Try.func28 rfl h28 ?_ hro
  simp only [Try.ntmps28, List.size_toArray, List.length_cons, List.length_nil, Nat.reduceAdd, Nat.reduceSub, Array.replicate_succ, Array.replicate_zero, List.push_toArray, List.append_toArray, List.nil_append, List.cons_append]
  gi_wp2
  gi_loopw [12] (fun i wr => i = .int .i64 0 ∧ J [] wr) (fun _ _ => 0)
  case atStart => exact ⟨rfl, h0⟩
  case round =>
    obtain ⟨rfl, hJs⟩ := hrel
    gi_wp2
    go_end0
    exact ⟨⟨_, rfl⟩, hJs⟩
set_option maxRecDepth 100000 in
set_option maxHeartbeats 1000000 in
/-- .. of no queue. -/
theorem all1_nil_in (F : Fence) (n : Nat) (h28 : F.fn 28) (hro : F.round = none) (l Bs : Nat) (J : List (Nat × Int × Int) → World → Prop) (W : World)
    (hBs : W.cell? ⟨Bs, 0, none⟩ = some (.pointer none)) (h0 : J [] W) :
    CallsIn F n Try.prog 28 #[.func (.yield l) #[] #[], .pointer (some ⟨Bs, 0, none⟩)] W fun e W' => (∃ v, e = .returned v) ∧ J [] W' := by
  refine callsIn_of_wp Try.func28 rfl h28 ?_ hro
  simp only [Try.ntmps28, List.size_toArray, List.length_cons, List.length_nil, Nat.reduceAdd, Nat.reduceSub, Array.replicate_succ, Array.replicate_zero, List.push_toArray, List.append_toArray, List.nil_append, List.cons_append]
  gi_wp2
  refine bodyPost_ret (results_none rfl _ _ _) rfl ?_
  exact ⟨⟨_, rfl⟩, h0⟩
set_option maxHeartbeats 1000000 in
/-- q.all(): the pointer is boxed; the function value captures the box. -/
theorem all_in (F : Fence) (n : Nat) (h25 : F.fn 25) (hro : F.round = none) (p : Option Addr) (w : World) :
    CallsIn F n Try.prog 25 #[.pointer p] w fun e w' => e = .returned (.func (.func 28) #[] #[.pointer (some ⟨w.heap.size, 0, none⟩)]) ∧ w' = w.alloc (.cells #[.pointer p] 24) := by
  refine callsIn_of_wp Try.func25 rfl h25 ?_ hro
  simp only [Try.ntmps25, List.size_toArray, List.length_cons, List.length_nil, Nat.reduceAdd, Nat.reduceSub, Array.replicate_succ, Array.replicate_zero, List.push_toArray, List.append_toArray, List.nil_append, List.cons_append]
  gi_wp2
  go_ret
  exact ⟨rfl, rfl⟩
/-- q.all() hands back a value that gives each place and item in order, or the first so many. -/
theorem all_stops (F : Fence) (n : Nat) (h28 : F.fn 28) (hro : F.round = none) (hn : 1 ≤ n) (Bs n₀ : Nat) (p : Option Addr) (L : List (Int × Int)) (hlen : L.length ≤ 1000000) (w : World) (hBs : Bs < w.heap.size) (hn₀ : n₀ ≤ w.heap.size)
    (hc : w.cell? ⟨Bs, 0, none⟩ = some (.pointer p)) (hI : IsQ n₀ w p L) :
    SeqStopsK F n Try.prog 28 #[.pointer (some ⟨Bs, 0, none⟩)] (fun x : Nat × Int × Int => #[Value.int .i64 (x.1 : Int), .agg #[.int .i64 x.2.1, .int .i64 x.2.2]]) (Below n₀) (fun ys => ys = upto (itm L) L.length)
      (fun pre => ∃ k, k ≤ L.length ∧ pre = upto (itm L) k) L.length w := fun l J Jx W hW hJ _ hY h0 => by
  have hc' := (hW.cell (p := ⟨Bs, 0, none⟩) hBs).trans hc
  rcases hI.below (hW.mono hn₀) with ⟨rfl, rfl⟩ | ⟨qb, v, rfl, hq, hv, ⟨rfl, rfl⟩ | ⟨g, cap, rfl, hg, hi⟩⟩
  · exact (all1_nil_in F n h28 hro l Bs J W hc' h0).mono fun e W' ⟨he, hj⟩ => ⟨he, .inl ⟨_, rfl, hj⟩⟩
  · exact (all1_none_in F n h28 hro l Bs qb J W hc' hv h0).mono fun e W' ⟨he, hj⟩ => ⟨he, .inl ⟨_, rfl, hj⟩⟩
  · exact all1_in F n h28 hro hn l Bs n₀ qb g cap L hlen hq hg J Jx W (Nat.le_trans hn₀ hW.size) hJ hY hc' hv hi h0
/-- a block of two cells. -/
def Two (W : World) (B : Nat) (a b : Int) : Prop := W.heap[B]? = some (.cells #[.int .i64 a, .int .i64 b] 34)
theorem Two.kept {W W' : World} {row : Option Nat} {B : Nat} {a b : Int} (h : Two W B a b) (hg : W.grownBy W' row) (hne : some B ≠ row) : Two W' B a b := (hg.block B (Array.getElem?_eq_some_iff.1 h).1 hne).trans h
theorem Two.new (W : World) (a b : Int) : Two (W.alloc (.cells #[.int .i64 a, .int .i64 b] 34)) W.heap.size a b := World.alloc_heap_new W _
theorem Two.c0 {W : World} {B : Nat} {a b : Int} (h : Two W B a b) : W.cell? ⟨B, 0, none⟩ = some (.int .i64 a) := by simp [World.cell?, show W.heap[B]? = _ from h]
theorem Two.c1 {W : World} {B : Nat} {a b : Int} (h : Two W B a b) : W.cell? ⟨B, 1, none⟩ = some (.int .i64 b) := by simp [World.cell?, show W.heap[B]? = _ from h]
theorem Two.notRow {W : World} {B : Nat} {a b : Int} (h : Two W B a b) {row : Option Nat} (hr : ∀ r, row = some r → ∃ o : Obj, W.heap[r]? = some o ∧ o.isCells = false) : some B ≠ row := fun e => by
  obtain ⟨o, ho, hc⟩ := hr B e.symm
  rw [show W.heap[B]? = _ from h] at ho
  cases ho
  cases hc
/-- the sum of the quantities, wrapped as it goes. -/
def sumW (l : List (Nat × Int × Int)) : Int := l.foldl (fun s x => wrap64 (s + x.2.2)) 0
theorem sumW_snoc (pre : List (Nat × Int × Int)) (x : Nat × Int × Int) : sumW (pre ++ [x]) = wrap64 (sumW pre + x.2.2) := by simp [sumW]
set_option maxRecDepth 100000 in
set_option maxHeartbeats 2000000 in
/-- Sum. -/
theorem sum_in (F : Fence) (n : Nat) (h15 : F.fn 15) (h25 : F.fn 25) (h28 : F.fn 28) (hro : F.round = none) (hn : 3 ≤ n) (p : Option Addr) (L : List (Int × Int)) (hlen : L.length ≤ 1000000) (w : World) (hI : IsQ w.heap.size w p L) :
    CallsIn F n Try.prog 15 #[.pointer p] w fun e W' => e = .returned (.int .i64 (sumW (upto (itm L) L.length))) ∧ Below w.heap.size w W' := by
  have h1 : 1 ≤ n := by omega
  refine callsIn_of_wp_marks Try.func15 rfl h15 ?_ hro
  simp only [Try.ntmps15, List.size_toArray, List.length_cons, List.length_nil, Nat.reduceAdd, Nat.reduceSub, Array.replicate_succ, Array.replicate_zero, List.push_toArray, List.append_toArray, List.nil_append, List.cons_append]
  gi_wp2_with (gi_at_call 25; refine (all_in F (n - 1) h25 hro _ _).mono ?_; rintro e w' ⟨rfl, rfl⟩)
  have bS := (Boxed.new w 2 (.int .i64 0)).alloc (.cells #[.pointer p] 24)
  have bN := Boxed.new (w.alloc (.cells #[.int .i64 0] 2)) 24 (.pointer p)
  rw [World.size_alloc] at bN
  have hB0 : Below w.heap.size w ((w.alloc (.cells #[.int .i64 0] 2)).alloc (.cells #[.pointer p] 24)) := ((Below.refl _ w).alloc (Nat.le_refl _) _).alloc (by simp) _
  have hsz : ((w.alloc (.cells #[.int .i64 0] 2)).alloc (.cells #[.pointer p] 24)).heap.size = w.heap.size + 2 := by simp
  obtain ⟨W0, hW0⟩ : ∃ W0, (w.alloc (.cells #[.int .i64 0] 2)).alloc (.cells #[.pointer p] 24) = W0 := ⟨_, rfl⟩
  rw [hW0] at bS bN hB0 hsz ⊢
  clear hW0
  refine wpIn_rangeFunc_ownH hro h1 (gf := 28) (lb := #[.pointer (some ⟨w.heap.size + 1, 0, none⟩)]) rfl h28 (enters_of Try.func28 (by kernel_rfl) rfl)
    (all_stops F (n - 1) h28 hro (by omega) (w.heap.size + 1) w.heap.size p L hlen W0 (by omega) (by omega) bN.cell (hI.below hB0)) belowK_t (belowK_b (by omega)) (Below.refl _ _) (fun _ => rfl)
    (fun pre W => Boxed W w.heap.size 2 (.int .i64 (sumW pre)) ∧ Below w.heap.size w W)
    (fun _ _ _ => False)
    (OwnFrom.and (Own.from (boxed_own _ _ _) _) (ownFrom_below (Nat.le_refl _) (by omega)))
    (fun _ _ _ _ _ hs _ _ => hs)
    ⟨bS, hB0⟩
    (fun x a' W => ∃ Bx, w.heap.size < Bx ∧ Two W Bx x.2.1 x.2.2 ∧ a' = { tmps := #[.pointer p, undef, .int .i64 0, .pointer (some ⟨w.heap.size, 0, none⟩), undef, .pointer (some ⟨Bx, 0, none⟩), .pointer p, .func (.func 28) #[] #[.pointer (some ⟨w.heap.size + 1, 0, none⟩)], .int .i64 (x.1 : Int), .agg #[.int .i64 x.2.1, .int .i64 x.2.2], undef, undef, undef, undef, undef], defers := [] })
    (fun x a' _ X Y row hs hg hr => by obtain ⟨Bx, h1, h2, h3⟩ := hs; exact ⟨Bx, h1, h2.kept hg (h2.notRow (fun r e => (hr r e).2)), h3⟩)
    ?assign ?body ?done ?stop
  case assign =>
    rintro l pre x W K ⟨bS1, hB1⟩ hK
    gi_wp2
    exact hK _ _ ((KeepsOthers.alloc _ _).from _) ((Below.refl _ W).alloc hB1.size _) ⟨bS1.alloc _, hB1.alloc hB1.size _⟩ ⟨W.heap.size, bS1.lt, Two.new W _ _, rfl⟩
  case body =>
    rintro l pre x a' W hl ⟨r, hr⟩ ⟨bS1, hB1⟩ ⟨Bx, hBx, bX, rfl⟩ hlt
    have cS := bS1.cell
    have fS := bS1.frozen
    have cX := bX.c1
    gi_wp2
    exact ⟨(KeepsOthers.setCell _ _ _).from _, (Below.refl w.heap.size W).setCell (p := ⟨w.heap.size, 0, none⟩) (Nat.le_refl _) _, ⟨by rw [sumW_snoc]; exact bS1.set _, hB1.setCell (p := ⟨w.heap.size, 0, none⟩) (Nat.le_refl _) _⟩⟩
  case done =>
    rintro D ys W hD rfl ⟨bS1, hB1⟩ hK
    have cS := bS1.cell
    gi_wp2
    refine ⟨by simp, .inl ⟨_, _, rfl, run_takeDeferred hK, ?_⟩⟩
    exact ⟨_, results_tmp rfl _ _ _, rfl, hB1.trans (belowK_b (w := w) (Nat.le_refl _) W D _ _ (by omega) hK rfl rfl)⟩
  case stop =>
    rintro D c pre W _ _ h _
    exact h.elim
/-- the items' cells, one behind the other. -/
def icells (l : List (Nat × Int × Int)) : List Value := l.flatMap fun x => [.int .i64 x.2.1, .int .i64 x.2.2]
theorem icells_snoc (l : List (Nat × Int × Int)) (x : Nat × Int × Int) : icells (l ++ [x]) = icells l ++ [.int .i64 x.2.1, .int .i64 x.2.2] := by
  unfold icells
  rw [List.flatMap_append]
  simp
theorem icells_len (l : List (Nat × Int × Int)) : (icells l).length = l.length * 2 := by
  induction l with
  | nil => rfl
  | cons x l ih =>
    unfold icells at ih ⊢
    rw [List.flatMap_cons, List.length_append, ih, List.length_cons]
    show 2 + l.length * 2 = (l.length + 1) * 2
    omega
theorem two_cells (w : World) (a b : Int) (o : Nat) : ∀ j u, [Value.int .i64 a, .int .i64 b][j]? = some u → (w.alloc (.cells #[.int .i64 a, .int .i64 b] 34)).cell? ((⟨w.heap.size, 0, none⟩ : Addr).add j) = some u := by
  intro j u hu
  have hj : j < 2 := (List.getElem?_eq_some_iff.1 hu).1
  match j, hj with
  | 0, _ => simp at hu; subst hu; simp [Addr.add]
  | 1, _ => simp at hu; subst hu; simp [Addr.add]
set_option maxRecDepth 100000 in
set_option maxHeartbeats 4000000 in
/-- List. -/
theorem list_in (F : Fence) (n : Nat) (h11 : F.fn 11) (h25 : F.fn 25) (h28 : F.fn 28) (hro : F.round = none) (hn : 3 ≤ n) (p : Option Addr) (L : List (Int × Int)) (hlen : L.length ≤ 1000000) (w : World) (hI : IsQ w.heap.size w p L) :
    CallsIn F n Try.prog 11 #[.pointer p] w fun e W' => ∃ v, e = .returned v ∧ W'.ownsRow w.heap.size 34 2 v L.length (icells (upto (itm L) L.length)) ∧ Below w.heap.size w W' := by
  have h1 : 1 ≤ n := by omega
  refine callsIn_of_wp_marks Try.func11 rfl h11 ?_ hro
  simp only [Try.ntmps11, List.size_toArray, List.length_cons, List.length_nil, Nat.reduceAdd, Nat.reduceSub, Array.replicate_succ, Array.replicate_zero, List.push_toArray, List.append_toArray, List.nil_append, List.cons_append]
  gi_wp2_with (gi_at_call 25; refine (all_in F (n - 1) h25 hro _ _).mono ?_; rintro e w' ⟨rfl, rfl⟩)
  have bS := (Boxed.new w 26 (.slice none 0 0)).alloc (.cells #[.pointer p] 24)
  have bN := Boxed.new (w.alloc (.cells #[.slice none 0 0] 26)) 24 (.pointer p)
  rw [World.size_alloc] at bN
  have hB0 : Below w.heap.size w ((w.alloc (.cells #[.slice none 0 0] 26)).alloc (.cells #[.pointer p] 24)) := ((Below.refl _ w).alloc (Nat.le_refl _) _).alloc (by simp) _
  have hsz : ((w.alloc (.cells #[.slice none 0 0] 26)).alloc (.cells #[.pointer p] 24)).heap.size = w.heap.size + 2 := by simp
  obtain ⟨W0, hW0⟩ : ∃ W0, (w.alloc (.cells #[.slice none 0 0] 26)).alloc (.cells #[.pointer p] 24) = W0 := ⟨_, rfl⟩
  rw [hW0] at bS bN hB0 hsz ⊢
  clear hW0
  refine wpIn_rangeFunc_ownH hro h1 (gf := 28) (lb := #[.pointer (some ⟨w.heap.size + 1, 0, none⟩)]) rfl h28 (enters_of Try.func28 (by kernel_rfl) rfl)
    (all_stops F (n - 1) h28 hro (by omega) (w.heap.size + 1) w.heap.size p L hlen W0 (by omega) (by omega) bN.cell (hI.below hB0)) belowK_t (belowK_b (by omega)) (Below.refl _ _) (fun _ => rfl)
    (fun pre W => (∃ v, Boxed W w.heap.size 26 v ∧ W.ownsRow w.heap.size 34 2 v pre.length (icells pre) ∧ True) ∧ Below w.heap.size w W)
    (fun _ _ _ => False)
    (OwnFrom.and (Own.from (holdsRow_own w.heap.size w.heap.size 26 34 2 (fun pre => pre.length) (fun pre => icells pre) (fun pre v => True)) _) (ownFrom_below (Nat.le_refl _) (by omega)))
    (fun _ _ _ _ _ hs _ _ => hs)
    ⟨⟨_, bS, World.ownsRow_nil _ _ _ _, trivial⟩, hB0⟩
    (fun x a' W => ∃ Bx, w.heap.size < Bx ∧ Two W Bx x.2.1 x.2.2 ∧ a' = { tmps := #[.pointer p, undef, .slice none 0 0, .pointer (some ⟨w.heap.size, 0, none⟩), undef, .pointer (some ⟨Bx, 0, none⟩), .pointer p, .func (.func 28) #[] #[.pointer (some ⟨w.heap.size + 1, 0, none⟩)], .int .i64 (x.1 : Int), .agg #[.int .i64 x.2.1, .int .i64 x.2.2], undef, undef, undef, undef, undef], defers := [] })
    (fun x a' _ X Y row hs hg hr => by obtain ⟨Bx, h1, h2, h3⟩ := hs; exact ⟨Bx, h1, h2.kept hg (h2.notRow (fun r e => (hr r e).2)), h3⟩)
    ?assign ?body ?done ?stop
  case assign =>
    rintro l pre x W K ⟨⟨v, bS1, hrow, _⟩, hB1⟩ hK
    gi_wp2
    exact hK _ _ ((KeepsOthers.alloc _ _).from _) ((Below.refl _ W).alloc hB1.size _) ⟨⟨v, bS1.alloc _, hrow.alloc _, trivial⟩, hB1.alloc hB1.size _⟩ ⟨W.heap.size, bS1.lt, Two.new W _ _, rfl⟩
  case body =>
    rintro l pre x a' W hl ⟨r, hr⟩ ⟨⟨v, hv, hrow, _⟩, hB⟩ ⟨Bx, hBx, bX, rfl⟩ hlt
    have hc := hv.cell
    have cX0 := bX.c0
    have cX1 := bX.c1
    gi_wp2_with (gi_at_builtin; refine wpListIn_append_own _ rfl _ _ 26 rfl w.heap.size 34 _ _ 2 16 Try.underlying26 rfl rfl rfl rfl rfl (by decide) _ _ _ rfl (hrow.alloc _) ⟨W.heap.size, 0, none⟩ 1 1 [.int .i64 x.2.1, .int .i64 x.2.2] rfl rfl (two_cells W _ _ 0) (by simp [Value.oneCell']) (by unfold maxLen; omega) (by omega) (by have := hB.size; simp; omega) ?_; intro v' w1 hown' hgrow _; obtain ⟨g', cap', rfl⟩ := ownsRow_succ hown'; obtain ⟨hv1, hv2, hr2, hk2, hb2⟩ := hv.appended (by decide) hrow hB.size (Nat.le_refl _) hown' hgrow; have hc1 := hv1.cell; have hf1 := hv1.frozen)
    exact ⟨hk2.from _, hb2, ⟨_, hv2, by rw [icells_snoc]; simpa using hr2, trivial⟩, hB.trans hb2⟩
  case done =>
    rintro D ys W hD rfl ⟨⟨v, hv, hrow, _⟩, hB⟩ hK
    have hc := hv.cell
    gi_wp2
    refine ⟨by simp, .inl ⟨_, _, rfl, run_takeDeferred hK, ?_⟩⟩
    rw [upto_length] at hrow
    exact ⟨_, results_tmp rfl _ _ _, v, rfl, ownsRow_putObj hrow _ hK rfl, hB.trans (belowK_b (w := w) (Nat.le_refl _) W D _ _ (by omega) hK rfl rfl)⟩
  case stop =>
    rintro D c pre W _ _ h _
    exact h.elim
/-- an order's place; -1: it isn't there. -/
def findI (L : List (Int × Int)) (id : Int) : Int := if (L.findIdx fun p => p.1 == id) < L.length then ((L.findIdx fun p => p.1 == id : Nat) : Int) else -1
theorem itm_lt (L : List (Int × Int)) (j : Nat) (h : j < L.length) : (itm L j).2.1 = L[j].1 := by
  simp [itm, List.getElem?_eq_getElem h]
theorem upto_mem {α : Type} (f : Nat → α) (k j : Nat) (h : j < k) : f j ∈ upto f k := List.mem_map.2 ⟨j, List.mem_range.2 h, rfl⟩
theorem findI_none {L : List (Int × Int)} {id : Int} (h : ∀ x ∈ upto (itm L) L.length, x.2.1 ≠ id) : findI L id = -1 := by
  unfold findI
  rw [if_neg]
  intro hlt
  have h1 := List.findIdx_getElem (w := hlt)
  have h2 := h _ (upto_mem (itm L) L.length _ hlt)
  rw [itm_lt L _ hlt] at h2
  simp at h1
  exact h2 h1
theorem findI_some {L : List (Int × Int)} {id : Int} {k : Nat} (hk : k < L.length) (h : ∀ x ∈ upto (itm L) k, x.2.1 ≠ id) (he : (itm L k).2.1 = id) : findI L id = k := by
  have e : (L.findIdx fun p => p.1 == id) = k := by
    rw [itm_lt L k hk] at he
    rcases Nat.lt_trichotomy (L.findIdx fun p => p.1 == id) k with h1 | h1 | h1
    · exfalso
      have hlt : (L.findIdx fun p => p.1 == id) < L.length := by omega
      have h3 := List.findIdx_getElem (w := hlt)
      have h2 := h _ (upto_mem (itm L) k _ h1)
      rw [itm_lt L _ hlt] at h2
      simp at h3
      exact h2 h3
    · exact h1
    · exfalso
      have := List.not_of_lt_findIdx h1
      simp at this
      exact this he
  unfold findI
  rw [e, if_pos hk]
set_option maxRecDepth 100000 in
set_option maxHeartbeats 4000000 in
/-- find. -/
theorem find_in (F : Fence) (n : Nat) (h26 : F.fn 26) (h25 : F.fn 25) (h28 : F.fn 28) (hro : F.round = none) (hn : 3 ≤ n) (p : Option Addr) (id : Int) (L : List (Int × Int)) (hlen : L.length ≤ 1000000) (w : World) (hI : IsQ w.heap.size w p L) :
    CallsIn F n Try.prog 26 #[.pointer p, .int .i64 id] w fun e W' => e = .returned (.int .i64 (findI L id)) ∧ Below w.heap.size w W' := by
  have h1 : 1 ≤ n := by omega
  refine callsIn_of_wp_marks Try.func26 rfl h26 ?_ hro
  simp only [Try.ntmps26, List.size_toArray, List.length_cons, List.length_nil, Nat.reduceAdd, Nat.reduceSub, Array.replicate_succ, Array.replicate_zero, List.push_toArray, List.append_toArray, List.nil_append, List.cons_append]
  gi_wp2_with (gi_at_call 25; refine (all_in F (n - 1) h25 hro _ _).mono ?_; rintro e w' ⟨rfl, rfl⟩)
  have bI := ((Boxed.new w 2 (.int .i64 id)).alloc (.cells #[.int .i64 0] 3)).alloc (.cells #[.pointer p] 24)
  have bR := (Boxed.new (w.alloc (.cells #[.int .i64 id] 2)) 3 (.int .i64 0)).alloc (.cells #[.pointer p] 24)
  have bN := Boxed.new ((w.alloc (.cells #[.int .i64 id] 2)).alloc (.cells #[.int .i64 0] 3)) 24 (.pointer p)
  simp only [World.size_alloc] at bR bN
  have hB0 : Below w.heap.size w (((w.alloc (.cells #[.int .i64 id] 2)).alloc (.cells #[.int .i64 0] 3)).alloc (.cells #[.pointer p] 24)) := (((Below.refl _ w).alloc (Nat.le_refl _) _).alloc (by simp) _).alloc (by simp; omega) _
  have hsz : (((w.alloc (.cells #[.int .i64 id] 2)).alloc (.cells #[.int .i64 0] 3)).alloc (.cells #[.pointer p] 24)).heap.size = w.heap.size + 3 := by simp
  obtain ⟨W0, hW0⟩ : ∃ W0, ((w.alloc (.cells #[.int .i64 id] 2)).alloc (.cells #[.int .i64 0] 3)).alloc (.cells #[.pointer p] 24) = W0 := ⟨_, rfl⟩
  rw [hW0] at bI bR bN hB0 hsz ⊢
  clear hW0
  refine wpIn_rangeFunc_ownH hro h1 (gf := 28) (lb := #[.pointer (some ⟨w.heap.size + 1 + 1, 0, none⟩)]) rfl h28 (enters_of Try.func28 (by kernel_rfl) rfl)
    (all_stops F (n - 1) h28 hro (by omega) (w.heap.size + 1 + 1) w.heap.size p L hlen W0 (by omega) (by omega) bN.cell (hI.below hB0)) belowK_t (belowK_b (by omega)) (Below.refl _ _) (fun _ => rfl)
    (fun pre W => ((∀ x ∈ pre, x.2.1 ≠ id) ∧ Boxed W (w.heap.size + 1) 3 (.int .i64 0) ∧ Boxed W w.heap.size 2 (.int .i64 id)) ∧ Below w.heap.size w W)
    (fun c pre W => (c = .ret ∧ ∃ ini last, pre = ini ++ [last] ∧ (∀ x ∈ ini, x.2.1 ≠ id) ∧ last.2.1 = id ∧ Boxed W (w.heap.size + 1) 3 (.int .i64 (last.1 : Int))) ∧ Below w.heap.size w W)
    (OwnFrom.and (Own.from (fun s A B row hs hg hr => ⟨hs.1, boxed_own (w.heap.size + 1) 3 (fun (_ : Unit) => Value.int .i64 0) () A B row hs.2.1 hg hr, boxed_own w.heap.size 2 (fun (_ : Unit) => Value.int .i64 id) () A B row hs.2.2 hg hr⟩) _) (ownFrom_below (Nat.le_refl _) (by omega)))
    (fun c => OwnFrom.and (Own.from (fun s A B row hs hg hr => by obtain ⟨hc, ini, last, e1, e2, e3, e4⟩ := hs; exact ⟨hc, ini, last, e1, e2, e3, boxed_own (w.heap.size + 1) 3 (fun (_ : Unit) => Value.int .i64 (last.1 : Int)) () A B row e4 hg hr⟩) _) (ownFrom_below (Nat.le_refl _) (by omega)))
    ⟨⟨by simp, bR, bI⟩, hB0⟩
    (fun x a' W => ∃ Bx, w.heap.size + 1 < Bx ∧ Two W Bx x.2.1 x.2.2 ∧ a' = { tmps := #[.pointer p, .int .i64 id, undef, .pointer (some ⟨w.heap.size, 0, none⟩), .pointer (some ⟨w.heap.size + 1, 0, none⟩), .int .i64 (x.1 : Int), .pointer (some ⟨Bx, 0, none⟩), .pointer p, .func (.func 28) #[] #[.pointer (some ⟨w.heap.size + 1 + 1, 0, none⟩)], .int .i64 (x.1 : Int), .agg #[.int .i64 x.2.1, .int .i64 x.2.2], undef, undef, undef, undef, undef], defers := [] })
    (fun x a' _ X Y row hs hg hr => by obtain ⟨Bx, h1, h2, h3⟩ := hs; exact ⟨Bx, h1, h2.kept hg (h2.notRow (fun r e => (hr r e).2)), h3⟩)
    ?assign ?body ?done ?stop
  case assign =>
    rintro l pre x W K ⟨⟨hp, bR1, bI1⟩, hB1⟩ hK
    gi_wp2
    exact hK _ _ ((KeepsOthers.alloc _ _).from _) ((Below.refl _ W).alloc hB1.size _) ⟨⟨hp, bR1.alloc _, bI1.alloc _⟩, hB1.alloc hB1.size _⟩ ⟨W.heap.size, bR1.lt, Two.new W _ _, rfl⟩
  case body =>
    rintro l pre x a' W hl ⟨r, hr⟩ ⟨⟨hp, bR1, bI1⟩, hB1⟩ ⟨Bx, hBx, bX, rfl⟩ hlt
    have cI := bI1.cell
    have cR := bR1.cell
    have fR := bR1.frozen
    have cX := bX.c0
    by_cases hx : x.2.1 = id
    · have e1 : (x.2.1 == id) = true := by simpa using hx
      have HX := Lib.hid hx
      clear hx
      gi_wp2
      exact ⟨(KeepsOthers.setCell _ _ _).from _, ⟨rfl, pre, x, rfl, hp, HX.out, bR1.set _⟩, hB1.setCell (p := ⟨w.heap.size + 1, 0, none⟩) (by show w.heap.size ≤ w.heap.size + 1; omega) _⟩
    · have e1 : (x.2.1 == id) = false := by simpa using hx
      gi_wp2
      exact ⟨KeepsFrom.refl _ _, Below.refl _ _, ⟨fun y hy => (List.mem_append.1 hy).elim (hp y) (fun e => by simp at e; subst e; exact hx), bR1, bI1⟩, hB1⟩
  case done =>
    rintro D ys W hD rfl ⟨⟨hne, bR1, bI1⟩, hB1⟩ hK
    have cR := bR1.cell
    have fR := bR1.frozen
    gi_wp2
    have hK' := (KeepsOthers.setCell W ⟨w.heap.size + 1, 0, none⟩ (.int .i64 (-1))).same D _ hK rfl
    refine ⟨by simp, .inl ⟨_, _, rfl, run_takeDeferred hK', ?_⟩⟩
    have hc5 := cell_kept (bR1.set (.int .i64 (-1))).cell (grownBy_putObj' _ D (.deferred none)) (fun r e => by cases e; exact ⟨_, hK', rfl⟩)
    refine ⟨.int .i64 (-1), ?_, by rw [findI_none hne], (hB1.setCell (p := ⟨w.heap.size + 1, 0, none⟩) (by show w.heap.size ≤ w.heap.size + 1; omega) _).trans (belowK_b (w := w) (Nat.le_refl _) _ D _ _ (by omega) hK' rfl rfl)⟩
    simp [results, Try.f26, go_sem, hc5]
  case stop =>
    rintro D c pre W hD ⟨k, hk, rfl⟩ ⟨⟨rfl, ini, last, e1, e2, e3, bR1⟩, hB1⟩ hK
    gi_wp2
    refine ⟨by simp, .inl ⟨_, _, rfl, run_takeDeferred hK, ?_⟩⟩
    have hc5 := cell_kept bR1.cell (grownBy_putObj' _ D (.deferred none)) (fun r e => by cases e; exact ⟨_, hK, rfl⟩)
    obtain ⟨k', rfl⟩ : ∃ k', k = k' + 1 := by
      cases k with
      | zero => simp [upto] at e1
      | succ k' => exact ⟨k', rfl⟩
    rw [upto_succ] at e1
    obtain ⟨rfl, e5⟩ := List.append_inj' e1 rfl
    obtain rfl : itm L k' = last := by simpa using e5
    refine ⟨.int .i64 (k' : Int), ?_, by rw [findI_some (by omega) e2 e3], hB1.trans (belowK_b (w := w) (Nat.le_refl _) W D _ _ (by omega) hK rfl rfl)⟩
    simp [results, Try.f26, go_sem, hc5, itm]
end Go.Proofs.Ytkebpibcoklglaa
