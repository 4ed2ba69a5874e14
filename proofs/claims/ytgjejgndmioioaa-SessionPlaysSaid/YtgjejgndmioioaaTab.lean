/-
  Contracts of package session.
-/
import Derived.Test.YtgjejgndmioioaaMap
namespace Go.Proofs.Ytgjejgndmioioaa
open Go.RowKit
set_option linter.unusedSimpArgs false
set_option linter.unusedVariables false
/-- a table at block tb, its map at mb, f its entries. -/
structure TabAt (w : World) (tb mb n : Nat) (f : Int → Value) : Prop where
  blk : Blk w tb #[.map (some mb)]
  map : MapAt w mb n f
theorem TabAt.kept {w w' : World} {tb mb n : Nat} {f : Int → Value} {row : Option Nat} (h : TabAt w tb mb n f) (hg : w.grownBy w' row) (h1 : some tb ≠ row) (h2 : some mb ≠ row) : TabAt w' tb mb n f := ⟨h.blk.grown hg h1, h.map.kept hg h2⟩
theorem TabAt.call {w w' : World} {tb mb n : Nat} {f : Int → Value} (h : TabAt w tb mb n f) (hb : Below w.heap.size w w') : TabAt w' tb mb n f := h.kept (gr_below hb none) (by simp) (by simp)
def mayB (client seq : Int) : Bool := decide (1 ≤ client ∧ client ≤ 64 ∧ 1 ≤ seq)
theorem may_any (w : World) (tb : Nat) (client seq : Int) : Calls Try.prog 17 #[.pointer (some ⟨tb, 0, none⟩), .int .i64 client, .int .i64 seq] w fun e w' => e = .returned (.bool (mayB client seq)) ∧ w = w' := by
  have hw : (mayB client seq = true ∧ decide (1 ≤ client) = true ∧ decide (client ≤ 64) = true ∧ decide (1 ≤ seq) = true) ∨
      (mayB client seq = false ∧ (decide (1 ≤ client) = false ∨ (decide (1 ≤ client) = true ∧ decide (client ≤ 64) = false) ∨ (decide (1 ≤ client) = true ∧ decide (client ≤ 64) = true ∧ decide (1 ≤ seq) = false))) := by
    unfold mayB
    simp only [decide_eq_true_eq, decide_eq_false_iff_not]
    omega
  go_enter Try.func17, Try.ntmps17
  rcases hw with ⟨e, h1, h2, h3⟩ | ⟨e, h1 | ⟨h1, h2⟩ | ⟨h1, h2, h3⟩⟩
  all_goals
    rw [e]
    clear e
    go_wp2
    go_ret
    exact ⟨rfl, rfl⟩
theorem may_nil (w : World) (client seq : Int) : Calls Try.prog 17 #[.pointer none, .int .i64 client, .int .i64 seq] w fun e w' => e = .returned (.bool false) ∧ w = w' := by
  go_enter Try.func17, Try.ntmps17
  go_wp2
  go_ret
  exact ⟨rfl, rfl⟩
/-- an entry's value. -/
def ent (seq e id d r : Int) (sl : Value) : Value := .agg #[.int .i64 seq, .int .i64 e, .int .i64 id, .int .i64 d, .int .i64 r, sl]
/-- a reply's value. -/
def rep (e id d r : Int) (sl : Value) : Value := .agg #[.int .i64 e, .int .i64 id, .int .i64 d, .int .i64 r, sl]
theorem field_seq (w : World) (seq e id d r : Int) (sl : Value) : Sem.run Try.prog (Instr.field 54 (ent seq e id d r sl) 0) w = .ok (.int .i64 seq) w := by kernel_rfl
theorem field_rep (w : World) (seq e id d r : Int) (sl : Value) : Sem.run Try.prog (Instr.field 54 (ent seq e id d r sl) 1) w = .ok (rep e id d r sl) w := by kernel_rfl
theorem last_nil (w : World) (c : Int) : Calls Try.prog 15 #[.pointer none, .int .i64 c] w fun e w' => e = .returned (.int .i64 0) ∧ w = w' := by
  go_enter Try.func15, Try.ntmps15
  go_wp2
  go_ret
  exact ⟨rfl, rfl⟩
theorem note_nil (w : World) (c seq : Int) (cs : Array Value) : Calls Try.prog 11 #[.pointer none, .int .i64 c, .int .i64 seq, .agg cs] w fun e w' => e = .returned (.int .i64 1) ∧ Below w.heap.size w w' := by
  go_enter Try.func11, Try.ntmps11
  go_wp2_with fail
  refine (may_nil _ _ _).mono ?_
  rintro e w1 ⟨rfl, rfl⟩
  go_wp2_with fail
  go_ret
  exact ⟨rfl, bel_alloc (bel_refl _) _⟩
theorem last_any (w : World) (tb mb n : Nat) (f : Int → Value) (h : TabAt w tb mb n f) (c : Int) (hc : (Lit.int .i64 c).wf = true) (seq e id d r : Int) (sl : Value) (hf : f c = ent seq e id d r sl) :
    Calls Try.prog 15 #[.pointer (some ⟨tb, 0, none⟩), .int .i64 c] w fun e w' => e = .returned (.int .i64 seq) ∧ w = w' := by
  have hrun := h.map.look c hc
  rw [hf] at hrun
  have hb := h.blk.cell
  go_enter Try.func15, Try.ntmps15
  have hfld := field_seq w seq e id d r sl
  go_wp2
  go_ret
  exact ⟨rfl, rfl⟩
end Go.Proofs.Ytgjejgndmioioaa
