/-
  The table of package session: a map from clients to entries, kept as a function. Plain lemmas over the kit's maps.
-/
import Derived.Test.YtgjejgndmioioaaPlan
import Derived.Test.YtgjejgndmioioaaBlk
import Derived.WalkKit
import Derived.WalkSpells
import Derived.WalkLawsBesides
import Derived.Handy
import Derived.Lib.Hide
import Derived.Maps.Own
import Derived.Maps.Views
import Derived.Maps.Keyed
namespace Go.Proofs.Ytgjejgndmioioaa
open Go.RowKit
set_option linter.unusedSimpArgs false
set_option linter.unusedVariables false
/-- an element reads as itself. -/
def tabR : Value → Option (DataW Value × List MemPlace) := fun v => some (.held v, [])
/-- no entry. -/
def zeroE : Value := .agg #[.int .i64 0, .int .i64 0, .int .i64 0, .int .i64 0, .int .i64 0, .slice none 0 0]
/-- map block mb holds f (what is not there is no entry), with n elements at most. -/
def MapAt (w : World) (mb n : Nat) (f : Int → Value) : Prop :=
  ∃ D : DataW Value, w.ownsMap Try.prog 3 tabR mb n D ∧ Maps.IsMap D ∧ ∀ c, (Lit.int .i64 c).wf = true → D.atKey (.int .i64 c) (.held zeroE) = .held (f c)
theorem zero54 (w : World) : (zeroValue 54).run Try.prog w = .ok zeroE w := by kernel_rfl
theorem MapAt.look {w : World} {mb n : Nat} {f : Int → Value} (h : MapAt w mb n f) (c : Int) (hc : (Lit.int .i64 c).wf = true) : (Instr.lookup 49 (.map (some mb)) (.int .i64 c) false).run Try.prog w = .ok (f c) w := by
  obtain ⟨D, ho, hm, hf⟩ := h
  obtain ⟨v, ps, hrun, hv⟩ := ho.lookup (Maps.int_keyed Try.underlying3) Try.underlying49 (zero54 w) (zd := .held zeroE) (zp := []) rfl (Maps.keyOf_int_mk Try.underlying3 hc)
  rw [hf c hc] at hv
  simp only [tabR, Option.some.injEq, Prod.mk.injEq, DataW.held.injEq] at hv
  rw [hrun, hv.1]
theorem MapAt.kept {w w' : World} {mb n : Nat} {f : Int → Value} {row : Option Nat} (h : MapAt w mb n f) (hg : w.grownBy w' row) (hne : some mb ≠ row) : MapAt w' mb n f := by
  obtain ⟨D, ho, hm, hf⟩ := h
  exact ⟨D, ho.kept hg hne, hm, hf⟩
theorem MapAt.new (w : World) : MapAt (w.alloc (.map #[] 0)) w.heap.size 0 (fun _ => zeroE) :=
  ⟨_, World.ownsMap_made w _ _ _, Maps.isMap_empty, fun c _ => rfl⟩
/-- the store, at the operation. -/
theorem wpList_put {ops : Array Oper} {rest : List Oper} {o : Oper} {a : Act} {w : World} {Q : Exit → Act → World → Prop} (hg : o.guard = none) (m x v : Operand) (hop : o.op = Op.mapUpdate 49 m x v) (mb n : Nat) (f : Int → Value)
    (hm : a.eval m = .map (some mb)) (h : MapAt w mb n f) (hn : n < maxLen) (c : Int) (hc : (Lit.int .i64 c).wf = true) (hx : a.eval x = .int .i64 c) (val : Value) (hv : a.eval v = val)
    (hK : ∀ w', MapAt w' mb (n + 1) (fun y => if y = c then val else f y) → w.grownBy w' (some mb) → wpList Try.prog ops Q rest (a.put o.dst undef) w') : wpList Try.prog ops Q (o :: rest) a w := by
  obtain ⟨D, ho, hm', hf⟩ := h
  refine wpList_mapUpdate_own w hg m x v 49 hop 3 54 (Maps.int_keyed Try.underlying3) Try.underlying49 tabR mb n D hm ho hn _ val (.int .i64 c) hx hv (Maps.keyOf_int_mk Try.underlying3 hc) (.held val) [] rfl (fun w' h1 h2 => hK w' ⟨_, h1, hm'.put _ _, fun y hy => ?_⟩ h2)
  show _ = DataW.held (if y = c then val else f y)
  by_cases e : y = c
  · subst e
    rw [if_pos rfl, Maps.atKey_put_same hm' (by trivial)]
  · rw [if_neg e, Maps.atKey_put_other (by intro h; cases h; exact e rfl)]
    exact hf y hy
end Go.Proofs.Ytgjejgndmioioaa
