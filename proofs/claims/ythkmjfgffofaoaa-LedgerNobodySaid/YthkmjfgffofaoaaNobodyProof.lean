/-
  The law LedgerNobody: for every input the call returns true, and each argument reads as it read before. No condition.
-/
import Derived.Test.YthkmjfgffofaoaaDeed
import Derived.Test.YthkmjfgffofaoaaOpen
import Derived.ProofKit
import Derived.ShutString
import Derived.ChangeOld
namespace Go.Proofs.Ythkmjfgffofaoaa.lawLedgerNobody
open Go.ChangeShapes Go.WideShapes Go.ChangeAt Go.RowKit
set_option linter.unusedVariables false
set_option linter.unusedSimpArgs false

theorem own : ownKnob Try.prog.godebug = none := by kernel_rfl
theorem laidOut : laidOutB Try.prog = true := by kernel_rfl

set_option maxRecDepth 100000 in
set_option maxHeartbeats 1000000 in
theorem lifted (os : Os) (started : os.Started) (H : Type) (enc : TypeId × Value → H) :
    ReturnsInHanded {} Try.checked os 8 .any (Rows.ledgerNobodySpec.pre6 enc Try.prog Try.f8 Rows.ledgerNobodyRow.domain false) (Rows.ledgerNobodySpec.post enc Try.prog Try.f8 false true false false) := by
  refine returnsInHanded_of_change (C := Try.checked) own started (by kernel_rfl) Try.func8
    (ChangeSpec.witness6 (enc := enc) (C := Try.checked) false ⟨#[], #[.agg #[.int .i64 0, .int .i64 0, .int .i64 0, .int .i64 0, .int .i64 0]], []⟩ 8 (by kernel_rfl) (by kernel_rfl) (by kernel_rfl) (by kernel_rfl)) ?_
  intro W base args ds gs before hval0 hW hcnd hsz0
  have hval : ∀ (j : Nat) t v, Try.f8.params[j]? = some t → args[j]? = some v → Value.okWide Try.prog W .any base t v := hval0
  have hW' := hW
  obtain ⟨p, q, hA0, hV, rfl, hfz, hnd⟩ := hW
  have hA : DataW.TrodAll enc Try.prog W 0 (fun _ => true) true Try.f8.params.toList args.toList ds p := hA0
  rw [Try.params8] at hA hval
  obtain ⟨v0, vs0, d0, ds0, p0, q0, hargs, rfl, rfl, h0, r0⟩ := trodAll_cons hA
  obtain ⟨rfl, rfl, rfl⟩ := trodAll_nil r0
  obtain rfl : args = #[v0] := by cases args; simp_all
  obtain ⟨rfl, rfl⟩ := trodVars_none hV
  have k0 := h0
  have lt0 : ∀ x ∈ p0, x.block < W.heap.size := by obtain ⟨m, hm⟩ := k0; exact DataW.trod_lt m _ _ _ hm
  obtain ⟨cs0, fu0, rfl, ln0, tr0⟩ := arg_agg (Or.inl ⟨_, Try.underlying35⟩) (k := 5) (by kernel_rfl) (hval 0 35 v0 rfl rfl) h0
  obtain ⟨x0_0, e0_0, w0_0⟩ := leaf_int tr0 9 0 3 .i64 (by kernel_rfl) Try.underlying3
  obtain ⟨x0_1, e0_1, w0_1⟩ := leaf_int tr0 9 1 3 .i64 (by kernel_rfl) Try.underlying3
  obtain ⟨x0_2, e0_2, w0_2⟩ := leaf_int tr0 9 2 3 .i64 (by kernel_rfl) Try.underlying3
  obtain ⟨x0_3, e0_3, w0_3⟩ := leaf_int tr0 9 3 3 .i64 (by kernel_rfl) Try.underlying3
  obtain ⟨x0_4, e0_4, w0_4⟩ := leaf_int tr0 9 4 2 .i64 (by kernel_rfl) Try.underlying2
  obtain rfl : cs0 = [.int .i64 x0_0, .int .i64 x0_1, .int .i64 x0_2, .int .i64 x0_3, .int .i64 x0_4] := by
    apply list_of_gets _ _ (by simpa using ln0)
    intro i hi
    match i, hi with | 0, _ => exact e0_0 | 1, _ => exact e0_1 | 2, _ => exact e0_2 | 3, _ => exact e0_3 | 4, _ => exact e0_4
  
  clear hA0 hval0
  refine (nobody_walk x0_0 x0_1 x0_2 x0_3 x0_4 W w0_0 w0_1 w0_2 w0_3 w0_4).mono fun e W' ⟨he, bel⟩ => ?_
  subst he
  exact ⟨_, rfl, _, _, _, [], _, [], hW', trodAll_mk1 (shut_bool Try.underlying4 _), (trodAll_cons_mk (Below.trod laidOut (by kernel_rfl) (of_decide_eq_true (by kernel_rfl)) k0 bel lt0) trodAll_mk0), rfl, bel.frame _, fun h => by cases h⟩

theorem over : Rows.ledgerNobodyRow.holds Try.pinned (OpenSpec.ofChange Rows.ledgerNobodySpec) :=
  OpenClaim.holds_of_wide 8 Try.f8 rfl rfl rfl rfl rfl rfl rfl ⟨rfl, rfl, rfl, rfl, rfl⟩ rfl rfl rfl rfl rfl (by kernel_rfl) Try.func8 (by kernel_rfl)
    (of_decide_eq_true (by kernel_rfl)) (by unfold Func.isWrapper; first | (rw [if_pos (by decide +kernel)]; kernel_rfl) | (rw [if_neg (by decide +kernel)]; exact ⟨rfl, rfl⟩))
    (fun os started H enc _ => lifted os started H enc)

theorem proved : Rows.LedgerNobodySaid := over
#print axioms proved
end Go.Proofs.Ythkmjfgffofaoaa.lawLedgerNobody
