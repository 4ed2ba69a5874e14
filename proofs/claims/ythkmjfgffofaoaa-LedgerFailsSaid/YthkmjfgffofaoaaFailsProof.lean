/-
  The law LedgerFails: for every input the call returns true, and each argument reads as it read before. No condition.
-/
import Derived.Test.YthkmjfgffofaoaaFails
import Derived.Test.YthkmjfgffofaoaaOpen
import Derived.ProofKit
import Derived.ShutString
import Derived.ChangeOld
namespace Go.Proofs.Ythkmjfgffofaoaa.lawLedgerFails
open Go.ChangeShapes Go.WideShapes Go.ChangeAt Go.RowKit
set_option linter.unusedVariables false
set_option linter.unusedSimpArgs false

theorem own : ownKnob Try.prog.godebug = none := by kernel_rfl
theorem laidOut : laidOutB Try.prog = true := by kernel_rfl

set_option maxRecDepth 100000 in
set_option maxHeartbeats 1000000 in
theorem lifted (os : Os) (started : os.Started) (H : Type) (enc : TypeId × Value → H) :
    ReturnsInHanded {} Try.checked os 6 .any (Rows.ledgerFailsSpec.pre6 enc Try.prog Try.f6 Rows.ledgerFailsRow.domain false) (Rows.ledgerFailsSpec.post enc Try.prog Try.f6 false true false false) := by
  refine returnsInHanded_of_change (C := Try.checked) own started (by kernel_rfl) Try.func6
    (ChangeSpec.witness6 (enc := enc) (C := Try.checked) false ⟨#[], #[.slice none 0 0, .agg #[.int .i64 0, .int .i64 0, .int .i64 0, .int .i64 0, .int .i64 0]], []⟩ 8 (by kernel_rfl) (by kernel_rfl) (by kernel_rfl) (by kernel_rfl)) ?_
  intro W base args ds gs before hval0 hW hcnd hsz0
  have hval : ∀ (j : Nat) t v, Try.f6.params[j]? = some t → args[j]? = some v → Value.okWide Try.prog W .any base t v := hval0
  have hW' := hW
  obtain ⟨p, q, hA0, hV, rfl, hfz, hnd⟩ := hW
  have hA : DataW.TrodAll enc Try.prog W 0 (fun _ => true) true Try.f6.params.toList args.toList ds p := hA0
  rw [Try.params6] at hA hval
  obtain ⟨v0, vs0, d0, ds0, p0, q0, hargs, rfl, rfl, h0, r0⟩ := trodAll_cons hA
  obtain ⟨v1, vs1, d1, ds1, p1, q1, rfl, rfl, rfl, h1, r1⟩ := trodAll_cons r0
  obtain ⟨rfl, rfl, rfl⟩ := trodAll_nil r1
  obtain rfl : args = #[v0, v1] := by cases args; simp_all
  obtain ⟨rfl, rfl⟩ := trodVars_none hV
  have k0 := h0
  have lt0 : ∀ x ∈ p0, x.block < W.heap.size := by obtain ⟨m, hm⟩ := k0; exact DataW.trod_lt m _ _ _ hm
  have k1 := h1
  have lt1 : ∀ x ∈ p1, x.block < W.heap.size := by obtain ⟨m, hm⟩ := k1; exact DataW.trod_lt m _ _ _ hm
  obtain ⟨s0, l0, c0, rfl⟩ := okWide_slice Try.underlying29 (hval 0 29 v0 rfl rfl)
  obtain ⟨fu0, tr0⟩ := h0
  obtain ⟨sa0, len0, cap0, D0, hv0, hr0⟩ := rows_ints Try.underlying29 (k := 5) (by kernel_rfl) (by decide) tr0 (fun _ => .i64) (by intro i hi; match i, hi with | 0, _ => exact ⟨9, 3, by kernel_rfl, Try.underlying3⟩ | 1, _ => exact ⟨9, 3, by kernel_rfl, Try.underlying3⟩ | 2, _ => exact ⟨9, 3, by kernel_rfl, Try.underlying3⟩ | 3, _ => exact ⟨9, 3, by kernel_rfl, Try.underlying3⟩ | 4, _ => exact ⟨9, 2, by kernel_rfl, Try.underlying2⟩)
  simp only [Value.slice.injEq] at hv0
  obtain ⟨rfl, rfl, rfl⟩ := hv0
  obtain ⟨cs1, fu1, rfl, ln1, tr1⟩ := arg_agg (Or.inl ⟨_, Try.underlying35⟩) (k := 5) (by kernel_rfl) (hval 1 35 v1 rfl rfl) h1
  obtain ⟨x1_0, e1_0, w1_0⟩ := leaf_int tr1 9 0 3 .i64 (by kernel_rfl) Try.underlying3
  obtain ⟨x1_1, e1_1, w1_1⟩ := leaf_int tr1 9 1 3 .i64 (by kernel_rfl) Try.underlying3
  obtain ⟨x1_2, e1_2, w1_2⟩ := leaf_int tr1 9 2 3 .i64 (by kernel_rfl) Try.underlying3
  obtain ⟨x1_3, e1_3, w1_3⟩ := leaf_int tr1 9 3 3 .i64 (by kernel_rfl) Try.underlying3
  obtain ⟨x1_4, e1_4, w1_4⟩ := leaf_int tr1 9 4 2 .i64 (by kernel_rfl) Try.underlying2
  obtain rfl : cs1 = [.int .i64 x1_0, .int .i64 x1_1, .int .i64 x1_2, .int .i64 x1_3, .int .i64 x1_4] := by
    apply list_of_gets _ _ (by simpa using ln1)
    intro i hi
    match i, hi with | 0, _ => exact e1_0 | 1, _ => exact e1_1 | 2, _ => exact e1_2 | 3, _ => exact e1_3 | 4, _ => exact e1_4
  
  clear hA0 hval0
  refine (fails_walk s0 l0 c0 D0 x1_0 x1_1 x1_2 x1_3 x1_4 W hr0 w1_0 w1_1 w1_2 w1_3 w1_4).mono fun e W' ⟨he, bel⟩ => ?_
  subst he
  exact ⟨_, rfl, _, _, _, [], _, [], hW', trodAll_mk1 (shut_bool Try.underlying4 _), (trodAll_cons_mk (Below.trod laidOut (by kernel_rfl) (of_decide_eq_true (by kernel_rfl)) k0 bel lt0) (trodAll_cons_mk (Below.trod laidOut (by kernel_rfl) (of_decide_eq_true (by kernel_rfl)) k1 bel lt1) trodAll_mk0)), rfl, bel.frame _, fun h => by cases h⟩

theorem over : Rows.ledgerFailsRow.holds Try.pinned (OpenSpec.ofChange Rows.ledgerFailsSpec) :=
  OpenClaim.holds_of_wide 6 Try.f6 rfl rfl rfl rfl rfl rfl rfl ⟨rfl, rfl, rfl, rfl, rfl⟩ rfl rfl rfl rfl rfl (by kernel_rfl) Try.func6 (by kernel_rfl)
    (of_decide_eq_true (by kernel_rfl)) (by unfold Func.isWrapper; first | (rw [if_pos (by decide +kernel)]; kernel_rfl) | (rw [if_neg (by decide +kernel)]; exact ⟨rfl, rfl⟩))
    (fun os started H enc _ => lifted os started H enc)

theorem proved : Rows.LedgerFailsSaid := over
#print axioms proved
end Go.Proofs.Ythkmjfgffofaoaa.lawLedgerFails
