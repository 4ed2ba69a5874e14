/-
  The law SessionNobody: for every input the call returns true, and each argument reads as it read before. No condition.
-/
import Derived.Test.YtgjejgndmioioaaSame
import Derived.Test.YtgjejgndmioioaaOpen
import Derived.ProofKit
import Derived.ShutString
import Derived.ChangeOld
namespace Go.Proofs.Ytgjejgndmioioaa.lawSessionNobody
open Go.ChangeShapes Go.WideShapes Go.ChangeAt Go.RowKit
set_option linter.unusedVariables false
set_option linter.unusedSimpArgs false

theorem own : ownKnob Try.prog.godebug = none := by kernel_rfl
theorem laidOut : laidOutB Try.prog = true := by kernel_rfl

set_option maxRecDepth 100000 in
set_option maxHeartbeats 1000000 in
theorem lifted (os : Os) (started : os.Started) (H : Type) (enc : TypeId × Value → H) :
    ReturnsInHanded {} Try.checked os 7 .any (Rows.sessionNobodySpec.pre6 enc Try.prog Try.f7 Rows.sessionNobodyRow.domain false) (Rows.sessionNobodySpec.post enc Try.prog Try.f7 false true false false) := by
  refine returnsInHanded_of_change (C := Try.checked) own started (by kernel_rfl) Try.func7
    (ChangeSpec.witness6 (enc := enc) (C := Try.checked) false ⟨#[], #[.agg #[.int .i64 0, .int .i64 0, .int .i64 0, .int .i64 0, .int .i64 0, .int .i64 0, .int .i64 0, .slice none 0 0]], []⟩ 8 (by kernel_rfl) (by kernel_rfl) (by kernel_rfl) (by kernel_rfl)) ?_
  intro W base args ds gs before hval0 hW hcnd hsz0
  have hval : ∀ (j : Nat) t v, Try.f7.params[j]? = some t → args[j]? = some v → Value.okWide Try.prog W .any base t v := hval0
  have hW' := hW
  obtain ⟨p, q, hA0, hV, rfl, hfz, hnd⟩ := hW
  have hA : DataW.TrodAll enc Try.prog W 0 (fun _ => true) true Try.f7.params.toList args.toList ds p := hA0
  rw [Try.params7] at hA hval
  obtain ⟨v0, vs0, d0, ds0, p0, q0, hargs, rfl, rfl, h0, r0⟩ := trodAll_cons hA
  obtain ⟨rfl, rfl, rfl⟩ := trodAll_nil r0
  obtain rfl : args = #[v0] := by cases args; simp_all
  obtain ⟨rfl, rfl⟩ := trodVars_none hV
  have k0 := h0
  have lt0 : ∀ x ∈ p0, x.block < W.heap.size := by obtain ⟨m, hm⟩ := k0; exact DataW.trod_lt m _ _ _ hm
  obtain ⟨cs0, fu0, rfl, ln0, tr0⟩ := arg_agg (Or.inl ⟨_, Try.underlying31⟩) (k := 8) (by kernel_rfl) (hval 0 31 v0 rfl rfl) h0
  obtain ⟨x0_0, e0_0, w0_0⟩ := leaf_int tr0 9 0 3 .i64 (by kernel_rfl) Try.underlying3
  obtain ⟨x0_1, e0_1, w0_1⟩ := leaf_int tr0 9 1 3 .i64 (by kernel_rfl) Try.underlying3
  obtain ⟨x0_2, e0_2, w0_2⟩ := leaf_int tr0 9 2 2 .i64 (by kernel_rfl) Try.underlying2
  obtain ⟨x0_3, e0_3, w0_3⟩ := leaf_int tr0 9 3 26 .i64 (by kernel_rfl) Try.underlying26
  obtain ⟨x0_4, e0_4, w0_4⟩ := leaf_int tr0 9 4 2 .i64 (by kernel_rfl) Try.underlying2
  obtain ⟨x0_5, e0_5, w0_5⟩ := leaf_int tr0 9 5 2 .i64 (by kernel_rfl) Try.underlying2
  obtain ⟨x0_6, e0_6, w0_6⟩ := leaf_int tr0 9 6 2 .i64 (by kernel_rfl) Try.underlying2
  obtain ⟨x0_7, e0_7, fu0_7, y0_7, q0_7⟩ := leaf_any tr0 9 7 27 (by kernel_rfl)
  obtain ⟨sa0_7, len0_7, cap0_7, D0_7, rfl, hr0_7⟩ := rows_ints Try.underlying27 (k := 6) (by kernel_rfl) (by decide) q0_7 (fun _ => .i64) (by intro i hi; match i, hi with | 0, _ => exact ⟨9, 2, by kernel_rfl, Try.underlying2⟩ | 1, _ => exact ⟨9, 2, by kernel_rfl, Try.underlying2⟩ | 2, _ => exact ⟨9, 2, by kernel_rfl, Try.underlying2⟩ | 3, _ => exact ⟨9, 2, by kernel_rfl, Try.underlying2⟩ | 4, _ => exact ⟨9, 2, by kernel_rfl, Try.underlying2⟩ | 5, _ => exact ⟨9, 2, by kernel_rfl, Try.underlying2⟩)
  obtain rfl : cs0 = [.int .i64 x0_0, .int .i64 x0_1, .int .i64 x0_2, .int .i64 x0_3, .int .i64 x0_4, .int .i64 x0_5, .int .i64 x0_6, .slice sa0_7 len0_7 cap0_7] := by
    apply list_of_gets _ _ (by simpa using ln0)
    intro i hi
    match i, hi with | 0, _ => exact e0_0 | 1, _ => exact e0_1 | 2, _ => exact e0_2 | 3, _ => exact e0_3 | 4, _ => exact e0_4 | 5, _ => exact e0_5 | 6, _ => exact e0_6 | 7, _ => exact e0_7
  
  clear hA0 hval0
  refine (nobody_frame x0_0 x0_1 x0_2 x0_3 x0_4 x0_5 x0_6 sa0_7 len0_7 cap0_7 D0_7 W).mono fun e W' ⟨he, bel⟩ => ?_
  subst he
  exact ⟨_, rfl, _, _, _, [], _, [], hW', trodAll_mk1 (shut_bool Try.underlying4 _), (trodAll_cons_mk (Below.trod laidOut (by kernel_rfl) (of_decide_eq_true (by kernel_rfl)) k0 bel lt0) trodAll_mk0), rfl, bel.frame _, fun h => by cases h⟩

theorem over : Rows.sessionNobodyRow.holds Try.pinned (OpenSpec.ofChange Rows.sessionNobodySpec) :=
  OpenClaim.holds_of_wide 7 Try.f7 rfl rfl rfl rfl rfl rfl rfl ⟨rfl, rfl, rfl, rfl, rfl⟩ rfl rfl rfl rfl rfl (by kernel_rfl) Try.func7 (by kernel_rfl)
    (of_decide_eq_true (by kernel_rfl)) (by unfold Func.isWrapper; first | (rw [if_pos (by decide +kernel)]; kernel_rfl) | (rw [if_neg (by decide +kernel)]; exact ⟨rfl, rfl⟩))
    (fun os started H enc _ => lifted os started H enc)

theorem proved : Rows.SessionNobodySaid := over
#print axioms proved
end Go.Proofs.Ytgjejgndmioioaa.lawSessionNobody
