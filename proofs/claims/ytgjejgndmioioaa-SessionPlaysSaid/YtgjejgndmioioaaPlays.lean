/-
  The document's Note; the walk of SessionPlays.
-/
import Derived.Test.YtgjejgndmioioaaLst
import Derived.Test.YtgjejgndmioioaaLow
namespace Go.Proofs.Ytgjejgndmioioaa
open Go.RowKit
set_option linter.unusedSimpArgs false
set_option linter.unusedVariables false
theorem own_base {w : World} {b b' : Nat} {e : TypeId} {s n : Nat} {v : Value} {xs : List Value} (h : w.ownsRow b e s v n xs) (hb : b' ≤ b) : w.ownsRow b' e s v n xs := by
  refine ⟨h.1, ?_⟩
  rcases h.2 with h1 | ⟨g, cap, cur, h1, h2, h3⟩
  · exact .inl h1
  · exact .inr ⟨g, cap, cur, h1, Nat.le_trans hb h2, h3⟩
/-- append([]Row{}, l...): a copy. -/
theorem wpList_append_rows {ops : Array Oper} {rest : List Oper} {o : Oper} {a : Act} {w : World} {Q : Exit → Act → World → Prop} (hgd : o.guard = none) (s x : Operand)
    (ho : o.op = .call { callee := .builtin .append, args := #[s, x], argTypes := #[37, 37] }) (base : Nat) (hbase : base ≤ w.heap.size) (v : Value) (hs : a.eval s = v) (hown : w.ownsRow base 57 7 v 0 []) (hvb : ∀ k, v.ownBlock = some k → base ≤ k)
    (b1 fl : Nat) (v1 : Value) (L : List Deed) (hR : RowsAt w b1 fl v1 L) (hx : a.eval x = v1) (hL : L.length ≤ 1000)
    (h : ∀ v2 w', w'.ownsRow base 57 7 v2 L.length (rcells L) → Below base w w' → w.heap.size ≤ w'.heap.size → wpList Try.prog ops Q rest (a.put o.dst v2) w') : wpList Try.prog ops Q (o :: rest) a w := by
  rcases hR.own.2 with ⟨e, hn⟩ | ⟨g, cap, cur, e, hg, hh, hle, hm, hsz, ht⟩
  · refine wpList_append_own_none hgd s x 37 ho base 57 _ 7 Try.underlying37 rfl v 0 [] hs hown (hx.trans e) ?_
    have hl : L = [] := List.length_eq_zero_iff.1 hn
    subst hl
    exact h v w (by simpa [rcells] using hown) (Below.refl _ _) (Nat.le_refl _)
  · refine wpList_append_own w hgd s x 37 ho base 57 _ _ 7 72 Try.underlying37 rfl rfl rfl rfl rfl (by decide) v 0 [] hs hown ⟨g, 0, none⟩ L.length cap (rcells L) (hx.trans e) (rcells_len L) (hR.own.cells (by rw [e]; rfl)) (rcells_one L) (by rw [Nat.zero_add]; exact Nat.le_trans hle hm) (by omega) hbase ?_
    intro v' w' hown' hg' _
    exact h v' w' (by simpa using hown') ⟨hg'.os, hg'.tape, hg'.output, hg'.size, fun k hk => hg'.block k (Nat.lt_of_lt_of_le hk hbase) (fun e => by have := hvb k e.symm; omega)⟩ hg'.size
theorem dl_cells (w : World) (d : Deed) : ∀ j u, (dl d)[j]? = some u → (w.alloc (.cells #[.int .i64 d.c, .int .i64 d.s, .int .i64 d.R.e, .int .i64 d.R.id, .int .i64 d.R.d, .int .i64 d.R.r, .slice d.fa d.R.n d.fc] 57)).cell? ((⟨w.heap.size, 0, none⟩ : Addr).add j) = some u := by
  intro j u hu
  rw [add_none, Nat.zero_add, (Blk.new w _ 57).cell j]
  rw [← hu]
  simp [dl]
theorem RowsAt.low {w w' : World} {base fl b : Nat} {v : Value} {L : List Deed} (h : RowsAt w base fl v L) (hb : Below b w w') (hv : ∀ k, v.ownBlock = some k → k < b) (h2 : fl ≤ b) : RowsAt w' base fl v L := by
  refine ⟨⟨h.own.1, ?_⟩, Nat.le_trans h.le hb.size, fun d hd => (h.fills d hd).low hb h2⟩
  rcases h.own.2 with h1 | ⟨g, cap, cur, h1, h3, h4, h5⟩
  · exact .inl h1
  · exact .inr ⟨g, cap, cur, h1, h3, (hb.block g (hv g (by rw [h1]; rfl))).trans h4, h5⟩
set_option maxHeartbeats 4000000 in
set_option maxRecDepth 100000 in
theorem rnote_any (w : World) (base fl : Nat) (v : Value) (L : List Deed) (h : RowsAt w base fl v L) (hfl : fl ≤ w.heap.size) (hL : L.length ≤ 500) (c seq e id d r : Int) (fa : Option Addr) (n fc : Nat) (X : Nat → Nat → Int) (hF : FillsAt w 0 fl fa n fc X) :
    Calls Try.prog 14 #[v, .int .i64 c, .int .i64 seq, .agg #[.int .i64 e, .int .i64 id, .int .i64 d, .int .i64 r, .slice fa n fc]] w fun e' w' => (∃ v', e' = .returned (.tuple #[v', .int .i64 (noteE (EL L c) c seq)]) ∧ RowsAt w' base fl v' (noteL L ⟨0, c, seq, ⟨e, id, d, r, n, X⟩, fa, fc⟩)) ∧ Below w.heap.size w w' := by
  have hB := bel_refl w
  have A := Blk.new w #[.int .i64 e, .int .i64 id, .int .i64 d, .int .i64 r, .slice fa n fc] 29
  have h1 := h.alloc (.cells #[.int .i64 e, .int .i64 id, .int .i64 d, .int .i64 r, .slice fa n fc] 29)
  have hF1 := hF.alloc (.cells #[.int .i64 e, .int .i64 id, .int .i64 d, .int .i64 r, .slice fa n fc] 29)
  replace hB := bel_alloc hB (.cells #[.int .i64 e, .int .i64 id, .int .i64 d, .int .i64 r, .slice fa n fc] 29)
  have hbw := h.le
  clear h hF
  by_cases hN : noteE (EL L c) c seq = 0
  · have hm : mayB c seq = true := by
      by_cases hm : mayB c seq = true
      · exact hm
      · unfold noteE at hN; rw [if_neg hm] at hN; cases hN
    have hl : ¬ seq ≤ (EL L c).1 := by
      intro hl
      unfold noteE at hN; rw [if_pos hm, if_pos hl] at hN; cases hN
    have HQ := Lib.hid (And.intro hN (show noteL L ⟨0, c, seq, ⟨e, id, d, r, n, X⟩, fa, fc⟩ = L ++ [⟨0, c, seq, ⟨e, id, d, r, n, X⟩, fa, fc⟩] by unfold noteL; rw [if_pos hN]))
    have e1 : decide (seq ≤ (lastOf L c).s) = false := decide_eq_false hl
    have hf := fun w => field_row w (lastOf L c)
    clear hN hl
    go_enter Try.func14, Try.ntmps14
    go_upto_region 1 with fail
    obtain ⟨w1, hw1⟩ : ∃ w1, w.alloc (.cells #[.int .i64 e, .int .i64 id, .int .i64 d, .int .i64 r, .slice fa n fc] 29) = w1 := ⟨_, rfl⟩
    rw [hw1] at A h1 hF1 hB ⊢
    clear hw1
    go_wp2_with fail
    refine (rmay_any _ c seq).mono ?_
    rintro e' w1' ⟨rfl, rfl⟩
    rw [hm]
    go_wp2_with fail
    refine (rlast_any _ base fl v L h1 c).mono ?_
    rintro e' w2 ⟨rfl, hb⟩
    replace A := A.call hb
    replace h1 := h1.call hb
    replace hF1 := hF1.call hb
    replace hB := bel_call hb hB
    clear hb
    go_upto_region 6 with (at_builtin; refine wpList_append_rows rfl _ _ rfl w2.heap.size (by simp) _ rfl (World.ownsRow_made w2 #[] 0 (Nat.le_refl _) (Nat.zero_le _) (by simp)) (fun k hk => Nat.le_of_eq (Option.some.inj hk)) base fl v L (h1.alloc _) rfl (by omega) ?_; intro v2 w3 hO hb3 hs3)
    have hs2 := hB.size
    have A3 := (A.alloc (.cells #[] 57)).below hb3 A.lt
    have hb3' : Below w.heap.size w w3 := (bel_alloc hB (.cells #[] 57)).trans (hb3.mono hs2)
    have hL3 : ∀ x ∈ L, FillsAt w3 0 fl x.fa x.R.n x.fc x.R.X := fun x hx => ((h1.fills x hx).alloc (.cells #[] 57)).low hb3 (by omega)
    have hF3 := (hF1.alloc (.cells #[] 57)).low hb3 (by omega)
    have hs3' : w2.heap.size ≤ w3.heap.size := by simp at hs3; omega
    clear A hb3 hB h1 hF1 hs3
    have A_c := A3.cell
    have hs4 := hb3'.size
    go_wp2_with (at_builtin; refine wpList_append_own _ rfl _ _ 37 rfl w2.heap.size 57 _ _ 7 72 Try.underlying37 rfl rfl rfl rfl rfl (by decide) v2 L.length (rcells L) rfl (hO.alloc _) ⟨w3.heap.size, 0, none⟩ 1 1 (dl ⟨0, c, seq, ⟨e, id, d, r, n, X⟩, fa, fc⟩) rfl rfl (dl_cells w3 ⟨0, c, seq, ⟨e, id, d, r, n, X⟩, fa, fc⟩) ?qc1 ?qc2 (by omega) ?qc3 ?_)
    case qc1 =>
      intro u hu
      simp only [dl, List.mem_cons, List.not_mem_nil, or_false] at hu
      rcases hu with rfl | rfl | rfl | rfl | rfl | rfl | rfl <;> rfl
    case qc2 => exact Nat.le_trans (show L.length + 1 ≤ 501 by omega) (by decide)
    case qc3 => simp; omega
    intro v3 w4 hO4 hg4 _
    have hlt := hO.lt
    go_wp2_with fail
    go_ret2
    refine ⟨⟨v3, by rw [HQ.out.1]; rfl, ?_⟩, bel_grown hg4 (bel_alloc hb3' _) (fun k hk => by have := (hlt k hk).1; omega)⟩
    rw [HQ.out.2]
    have hsz := hg4.size
    simp at hsz
    refine ⟨?_, by omega, fun x hx => ?_⟩
    · rw [rcells_snoc, List.length_append]
      exact own_base hO4 (by omega)
    · rcases List.mem_append.1 hx with hx | hx
      · exact ((hL3 x hx).alloc _).grown hg4 (fun k hk => by have := (hlt k hk).1; omega)
      · obtain rfl := List.mem_singleton.1 hx
        exact (hF3.alloc _).grown hg4 (fun k hk => by have := (hlt k hk).1; omega)
  · have HQ := Lib.hid (show noteL L ⟨0, c, seq, ⟨e, id, d, r, n, X⟩, fa, fc⟩ = L by unfold noteL; rw [if_neg hN])
    obtain ⟨s, hs⟩ : ∃ s, (lastOf L c).s = s := ⟨_, rfl⟩
    have hE1 : (EL L c).1 = s := hs
    by_cases hm : mayB c seq = true
    · have hl : seq ≤ s := by
        rcases Int.lt_or_le s seq with h | h
        · exfalso; apply hN; unfold noteE; rw [if_pos hm, hE1, if_neg (by omega)]
        · exact h
      have HE := Lib.hid (show noteE (EL L c) c seq = 11 by unfold noteE; rw [if_pos hm, hE1, if_pos hl])
      have e1 : decide (seq ≤ s) = true := decide_eq_true hl
      have hf := fun w => field_row w (lastOf L c)
      rw [hs] at hf
      clear hN hl hE1
      go_enter Try.func14, Try.ntmps14
      go_upto_region 1 with fail
      obtain ⟨w1, hw1⟩ : ∃ w1, w.alloc (.cells #[.int .i64 e, .int .i64 id, .int .i64 d, .int .i64 r, .slice fa n fc] 29) = w1 := ⟨_, rfl⟩
      rw [hw1] at A h1 hF1 hB ⊢
      clear hw1
      go_wp2_with fail
      refine (rmay_any _ c seq).mono ?_
      rintro e' w1' ⟨rfl, rfl⟩
      rw [hm]
      go_wp2_with fail
      refine (rlast_any _ base fl v L h1 c).mono ?_
      rintro e' w2 ⟨rfl, hb⟩
      go_wp2_with fail
      go_ret2
      exact ⟨⟨v, by rw [HE.out]; rfl, by rw [HQ.out]; exact h1.call hb⟩, bel_call hb hB⟩
    · have HE := Lib.hid (show noteE (EL L c) c seq = 1 by unfold noteE; rw [if_neg hm])
      have hm' : mayB c seq = false := by simpa using hm
      clear hN hE1 hm
      go_enter Try.func14, Try.ntmps14
      go_upto_region 1 with fail
      obtain ⟨w1, hw1⟩ : ∃ w1, w.alloc (.cells #[.int .i64 e, .int .i64 id, .int .i64 d, .int .i64 r, .slice fa n fc] 29) = w1 := ⟨_, rfl⟩
      rw [hw1] at A h1 hF1 hB ⊢
      clear hw1
      go_wp2_with fail
      refine (rmay_any _ c seq).mono ?_
      rintro e' w1' ⟨rfl, rfl⟩
      rw [hm']
      go_wp2_with fail
      go_ret2
      exact ⟨⟨v, by rw [HE.out]; rfl, by rw [HQ.out]; exact h1⟩, hB⟩
end Go.Proofs.Ytgjejgndmioioaa
