/-
  Contracts of package session: Note, New, Last, over what the table's entries read as.
-/
import Derived.Test.YtgjejgndmioioaaMeth
namespace Go.Proofs.Ytgjejgndmioioaa
open Go.RowKit
set_option linter.unusedSimpArgs false
set_option linter.unusedVariables false
theorem wp_put {o : Oper} {a : Act} {w : World} {K : Act → World → Prop} {Q : Exit → Act → World → Prop} (m x v : Operand) (hop : o.op = Op.mapUpdate 49 m x v) (mb n : Nat) (f : Int → Value)
    (hm : a.eval m = .map (some mb)) (h : MapAt w mb n f) (hn : n < maxLen) (c : Int) (hc : (Lit.int .i64 c).wf = true) (hx : a.eval x = .int .i64 c) (val : Value) (hv : a.eval v = val)
    (hK : ∀ w', MapAt w' mb (n + 1) (fun y => if y = c then val else f y) → w.grownBy w' (some mb) → K (a.put o.dst undef) w') : Oper.wp Try.prog o a w K Q := by
  obtain ⟨D, ho, hm', hf⟩ := h
  obtain ⟨w', hrun, r1, r2⟩ := ho.update (Maps.int_keyed Try.underlying3) Try.underlying49 hn (key := .int .i64 c) (val := val) (kl := .int .i64 c) (d := .held val) (ps := []) (Maps.keyOf_int_mk Try.underlying3 hc) rfl
  unfold Oper.wp
  simp [execOp, hop, hm, hx, hv, hrun, Result.andThen]
  refine hK w' ⟨_, r1, hm'.put _ _, fun y hy => ?_⟩ r2
  show _ = DataW.held (if y = c then val else f y)
  by_cases e : y = c
  · subst e
    rw [if_pos rfl, Maps.atKey_put_same hm' (by trivial)]
  · rw [if_neg e, Maps.atKey_put_other (by intro h; cases h; exact e rfl)]
    exact hf y hy
def noteE (E : Int × Rep) (c seq : Int) : Int := if mayB c seq = true then (if seq ≤ E.1 then 11 else 0) else 1
def noteN (E : Int → Int × Rep) (c seq : Int) (R : Rep) : Int → Int × Rep := fun y => if y = c ∧ noteE (E c) c seq = 0 then (seq, R) else E y
theorem noteN_no {E : Int → Int × Rep} {c seq : Int} {R : Rep} (h : noteE (E c) c seq ≠ 0) : noteN E c seq R = E := by
  funext y
  unfold noteN
  rw [if_neg (fun hh => h hh.2)]
theorem TabS.more {w : World} {tb mb cnt lo hi : Nat} {E : Int → Int × Rep} (h : TabS w tb mb cnt lo hi E) {hi' : Nat} (h1 : hi ≤ hi') (h2 : hi' ≤ w.heap.size) : TabS w tb mb cnt lo hi' E := by
  obtain ⟨⟨f, ht, hf⟩, q0, q1, q2, q3, q4⟩ := h
  refine ⟨⟨f, ht, fun c => ?_⟩, q0, q1, q2, by omega, h2⟩
  obtain ⟨sa, cap, e, hh⟩ := hf c
  exact ⟨sa, cap, e, hh.wide (Nat.le_refl _) h1 h2⟩
set_option maxHeartbeats 1000000 in
set_option maxRecDepth 100000 in
theorem note_any (w : World) (tb mb cnt lo hi : Nat) (E : Int → Int × Rep) (h : TabS w tb mb cnt lo hi E) (hcnt : cnt < maxLen) (c seq : Int) (hc : (Lit.int .i64 c).wf = true) (l0 h0 : Nat) (v : Value) (R : Rep) (hv : RepAt w l0 h0 v R) :
    Calls Try.prog 11 #[.pointer (some ⟨tb, 0, none⟩), .int .i64 c, .int .i64 seq, v] w fun e w' => e = .returned (.int .i64 (noteE (E c) c seq)) ∧ (∃ cnt', cnt' ≤ cnt + 1 ∧ TabS w' tb mb cnt' lo w'.heap.size (noteN E c seq R)) ∧ w.grownBy w' (some mb) := by
  have hg := gr_refl w (some mb)
  obtain ⟨sv, cv, rfl, hV⟩ := hv
  obtain ⟨Re, Rid, Rd, Rr, Rn, RX⟩ := R
  dsimp only at hV ⊢
  obtain ⟨w1, hw1⟩ : ∃ w1, w.alloc (.cells #[.int .i64 Re, .int .i64 Rid, .int .i64 Rd, .int .i64 Rr, .slice sv Rn cv] 29) = w1 := ⟨_, rfl⟩
  have C : Blk w1 w.heap.size #[.int .i64 Re, .int .i64 Rid, .int .i64 Rd, .int .i64 Rr, .slice sv Rn cv] := hw1 ▸ Blk.new w _ 29
  have hV1 := hV.alloc (.cells #[.int .i64 Re, .int .i64 Rid, .int .i64 Rd, .int .i64 Rr, .slice sv Rn cv] 29)
  have hT1 := h.alloc (.cells #[.int .i64 Re, .int .i64 Rid, .int .i64 Rd, .int .i64 Rr, .slice sv Rn cv] 29)
  have hg1 := gr_alloc hg (.cells #[.int .i64 Re, .int .i64 Rid, .int .i64 Rd, .int .i64 Rr, .slice sv Rn cv] 29)
  have hs1 : w.heap.size < w1.heap.size := C.lt
  rw [hw1] at hV1 hT1 hg1
  have hX := Lib.hid hw1
  have HLW := Lib.hid (And.intro (Nat.le_trans h.lohi h.top) h.top)
  clear hV h hg hw1
  by_cases hm : mayB c seq = true
  · have hT := Lib.hid hT1
    obtain ⟨⟨f, ht, hf⟩, h00, h1, h2, h3, h4⟩ := hT1
    obtain ⟨sa, cap, hfc, hF⟩ := hf c
    obtain ⟨s, hs⟩ : ∃ s, (E c).1 = s := ⟨_, rfl⟩
    have hrun := ht.map.look c hc
    rw [hfc] at hrun
    rw [hs] at hrun
    generalize (E c).2 = Ec at hrun hfc
    have hfld := field_seq w1 s Ec.e Ec.id Ec.d Ec.r (.slice sa Ec.n cap)
    by_cases hl : seq ≤ s
    · have HE := Lib.hid (show noteE (E c) c seq = 11 by unfold noteE; rw [if_pos hm, hs, if_pos hl])
      have HN := Lib.hid (show noteN E c seq ⟨Re, Rid, Rd, Rr, Rn, RX⟩ = E from noteN_no (by rw [HE.out]; decide))
      have e1 : decide (seq ≤ s) = true := decide_eq_true hl
      have A_c := ht.blk.cell
      clear hl hs hfc hf ht hF
      go_enter Try.func11, Try.ntmps11
      go_upto_region 1 with fail
      rw [hX.out]
      go_wp2_with fail
      refine (may_any _ tb c seq).mono ?_
      rintro e' w1' ⟨rfl, rfl⟩
      rw [hm]
      go_wp2_with fail
      go_ret
      exact ⟨by rw [HE.out]; rfl, ⟨cnt, by omega, by rw [HN.out]; exact hT.out.more h4 (Nat.le_refl _)⟩, hg1⟩
    · have HE := Lib.hid (show noteE (E c) c seq = 0 by unfold noteE; rw [if_pos hm, hs, if_neg hl])
      have e1 : decide (seq ≤ s) = false := decide_eq_false hl
      have A := ht.blk
      have A_c := A.cell
      have HF := Lib.hid hf
      have HM := Lib.hid ht.map
      have ht0 := Lib.hid ht.blk
      clear hl hs hfc hf ht hF
      go_enter Try.func11, Try.ntmps11
      go_upto_region 1 with fail
      rw [hX.out]
      go_wp2_with fail
      refine (may_any _ tb c seq).mono ?_
      rintro e' w1' ⟨rfl, rfl⟩
      rw [hm]
      go_upto_region 5 with fail
      clear hrun hfld
      have ht := HM.out
      refine wp_region_plan [(0, true), (1, true), (2, true), (3, true), (4, true), (5, true), (6, true), (7, false), (8, true), (9, false)] (fun w' => TabAt w' tb mb cnt f ∧ (∀ y, EntAt w' lo hi (f y) (E y)) ∧ Blk w' w.heap.size #[.int .i64 Re, .int .i64 Rid, .int .i64 Rd, .int .i64 Rr, .slice sv Rn cv] ∧ FillsAt w' l0 h0 sv Rn cv RX ∧ w.grownBy w' (some mb)) (by kernel_rfl) (by kernel_rfl) (fun _ _ _ _ h => h) ?_ (fun hS => ?_)
      · exact ⟨⟨A.drew, ht.kept (gr_drew (gr_refl _ none)) (by simp)⟩, fun y => (HF.out y).grown (gr_drew (gr_refl _ none)) (by simp), C.drew, hV1.drew, gr_drew hg1⟩
      iterate 7
        refine plan_light (o := ?_) (v := ?_) ?_ ?_ ?_ ?_
        rotate_left 2
        · simp only [List.getElem?_toArray, List.getElem?_cons_zero, List.getElem?_cons_succ]
          rfl
        · go_simp
        · intro w' hS
          (have sa1 := hS.1.blk.cell; have sa2 := hS.2.2.1.cell)
          go_simp
          try rfl
        simp only [Act.put, List.setIfInBounds_toArray, List.set_cons_zero, List.set_cons_succ]
      refine plan_heavy (o := ?_) ?_ (fun K' hK => ?_)
      rotate_left
      · simp only [List.getElem?_toArray, List.getElem?_cons_zero, List.getElem?_cons_succ]
        rfl
      go_simp
      go_wp2_with (go_at_call 18; refine (copied_any _ l0 h0 _ ⟨Re, Rid, Rd, Rr, Rn, RX⟩ ⟨sv, cv, rfl, hS.2.2.2.1⟩).mono ?_; rintro e' w3 ⟨⟨v', rfl, sa', cap', rfl, hO⟩, hb⟩; have hS' := And.intro (hS.1.call hb) (And.intro (fun y => (hS.2.1 y).call hb) (And.intro (hS.2.2.1.call hb) (And.intro (hS.2.2.2.1.call hb) (gr_call hb hS.2.2.2.2)))); have hsz := hS.2.2.2.2.size; have hsb := hb.size; dsimp only at hO ⊢)
      refine hK.out _ _ ?_ (fun hS => ?_)
      · (exact hS')
      clear hK K'
      refine plan_light (o := ?_) (v := ?_) ?_ ?_ ?_ ?_
      rotate_left 2
      · simp only [List.getElem?_toArray, List.getElem?_cons_zero, List.getElem?_cons_succ]
        rfl
      · go_simp
      · intro w' hS
        (have sa1 := hS.1.blk.cell; have sa2 := hS.2.2.1.cell)
        go_simp
        try rfl
      simp only [Act.put, List.setIfInBounds_toArray, List.set_cons_zero, List.set_cons_succ]
      refine plan_sink (o := ?_) ?_ (by kernel_rfl) (fun K' hK => ?_)
      rotate_left
      · simp only [List.getElem?_toArray, List.getElem?_cons_zero, List.getElem?_cons_succ]
        rfl
      rw [if_pos (show Region.wanted _ _ = true from rfl)]
      refine wp_put _ _ _ rfl mb cnt f rfl hS.1.map hcnt c hc rfl _ rfl ?_; intro w4 hM4 hg4
      refine hK.out _ _ ?_
      clear hK K'
      refine plan_nil ?_
      go_wp2_with fail
      go_ret
      have hs3 := hS'.2.2.2.2.size
      have hs4 := hg4.size
      have hl0 := HLW.out
      refine ⟨by rw [HE.out]; rfl, ⟨cnt + 1, Nat.le_refl _, ⟨_, ⟨hS'.1.blk.grown hg4 (by simpa using h00), hM4⟩, fun y => ?_⟩, h00, h1, h2, by omega, Nat.le_refl _⟩, gr_trans hS'.2.2.2.2 hg4⟩
      by_cases e : y = c
      · rw [if_pos e, show noteN E c seq ⟨Re, Rid, Rd, Rr, Rn, RX⟩ y = (seq, ⟨Re, Rid, Rd, Rr, Rn, RX⟩) by unfold noteN; rw [if_pos ⟨e, HE.out⟩]]
        exact ⟨sa', cap', rfl, (hO.fills.grown hg4 (fun k hk => by cases hk; omega)).wide (by omega) hs4 (Nat.le_refl _)⟩
      · rw [if_neg e, show noteN E c seq ⟨Re, Rid, Rd, Rr, Rn, RX⟩ y = E y by unfold noteN; rw [if_neg (fun hh => e hh.1)]]
        exact ((hS'.2.1 y).grown hg4 (fun k hk => by cases hk; exact .inl h2)).wide (Nat.le_refl _) (by omega) (Nat.le_refl _)
  · have hm' : mayB c seq = false := by simpa using hm
    have HE := Lib.hid (show noteE (E c) c seq = 1 by unfold noteE; rw [if_neg hm])
    have HN := Lib.hid (show noteN E c seq ⟨Re, Rid, Rd, Rr, Rn, RX⟩ = E from noteN_no (by rw [HE.out]; decide))
    clear hm
    go_enter Try.func11, Try.ntmps11
    go_upto_region 1 with fail
    rw [hX.out]
    go_wp2_with fail
    refine (may_any _ tb c seq).mono ?_
    rintro e' w1' ⟨rfl, rfl⟩
    rw [hm']
    go_wp2_with fail
    go_ret
    exact ⟨by rw [HE.out]; rfl, ⟨cnt, by omega, by rw [HN.out]; exact hT1.more hT1.top (Nat.le_refl _)⟩, hg1⟩
/-- nobody has anything. -/
def E0 : Int → Int × Rep := fun _ => (0, Rep.zero)
set_option maxHeartbeats 1000000 in
theorem new_any (w : World) : Calls Try.prog 9 #[] w fun e w' => (∃ tb mb, e = .returned (.pointer (some ⟨tb, 0, none⟩)) ∧ w.heap.size ≤ tb ∧ w.heap.size ≤ mb ∧ TabS w' tb mb 0 w'.heap.size w'.heap.size E0) ∧ Below w.heap.size w w' := by
  have hB := bel_refl w
  have hmm := @run_makeMap Try.prog
  go_enter Try.func9, Try.ntmps9
  go_wp2_with fail
  go_ret
  exact ⟨⟨w.heap.size + 1, w.heap.size, rfl, by omega, Nat.le_refl _, ⟨⟨fun _ => zeroE, ⟨Blk.new' (by simp) _ _, (MapAt.new w).kept (World.grownBy_alloc _ _ none) (by simp)⟩, fun c => EntAt.zero _ _ (Nat.le_refl _)⟩, by omega, by simp, by simp; omega, Nat.le_refl _, Nat.le_refl _⟩⟩, bel_alloc (bel_alloc hB _) _⟩
theorem lastS_any (w : World) (tb mb cnt lo hi : Nat) (E : Int → Int × Rep) (h : TabS w tb mb cnt lo hi E) (c : Int) (hc : (Lit.int .i64 c).wf = true) :
    Calls Try.prog 15 #[.pointer (some ⟨tb, 0, none⟩), .int .i64 c] w fun e w' => e = .returned (.int .i64 (E c).1) ∧ w = w' := by
  obtain ⟨⟨f, ht, hf⟩, _⟩ := h
  obtain ⟨sa, cap, hfc, hF⟩ := hf c
  exact last_any w tb mb cnt f ht c hc _ _ _ _ _ _ hfc
end Go.Proofs.Ytgjejgndmioioaa
