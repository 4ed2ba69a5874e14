/-
  The document's queue: a list that is copied at each deed; contracts of Find, Sum, Put, Cut, Drop.
-/
import Derived.Test.YtkebpibcoklglaaLast
namespace Go.Proofs.Ytkebpibcoklglaa
open Go.RowKit
set_option linter.unusedSimpArgs false
set_option linter.unusedVariables false
/-- v is a row of the call's own that holds the items L. -/
def XAt (w : World) (v : Value) (L : List (Int × Int)) : Prop := w.ownsRow 0 55 2 v L.length (jcells L)
theorem XAt.call {w w' : World} {v : Value} {L : List (Int × Int)} (h : XAt w v L) (hb : Below w.heap.size w w') : XAt w' v L := World.ownsRow.kept h (gr_below hb none) (by cases v.ownBlock <;> simp)
theorem XAt.alloc {w : World} {v : Value} {L : List (Int × Int)} (h : XAt w v L) (o : Obj) : XAt (w.alloc o) v L := World.ownsRow.alloc h o
theorem XAt.open {w : World} {v : Value} {L : List (Int × Int)} (h : XAt w v L) :
    ∃ sa cap, v = .slice sa L.length cap ∧ L.length ≤ cap ∧ cap ≤ maxLen ∧ ∀ i, (hi : i < L.length) → ∃ g, sa = some ⟨g, 0, none⟩ ∧ w.cell? ⟨g, i * 2, none⟩ = some (.int .i64 L[i].1) ∧ w.cell? ⟨g, i * 2 + 1, none⟩ = some (.int .i64 L[i].2) := by
  rcases h.2 with ⟨e, hn⟩ | ⟨g, cap, cur, e, hg, hh, hle, hm, hs, ht⟩
  · exact ⟨none, 0, by rw [e, hn], by omega, Nat.zero_le _, fun i hi => by omega⟩
  · refine ⟨_, _, e, hle, hm, fun i hi => ⟨g, rfl, ?_⟩⟩
    subst e
    have q := jcells_get L i hi
    rw [World.ownsRow.cellAt h (i * 2) (by omega), World.ownsRow.cellAt h (i * 2 + 1) (by omega)]
    exact q
theorem own_base {w : World} {b b' : Nat} {e : TypeId} {s n : Nat} {v : Value} {xs : List Value} (h : w.ownsRow b e s v n xs) (hb : b' ≤ b) : w.ownsRow b' e s v n xs := by
  refine ⟨h.1, ?_⟩
  rcases h.2 with h1 | ⟨g, cap, cur, h1, h2, h3⟩
  · exact .inl h1
  · exact .inr ⟨g, cap, cur, h1, Nat.le_trans hb h2, h3⟩
theorem rlen {w : World} {v : Value} {L : List (Int × Int)} (h : XAt w v L) (hl : L.length ≤ 1000000) : ∃ sa cap, v = .slice sa L.length cap := by
  obtain ⟨sa, cap, e, _⟩ := h.open
  exact ⟨sa, cap, e⟩
set_option maxHeartbeats 1000000 in
theorem rfind_any (w : World) (v : Value) (L : List (Int × Int)) (h : XAt w v L) (hl : L.length ≤ 1000000) (id : Int) : Calls Try.prog 22 #[v, .int .i64 id] w fun e w' => e = .returned (.int .i64 (findI L id)) ∧ w = w' := by
  obtain ⟨sa, cap, rfl, -, -, hq⟩ := h.open
  clear h
  go_enter Try.func22, Try.ntmps22
  go_wp2_with fail
  go_loop [5] (fun i => ∃ j : Nat, j ≤ L.length ∧ i = .int .i64 j ∧ ∀ x ∈ upto (itm L) j, x.2.1 ≠ id) (fun i => L.length - (intOf i).toNat)
  case atStart => exact ⟨0, by omega, rfl, by simp [upto]⟩
  case round =>
    obtain ⟨j, hj, rfl, hne⟩ := hrel
    by_cases hlt : j < L.length
    · obtain ⟨g, rfl, p0, p1⟩ := hq j hlt
      have hd1 : decide ((j : Int) < (L.length : Int)) = true := by simp; omega
      have hj0 : (0 : Int) ≤ (j : Int) := by omega
      have hj1 : (j : Int) < (L.length : Int) := by omega
      have hu := upto_succ (itm L) j
      have ei := itm_lt L j hlt
      by_cases hx : L[j].1 = id
      · have HF := Lib.hid (findI_some hlt hne (by rw [ei]; exact hx))
        have e1 : (L[j].1 == id) = true := by simpa using hx
        generalize L[j].1 = y at *
        clear hx hne hu ei hq p1
        go_wp2_with fail
        go_ret
        exact ⟨by rw [HF.out]; rfl, rfl⟩
      · have HN := Lib.hid (show ∀ x ∈ upto (itm L) (j + 1), x.2.1 ≠ id by
          rw [hu]
          intro x hx'
          rcases List.mem_append.1 hx' with h | h
          · exact hne x h
          · obtain rfl := List.mem_singleton.1 h
            rw [ei]; exact hx)
        have e1 : (L[j].1 == id) = false := by simpa using hx
        generalize L[j].1 = y at *
        clear hx hne hu ei p1
        go_wp2_with fail
        go_round
        case rel => exact ⟨j + 1, by omega, by go_num, HN.out⟩
        case measure => simp [intOf]; omega
    · have hd1 : decide ((j : Int) < (L.length : Int)) = false := by simp; omega
      have HF := Lib.hid (findI_none (L := L) (id := id) (by rw [show L.length = j by omega]; exact hne))
      clear hne hq
      go_wp2_with fail
      go_ret
      exact ⟨by rw [HF.out]; rfl, rfl⟩
set_option maxHeartbeats 1000000 in
theorem rsum_any (w : World) (v : Value) (L : List (Int × Int)) (h : XAt w v L) (hl : L.length ≤ 1000000) : Calls Try.prog 23 #[v] w fun e w' => e = .returned (.int .i64 (sumW (upto (itm L) L.length))) ∧ w = w' := by
  obtain ⟨sa, cap, rfl, -, -, hq⟩ := h.open
  clear h
  go_enter Try.func23, Try.ntmps23
  go_wp2_with fail
  go_loop [3, 4] (fun s i => ∃ j : Nat, j ≤ L.length ∧ i = .int .i64 j ∧ s = .int .i64 (sumW (upto (itm L) j))) (fun _ i => L.length - (intOf i).toNat)
  case atStart => exact ⟨0, by omega, rfl, rfl⟩
  case round =>
    obtain ⟨j, hj, rfl, rfl⟩ := hrel
    by_cases hlt : j < L.length
    · obtain ⟨g, rfl, p0, p1⟩ := hq j hlt
      have hd1 : decide ((j : Int) < (L.length : Int)) = true := by simp; omega
      have hj0 : (0 : Int) ≤ (j : Int) := by omega
      have hj1 : (j : Int) < (L.length : Int) := by omega
      have hu := upto_succ (itm L) j
      have ei : (itm L j).2.2 = L[j].2 := by simp [itm, List.getElem?_eq_getElem hlt]
      have hs : sumW (upto (itm L) (j + 1)) = wrap64 (sumW (upto (itm L) j) + L[j].2) := by rw [hu, sumW_snoc, ei]
      have HS := Lib.hid hs
      generalize L[j].2 = y at *
      clear hu ei hs p0
      go_wp2_with fail
      go_round
      case rel => exact ⟨j + 1, by omega, by go_num, by rw [HS.out]⟩
      case measure => simp [intOf]; omega
    · have hd1 : decide ((j : Int) < (L.length : Int)) = false := by simp; omega
      have hjl : j = L.length := by omega
      subst hjl
      clear hq
      go_wp2_with fail
      go_ret
      exact ⟨rfl, rfl⟩
/-- append([]Item{}, l...): a copy. -/
theorem wpList_copy {ops : Array Oper} {rest : List Oper} {o : Oper} {a : Act} {w : World} {Q : Exit → Act → World → Prop} (hgd : o.guard = none) (s x : Operand)
    (ho : o.op = .call { callee := .builtin .append, args := #[s, x], argTypes := #[44, 44] }) (base : Nat) (hbase : base ≤ w.heap.size) (v : Value) (hs : a.eval s = v) (hown : w.ownsRow base 55 2 v 0 []) (hvb : ∀ k, v.ownBlock = some k → base ≤ k)
    (v1 : Value) (L : List (Int × Int)) (hR : XAt w v1 L) (hx : a.eval x = v1) (hL : L.length ≤ 1000)
    (h : ∀ v2 w', w'.ownsRow base 55 2 v2 L.length (jcells L) → Below base w w' → w.heap.size ≤ w'.heap.size → wpList Try.prog ops Q rest (a.put o.dst v2) w') : wpList Try.prog ops Q (o :: rest) a w := by
  rcases hR.2 with ⟨e, hn⟩ | ⟨g, cap, cur, e, hg, hh, hle, hm, hsz, ht⟩
  · refine wpList_append_own_none hgd s x 44 ho base 55 _ 2 Try.underlying44 rfl v 0 [] hs hown (hx.trans e) ?_
    have hl : L = [] := List.length_eq_zero_iff.1 hn
    subst hl
    exact h v w (by simpa [jcells] using hown) (Below.refl _ _) (Nat.le_refl _)
  · refine wpList_append_own w hgd s x 44 ho base 55 _ _ 2 16 Try.underlying44 rfl rfl rfl rfl rfl (by decide) v 0 [] hs hown ⟨g, 0, none⟩ L.length cap (jcells L) (hx.trans e) (jcells_len L) (World.ownsRow.cells hR (by rw [e]; rfl)) (jcells_one L) (by rw [Nat.zero_add]; exact Nat.le_trans hle hm) (by omega) hbase ?_
    intro v' w' hown' hg' _
    exact h v' w' (by simpa using hown') ⟨hg'.os, hg'.tape, hg'.output, hg'.size, fun k hk => hg'.block k (Nat.lt_of_lt_of_le hk hbase) (fun e => by have := hvb k e.symm; omega)⟩ hg'.size
theorem two_cells' (w : World) (a b : Int) : ∀ j u, [Value.int .i64 a, .int .i64 b][j]? = some u → (w.alloc (.cells #[.int .i64 a, .int .i64 b] 55)).cell? ((⟨w.heap.size, 0, none⟩ : Addr).add j) = some u := by
  intro j u hu
  have hj : j < 2 := (List.getElem?_eq_some_iff.1 hu).1
  match j, hj with
  | 0, _ => simp at hu; subst hu; simp [Addr.add]
  | 1, _ => simp at hu; subst hu; simp [Addr.add]
set_option maxHeartbeats 4000000 in
theorem rput_any (w : World) (v : Value) (L : List (Int × Int)) (h : XAt w v L) (hl : L.length ≤ 256) (id qty : Int) :
    Calls Try.prog 19 #[v, .int .i64 id, .int .i64 qty] w fun e w' => (∃ v', e = .returned (.tuple #[v', .int .i64 (putE L id qty)]) ∧ XAt w' v' (putN L id qty) ∧ (v' = v ∨ ∃ k, v'.ownBlock = some k ∧ w.heap.size ≤ k)) ∧ Below w.heap.size w w' := by
  have hB := bel_refl w
  have cf := Lib.hid (rfind_any w v L h (by omega) id)
  by_cases ha : id < 1 ∨ qty < 1 ∨ 1073741824 < qty
  · have HQ := Lib.hid (show putE L id qty = 1 ∧ putN L id qty = L by
      have : putE L id qty = 1 := by unfold putE; rw [if_pos ha]
      exact ⟨this, putN_no (by rw [this]; decide)⟩)
    have hd : decide (id < 1) = true ∨ (decide (id < 1) = false ∧ decide (qty < 1) = true) ∨ (decide (id < 1) = false ∧ decide (qty < 1) = false ∧ decide (1073741824 < qty) = true) := by
      simp only [decide_eq_true_eq, decide_eq_false_iff_not]; omega
    clear ha
    have h0 := Lib.hid h
    clear h
    go_enter Try.func19, Try.ntmps19
    rcases hd with h1 | ⟨h1, h2⟩ | ⟨h1, h2, h3⟩
    all_goals
      go_wp2_with fail
      go_ret2
      exact ⟨⟨v, by rw [HQ.out.1]; rfl, by rw [HQ.out.2]; exact h0.out, .inl rfl⟩, hB⟩
  · have d1 : decide (id < 1) = false := by simp only [decide_eq_false_iff_not]; omega
    have d2 : decide (qty < 1) = false := by simp only [decide_eq_false_iff_not]; omega
    have d3 : decide (1073741824 < qty) = false := by simp only [decide_eq_false_iff_not]; omega
    by_cases hk : 0 ≤ findI L id
    · have HQ := Lib.hid (show putE L id qty = 7 ∧ putN L id qty = L by
        have : putE L id qty = 7 := by unfold putE; rw [if_neg ha, if_pos hk]
        exact ⟨this, putN_no (by rw [this]; decide)⟩)
      have d4 : decide (0 ≤ findI L id) = true := decide_eq_true hk
      have h0 := Lib.hid h
      clear ha h hk
      generalize findI L id = fi at *
      go_enter Try.func19, Try.ntmps19
      go_wp2_with fail
      refine cf.out.mono ?_
      rintro e' w1 ⟨rfl, rfl⟩
      go_wp2_with fail
      go_ret2
      exact ⟨⟨v, by rw [HQ.out.1]; rfl, by rw [HQ.out.2]; exact h0.out, .inl rfl⟩, hB⟩
    · have e := findI_neg hk
      by_cases hl2 : 256 ≤ L.length
      · have HQ := Lib.hid (show putE L id qty = 5 ∧ putN L id qty = L by
          have : putE L id qty = 5 := by unfold putE; rw [if_neg ha, if_neg hk, if_pos hl2]
          exact ⟨this, putN_no (by rw [this]; decide)⟩)
        have d5 : decide ((256 : Int) ≤ (L.length : Int)) = true := by simp; omega
        rw [e] at cf
        have h0 := Lib.hid h
        obtain ⟨sa, cap, rfl⟩ := rlen h (by omega)
        clear ha hk e h
        go_enter Try.func19, Try.ntmps19
        go_wp2_with fail
        refine cf.out.mono ?_
        rintro e' w1 ⟨rfl, rfl⟩
        go_wp2_with fail
        go_ret2
        exact ⟨⟨_, by rw [HQ.out.1]; rfl, by rw [HQ.out.2]; exact h0.out, .inl rfl⟩, hB⟩
      · have HQ := Lib.hid (show putE L id qty = 0 ∧ putN L id qty = L ++ [(id, qty)] by
          have : putE L id qty = 0 := by unfold putE; rw [if_neg ha, if_neg hk, if_neg hl2]
          exact ⟨this, by unfold putN; rw [if_pos this]⟩)
        have d5 : decide ((256 : Int) ≤ (L.length : Int)) = false := by simp; omega
        rw [e] at cf
        have hmx : L.length + 1 ≤ maxLen := by unfold maxLen; omega
        have hby : (L.length + 1) * 16 ≤ 140737488355328 := by omega
        have h0 := Lib.hid h
        obtain ⟨sa, cap, hv⟩ := rlen h (by omega)
        have HV := Lib.hid hv
        have hlen : ∀ ty (w : World), (Builtin.len_ #[44] ty #[v]).run Try.prog w = .ok (.int .i64 L.length) w := fun ty w => by rw [hv]; rfl
        clear ha hk e hl2 h hv
        go_enter Try.func19, Try.ntmps19
        go_wp2_with fail
        refine cf.out.mono ?_
        rintro e' w1 ⟨rfl, rfl⟩
        go_upto_region 7 with fail
        go_wp2_with (at_builtin; first | (refine wpList_copy rfl _ _ rfl w.heap.size (by simp) _ rfl (World.ownsRow_made w #[] 0 (Nat.le_refl _) (Nat.zero_le _) (by simp)) (fun k hk => Nat.le_of_eq (Option.some.inj hk)) v L (h0.out.alloc _) rfl (by omega) ?_; intro v2 w3 hO hb3 hs3) | (refine wpList_append_own _ rfl _ _ 44 rfl w.heap.size 55 _ _ 2 16 Try.underlying44 rfl rfl rfl rfl rfl (by decide) v2 L.length (jcells L) rfl (hO.alloc _) ⟨w3.heap.size, 0, none⟩ 1 1 [.int .i64 id, .int .i64 qty] rfl rfl (two_cells' w3 _ _) (by simp [Value.oneCell']) hmx hby (by simp at hs3 ⊢; omega) ?_; intro v3 w4 hO4 hg4 _))
        go_ret2
        have hb' : Below w.heap.size w w3 := (bel_alloc hB (.cells #[] 55)).trans hb3
        obtain ⟨g', cap', rfl⟩ := ownsRow_succ hO4
        refine ⟨⟨_, by rw [HQ.out.1]; rfl, ?_, .inr ⟨g', rfl, (hO4.lt g' rfl).1⟩⟩, bel_grown hg4 (bel_alloc hb' _) (fun k hk => (hO.lt k hk).1)⟩
        rw [HQ.out.2]
        unfold XAt
        rw [List.length_append, jcells_snoc]
        exact own_base hO4 (Nat.zero_le _)
theorem cellsAt {w : World} {g cap : Nat} {L : List (Int × Int)} (h : XAt w (.slice (some ⟨g, 0, none⟩) L.length cap) L) (i : Nat) (hi : i < L.length) : w.cell? ⟨g, i * 2, none⟩ = some (.int .i64 L[i].1) ∧ w.cell? ⟨g, i * 2 + 1, none⟩ = some (.int .i64 L[i].2) := by
  have q := jcells_get L i hi
  rw [World.ownsRow.cellAt h (i * 2) (by omega), World.ownsRow.cellAt h (i * 2 + 1) (by omega)]
  exact q
theorem XAt.some {w : World} {v : Value} {L : List (Int × Int)} (h : XAt w v L) (hl : 0 < L.length) : ∃ g cap, v = .slice (some ⟨g, 0, none⟩) L.length cap := by
  rcases h.2 with ⟨e, hn⟩ | ⟨g, cap, cur, e, _⟩
  · omega
  · exact ⟨g, cap, e⟩
set_option maxHeartbeats 4000000 in
theorem rcut_any (w : World) (v : Value) (L : List (Int × Int)) (h : XAt w v L) (hl : L.length ≤ 256) (id qty : Int) :
    Calls Try.prog 20 #[v, .int .i64 id, .int .i64 qty] w fun e w' => (∃ v', e = .returned (.tuple #[v', .bool (cutB L id qty)]) ∧ XAt w' v' (cutN L id qty) ∧ (v' = v ∨ ∃ k, v'.ownBlock = some k ∧ w.heap.size ≤ k)) ∧ Below w.heap.size w w' := by
  have hB := bel_refl w
  have cf := Lib.hid (rfind_any w v L h (by omega) id)
  by_cases hk : 0 ≤ findI L id
  · obtain ⟨k, e, hlt⟩ := findI_pos hk
    obtain ⟨g, cap, rfl⟩ := h.some (by omega)
    have q := (cellsAt h k hlt).2
    have hx : (L[(findI L id).toNat]?.getD (0, 0)) = L[k] := by rw [e]; simp [List.getElem?_eq_getElem hlt]
    have hk0 : (0 : Int) ≤ (k : Int) := by omega
    have hk1 : (k : Int) < (L.length : Int) := by omega
    have hd1 : decide ((k : Int) < 0) = false := by simp
    rw [e] at cf
    have h0 := Lib.hid h
    by_cases hc : 1 ≤ qty ∧ qty < L[k].2
    · have HQ := Lib.hid (show cutB L id qty = true ∧ cutN L id qty = L.set k (L[k].1, qty) by
        have : cutB L id qty = true := by unfold cutB; rw [hx, decide_eq_true_eq]; exact ⟨hk, hc⟩
        refine ⟨this, ?_⟩
        unfold cutN
        rw [if_pos this, hx, e]
        rfl)
      have hd2 : decide (qty < 1) = false := by simp; omega
      have hd3 : decide (L[k].2 ≤ qty) = false := by simp; omega
      have hjs := Lib.hid (jcells_set L k hlt qty)
      obtain ⟨m, hm⟩ : ∃ m, L.length = m + 1 := ⟨L.length - 1, by omega⟩
      have HM := Lib.hid (And.intro hm hlt)
      clear hk e hc hx h hm
      generalize L[k].2 = x at *
      go_enter Try.func20, Try.ntmps20
      go_wp2_with fail
      refine cf.out.mono ?_
      rintro e' w1 ⟨rfl, rfl⟩
      go_upto_region 4 with fail
      go_wp2_with (at_builtin; refine wpList_copy rfl _ _ rfl w.heap.size (by simp) _ rfl (World.ownsRow_made w #[] 0 (Nat.le_refl _) (Nat.zero_le _) (by simp)) (fun k hk => Nat.le_of_eq (Option.some.inj hk)) _ L (h0.out.alloc _) rfl (by omega) ?_; intro v2 w3 hO hb3 hs3; obtain ⟨g', cap', rfl⟩ : ∃ g' cap', v2 = .slice (some ⟨g', 0, none⟩) L.length cap' := (by have := XAt.some (own_base hO (Nat.zero_le _)) (by have := HM.out; omega); exact this); have q2 := (cellsAt (own_base hO (Nat.zero_le _)) k HM.out.2).2; have qf := hO.frozenAt (k * 2 + 1))
      go_ret2
      have hb' : Below w.heap.size w w3 := (bel_alloc hB (.cells #[] 55)).trans hb3
      have hst := hO.stored (k * 2 + 1) (.int .i64 qty)
      refine ⟨⟨_, by rw [HQ.out.1]; rfl, ?_, .inr ⟨g', rfl, (hO.lt g' rfl).1⟩⟩, bel_grown hst.2 hb' (fun k hk => by cases hk; exact (hO.lt g' rfl).1)⟩
      rw [HQ.out.2]
      unfold XAt
      rw [List.length_set, ← hjs.out]
      exact own_base hst.1 (Nat.zero_le _)
    · have HQ := Lib.hid (show cutB L id qty = false ∧ cutN L id qty = L by
        have : cutB L id qty = false := by unfold cutB; rw [hx, decide_eq_false_iff_not]; exact fun hh => hc hh.2
        exact ⟨this, cutN_no this⟩)
      have hd2 : decide (qty < 1) = true ∨ (decide (qty < 1) = false ∧ decide (L[k].2 ≤ qty) = true) := by
        simp only [decide_eq_true_eq, decide_eq_false_iff_not]; omega
      clear hk e hc hx h
      generalize L[k].2 = x at *
      go_enter Try.func20, Try.ntmps20
      go_wp2_with fail
      refine cf.out.mono ?_
      rintro e' w1 ⟨rfl, rfl⟩
      rcases hd2 with hd2 | ⟨hd2, hd3⟩
      all_goals
        go_wp2_with fail
        go_ret2
        exact ⟨⟨_, by rw [HQ.out.1]; rfl, by rw [HQ.out.2]; exact h0.out, .inl rfl⟩, hB⟩
  · have e := findI_neg hk
    have HQ := Lib.hid (show cutB L id qty = false ∧ cutN L id qty = L by
      have : cutB L id qty = false := by unfold cutB; rw [decide_eq_false_iff_not]; exact fun hh => hk hh.1
      exact ⟨this, cutN_no this⟩)
    rw [e] at cf
    have h0 := Lib.hid h
    clear hk e h
    go_enter Try.func20, Try.ntmps20
    go_wp2_with fail
    refine cf.out.mono ?_
    rintro e' w1 ⟨rfl, rfl⟩
    go_wp2_with fail
    go_ret2
    exact ⟨⟨_, by rw [HQ.out.1]; rfl, by rw [HQ.out.2]; exact h0.out, .inl rfl⟩, hB⟩
end Go.Proofs.Ytkebpibcoklglaa
