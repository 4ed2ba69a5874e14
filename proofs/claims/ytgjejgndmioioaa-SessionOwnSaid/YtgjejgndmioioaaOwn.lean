/-
  The walk of SessionOwn.
-/
import Derived.Test.YtgjejgndmioioaaOnce
import Derived.Laws.AppendOwnNone
namespace Go.Proofs.Ytgjejgndmioioaa
open Go.RowKit
set_option linter.unusedSimpArgs false
set_option linter.unusedVariables false
/-- append([]Fill{}, xs...): as many, in memory of the call's own. -/
theorem wpList_append_fills {ops : Array Oper} {rest : List Oper} {o : Oper} {a : Act} {w : World} {Q : Exit → Act → World → Prop} (hgd : o.guard = none) (s x : Operand)
    (ho : o.op = .call { callee := .builtin .append, args := #[s, x], argTypes := #[27, 27] }) (base : Nat) (hbase : base ≤ w.heap.size) (v : Value) (hs : a.eval s = v) (hown : w.ownsRow base 46 6 v 0 []) (hvb : ∀ k, v.ownBlock = some k → base ≤ k)
    (lo hi : Nat) (sa : Option Addr) (n cap : Nat) (X : Nat → Nat → Int) (hF : FillsAt w lo hi sa n cap X) (hx : a.eval x = .slice sa n cap)
    (h : ∀ so co w', Own w' base w'.heap.size so n co X → Below base w w' → w.heap.size ≤ w'.heap.size → wpList Try.prog ops Q rest (a.put o.dst (.slice so n co)) w') : wpList Try.prog ops Q (o :: rest) a w := by
  cases sa with
  | none =>
    have hn : n = 0 := by
      rcases Nat.eq_zero_or_pos n with h0 | h0
      · exact h0
      · obtain ⟨g, off, e, _⟩ := hF.cells h0; cases e
    obtain rfl := hF.nil rfl
    subst hn
    refine wpList_append_own_none hgd s x 27 ho base 46 _ 6 Try.underlying27 rfl v 0 [] hs hown hx ?_
    obtain ⟨so, co, rfl, hO, hz⟩ := fills_own (X := X) (n := 0) (by simpa [fcells] using hown) hbase (by decide)
    exact h so co w ⟨hO, fun h => absurd h (by omega)⟩ (Below.refl _ _) (Nat.le_refl _)
  | some ad =>
    have hc : ∀ j u, (fcells n X)[j]? = some u → w.cell? (ad.add j) = some u := by
      intro j u hu
      have hj : j < n * 6 := by have := (List.getElem?_eq_some_iff.1 hu).1; rwa [fcells_len] at this
      obtain ⟨g, off, e, _, _, hc⟩ := hF.cells (by omega)
      obtain rfl := Option.some.inj e
      rw [add_none]
      exact fcells_cell hc j u hu
    refine wpList_append_own w hgd s x 27 ho base 46 _ _ 6 48 Try.underlying27 rfl rfl rfl rfl rfl (by decide) v 0 [] hs hown ad n cap (fcells n X) hx (fcells_len n X) hc (fcells_one n X) (by rw [Nat.zero_add]; exact Nat.le_trans hF.lenCap hF.capMax) (by rw [Nat.zero_add]; exact hF.big) hbase ?_
    intro v' w' hown' hg _
    obtain ⟨so, co, rfl, hO, hz⟩ := fills_own (X := X) (n := n) (by simpa using hown') (Nat.le_trans hbase hg.size) hF.big
    exact h so co w' ⟨hO, fun _ => hz⟩ ⟨hg.os, hg.tape, hg.output, hg.size, fun k hk => hg.block k (Nat.lt_of_lt_of_le hk hbase) (fun e => by have := hvb k e.symm; omega)⟩ hg.size
def updX (X : Nat → Nat → Int) (i j : Nat) (v : Int) : Nat → Nat → Int := fun a b => if a = i ∧ b = j then v else X a b
theorem Own.set {w : World} {lo hi : Nat} {n cap g : Nat} {X : Nat → Nat → Int} (h : Own w lo hi (some ⟨g, 0, none⟩) n cap X) (i j : Nat) (hi' : i < n) (hj : j < 6) (v : Int) (k : Nat) (hk : k = i * 6 + j) : Own (w.setCell ⟨g, k, none⟩ (.int .i64 v)) lo hi (some ⟨g, 0, none⟩) n cap (updX X i j v) := by
  subst hk
  obtain ⟨⟨h1, h2, h3, h4, h5, h6⟩, hf⟩ := h
  refine ⟨⟨by simpa [World.setCell] using h1, h2, h3, fun h0 => ?_, h5, h6⟩, fun h0 g' off e => ⟨(hf h0 g' off e).1, fun i => by rw [World.frozen?_setCell]; exact (hf h0 g' off e).2 i⟩⟩
  obtain ⟨g', off, e, q1, q2, hc⟩ := h4 h0
  have e' := e
  simp only [Option.some.injEq, Addr.mk.injEq] at e'
  obtain ⟨rfl, rfl, _⟩ := e'
  refine ⟨g, 0, rfl, q1, q2, fun a ha b hb => ?_⟩
  unfold updX
  by_cases hab : a = i ∧ b = j
  · obtain ⟨rfl, rfl⟩ := hab
    rw [if_pos ⟨rfl, rfl⟩, Nat.zero_add]
    have := hc a ha b hb
    rw [Nat.zero_add] at this
    exact World.cell?_setCell_same _ _ _ this
  · rw [if_neg hab, World.cell?_setCell_other _ _ _ _ (by
      intro e
      simp only [Addr.mk.injEq] at e
      omega)]
    exact hc a ha b hb
theorem TabS.fresh {w : World} {tb mb cnt lo hi : Nat} (h : TabS w tb mb cnt lo hi E0) (h1 : lo ≤ w.heap.size) : ∃ hi', TabS w tb mb cnt w.heap.size hi' E0 := by
  obtain ⟨⟨f, ht, hf⟩, h0, q1, q2, q3, q4⟩ := h
  refine ⟨w.heap.size, ⟨f, ht, fun c => ?_⟩, h0, by omega, by omega, Nat.le_refl _, Nat.le_refl _⟩
  obtain ⟨sa, cap, e, hh⟩ := hf c
  exact ⟨sa, cap, e, Nat.le_refl _, hh.lenCap, hh.capMax, fun h0 => absurd h0 (by simp [E0, Rep.zero]), hh.big, hh.nil⟩
theorem FillsAt.low {w w' : World} {lo hi b : Nat} {sa : Option Addr} {n cap : Nat} {X : Nat → Nat → Int} (h : FillsAt w lo hi sa n cap X) (hb : Below b w w') (h2 : hi ≤ b) : FillsAt w' lo hi sa n cap X :=
  ⟨Nat.le_trans h.top hb.size, h.lenCap, h.capMax, fun h0 => by
    obtain ⟨g, off, e, q1, q2, hc⟩ := h.cells h0
    exact ⟨g, off, e, q1, q2, fun i hi j hj => by rw [World.cell?_of_block (w := w) (hb.block g (by omega))]; exact hc i hi j hj⟩, h.big, h.nil⟩
theorem MapAt.low {w w' : World} {mb n b : Nat} {f : Int → Value} (h : MapAt w mb n f) (hb : Below b w w') (h2 : mb < b) : MapAt w' mb n f := by
  obtain ⟨D, ⟨es, clock, hbb, F, hs, hD⟩, hm, hf⟩ := h
  exact ⟨D, ⟨es, clock, (hb.block mb h2).trans hbb, F, hs, hD⟩, hm, hf⟩
theorem TabS.low {w w' : World} {tb mb cnt lo hi b : Nat} {E : Int → Int × Rep} (h : TabS w tb mb cnt lo hi E) (hb : Below b w w') (h2 : hi ≤ b) : TabS w' tb mb cnt lo hi E := by
  obtain ⟨⟨f, ht, hf⟩, h0, q1, q2, q3, q4⟩ := h
  refine ⟨⟨f, ⟨ht.blk.below hb (by omega), ht.map.low hb (by omega)⟩, fun c => ?_⟩, h0, q1, q2, q3, Nat.le_trans q4 hb.size⟩
  obtain ⟨sa, cap, e, hh⟩ := hf c
  exact ⟨sa, cap, e, hh.low hb h2⟩
set_option maxHeartbeats 8000000 in
set_option maxRecDepth 100000 in
theorem own_walk (P : Deed) (m : Int) (w : World) (hP : FillsAt w 0 w.heap.size P.fa P.R.n P.fc P.R.X) (hm : (Lit.int .i64 m).wf = true) :
    Calls Try.prog 6 #[.agg #[.int .i64 P.R.e, .int .i64 P.R.id, .int .i64 P.R.d, .int .i64 P.R.r, .slice P.fa P.R.n P.fc], .int .i64 m] w fun e w' => e = .returned (.bool true) ∧ Below w.heap.size w w' := by
  obtain ⟨pk, pc, ps, ⟨e, id, d, r, n, X⟩, fa, fc⟩ := P
  dsimp only at hP ⊢
  have hlen : n ≤ 9223372036854775807 := by have := hP.lenCap; have := hP.capMax; unfold maxLen at this; omega
  have hB := bel_refl w
  have A := Blk.new w #[.int .i64 e, .int .i64 id, .int .i64 d, .int .i64 r, .slice fa n fc] 29
  replace hB := bel_alloc hB (.cells #[.int .i64 e, .int .i64 id, .int .i64 d, .int .i64 r, .slice fa n fc] 29)
  have hF := hP.alloc (.cells #[.int .i64 e, .int .i64 id, .int .i64 d, .int .i64 r, .slice fa n fc] 29)
  clear hP
  go_enter Try.func6, Try.ntmps6
  go_upto_region 1 with fail
  obtain ⟨w0, hw0⟩ : ∃ w0, w.alloc (.cells #[.int .i64 e, .int .i64 id, .int .i64 d, .int .i64 r, .slice fa n fc] 29) = w0 := ⟨_, rfl⟩
  rw [hw0] at A hB hF ⊢
  clear hw0
  go_wp2_with fail
  refine (awake_any _).mono ?_
  rintro e' w1 ⟨rfl, hb⟩
  replace hB := bel_call hb hB
  replace A := A.call hb
  replace hF := hF.call hb
  have hs1 := A.lt
  clear hb
  go_wp2_with fail
  refine (new_any _).mono ?_
  rintro e' w2 ⟨⟨tb, mb, rfl, t1, t2, hT⟩, hb⟩
  replace hB := bel_call hb hB
  replace A := A.call hb
  replace hF := hF.call hb
  have hm0 : w.heap.size < mb ∧ w.heap.size < tb := by omega
  have hs2 := Nat.lt_of_lt_of_le hs1 hb.size
  clear hb t1 t2 hs1
  have A_c := A.cell
  have B := Blk.new w2 #[.int .i64 e, .int .i64 id, .int .i64 d, .int .i64 r, .slice fa n fc] 29
  replace hT := hT.alloc (.cells #[.int .i64 e, .int .i64 id, .int .i64 d, .int .i64 r, .slice fa n fc] 29)
  replace A := A.alloc (.cells #[.int .i64 e, .int .i64 id, .int .i64 d, .int .i64 r, .slice fa n fc] 29)
  replace hF := hF.alloc (.cells #[.int .i64 e, .int .i64 id, .int .i64 d, .int .i64 r, .slice fa n fc] 29)
  replace hB := bel_alloc hB (.cells #[.int .i64 e, .int .i64 id, .int .i64 d, .int .i64 r, .slice fa n fc] 29)
  go_upto_region 6 with fail
  obtain ⟨w3, hw3⟩ : ∃ w3, w2.alloc (.cells #[.int .i64 e, .int .i64 id, .int .i64 d, .int .i64 r, .slice fa n fc] 29) = w3 := ⟨_, rfl⟩
  obtain ⟨ob, hob⟩ : ∃ ob, w2.heap.size = ob := ⟨_, rfl⟩
  rw [hob] at hT
  rw [hw3] at A B hT hF hB ⊢
  rw [hob] at B hs2 ⊢
  have hT' : ∃ lo, lo ≤ ob ∧ TabS w3 tb mb 0 lo ob E0 := ⟨_, Nat.le_refl _, hT⟩
  clear hw3 hob A_c hT
  obtain ⟨lo0, hlo0, hT⟩ := hT'
  obtain ⟨sl, hsl⟩ : ∃ sl, Value.slice fa n fc = sl := ⟨_, rfl⟩
  rw [hsl] at A B ⊢
  have HS := Lib.hid hsl.symm
  clear hsl
  have A_c := (A.alloc (.cells #[] 46)).cell
  have B_l := B.lt
  go_upto_region 7 with (at_builtin; go_loud (refine wpList_append_fills rfl _ _ rfl w3.heap.size (by simp) _ rfl (World.ownsRow_made w3 #[] 0 (Nat.le_refl _) (Nat.zero_le _) (by simp)) (fun k hk => Nat.le_of_eq (Option.some.inj hk)) 0 w.heap.size fa n fc X (hF.alloc _) HS.out ?_); intro so co w4 hO hb4 hs4; have A4 := (A.alloc (.cells #[] 46)).below hb4 A.lt; have B4 := (B.alloc (.cells #[] 46)).below hb4 B_l; have hT4 : TabS w4 tb mb 0 lo0 ob E0 := (hT.alloc (.cells #[] 46)).low hb4 (Nat.le_of_lt B_l); have hF4 := (hF.alloc (.cells #[] 46)).low hb4 (by omega); clear A_c; have B_c := B4.cell; have B_f := B4.free)
  rw [HS.out] at A4 B4 ⊢
  have g5 := gr_set (gr_refl w4 (some ob)) ⟨ob, 4, none⟩ (.slice so n co) (.inl rfl)
  have hlt0 := hT4.tlo
  have hlm0 := hT4.mlo
  have A5 := A4.grown g5 (by simp; omega)
  have B5 : Blk _ ob #[.int .i64 e, .int .i64 id, .int .i64 d, .int .i64 r, .slice so n co] := B4.set 4 (.slice so n co)
  have hO5 := hO.grown g5 (fun k hk => by cases hk; omega)
  have hF5 := hF4.grown g5 (fun k hk => by cases hk; omega)
  have hT5 := hT4.grown g5 (fun k hk => by cases hk; omega)
  have hB5 := bel_set (a := ⟨ob, 4, none⟩) ((bel_alloc hB (.cells #[] 46)).trans (hb4.mono hB.size)) (by show w.heap.size ≤ ob; omega) (.slice so n co)
  obtain ⟨w5, hw5⟩ : ∃ w5, w4.setCell ⟨ob, 4, none⟩ (.slice so n co) = w5 := ⟨_, rfl⟩
  rw [hw5] at A5 B5 hO5 hF5 hT5 hB5 ⊢
  obtain ⟨glo, hglo⟩ : ∃ glo, w3.heap.size = glo := ⟨_, rfl⟩
  obtain ⟨ghi, hghi⟩ : ∃ ghi, w4.heap.size = ghi := ⟨_, rfl⟩
  rw [hglo, hghi] at hO5
  rw [hglo] at B_l
  have hob2 : w.heap.size < ob ∧ lo0 ≤ ob ∧ ob < glo := ⟨hs2, hlo0, B_l⟩
  have hgl : ghi ≤ w5.heap.size := hO5.fills.top
  obtain ⟨hi0, hT5'⟩ := hT5.fresh (Nat.le_trans hT5.lohi hT5.top)
  clear hT5 hT4 hF4 A4 B4 hO hb4 hs4 g5 hw5 A B hB hF hT B_c B_f HS hglo hghi hlo0 hs2 B_l
  have hol : ob < w5.heap.size := B5.lt
  obtain ⟨lo, hlo⟩ : ∃ lo, w5.heap.size = lo := ⟨_, rfl⟩
  rw [hlo] at hT5' hgl hol
  have h51 : noteE (E0 5) 5 1 = 0 := by decide
  obtain ⟨E1, hE1⟩ : ∃ E1, noteN E0 5 1 ⟨e, id, d, r, n, X⟩ = E1 := ⟨_, rfl⟩
  have hE15 : E1 5 = (1, ⟨e, id, d, r, n, X⟩) := by rw [← hE1]; unfold noteN; rw [if_pos ⟨rfl, h51⟩]
  have hE1m : m ≠ 5 → (E1 m).1 = 0 := fun hne => by rw [← hE1]; unfold noteN; rw [if_neg (fun hh => hne hh.1)]; rfl
  have cn := Lib.hid (fun (w : World) (cnt hi : Nat) (h : TabS w tb mb cnt lo hi E0) (hc : cnt < maxLen) (l0 h0 : Nat) (v : Value) (hv : RepAt w l0 h0 v ⟨e, id, d, r, n, X⟩) => note_any w tb mb cnt lo hi E0 h hc 5 1 rfl l0 h0 v ⟨e, id, d, r, n, X⟩ hv)
  rw [h51, hE1] at cn
  have ca := Lib.hid (fun (w : World) (cnt hi : Nat) (h : TabS w tb mb cnt lo hi E1) => ask_any w tb mb cnt lo hi E1 h 5 1 rfl)
  rw [hE15, show askE (1, ⟨e, id, d, r, n, X⟩) 5 1 = 7 by unfold askE; rw [if_pos (by decide), if_neg (by show ¬ ((1 : Int) < 1); decide), if_pos rfl], show askR (1, ⟨e, id, d, r, n, X⟩) 5 1 = ⟨e, id, d, r, n, X⟩ by unfold askR; rw [if_pos ⟨by decide, rfl⟩]] at ca
  have cl := Lib.hid (fun (w : World) (cnt hi : Nat) (h : TabS w tb mb cnt lo hi E1) => lastS_any w tb mb cnt lo hi E1 h 5 rfl)
  rw [hE15] at cl
  have clm := Lib.hid (fun (w : World) (cnt hi : Nat) (h : TabS w tb mb cnt lo hi E1) => lastS_any w tb mb cnt lo hi E1 h m hm)
  have HEm := Lib.hid hE1m
  clear h51 hE1 hE15 hE1m
  have B_c := B5.cell
  go_wp2_with fail
  refine (cn.out _ _ _ hT5' (by decide) _ _ _ ⟨so, co, rfl, hO5.fills⟩).mono ?_
  rintro e' w6 ⟨rfl, ⟨cnt', hc', hT6⟩, hg⟩
  have hml : mb < glo ∧ mb ≠ ob ∧ tb ≠ ob := by omega
  replace A5 := A5.grown hg (by simp; omega)
  replace B5 := B5.grown hg (by simp; omega)
  replace hO5 := hO5.grown hg (fun k hk => by cases hk; omega)
  replace hF5 := hF5.grown hg (fun k hk => by cases hk; omega)
  replace hB5 := bel_grown hg hB5 (fun k hk => by cases hk; omega)
  obtain ⟨hi, hhi⟩ : ∃ hi, w6.heap.size = hi := ⟨_, rfl⟩
  rw [hhi] at hT6
  clear hg hT5' B_c hhi hlo
  go_wp2_with fail
  go_loopw [8] (fun i wr => ∃ (j : Nat) (X' : Nat → Nat → Int), j ≤ n ∧ i = .int .i64 j ∧ TabS wr tb mb cnt' lo hi E1 ∧ Blk wr w.heap.size #[.int .i64 e, .int .i64 id, .int .i64 d, .int .i64 r, .slice fa n fc] ∧ Blk wr ob #[.int .i64 e, .int .i64 id, .int .i64 d, .int .i64 r, .slice so n co] ∧ FillsAt wr 0 w.heap.size fa n fc X ∧ Own wr glo ghi so n co X' ∧ Below w.heap.size w wr) (fun i _ => n - (intOf i).toNat)
  case atStart => exact ⟨0, X, by omega, rfl, hT6, A5, B5, hF5, hO5, hB5⟩
  clear hT6 A5 B5 hF5 hO5 hB5
  obtain ⟨j, X', hj, rfl, hT, A, B, hF, hO, hB⟩ := hrel
  have B_c := B.cell
  by_cases hlt : j < n
  · obtain ⟨g, off, e1, q1, q2, q⟩ := hO.fills.cells (by omega)
    obtain ⟨rfl, qf⟩ := hO.free (by omega) g off e1
    subst e1
    have q3 := q j hlt 3 (by decide)
    rw [Nat.zero_add] at q3
    have q4 := qf (j * 6 + 3)
    have hd1 : decide ((j : Int) < (n : Int)) = true := by simp; omega
    have hj0 : (0 : Int) ≤ (j : Int) := by omega
    have hj1 : (j : Int) < (n : Int) := by omega
    have HX := Lib.hid (And.intro hT (And.intro A (And.intro hF (And.intro hO hB))))
    clear q qf hT A hF hO hB
    go_wp2_with fail
    clear B_c
    refine wp_region_plan [(0, true), (1, true), (2, true), (3, true), (4, true), (5, true), (6, true), (7, true), (8, true), (9, true), (10, true), (11, true), (12, false)] (fun w' => Blk w' ob #[.int .i64 e, .int .i64 id, .int .i64 d, .int .i64 r, .slice (some ⟨g, 0, none⟩) n co] ∧ w'.cell? ⟨g, j * 6 + 3, none⟩ = some (.int .i64 (X' j 3)) ∧ w'.frozen? ⟨g, j * 6 + 3, none⟩ = false) (by kernel_rfl) (by kernel_rfl) (fun _ _ _ _ h => h) ?_ (fun hS => ?_)
    · exact ⟨B.drew, q3, q4⟩
    iterate 12
      refine plan_light (o := ?_) (v := ?_) ?_ ?_ ?_ ?_
      rotate_left 2
      · simp only [List.getElem?_toArray, List.getElem?_cons_zero, List.getElem?_cons_succ]
        rfl
      · go_simp
      · intro w' hS
        (have sa1 := hS.1.cell; have sa2 := hS.2.1; have sa3 := hS.2.2)
        go_simp
        try rfl
      simp only [Act.put, List.setIfInBounds_toArray, List.set_cons_zero, List.set_cons_succ]
    refine plan_sink (o := ?_) ?_ (by kernel_rfl) (fun K' hK => ?_)
    rotate_left
    · simp only [List.getElem?_toArray, List.getElem?_cons_zero, List.getElem?_cons_succ]
      rfl
    go_simp
    refine hK.out _ _ ?_
    clear hK K'
    refine plan_nil ?_
    go_wp2_with fail
    go_roundw
    case rel =>
      obtain ⟨hT, A, hF, hO, hB⟩ := HX.out
      exact ⟨j + 1, updX X' j 3 _, by omega, by go_num, hT.drew.grown (gr_set (gr_refl _ (some g)) _ _ (.inl rfl)) (fun k hk => by cases hk; omega), A.drew.grown (gr_set (gr_refl _ (some g)) _ _ (.inl rfl)) (by simp; omega), B.drew.grown (gr_set (gr_refl _ (some g)) _ _ (.inl rfl)) (by simp; omega), hF.drew.grown (gr_set (gr_refl _ (some g)) _ _ (.inl rfl)) (fun k hk => by cases hk; omega), (hO.grown (gr_drew (gr_refl _ none)) (fun k hk => by cases hk)).set j 3 hlt (by decide) _ _ rfl, bel_set (bel_drew hB) (by show w.heap.size ≤ g; omega) _⟩
    case measure => simp [intOf]; omega
  have hd1 : decide ((j : Int) < (n : Int)) = false := by simp; omega
  go_wp2_with fail
  refine (ca.out _ _ _ hT).mono ?_
  rintro e' w8 ⟨⟨v, rfl, sx, cx, rfl, hOx⟩, hb⟩
  dsimp only at hOx ⊢
  have C := Blk.new w8 #[.int .i64 e, .int .i64 id, .int .i64 d, .int .i64 r, .slice sx n cx] 29
  have hxl : hi ≤ wr.heap.size := hT.top
  have hob3 : ob < wr.heap.size := B.lt
  have hxs := hb.size
  replace hOx := hOx.grown (gr_alloc (gr_refl w8 none) (.cells #[.int .i64 e, .int .i64 id, .int .i64 d, .int .i64 r, .slice sx n cx] 29)) (fun k hk => by cases hk)
  replace hT := (hT.call hb).alloc (.cells #[.int .i64 e, .int .i64 id, .int .i64 d, .int .i64 r, .slice sx n cx] 29)
  replace A := (A.call hb).alloc (.cells #[.int .i64 e, .int .i64 id, .int .i64 d, .int .i64 r, .slice sx n cx] 29)
  replace hF := (hF.call hb).alloc (.cells #[.int .i64 e, .int .i64 id, .int .i64 d, .int .i64 r, .slice sx n cx] 29)
  replace hB := bel_alloc (bel_call hb hB) (.cells #[.int .i64 e, .int .i64 id, .int .i64 d, .int .i64 r, .slice sx n cx] 29)
  obtain ⟨xlo, hxlo⟩ : ∃ xlo, wr.heap.size = xlo := ⟨_, rfl⟩
  obtain ⟨xb, hxb⟩ : ∃ xb, w8.heap.size = xb := ⟨_, rfl⟩
  rw [hxlo, hxb] at hOx
  rw [hxlo] at hxl hob3 hxs
  rw [hxb] at hxs
  clear hb B hO hxlo
  have hml2 : mb < xlo ∧ tb < xlo ∧ w.heap.size < xlo := by omega
  go_upto_region 13 with fail
  obtain ⟨w9, hw9⟩ : ∃ w9, w8.alloc (.cells #[.int .i64 e, .int .i64 id, .int .i64 d, .int .i64 r, .slice sx n cx] 29) = w9 := ⟨_, rfl⟩
  rw [hw9] at A C hT hF hOx hB ⊢
  rw [hxb] at C
  clear hw9 hxb
  go_wp2_with fail
  go_loopw [11] (fun i wr => ∃ (j : Nat) (X' : Nat → Nat → Int), j ≤ n ∧ i = .int .i64 j ∧ TabS wr tb mb cnt' lo hi E1 ∧ Blk wr w.heap.size #[.int .i64 e, .int .i64 id, .int .i64 d, .int .i64 r, .slice fa n fc] ∧ Blk wr xb #[.int .i64 e, .int .i64 id, .int .i64 d, .int .i64 r, .slice sx n cx] ∧ FillsAt wr 0 w.heap.size fa n fc X ∧ Own wr xlo xb sx n cx X' ∧ Below w.heap.size w wr) (fun i _ => n - (intOf i).toNat)
  case atStart => exact ⟨0, X, by omega, rfl, hT, A, C, hF, hOx, hB⟩
  clear hT A C hF hOx hB B_c hlt hj hd1
  obtain ⟨k2, X', hk2, rfl, hT, A, B, hF, hO, hB⟩ := hrel
  have B_c := B.cell
  by_cases hlt : k2 < n
  · obtain ⟨g, off, e1, q1, q2, q⟩ := hO.fills.cells (by omega)
    obtain ⟨rfl, qf⟩ := hO.free (by omega) g off e1
    subst e1
    have q3 := q k2 hlt 2 (by decide)
    rw [Nat.zero_add] at q3
    have q4 := qf (k2 * 6 + 2)
    have hd1 : decide ((k2 : Int) < (n : Int)) = true := by simp; omega
    have hj0 : (0 : Int) ≤ (k2 : Int) := by omega
    have hj1 : (k2 : Int) < (n : Int) := by omega
    have HX := Lib.hid (And.intro hT (And.intro A (And.intro hF (And.intro hO hB))))
    clear q qf hT A hF hO hB
    go_wp2_with fail
    clear B_c
    refine wp_region_plan [(0, true), (1, true), (2, true), (3, true), (4, true), (5, true), (6, true), (7, true), (8, true), (9, true), (10, true), (11, true), (12, false)] (fun w' => Blk w' xb #[.int .i64 e, .int .i64 id, .int .i64 d, .int .i64 r, .slice (some ⟨g, 0, none⟩) n cx] ∧ w'.cell? ⟨g, k2 * 6 + 2, none⟩ = some (.int .i64 (X' k2 2)) ∧ w'.frozen? ⟨g, k2 * 6 + 2, none⟩ = false) (by kernel_rfl) (by kernel_rfl) (fun _ _ _ _ h => h) ?_ (fun hS => ?_)
    · exact ⟨B.drew, q3, q4⟩
    iterate 12
      refine plan_light (o := ?_) (v := ?_) ?_ ?_ ?_ ?_
      rotate_left 2
      · simp only [List.getElem?_toArray, List.getElem?_cons_zero, List.getElem?_cons_succ]
        rfl
      · go_simp
      · intro w' hS
        (have sa1 := hS.1.cell; have sa2 := hS.2.1; have sa3 := hS.2.2)
        go_simp
        try rfl
      simp only [Act.put, List.setIfInBounds_toArray, List.set_cons_zero, List.set_cons_succ]
    refine plan_sink (o := ?_) ?_ (by kernel_rfl) (fun K' hK => ?_)
    rotate_left
    · simp only [List.getElem?_toArray, List.getElem?_cons_zero, List.getElem?_cons_succ]
      rfl
    go_simp
    refine hK.out _ _ ?_
    clear hK K'
    refine plan_nil ?_
    go_wp2_with fail
    go_roundw
    case rel =>
      obtain ⟨hT, A, hF, hO, hB⟩ := HX.out
      exact ⟨k2 + 1, updX X' k2 2 _, by omega, by go_num, hT.drew.grown (gr_set (gr_refl _ (some g)) _ _ (.inl rfl)) (fun k hk => by cases hk; omega), A.drew.grown (gr_set (gr_refl _ (some g)) _ _ (.inl rfl)) (by simp; omega), B.drew.grown (gr_set (gr_refl _ (some g)) _ _ (.inl rfl)) (by simp; omega), hF.drew.grown (gr_set (gr_refl _ (some g)) _ _ (.inl rfl)) (fun k hk => by cases hk; omega), (hO.grown (gr_drew (gr_refl _ none)) (fun k hk => by cases hk)).set k2 2 hlt (by decide) _ _ rfl, bel_set (bel_drew hB) (by show w.heap.size ≤ g; omega) _⟩
    case measure => simp [intOf]; omega
  have hd1 : decide ((k2 : Int) < (n : Int)) = false := by simp; omega
  go_wp2_with fail
  refine (ca.out _ _ _ hT).mono ?_
  rintro e' w10 ⟨⟨v, rfl, sy, cy, rfl, hOy⟩, hb⟩
  dsimp only at hOy ⊢
  have Dy := Blk.new w10 #[.int .i64 e, .int .i64 id, .int .i64 d, .int .i64 r, .slice sy n cy] 29
  have hOy2 := hOy.fills.alloc (.cells #[.int .i64 e, .int .i64 id, .int .i64 d, .int .i64 r, .slice sy n cy] 29)
  replace hT := (hT.call hb).alloc (.cells #[.int .i64 e, .int .i64 id, .int .i64 d, .int .i64 r, .slice sy n cy] 29)
  replace A := (A.call hb).alloc (.cells #[.int .i64 e, .int .i64 id, .int .i64 d, .int .i64 r, .slice sy n cy] 29)
  replace hF := (hF.call hb).alloc (.cells #[.int .i64 e, .int .i64 id, .int .i64 d, .int .i64 r, .slice sy n cy] 29)
  replace hB := bel_alloc (bel_call hb hB) (.cells #[.int .i64 e, .int .i64 id, .int .i64 d, .int .i64 r, .slice sy n cy] 29)
  clear hb hOy B hO
  go_upto_region 18 with fail
  obtain ⟨w11, hw11⟩ : ∃ w11, w10.alloc (.cells #[.int .i64 e, .int .i64 id, .int .i64 d, .int .i64 r, .slice sy n cy] 29) = w11 := ⟨_, rfl⟩
  rw [hw11] at A Dy hT hF hOy2 hB ⊢
  clear hw11
  have A_c := A.cell
  have D_c := Dy.cell
  go_wp2_with fail
  refine (same_true _ _ _ _ _ _ _ ⟨e, id, d, r, n, X⟩ ⟨sy, cy, rfl, hOy2⟩ ⟨fa, fc, rfl, hF⟩).mono ?_
  rintro e' w12 ⟨rfl, hb⟩
  replace hT := hT.call hb
  replace hB := bel_call hb hB
  clear hb A_c D_c A Dy hOy2 hF
  by_cases h5 : m = 5
  · subst h5
    go_wp2_with fail
    refine (cl.out _ _ _ hT).mono ?_
    rintro e' w13 ⟨rfl, rfl⟩
    go_wp2_with fail
    go_ret
    exact ⟨rfl, hB⟩
  · have e5 : (m == 5) = false := by simpa using h5
    rw [HEm.out h5] at clm
    go_wp2_with fail
    refine (cl.out _ _ _ hT).mono ?_
    rintro e' w13 ⟨rfl, rfl⟩
    go_wp2_with fail
    refine (clm.out _ _ _ hT).mono ?_
    rintro e' w14 ⟨rfl, rfl⟩
    go_wp2_with fail
    go_ret
    exact ⟨rfl, hB⟩
end Go.Proofs.Ytgjejgndmioioaa
