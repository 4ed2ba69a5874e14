/-
  The document's table: a list of rows; contracts of may, last, Last.
-/
import Derived.Test.YtgjejgndmioioaaOnce
import Derived.Laws.AppendOwnNone
namespace Go.Proofs.Ytgjejgndmioioaa
open Go.RowKit
set_option linter.unusedSimpArgs false
set_option linter.unusedVariables false
/-- a row's cells. -/
def dl (d : Deed) : List Value := [.int .i64 d.c, .int .i64 d.s, .int .i64 d.R.e, .int .i64 d.R.id, .int .i64 d.R.d, .int .i64 d.R.r, .slice d.fa d.R.n d.fc]
def rcells (L : List Deed) : List Value := L.flatMap dl
theorem rcells_len : ∀ L : List Deed, (rcells L).length = L.length * 7
  | [] => rfl
  | d :: L => by
    have ih := rcells_len L
    unfold rcells at ih ⊢
    rw [List.flatMap_cons, List.length_append, ih, List.length_cons]
    show 7 + L.length * 7 = _
    omega
theorem rcells_get : ∀ (L : List Deed) (i : Nat) (d : Deed) (j : Nat), L[i]? = some d → j < 7 → (rcells L)[i * 7 + j]? = (dl d)[j]?
  | x :: L, 0, d, j, h, hj => by
    simp only [List.getElem?_cons_zero, Option.some.injEq] at h
    subst h
    unfold rcells
    rw [List.flatMap_cons, Nat.zero_mul, Nat.zero_add, List.getElem?_append_left (by show j < 7; exact hj)]
  | x :: L, i + 1, d, j, h, hj => by
    have ih := rcells_get L i d j (by simpa using h) hj
    unfold rcells at ih ⊢
    rw [List.flatMap_cons, List.getElem?_append_right (by show 7 ≤ _; omega), ← ih]
    show (List.flatMap dl L)[(i + 1) * 7 + j - 7]? = _
    rw [show (i + 1) * 7 + j - 7 = i * 7 + j by omega]
  | [], i, d, j, h, hj => by simp at h
theorem rcells_one (L : List Deed) : ∀ u ∈ rcells L, u.oneCell' = true := by
  intro u hu
  unfold rcells at hu
  obtain ⟨d, _, hd⟩ := List.mem_flatMap.1 hu
  simp only [dl, List.mem_cons, List.not_mem_nil, or_false] at hd
  rcases hd with rfl | rfl | rfl | rfl | rfl | rfl | rfl <;> rfl
theorem rcells_snoc (L : List Deed) (d : Deed) : rcells (L ++ [d]) = rcells L ++ dl d := by
  unfold rcells
  rw [List.flatMap_append]
  simp
/-- v is a row of the call's own that holds the rows L; their fills came in. -/
structure RowsAt (w : World) (base fl : Nat) (v : Value) (L : List Deed) : Prop where
  own : w.ownsRow base 57 7 v L.length (rcells L)
  le : base ≤ w.heap.size
  fills : ∀ d ∈ L, FillsAt w 0 fl d.fa d.R.n d.fc d.R.X
/-- seven cells. -/
def Seven (w : World) (g o : Nat) (d : Deed) : Prop := w.cell? ⟨g, o, none⟩ = some (.int .i64 d.c) ∧ w.cell? ⟨g, o + 1, none⟩ = some (.int .i64 d.s) ∧ w.cell? ⟨g, o + 2, none⟩ = some (.int .i64 d.R.e) ∧
  w.cell? ⟨g, o + 3, none⟩ = some (.int .i64 d.R.id) ∧ w.cell? ⟨g, o + 4, none⟩ = some (.int .i64 d.R.d) ∧ w.cell? ⟨g, o + 5, none⟩ = some (.int .i64 d.R.r) ∧ w.cell? ⟨g, o + 6, none⟩ = some (.slice d.fa d.R.n d.fc)
theorem Seven.call {w w' : World} {g o : Nat} {d : Deed} (h : Seven w g o d) (hb : Below w.heap.size w w') : Seven w' g o d := by
  obtain ⟨h0, h1, h2, h3, h4, h5, h6⟩ := h
  exact ⟨cell_call h0 hb, cell_call h1 hb, cell_call h2 hb, cell_call h3 hb, cell_call h4 hb, cell_call h5 hb, cell_call h6 hb⟩
theorem RowsAt.open {w : World} {base fl : Nat} {v : Value} {L : List Deed} (h : RowsAt w base fl v L) :
    ∃ sa cap, v = .slice sa L.length cap ∧ L.length ≤ maxLen ∧ ∀ i d, L[i]? = some d → ∃ g, sa = some ⟨g, 0, none⟩ ∧ Seven w g (i * 7) d := by
  rcases h.own.2 with ⟨rfl, hn⟩ | ⟨g, cap, cur, rfl, hg, hh, hle, hm, hs, ht⟩
  · refine ⟨none, 0, by rw [hn], by rw [hn]; exact Nat.zero_le _, fun i d hi => ?_⟩
    have := (List.getElem?_eq_some_iff.1 hi).1
    omega
  · refine ⟨some ⟨g, 0, none⟩, cap, rfl, Nat.le_trans hle hm, fun i d hi => ⟨g, rfl, ?_⟩⟩
    have q : ∀ j u, j < 7 → (dl d)[j]? = some u → w.cell? ⟨g, i * 7 + j, none⟩ = some u := fun j u hj hu => by
      have := h.own.cells (g := g) rfl (i * 7 + j) u ((rcells_get L i d j hi hj).trans hu)
      rw [add_none, Nat.zero_add] at this
      exact this
    exact ⟨q 0 _ (by decide) rfl, q 1 _ (by decide) rfl, q 2 _ (by decide) rfl, q 3 _ (by decide) rfl, q 4 _ (by decide) rfl, q 5 _ (by decide) rfl, q 6 _ (by decide) rfl⟩
theorem RowsAt.grown {w w' : World} {base fl : Nat} {v : Value} {L : List Deed} {row : Option Nat} (h : RowsAt w base fl v L) (hg : w.grownBy w' row) (hr : ∀ k, row = some k → k < base ∧ fl ≤ k) : RowsAt w' base fl v L :=
  ⟨h.own.kept hg (by
    cases hv : v.ownBlock with
    | none => exact .inl rfl
    | some k => exact .inr (fun e => by have := (h.own.lt k hv).1; have := (hr k e.symm).1; omega)), Nat.le_trans h.le hg.size, fun d hd => (h.fills d hd).grown hg (fun k e => .inr (hr k e).2)⟩
theorem RowsAt.call {w w' : World} {base fl : Nat} {v : Value} {L : List Deed} (h : RowsAt w base fl v L) (hb : Below w.heap.size w w') : RowsAt w' base fl v L := h.grown (gr_below hb none) (fun k e => by cases e)
theorem RowsAt.alloc {w : World} {base fl : Nat} {v : Value} {L : List Deed} (h : RowsAt w base fl v L) (o : Obj) : RowsAt (w.alloc o) base fl v L := h.call (bel_alloc (bel_refl w) o)
theorem RowsAt.drew {w : World} {base fl : Nat} {v : Value} {L : List Deed} (h : RowsAt w base fl v L) : RowsAt w.drew base fl v L := h.call (bel_drew (bel_refl w))
theorem RowsAt.nil (w : World) (fl : Nat) : RowsAt w w.heap.size fl (.slice none 0 0) [] := ⟨World.ownsRow_nil _ _ _ _, Nat.le_refl _, fun d hd => by cases hd⟩
/-- a row, by value. -/
def rowV (d : Deed) : Value := .agg #[.int .i64 d.c, .int .i64 d.s, .int .i64 d.R.e, .int .i64 d.R.id, .int .i64 d.R.d, .int .i64 d.R.r, .slice d.fa d.R.n d.fc]
theorem field_row (w : World) (d : Deed) : Sem.run Try.prog (Instr.field 57 (rowV d) 1) w = .ok (.int .i64 d.s) w := by kernel_rfl
/-- a client's last row. -/
def lastOf (L : List Deed) (c : Int) : Deed := L.foldl (fun x d => if d.c = c then d else x) ⟨0, c, 0, Rep.zero, none, 0⟩
theorem lastOf_snoc (L : List Deed) (d : Deed) (c : Int) : lastOf (L ++ [d]) c = if d.c = c then d else lastOf L c := by
  unfold lastOf
  rw [List.foldl_append]
  rfl
theorem lastOf_take (L : List Deed) (j : Nat) (d : Deed) (h : L[j]? = some d) (c : Int) : lastOf (L.take (j + 1)) c = if d.c = c then d else lastOf (L.take j) c := by
  rw [List.take_add_one, h]
  exact lastOf_snoc _ d c
/-- the table's entries, out of the rows. -/
def EL (L : List Deed) : Int → Int × Rep := fun c => ((lastOf L c).s, (lastOf L c).R)
theorem EL_nil : EL [] = E0 := rfl
theorem EL_snoc (L : List Deed) (d : Deed) : EL (L ++ [d]) = fun y => if y = d.c then (d.s, d.R) else EL L y := by
  funext y
  unfold EL
  rw [lastOf_snoc]
  by_cases h : d.c = y
  · rw [if_pos h, if_pos h.symm]
  · rw [if_neg h, if_neg (fun e => h e.symm)]
/-- what is noted is the rows' last. -/
def noteL (L : List Deed) (d : Deed) : List Deed := if noteE (EL L d.c) d.c d.s = 0 then L ++ [d] else L
theorem noteN_EL (L : List Deed) (d : Deed) : noteN (EL L) d.c d.s d.R = EL (noteL L d) := by
  unfold noteL
  by_cases h : noteE (EL L d.c) d.c d.s = 0
  · rw [if_pos h, EL_snoc]
    funext y
    unfold noteN
    by_cases e : y = d.c
    · rw [if_pos ⟨e, h⟩, if_pos e]
    · rw [if_neg (fun hh => e hh.1), if_neg e]
  · rw [if_neg h, noteN_no h]
theorem noteL_len (L : List Deed) (d : Deed) : (noteL L d).length ≤ L.length + 1 := by
  unfold noteL
  split <;> simp
/-- all rows are of clients that there may be. -/
def Clients (L : List Deed) : Prop := ∀ d ∈ L, 1 ≤ d.c ∧ d.c ≤ 64
theorem Clients.note {L : List Deed} (h : Clients L) (d : Deed) : Clients (noteL L d) := by
  unfold noteL
  by_cases e : noteE (EL L d.c) d.c d.s = 0
  · rw [if_pos e]
    intro x hx
    rcases List.mem_append.1 hx with hx | hx
    · exact h x hx
    · obtain rfl := List.mem_singleton.1 hx
      unfold noteE at e
      by_cases hm : mayB x.c x.s = true
      · unfold mayB at hm
        simp only [decide_eq_true_eq] at hm
        omega
      · rw [if_neg hm] at e; cases e
  · rw [if_neg e]; exact h
theorem lastOf_out : ∀ {L : List Deed} {c : Int}, Clients L → ¬ (1 ≤ c ∧ c ≤ 64) → (lastOf L c).s = 0 := by
  intro L c h hc
  have : ∀ (L : List Deed) (x : Deed), Clients L → L.foldl (fun x d => if d.c = c then d else x) x = x := by
    intro L
    induction L with
    | nil => intro x _; rfl
    | cons d L ih =>
      intro x h
      have hd := h d List.mem_cons_self
      simp only [List.foldl_cons]
      rw [if_neg (fun e => hc (by rw [← e]; exact hd)), ih x (fun y hy => h y (List.mem_cons_of_mem _ hy))]
  unfold lastOf
  rw [this L _ h]
theorem rmay_any (w : World) (client seq : Int) : Calls Try.prog 19 #[.int .i64 client, .int .i64 seq] w fun e w' => e = .returned (.bool (mayB client seq)) ∧ w = w' := by
  have hw : (mayB client seq = true ∧ decide (1 ≤ client) = true ∧ decide (client ≤ 64) = true ∧ decide (1 ≤ seq) = true) ∨
      (mayB client seq = false ∧ (decide (1 ≤ client) = false ∨ (decide (1 ≤ client) = true ∧ decide (client ≤ 64) = false) ∨ (decide (1 ≤ client) = true ∧ decide (client ≤ 64) = true ∧ decide (1 ≤ seq) = false))) := by
    unfold mayB
    simp only [decide_eq_true_eq, decide_eq_false_iff_not]
    omega
  go_enter Try.func19, Try.ntmps19
  rcases hw with ⟨e, h1, h2, h3⟩ | ⟨e, h1 | ⟨h1, h2⟩ | ⟨h1, h2, h3⟩⟩
  all_goals
    rw [e]
    clear e
    go_wp2
    go_ret
    exact ⟨rfl, rfl⟩
theorem Blk.put7 {w : World} {b : Nat} {x0 x1 x2 x3 x4 x5 x6 : Value} (h : Blk w b #[x0, x1, x2, x3, x4, x5, x6]) (y0 y1 y2 y3 y4 y5 y6 : Value) :
    Blk (((((((w.setCell ⟨b, 0, none⟩ y0).setCell ⟨b, 1, none⟩ y1).setCell ⟨b, 2, none⟩ y2).setCell ⟨b, 3, none⟩ y3).setCell ⟨b, 4, none⟩ y4).setCell ⟨b, 5, none⟩ y5).setCell ⟨b, 6, none⟩ y6) b #[y0, y1, y2, y3, y4, y5, y6] := by
  have h0 : Blk _ b #[y0, x1, x2, x3, x4, x5, x6] := h.set 0 y0
  have h1 : Blk _ b #[y0, y1, x2, x3, x4, x5, x6] := h0.set 1 y1
  have h2 : Blk _ b #[y0, y1, y2, x3, x4, x5, x6] := h1.set 2 y2
  have h3 : Blk _ b #[y0, y1, y2, y3, x4, x5, x6] := h2.set 3 y3
  have h4 : Blk _ b #[y0, y1, y2, y3, y4, x5, x6] := h3.set 4 y4
  have h5 : Blk _ b #[y0, y1, y2, y3, y4, y5, x6] := h4.set 5 y5
  have h6 : Blk _ b #[y0, y1, y2, y3, y4, y5, y6] := h5.set 6 y6
  exact h6
theorem gr_put7 (w : World) (b : Nat) (y0 y1 y2 y3 y4 y5 y6 : Value) :
    w.grownBy (((((((w.setCell ⟨b, 0, none⟩ y0).setCell ⟨b, 1, none⟩ y1).setCell ⟨b, 2, none⟩ y2).setCell ⟨b, 3, none⟩ y3).setCell ⟨b, 4, none⟩ y4).setCell ⟨b, 5, none⟩ y5).setCell ⟨b, 6, none⟩ y6) (some b) :=
  gr_set (gr_set (gr_set (gr_set (gr_set (gr_set (gr_set (gr_refl w (some b)) _ _ (.inl rfl)) _ _ (.inl rfl)) _ _ (.inl rfl)) _ _ (.inl rfl)) _ _ (.inl rfl)) _ _ (.inl rfl)) _ _ (.inl rfl)
set_option maxHeartbeats 4000000 in
set_option maxRecDepth 100000 in
theorem rlast_any (w : World) (base fl : Nat) (v : Value) (L : List Deed) (h : RowsAt w base fl v L) (c : Int) :
    Calls Try.prog 20 #[v, .int .i64 c] w fun e w' => e = .returned (rowV (lastOf L c)) ∧ Below w.heap.size w w' := by
  obtain ⟨sa, cap, rfl, hlm, hq⟩ := h.open
  have hlen : L.length ≤ 9223372036854775807 := by unfold maxLen at hlm; omega
  clear h hlm
  have hB := bel_refl w
  have R := (Blk.new w #[.int .i64 0, .int .i64 0, .int .i64 0, .int .i64 0, .int .i64 0, .int .i64 0, .slice none 0 0] 57).alloc (.cells #[.int .i64 c, .int .i64 0, .int .i64 0, .int .i64 0, .int .i64 0, .int .i64 0, .slice none 0 0] 57)
  have X := Blk.new' (w := w.alloc (.cells #[.int .i64 0, .int .i64 0, .int .i64 0, .int .i64 0, .int .i64 0, .int .i64 0, .slice none 0 0] 57)) (n := w.heap.size + 1) (by simp) #[.int .i64 c, .int .i64 0, .int .i64 0, .int .i64 0, .int .i64 0, .int .i64 0, .slice none 0 0] 57
  replace hB := bel_alloc (bel_alloc hB (.cells #[.int .i64 0, .int .i64 0, .int .i64 0, .int .i64 0, .int .i64 0, .int .i64 0, .slice none 0 0] 57)) (.cells #[.int .i64 c, .int .i64 0, .int .i64 0, .int .i64 0, .int .i64 0, .int .i64 0, .slice none 0 0] 57)
  go_enter Try.func20, Try.ntmps20
  go_upto_region 2 with fail
  obtain ⟨w1, hw1⟩ : ∃ w1, (w.alloc (.cells #[.int .i64 0, .int .i64 0, .int .i64 0, .int .i64 0, .int .i64 0, .int .i64 0, .slice none 0 0] 57)).alloc (.cells #[.int .i64 c, .int .i64 0, .int .i64 0, .int .i64 0, .int .i64 0, .int .i64 0, .slice none 0 0] 57) = w1 := ⟨_, rfl⟩
  rw [hw1] at R X hB ⊢
  clear hw1
  go_wp2_with fail
  go_loopw [6] (fun i wr => ∃ (j : Nat) (x : Deed), j ≤ L.length ∧ i = .int .i64 j ∧ lastOf (L.take j) c = x ∧ Blk wr w.heap.size #[.int .i64 0, .int .i64 0, .int .i64 0, .int .i64 0, .int .i64 0, .int .i64 0, .slice none 0 0] ∧ Blk wr (w.heap.size + 1) #[.int .i64 x.c, .int .i64 x.s, .int .i64 x.R.e, .int .i64 x.R.id, .int .i64 x.R.d, .int .i64 x.R.r, .slice x.fa x.R.n x.fc] ∧ Below w.heap.size w wr) (fun i _ => L.length - (intOf i).toNat)
  case atStart => exact ⟨0, ⟨0, c, 0, Rep.zero, none, 0⟩, by omega, rfl, rfl, R, X, hB⟩
  case round =>
    clear R X hB
    obtain ⟨j, x, hj, rfl, hx, R, X, hB⟩ := hrel
    by_cases hlt : j < L.length
    · obtain ⟨d, hd⟩ : ∃ d, L[j]? = some d := ⟨_, List.getElem?_eq_getElem hlt⟩
      obtain ⟨g, rfl, hs⟩ := hq j d hd
      have hx' := lastOf_take L j d hd c
      rw [hx] at hx'
      obtain ⟨q0, q1, q2, q3, q4, q5, q6⟩ := hs.call hB
      have hd1 : decide ((j : Int) < (L.length : Int)) = true := by simp; omega
      have hj0 : (0 : Int) ≤ (j : Int) := by omega
      have hj1 : (j : Int) < (L.length : Int) := by omega
      have HQ := Lib.hid hq
      have X_f := X.free
      have X_c := X.cell
      clear hq hs hd hx
      by_cases hc : d.c = c
      · rw [if_pos hc] at hx'
        have HX := Lib.hid hx'
        have HC := Lib.hid hc
        have e1 : (d.c == c) = true := by simpa using hc
        clear hx' hc
        go_wp2_with fail
        have X2 := X.put7 (.int .i64 d.c) (.int .i64 d.s) (.int .i64 d.R.e) (.int .i64 d.R.id) (.int .i64 d.R.d) (.int .i64 d.R.r) (.slice d.fa d.R.n d.fc)
        have g2 := gr_put7 wr (w.heap.size + 1) (.int .i64 d.c) (.int .i64 d.s) (.int .i64 d.R.e) (.int .i64 d.R.id) (.int .i64 d.R.d) (.int .i64 d.R.r) (.slice d.fa d.R.n d.fc)
        go_roundw
        case rel => exact ⟨j + 1, d, by omega, by go_num, HX.out, R.grown g2 (by simp), X2, bel_grown g2 hB (fun k hk => by cases hk; omega)⟩
        case measure => simp [intOf]; omega
      · rw [if_neg hc] at hx'
        have HX := Lib.hid hx'
        have e1 : (d.c == c) = false := by simpa using hc
        clear hx' hc
        go_wp2_with fail
        go_roundw
        case rel => exact ⟨j + 1, x, by omega, by go_num, HX.out, R, X, hB⟩
        case measure => simp [intOf]; omega
    · have hd1 : decide ((j : Int) < (L.length : Int)) = false := by simp; omega
      have hx' : lastOf L c = x := by rw [← hx, List.take_of_length_le (by omega)]
      have HX := Lib.hid hx'
      have X_c := X.cell
      have R_f := R.free
      have R_c := R.cell
      clear hx hx'
      go_wp2_with fail
      have D := R.put7 (.int .i64 x.c) (.int .i64 x.s) (.int .i64 x.R.e) (.int .i64 x.R.id) (.int .i64 x.R.d) (.int .i64 x.R.r) (.slice x.fa x.R.n x.fc)
      have g2 := gr_put7 wr w.heap.size (.int .i64 x.c) (.int .i64 x.s) (.int .i64 x.R.e) (.int .i64 x.R.id) (.int .i64 x.R.d) (.int .i64 x.R.r) (.slice x.fa x.R.n x.fc)
      exact bodyPost_ret (results_cell Try.results20 _ _ _ _ rfl (blk_load D 57 _ Try.underlying57 rfl rfl)) rfl (by rw [HX.out]; exact ⟨rfl, bel_grown g2 hB (fun k hk => by cases hk; omega)⟩)
theorem lastOf_mem (c : Int) : ∀ L : List Deed, lastOf L c ∈ L ∨ lastOf L c = ⟨0, c, 0, Rep.zero, none, 0⟩ := by
  have : ∀ (L : List Deed) (x : Deed), L.foldl (fun x d => if d.c = c then d else x) x ∈ L ∨ L.foldl (fun x d => if d.c = c then d else x) x = x := by
    intro L
    induction L with
    | nil => intro x; exact .inr rfl
    | cons d L ih =>
      intro x
      simp only [List.foldl_cons]
      by_cases h : d.c = c
      · rw [if_pos h]
        rcases ih d with h1 | h1
        · exact .inl (List.mem_cons_of_mem _ h1)
        · exact .inl (by rw [h1]; exact List.mem_cons_self)
      · rw [if_neg h]
        rcases ih x with h1 | h1
        · exact .inl (List.mem_cons_of_mem _ h1)
        · exact .inr h1
  intro L
  exact this L _
theorem RowsAt.last {w : World} {base fl : Nat} {v : Value} {L : List Deed} (h : RowsAt w base fl v L) (hfl : fl ≤ w.heap.size) (c : Int) : FillsAt w 0 fl (lastOf L c).fa (lastOf L c).R.n (lastOf L c).fc (lastOf L c).R.X := by
  rcases lastOf_mem c L with hm | hm
  · exact h.fills _ hm
  · rw [hm]
    exact (FillsAt.none0 w 0 _ (Nat.zero_le _)).wide (Nat.le_refl _) (Nat.zero_le _) hfl
set_option maxHeartbeats 4000000 in
set_option maxRecDepth 100000 in
theorem rask_any (w : World) (base fl : Nat) (v : Value) (L : List Deed) (h : RowsAt w base fl v L) (hfl : fl ≤ w.heap.size) (c seq : Int) :
    Calls Try.prog 13 #[v, .int .i64 c, .int .i64 seq] w fun e w' => (∃ v', e = .returned (.tuple #[v', .int .i64 (askE (EL L c) c seq)]) ∧ RepAt w' 0 fl v' (askR (EL L c) c seq)) ∧ Below w.heap.size w w' := by
  have hB := bel_refl w
  have R := Blk.new w #[.int .i64 0, .int .i64 0, .int .i64 0, .int .i64 0, .slice none 0 0] 29
  have h1 := h.alloc (.cells #[.int .i64 0, .int .i64 0, .int .i64 0, .int .i64 0, .slice none 0 0] 29)
  replace hB := bel_alloc hB (.cells #[.int .i64 0, .int .i64 0, .int .i64 0, .int .i64 0, .slice none 0 0] 29)
  have hZ : ∀ w' : World, w.heap.size ≤ w'.heap.size → RepAt w' 0 fl (.agg #[.int .i64 0, .int .i64 0, .int .i64 0, .int .i64 0, .slice none 0 0]) Rep.zero := fun w' hs => (RepAt.zero w' 0 (Nat.zero_le _)).wide (Nat.le_refl _) (Nat.zero_le _) (Nat.le_trans hfl hs)
  have HZ := Lib.hid hZ
  obtain ⟨x, hx⟩ : ∃ x, lastOf L c = x := ⟨_, rfl⟩
  have hEL : EL L c = (x.s, x.R) := by rw [← hx]; rfl
  rw [hEL]
  clear hZ h hEL
  go_enter Try.func13, Try.ntmps13
  go_upto_region 1 with fail
  obtain ⟨w1, hw1⟩ : ∃ w1, w.alloc (.cells #[.int .i64 0, .int .i64 0, .int .i64 0, .int .i64 0, .slice none 0 0] 29) = w1 := ⟨_, rfl⟩
  rw [hw1] at R h1 hB ⊢
  clear hw1
  go_wp2_with fail
  refine (rmay_any _ c seq).mono ?_
  rintro e' w1' ⟨rfl, rfl⟩
  by_cases hm : mayB c seq = true
  · rw [hm]
    go_wp2_with fail
    refine (rlast_any _ base fl v L h1 c).mono ?_
    rw [hx]
    rintro e' w2 ⟨rfl, hb⟩
    unfold rowV
    have hF := (h1.last (Nat.le_trans hfl hB.size) c).call hb
    have hb2 : w.heap.size < w1.heap.size := R.lt
    replace R := R.call hb
    replace hB := bel_call hb hB
    rw [hx] at hF
    clear hx
    obtain ⟨xk, xc, s, ⟨e, id, d, r, n, X⟩, fa, fc⟩ := x
    dsimp only at hF ⊢
    have C := Blk.new w2 #[.int .i64 xc, .int .i64 s, .int .i64 e, .int .i64 id, .int .i64 d, .int .i64 r, .slice fa n fc] 57
    replace R := R.alloc (.cells #[.int .i64 xc, .int .i64 s, .int .i64 e, .int .i64 id, .int .i64 d, .int .i64 r, .slice fa n fc] 57)
    replace hF := hF.alloc (.cells #[.int .i64 xc, .int .i64 s, .int .i64 e, .int .i64 id, .int .i64 d, .int .i64 r, .slice fa n fc] 57)
    replace hB := bel_alloc hB (.cells #[.int .i64 xc, .int .i64 s, .int .i64 e, .int .i64 id, .int .i64 d, .int .i64 r, .slice fa n fc] 57)
    clear hb h1
    go_upto_region 4 with fail
    obtain ⟨w3, hw3⟩ : ∃ w3, w2.alloc (.cells #[.int .i64 xc, .int .i64 s, .int .i64 e, .int .i64 id, .int .i64 d, .int .i64 r, .slice fa n fc] 57) = w3 := ⟨_, rfl⟩
    rw [hw3] at R C hF hB ⊢
    clear hw3
    have C_c := C.cell
    have R_c := R.cell
    have R_f := R.free
    rcases Int.lt_trichotomy s seq with hlt | heq | hgt
    · have QQ := Lib.hid (And.intro (show askE (s, ⟨e, id, d, r, n, X⟩) c seq = 0 by unfold askE; rw [if_pos hm, if_pos hlt]) (show askR (s, ⟨e, id, d, r, n, X⟩) c seq = Rep.zero by unfold askR; rw [if_neg (fun hh => by have := hh.2; dsimp only at this; omega)]))
      have e1 : decide (s < seq) = true := decide_eq_true hlt
      clear hlt
      go_wp2_with fail
      have D := R.put5 (.int .i64 0) (.int .i64 0) (.int .i64 0) (.int .i64 0) (.slice none 0 0)
      have g := gr_put5 w3 w.heap.size (.int .i64 0) (.int .i64 0) (.int .i64 0) (.int .i64 0) (.slice none 0 0)
      have hB3 := bel_grown g hB (fun j hj => by cases hj; exact Nat.le_refl _)
      exact bodyPost_ret (results_cell_and_tmp Try.results13 _ _ _ _ rfl (blk_load D 29 _ Try.underlying29 rfl rfl)) rfl (by rw [QQ.out.1, QQ.out.2]; exact ⟨⟨_, rfl, HZ.out _ hB3.size⟩, hB3⟩)
    · have QQ := Lib.hid (And.intro (show askE (s, ⟨e, id, d, r, n, X⟩) c seq = 7 by unfold askE; rw [if_pos hm, if_neg (by dsimp only; omega), if_pos heq.symm]) (show askR (s, ⟨e, id, d, r, n, X⟩) c seq = ⟨e, id, d, r, n, X⟩ by unfold askR; rw [if_pos ⟨hm, heq.symm⟩]))
      have e1 : decide (s < seq) = false := by simp; omega
      have e2 : decide (seq < s) = false := by simp; omega
      clear heq
      go_wp2_with fail
      have D := R.put5 (.int .i64 e) (.int .i64 id) (.int .i64 d) (.int .i64 r) (.slice fa n fc)
      have g := gr_put5 w3 w.heap.size (.int .i64 e) (.int .i64 id) (.int .i64 d) (.int .i64 r) (.slice fa n fc)
      have hB3 := bel_grown g hB (fun j hj => by cases hj; exact Nat.le_refl _)
      exact bodyPost_ret (results_cell_and_tmp Try.results13 _ _ _ _ rfl (blk_load D 29 _ Try.underlying29 rfl rfl)) rfl (by rw [QQ.out.1, QQ.out.2]; exact ⟨⟨_, rfl, fa, fc, rfl, hF.grown g (fun k hk => by cases hk; exact .inr hfl)⟩, hB3⟩)
    · have QQ := Lib.hid (And.intro (show askE (s, ⟨e, id, d, r, n, X⟩) c seq = 11 by unfold askE; rw [if_pos hm, if_neg (by dsimp only; omega), if_neg (by dsimp only; omega)]) (show askR (s, ⟨e, id, d, r, n, X⟩) c seq = Rep.zero by unfold askR; rw [if_neg (fun hh => by have := hh.2; dsimp only at this; omega)]))
      have e1 : decide (s < seq) = false := by simp; omega
      have e2 : decide (seq < s) = true := by simp; omega
      clear hgt
      go_wp2_with fail
      have D := R.put5 (.int .i64 0) (.int .i64 0) (.int .i64 0) (.int .i64 0) (.slice none 0 0)
      have g := gr_put5 w3 w.heap.size (.int .i64 0) (.int .i64 0) (.int .i64 0) (.int .i64 0) (.slice none 0 0)
      have hB3 := bel_grown g hB (fun j hj => by cases hj; exact Nat.le_refl _)
      exact bodyPost_ret (results_cell_and_tmp Try.results13 _ _ _ _ rfl (blk_load D 29 _ Try.underlying29 rfl rfl)) rfl (by rw [QQ.out.1, QQ.out.2]; exact ⟨⟨_, rfl, HZ.out _ hB3.size⟩, hB3⟩)
  · have QQ := Lib.hid (And.intro (show askE (x.s, x.R) c seq = 1 by unfold askE; rw [if_neg hm]) (show askR (x.s, x.R) c seq = Rep.zero by unfold askR; rw [if_neg (fun hh => hm hh.1)]))
    have hm' : mayB c seq = false := by simpa using hm
    rw [hm']
    have R_c := R.cell
    have R_f := R.free
    clear hm h1
    go_wp2_with fail
    have D := R.put5 (.int .i64 0) (.int .i64 0) (.int .i64 0) (.int .i64 0) (.slice none 0 0)
    have g := gr_put5 w1 w.heap.size (.int .i64 0) (.int .i64 0) (.int .i64 0) (.int .i64 0) (.slice none 0 0)
    have hB3 := bel_grown g hB (fun j hj => by cases hj; exact Nat.le_refl _)
    exact bodyPost_ret (results_cell_and_tmp Try.results13 _ _ _ _ rfl (blk_load D 29 _ Try.underlying29 rfl rfl)) rfl (by rw [QQ.out.1, QQ.out.2]; exact ⟨⟨_, rfl, HZ.out _ hB3.size⟩, hB3⟩)
theorem rLast_any (w : World) (base fl : Nat) (v : Value) (L : List Deed) (h : RowsAt w base fl v L) (hC : Clients L) (c : Int) :
    Calls Try.prog 16 #[v, .int .i64 c] w fun e w' => e = .returned (.int .i64 (EL L c).1) ∧ Below w.heap.size w w' := by
  have hB := bel_refl w
  by_cases hc : 1 ≤ c ∧ c ≤ 64
  · have e1 : decide (c < 1) = false := by simp; omega
    have e2 : decide (64 < c) = false := by simp; omega
    have hf := fun w => field_row w (lastOf L c)
    clear hc
    go_enter Try.func16, Try.ntmps16
    go_wp2_with fail
    refine (rlast_any _ base fl v L h c).mono ?_
    rintro e' w2 ⟨rfl, hb⟩
    go_wp2_with fail
    go_ret
    exact ⟨rfl, hb⟩
  · have HQ := Lib.hid (show (EL L c).1 = 0 from lastOf_out hC hc)
    have e1 : decide (c < 1) = true ∨ (decide (c < 1) = false ∧ decide (64 < c) = true) := by
      simp only [decide_eq_true_eq, decide_eq_false_iff_not]; omega
    clear hc h
    go_enter Try.func16, Try.ntmps16
    rcases e1 with e1 | ⟨e1, e2⟩
    · go_wp2_with fail
      go_ret
      exact ⟨by rw [HQ.out]; rfl, hB⟩
    · go_wp2_with fail
      go_ret
      exact ⟨by rw [HQ.out]; rfl, hB⟩
end Go.Proofs.Ytgjejgndmioioaa
