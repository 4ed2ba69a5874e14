/-
  Contracts of package queue: slices.Delete at items, Cut, Drop.
-/
import Derived.Test.YtkebpibcoklglaaMeth
import Derived.Shelf.RegionOpenPlain
import Derived.Deep.RegionLaw
import Derived.Lib.Walk
import Derived.Lib.SliceRun
import Derived.Laws.OwnMore
import Derived.WalkSmall
namespace Go.Proofs.Ytkebpibcoklglaa
open Go.RowKit Go.Lib
set_option linter.unusedSimpArgs false
set_option linter.unusedVariables false
/-- so many values laid over a list, from a place on. -/
def over : List Value → Nat → List Value → List Value
  | xs, _, [] => xs
  | xs, o, v :: r => over (xs.set o v) (o + 1) r
theorem over_len : ∀ (vs xs : List Value) (o : Nat), (over xs o vs).length = xs.length
  | [], xs, o => rfl
  | v :: r, xs, o => by unfold over; rw [over_len r]; simp
theorem over_get : ∀ (vs xs : List Value) (o j : Nat), (over xs o vs)[j]? = if o ≤ j ∧ j < o + vs.length ∧ j < xs.length then vs[j - o]? else xs[j]?
  | [], xs, o, j => by
    unfold over
    rw [if_neg (by simp; omega)]
  | v :: r, xs, o, j => by
    unfold over
    rw [over_get r, List.length_set, List.getElem?_set]
    simp only [List.length_cons]
    by_cases h : o = j
    · subst h
      rw [if_neg (by omega), if_pos rfl]
      by_cases hl : o < xs.length
      · rw [if_pos hl, if_pos ⟨Nat.le_refl _, by omega, hl⟩]
        simp
      · rw [if_neg hl, if_neg (fun hh => hl hh.2.2), List.getElem?_eq_none (by omega)]
    · rw [if_neg h]
      by_cases h2 : o + 1 ≤ j ∧ j < o + 1 + r.length ∧ j < xs.length
      · rw [if_pos h2, if_pos ⟨by omega, by omega, h2.2.2⟩]
        rw [show j - o = (j - (o + 1)) + 1 by omega, List.getElem?_cons_succ]
      · rw [if_neg h2, if_neg (fun hh => h2 ⟨by omega, by omega, hh.2.2⟩)]
theorem own_over {w : World} {base g n cap : Nat} {e : TypeId} {size : Nat} : ∀ (vs : List Value) (o : Nat) (xs : List Value) (w : World), w.ownsRow base e size (.slice (some ⟨g, 0, none⟩) n cap) n xs → (w.setCells g o vs).ownsRow base e size (.slice (some ⟨g, 0, none⟩) n cap) n (over xs o vs)
  | [], o, xs, w, h => h
  | v :: r, o, xs, w, h => by
    simp only [World.setCells]
    exact own_over (w := w) r (o + 1) _ _ (h.stored o v).1
theorem own_size {w : World} {base g n cap size : Nat} {e : TypeId} {xs : List Value} (h : w.ownsRow base e size (.slice (some ⟨g, 0, none⟩) n cap) n xs) : n ≤ cap ∧ cap ≤ maxLen := by
  rcases h.2 with ⟨h', _⟩ | ⟨g', cap', cur, h', _, _, h3, h4, _⟩
  · cases h'
  · simp only [Value.slice.injEq] at h'
    obtain ⟨_, _, rfl⟩ := h'
    exact ⟨h3, h4⟩
/-- what is left of a list when two cells are struck out of it, and the rest moved up. -/
theorem over_move (xs : List Value) (n i : Nat) (hx : xs.length = n * 2) (hi : i < n) (z : List Value) (hz : z.length = 2) :
    over (over xs (i * 2) (xs.drop ((i + 1) * 2))) ((n - 1) * 2) z = (xs.take (i * 2) ++ xs.drop ((i + 1) * 2)) ++ z := by
  apply List.ext_getElem?
  intro j
  rw [over_get, over_get, over_len]
  simp only [List.length_drop, hx, hz]
  by_cases h1 : (n - 1) * 2 ≤ j ∧ j < (n - 1) * 2 + 2 ∧ j < n * 2
  · rw [if_pos h1, List.getElem?_append_right (by simp [hx]; omega)]
    simp only [List.length_append, List.length_take, List.length_drop, hx]
    rw [show min (i * 2) (n * 2) + (n * 2 - (i + 1) * 2) = (n - 1) * 2 by omega]
  · rw [if_neg h1]
    by_cases h2 : i * 2 ≤ j ∧ j < i * 2 + (n * 2 - (i + 1) * 2) ∧ j < n * 2
    · rw [if_pos h2, List.getElem?_append_left (by simp [hx]; omega), List.getElem?_append_right (by simp [hx]; omega)]
      simp only [List.length_take, hx]
      rw [show min (i * 2) (n * 2) = i * 2 by omega]
    · rw [if_neg h2]
      by_cases h3 : j < i * 2
      · rw [List.getElem?_append_left (by simp [hx]; omega), List.getElem?_append_left (by simp [hx]; omega), List.getElem?_take, if_pos h3]
      · rw [List.getElem?_eq_none (by omega), List.getElem?_eq_none (by simp [hx, hz]; omega)]
set_option maxHeartbeats 4000000 in
set_option maxRecDepth 100000 in
theorem delete_any (w : World) (base g cap n : Nat) (xs : List Value) (i : Nat) (h : w.ownsRow base 34 2 (.slice (some ⟨g, 0, none⟩) n cap) n xs) (h1 : ∀ u ∈ xs, u.oneCell' = true) (hi : i < n) :
    Calls Try.prog 27 #[.slice (some ⟨g, 0, none⟩) n cap, .int .i64 i, .int .i64 ((i : Int) + 1)] w fun e w' => e = .returned (.slice (some ⟨g, 0, none⟩) (n - 1) cap) ∧ w'.ownsRow base 34 2 (.slice (some ⟨g, 0, none⟩) (n - 1) cap) (n - 1) (xs.take (i * 2) ++ xs.drop ((i + 1) * 2)) ∧ w.grownBy w' (some g) := by
  obtain ⟨k, hkn⟩ : ∃ k, n = k + 1 := ⟨n - 1, by omega⟩
  obtain ⟨hnc, hcm⟩ := own_size h
  have hx := h.1
  have hcm2 : cap ≤ 9223372036854775807 := by unfold maxLen at hcm; omega
  have mixed : Try.prog.follows Departure.mixedOrders = true := by kernel_rfl
  have b0 : (0 : Int) ≤ (i : Int) + 1 := by omega
  have b1 : (0 : Int) ≤ (i : Int) := by omega
  have b2 : (i : Int) ≤ (i : Int) + 1 := by omega
  have b3 : (i : Int) + 1 ≤ (n : Int) := by omega
  have b4 : (n : Int) ≤ (cap : Int) := by omega
  have b5 : ((i : Int) == (i : Int) + 1) = false := by simp; omega
  have e1 : ((i : Int) + 1).toNat = i + 1 := by omega
  obtain ⟨news, hnews⟩ : ∃ news, news = xs.drop ((i + 1) * 2) := ⟨_, rfl⟩
  have hlen : news.length = (n - (i + 1)) * 2 := by rw [hnews, List.length_drop, hx]; omega
  have hget : ∀ t, t < news.length → news[t]? = xs[(i + 1) * 2 + t]? := fun t ht => by rw [hnews, List.getElem?_drop]
  obtain ⟨A, hA, hsrc⟩ : ∃ A : Addr, (if cap = i + 1 then (some ⟨g, 0, none⟩ : Option Addr) else some ⟨g, (i + 1) * 2, none⟩) = some A ∧ Hid (∀ t u, news[t]? = some u → w.drew.cell? (A.add t) = some u) := by
    by_cases hc : cap = i + 1
    · refine ⟨⟨g, 0, none⟩, by simp [hc], Lib.hid fun t u hu => ?_⟩
      have := (List.getElem?_eq_some_iff.1 hu).1
      omega
    · refine ⟨⟨g, (i + 1) * 2, none⟩, by simp [hc], Lib.hid fun t u hu => ?_⟩
      have ht := (List.getElem?_eq_some_iff.1 hu).1
      rw [Addr.add_lit]
      have := h.cellAt ((i + 1) * 2 + t) (by omega)
      rw [hget t ht] at hu
      exact this.trans hu
  have s1 : Hid (news.length = (n - (i + 1)) * 2) := Lib.hid hlen
  have s2 : Hid (∀ u ∈ news, u.oneCell' = true) := Lib.hid fun u hu => h1 u (by rw [hnews] at hu; exact List.mem_of_mem_drop hu)
  have s3 : Hid (∀ t, t < news.length → (w.drew.cell? ⟨g, 0 + i * 2 + t, none⟩).isSome = true ∧ w.drew.frozen? ⟨g, 0 + i * 2 + t, none⟩ = false) := Lib.hid fun t ht => by
    have := h.cellAt (i * 2 + t) (by omega)
    rw [Nat.zero_add]
    refine ⟨?_, h.frozenAt _⟩
    show (w.cell? _).isSome = true
    rw [this, List.getElem?_eq_getElem (by omega)]
    rfl
  obtain ⟨W1, hW1⟩ : ∃ W1, W1 = w.drew.setCells g (0 + i * 2) news := ⟨_, rfl⟩
  have hO1 : W1.ownsRow base 34 2 (.slice (some ⟨g, 0, none⟩) n cap) n (over xs (i * 2) news) := by
    rw [hW1, Nat.zero_add]
    exact own_over (w := w) news (i * 2) xs w.drew h
  have hg1 : w.grownBy W1 (some g) := by
    rw [hW1]
    exact gr_trans (gr_drew (gr_refl w (some g))) (setCells_gr _ _ _ _)
  have hW : Hid (W1 = w.drew.setCells g (0 + i * 2) news) := Lib.hid hW1
  have hcl : ∀ ty, (Builtin.clear_ #[26] ty #[.slice (some ⟨g, k * 2, none⟩) (n - k) (cap - k)]).run Try.prog W1 = .ok (.tuple #[]) (W1.setCells g (k * 2) [.int .i64 0, .int .i64 0]) := fun ty => by
    have hx1 := hO1.1
    rw [show n - k = 1 by omega]
    have hst := run_storeCells_cells (P := Try.prog) g (k * 2) [.int .i64 0, .int .i64 0] 0 W1 (fun j hj => by
      simp at hj
      rw [Nat.add_zero, hO1.cellAt (k * 2 + j) (by omega), List.getElem?_eq_getElem (by rw [hx1]; omega)]
      rfl) (fun j hj => hO1.frozenAt _) (by simp [Value.oneCell'])
    simp only [Nat.add_zero] at hst
    have hv : ∀ w, (zeroValue 34).run Try.prog w = .ok (.agg #[.int .i64 0, .int .i64 0]) w := fun w => by kernel_rfl
    have hzc : (Builtin.zeroCells (Value.agg #[.int .i64 0, .int .i64 0]).cells 1).toList = [.int .i64 0, .int .i64 0] := by kernel_rfl
    simp [Builtin.clear_, run_underlying Try.underlying26, hv, hzc, hst]
  have c1 : (0 : Int) ≤ (k : Int) := by omega
  have c2 : (k : Int) ≤ (n : Int) := by omega
  have c3 : k ≤ n := by omega
  have c4 : ¬ cap = k := by omega
  have HK := Lib.hid hkn
  have hik : i + (n - (i + 1)) = k := by omega
  have HI := Lib.hid hik
  have HR := Lib.hid (show i + (n - (i + 1)) ≤ cap by omega)
  have HN := Lib.hid hnews
  have H := Lib.hid (And.intro hO1 hg1)
  have hic : i ≤ cap := by omega
  have hjc : i + 1 ≤ cap := by omega
  clear hkn hik h hnews hlen hget hW1 hO1 hg1 h1
  go_enter Try.func27, Try.ntmps27
  go_wp2_with fail
  go_region_law_o (refine step_append_room rfl (.tmp 22) (.tmp 25) 26 rfl 34 _ 2 Try.underlying26 rfl rfl g 0 i cap (by simp [Act.eval, Act.put]) A (n - (i + 1)) (cap - (i + 1)) news (by simp [Act.eval, Act.put]) s1.out hsrc.out s2.out HR.out s3.out ?_; rw [← hW.out])
  rw [HI.out]
  go_wp2_with fail
  go_ret
  have hkn := HK.out
  obtain ⟨hO1, hg1⟩ := H.out
  rw [HN.out] at hO1
  have hO2 := own_over (w := w) [.int .i64 0, .int .i64 0] (k * 2) _ W1 hO1
  have hm := over_move xs n i hx hi [.int .i64 0, .int .i64 0] rfl
  rw [show n - 1 = k by omega] at hm
  rw [hm, hkn] at hO2
  rw [show n - 1 = k by omega]
  refine ⟨rfl, ownsRow_pop (by rw [List.length_append, List.length_take, List.length_drop, hx]; omega) hO2, gr_trans hg1 (setCells_gr _ _ _ _)⟩
theorem jcells_one (L : List (Int × Int)) : ∀ u ∈ jcells L, u.oneCell' = true := by
  intro u hu
  unfold jcells at hu
  obtain ⟨d, _, hd⟩ := List.mem_flatMap.1 hu
  simp only [List.mem_cons, List.not_mem_nil, or_false] at hd
  rcases hd with rfl | rfl <;> rfl
theorem jcells_app (A B : List (Int × Int)) : jcells (A ++ B) = jcells A ++ jcells B := by unfold jcells; rw [List.flatMap_append]
theorem jcells_take (L : List (Int × Int)) (i : Nat) (h : i ≤ L.length) : (jcells L).take (i * 2) = jcells (L.take i) := by
  have e : jcells L = jcells (L.take i) ++ jcells (L.drop i) := by rw [← jcells_app, List.take_append_drop]
  rw [e, List.take_append_of_le_length (by rw [jcells_len, List.length_take]; omega), List.take_of_length_le (by rw [jcells_len, List.length_take]; omega)]
theorem jcells_drop (L : List (Int × Int)) (i : Nat) (h : i ≤ L.length) : (jcells L).drop (i * 2) = jcells (L.drop i) := by
  have e : jcells L = jcells (L.take i) ++ jcells (L.drop i) := by rw [← jcells_app, List.take_append_drop]
  have hl : (jcells (L.take i)).length = i * 2 := by rw [jcells_len, List.length_take]; omega
  rw [e, ← hl, List.drop_left]
/-- one out of a list. -/
def out (L : List (Int × Int)) (i : Nat) : List (Int × Int) := L.take i ++ L.drop (i + 1)
theorem out_len (L : List (Int × Int)) (i : Nat) (h : i < L.length) : (out L i).length = L.length - 1 := by
  unfold out
  rw [List.length_append, List.length_take, List.length_drop]
  omega
theorem jcells_out (L : List (Int × Int)) (i : Nat) (h : i < L.length) : (jcells L).take (i * 2) ++ (jcells L).drop ((i + 1) * 2) = jcells (out L i) := by
  rw [jcells_take L i (by omega), jcells_drop L (i + 1) (by omega), ← jcells_app]
  rfl
theorem jcells_set (L : List (Int × Int)) (i : Nat) (h : i < L.length) (q : Int) : (jcells L).set (i * 2 + 1) (.int .i64 q) = jcells (L.set i (L[i].1, q)) := by
  have e : L = L.take i ++ [L[i]] ++ L.drop (i + 1) := by
    rw [List.append_assoc, List.singleton_append, List.getElem_cons_drop, List.take_append_drop]
  have e2 : L.set i (L[i].1, q) = L.take i ++ [(L[i].1, q)] ++ L.drop (i + 1) := by
    rw [List.set_eq_take_append_cons_drop, if_pos h]
    simp
  rw [e2, jcells_app, jcells_app]
  have hl : (jcells (L.take i)).length = i * 2 := by rw [jcells_len, List.length_take]; omega
  have e3 : jcells L = jcells (L.take i) ++ [.int .i64 L[i].1, .int .i64 L[i].2] ++ jcells (L.drop (i + 1)) := by
    have := congrArg jcells e
    rw [jcells_app, jcells_app] at this
    exact this
  rw [e3, List.append_assoc, List.set_append_right _ _ (by omega), hl, show i * 2 + 1 - i * 2 = 1 by omega, List.append_assoc]
  rfl
def cutB (L : List (Int × Int)) (id qty : Int) : Bool := decide (0 ≤ findI L id ∧ 1 ≤ qty ∧ qty < (L[(findI L id).toNat]?.getD (0, 0)).2)
def cutN (L : List (Int × Int)) (id qty : Int) : List (Int × Int) := if cutB L id qty = true then L.set (findI L id).toNat ((L[(findI L id).toNat]?.getD (0, 0)).1, qty) else L
theorem cutN_len (L : List (Int × Int)) (id qty : Int) : (cutN L id qty).length = L.length := by unfold cutN; split <;> simp
set_option maxHeartbeats 4000000 in
theorem cut_any (w : World) (qb : Nat) (gq : Option Nat) (L : List (Int × Int)) (h : QAt w qb gq L) (hlen : L.length ≤ 1000000) (id qty : Int) :
    Calls Try.prog 14 #[.pointer (some ⟨qb, 0, none⟩), .int .i64 id, .int .i64 qty] w fun e w' => e = .returned (.bool (cutB L id qty)) ∧ QAt w' qb gq (cutN L id qty) ∧ Turn w w' qb gq ∧ (cutB L id qty = false → Below w.heap.size w w') := by
  have cf := Lib.hid (find_any w (some ⟨qb, 0, none⟩) L h.isQ hlen id)
  have h0 := Lib.hid h
  by_cases hk : 0 ≤ findI L id
  · obtain ⟨k, e, hlt⟩ := findI_pos hk
    obtain ⟨sa, cap, hb, hv, ho⟩ := h
    obtain ⟨g, rfl⟩ : ∃ g, sa = some ⟨g, 0, none⟩ := by
      rcases ho.2 with ⟨e1, e2⟩ | ⟨g, cap', cur, e1, _⟩
      · omega
      · simp only [Value.slice.injEq] at e1; exact ⟨g, e1.1⟩
    have q := (jcells_get L k hlt).2
    rw [← ho.cellAt (k * 2 + 1) (by omega)] at q
    have hk0 : (0 : Int) ≤ (k : Int) := by omega
    have hk1 : (k : Int) < (L.length : Int) := by omega
    have hd1 : decide ((k : Int) < 0) = false := by simp
    have hx : (L[(findI L id).toNat]?.getD (0, 0)) = L[k] := by rw [e]; simp [List.getElem?_eq_getElem hlt]
    rw [e] at cf
    by_cases hc : 1 ≤ qty ∧ qty < L[k].2
    · have HQ := Lib.hid (show cutB L id qty = true ∧ cutN L id qty = L.set k (L[k].1, qty) by
        have : cutB L id qty = true := by unfold cutB; rw [hx, decide_eq_true_eq]; exact ⟨hk, hc⟩
        refine ⟨this, ?_⟩
        unfold cutN
        rw [if_pos this, hx, e]
        rfl)
      have hd2 : decide (qty < 1) = false := by simp; omega
      have hd3 : decide (L[k].2 ≤ qty) = false := by simp; omega
      have hjs := Lib.hid (jcells_set L k hlt qty)
      clear hk e hc hx
      generalize L[k].2 = x at *
      go_enter Try.func14, Try.ntmps14
      go_wp2_with fail
      refine cf.out.mono ?_
      rintro e' w1 ⟨rfl, hb1⟩
      have A := hb.call hb1
      have hcc := A.cell
      have q1 := cell_call q hb1
      have ho1 := ho.kept (gr_below hb1 none) (by rw [hv]; cases gq <;> simp)
      have hf := ho1.frozenAt (k * 2 + 1)
      clear hb q
      go_wp2_with fail
      go_ret
      have hst := ho1.stored (k * 2 + 1) (.int .i64 qty)
      have hqg := ho1.lt g rfl
      refine ⟨by rw [HQ.out.1]; rfl, ?_, ((Turn.refl w qb gq).below hb1).grown hst.2 (.inl hv), fun h => by rw [HQ.out.1] at h; cases h⟩
      rw [HQ.out.2]
      refine ⟨some ⟨g, 0, none⟩, cap, ?_, hv, ?_⟩
      · rw [List.length_set]
        exact A.set_other _ _ (by show g ≠ qb; omega)
      · rw [List.length_set, ← hjs.out]
        exact hst.1
    · have HQ := Lib.hid (show cutB L id qty = false ∧ cutN L id qty = L by
        have : cutB L id qty = false := by unfold cutB; rw [hx, decide_eq_false_iff_not]; exact fun hh => hc hh.2
        exact ⟨this, by unfold cutN; rw [this]; rfl⟩)
      have hd2 : decide (qty < 1) = true ∨ (decide (qty < 1) = false ∧ decide (L[k].2 ≤ qty) = true) := by
        simp only [decide_eq_true_eq, decide_eq_false_iff_not]; omega
      clear hk e hc hx ho
      generalize L[k].2 = x at *
      go_enter Try.func14, Try.ntmps14
      go_wp2_with fail
      refine cf.out.mono ?_
      rintro e' w1 ⟨rfl, hb1⟩
      have hcc := (hb.call hb1).cell
      have q1 := cell_call q hb1
      clear hb q
      rcases hd2 with hd2 | ⟨hd2, hd3⟩
      all_goals
        go_wp2_with fail
        go_ret
        exact ⟨by rw [HQ.out.1]; rfl, by rw [HQ.out.2]; exact h0.out.call hb1, (Turn.refl _ _ _).below hb1, fun _ => hb1⟩
  · have e := findI_neg hk
    have HQ := Lib.hid (show cutB L id qty = false ∧ cutN L id qty = L by
      have : cutB L id qty = false := by unfold cutB; rw [decide_eq_false_iff_not]; exact fun hh => hk hh.1
      exact ⟨this, by unfold cutN; rw [this]; rfl⟩)
    rw [e] at cf
    clear hk e h
    go_enter Try.func14, Try.ntmps14
    go_wp2_with fail
    refine cf.out.mono ?_
    rintro e' w1 ⟨rfl, hb1⟩
    go_wp2_with fail
    go_ret
    exact ⟨by rw [HQ.out.1]; rfl, by rw [HQ.out.2]; exact h0.out.call hb1, (Turn.refl _ _ _).below hb1, fun _ => hb1⟩
theorem cut_nil (w : World) (id qty : Int) : Calls Try.prog 14 #[.pointer none, .int .i64 id, .int .i64 qty] w fun e w' => e = .returned (.bool false) ∧ Below w.heap.size w w' := by
  go_enter Try.func14, Try.ntmps14
  go_wp2_with fail
  refine (find_nil _ _).mono ?_
  rintro e' w1 ⟨rfl, hb1⟩
  go_wp2_with fail
  go_ret
  exact ⟨rfl, hb1⟩
def dropB (L : List (Int × Int)) (id : Int) : Bool := decide (0 ≤ findI L id)
def dropQ (L : List (Int × Int)) (id : Int) : Int := getQ L id
def dropN (L : List (Int × Int)) (id : Int) : List (Int × Int) := if 0 ≤ findI L id then out L (findI L id).toNat else L
set_option maxHeartbeats 4000000 in
theorem drop_any (w : World) (qb : Nat) (gq : Option Nat) (L : List (Int × Int)) (h : QAt w qb gq L) (hlen : L.length ≤ 1000000) (id : Int) :
    Calls Try.prog 16 #[.pointer (some ⟨qb, 0, none⟩), .int .i64 id] w fun e w' => e = .returned (.tuple #[.int .i64 (dropQ L id), .bool (dropB L id)]) ∧ QAt w' qb gq (dropN L id) ∧ Turn w w' qb gq ∧ (dropB L id = false → Below w.heap.size w w') := by
  have cf := Lib.hid (find_any w (some ⟨qb, 0, none⟩) L h.isQ hlen id)
  have h0 := Lib.hid h
  by_cases hk : 0 ≤ findI L id
  · obtain ⟨k, e, hlt⟩ := findI_pos hk
    obtain ⟨sa, cap, hb, hv, ho⟩ := h
    obtain ⟨g, rfl⟩ : ∃ g, sa = some ⟨g, 0, none⟩ := by
      rcases ho.2 with ⟨e1, e2⟩ | ⟨g, cap', cur, e1, _⟩
      · omega
      · simp only [Value.slice.injEq] at e1; exact ⟨g, e1.1⟩
    have q := (jcells_get L k hlt).2
    rw [← ho.cellAt (k * 2 + 1) (by omega)] at q
    have hk0 : (0 : Int) ≤ (k : Int) := by omega
    have hk1 : (k : Int) < (L.length : Int) := by omega
    have hd1 : decide ((k : Int) < 0) = false := by simp
    have hw1 : IntKind.i64.wrap ((k : Int) + 1) = (k : Int) + 1 := IntWalk.i64_in _ (by omega)
    have HQ := Lib.hid (show dropQ L id = L[k].2 ∧ dropB L id = true ∧ dropN L id = out L k by
      refine ⟨?_, by unfold dropB; rw [e]; simp, by unfold dropN; rw [if_pos hk, e]; rfl⟩
      unfold dropQ getQ
      rw [if_pos hk, e]
      simp [List.getElem?_eq_getElem hlt])
    have HL := Lib.hid (And.intro (jcells_out L k hlt) (out_len L k hlt))
    rw [e] at cf
    have Hlt := Lib.hid hlt
    clear hk e
    generalize L[k].2 = x at *
    clear hlt
    go_enter Try.func16, Try.ntmps16
    go_wp2_with fail
    refine cf.out.mono ?_
    rintro e' w1 ⟨rfl, hb1⟩
    have A := hb.call hb1
    have hcc := A.cell
    have q1 := cell_call q hb1
    have ho1 := ho.kept (gr_below hb1 none) (by rw [hv]; cases gq <;> simp)
    clear hb q
    go_wp2_with fail
    refine (delete_any _ _ g cap L.length (jcells L) k ho1 (jcells_one L) Hlt.out).mono ?_
    rintro e' w2 ⟨rfl, ho2, hg2⟩
    have hqg := ho1.lt g rfl
    have A2 := A.grown hg2 (fun e => by have := Option.some.inj e; omega)
    clear hcc q1
    have hcc := A2.cell
    have hff := A2.free
    go_wp2_with fail
    go_ret2
    refine ⟨by rw [HQ.out.1, HQ.out.2.1]; rfl, ?_, (((Turn.refl w qb gq).below hb1).grown hg2 (.inl hv)).set _, fun h => by rw [HQ.out.2.1] at h; cases h⟩
    rw [HQ.out.2.2]
    refine ⟨some ⟨g, 0, none⟩, cap, ?_, hv, ?_⟩
    · rw [HL.out.2]
      exact A2.set 0 _
    · rw [HL.out.2, ← HL.out.1]
      exact ho2.kept (gr_set (gr_refl w2 (some qb)) _ _ (.inl rfl)) (.inr (fun e => by have : g = qb := Option.some.inj e; omega))
  · have e := findI_neg hk
    have HQ := Lib.hid (show dropQ L id = 0 ∧ dropB L id = false ∧ dropN L id = L by
      refine ⟨?_, by unfold dropB; rw [e]; decide, by unfold dropN; rw [if_neg hk]⟩
      unfold dropQ getQ
      rw [if_neg hk])
    rw [e] at cf
    clear hk e h
    go_enter Try.func16, Try.ntmps16
    go_wp2_with fail
    refine cf.out.mono ?_
    rintro e' w1 ⟨rfl, hb1⟩
    go_wp2_with fail
    go_ret2
    exact ⟨by rw [HQ.out.1, HQ.out.2.1]; rfl, by rw [HQ.out.2.2]; exact h0.out.call hb1, (Turn.refl _ _ _).below hb1, fun _ => hb1⟩
theorem drop_nil (w : World) (id : Int) : Calls Try.prog 16 #[.pointer none, .int .i64 id] w fun e w' => e = .returned (.tuple #[.int .i64 0, .bool false]) ∧ Below w.heap.size w w' := by
  go_enter Try.func16, Try.ntmps16
  go_wp2_with fail
  refine (find_nil _ _).mono ?_
  rintro e' w1 ⟨rfl, hb1⟩
  go_wp2_with fail
  go_ret2
  exact ⟨rfl, hb1⟩
end Go.Proofs.Ytkebpibcoklglaa
