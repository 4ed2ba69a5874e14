/-
  The document's Drop; same; the walk of QueuePlays.
-/
import Derived.Test.YtkebpibcoklglaaRef
namespace Go.Proofs.Ytkebpibcoklglaa
open Go.RowKit
set_option linter.unusedSimpArgs false
set_option linter.unusedVariables false
set_option maxHeartbeats 4000000 in
theorem rdrop_any (w : World) (v : Value) (L : List (Int × Int)) (h : XAt w v L) (hl : L.length ≤ 256) (id : Int) :
    Calls Try.prog 21 #[v, .int .i64 id] w fun e w' => (∃ v', e = .returned (.tuple #[v', .int .i64 (dropQ L id), .bool (dropB L id)]) ∧ XAt w' v' (dropN L id) ∧ (v' = v ∨ v' = .slice none 0 0 ∨ ∃ k, v'.ownBlock = some k ∧ w.heap.size ≤ k)) ∧ Below w.heap.size w w' := by
  have hB := bel_refl w
  have cf := Lib.hid (rfind_any w v L h (by omega) id)
  by_cases hk : 0 ≤ findI L id
  · obtain ⟨k, e, hlt⟩ := findI_pos hk
    obtain ⟨g, cap, rfl⟩ := h.some (by omega)
    have q := (cellsAt h k hlt).2
    have hcc := own_size h
    have hk0 : (0 : Int) ≤ (k : Int) := by omega
    have hk1 : (k : Int) < (L.length : Int) := by omega
    have hd1 : decide ((k : Int) < 0) = false := by simp
    have HQ := Lib.hid (show dropQ L id = L[k].2 ∧ dropB L id = true ∧ dropN L id = out L k by
      refine ⟨?_, by unfold dropB; rw [e]; simp, by unfold dropN; rw [if_pos hk, e]; rfl⟩
      unfold dropQ getQ
      rw [if_pos hk, e]
      simp [List.getElem?_eq_getElem hlt])
    have HL := Lib.hid (And.intro (jcells_out L k hlt) (out_len L k hlt))
    rw [e] at cf
    have h0 := Lib.hid h
    have mixed : Try.prog.follows Departure.mixedOrders = true := by kernel_rfl
    have b0 : (0 : Int) ≤ (k : Int) + 1 := by omega
    have b1 : (k : Int) ≤ (L.length : Int) := by omega
    have b2 : (k : Int) + 1 ≤ (L.length : Int) := by omega
    have b3 : (L.length : Int) ≤ (cap : Int) := by omega
    have b4 : (k : Int) ≤ (cap : Int) := by omega
    have hw1 : IntKind.i64.wrap ((k : Int) + 1) = (k : Int) + 1 := IntWalk.i64_in _ (by omega)
    have e1 : ((k : Int) + 1).toNat = k + 1 := by omega
    have hx := World.ownsRow.cellAt h
    obtain ⟨A, hA, hsrc⟩ : ∃ A : Addr, (if cap = k + 1 then (some ⟨g, 0, none⟩ : Option Addr) else some ⟨g, (k + 1) * 2, none⟩) = some A ∧ Hid (∀ t u, ((jcells L).drop ((k + 1) * 2))[t]? = some u → w.cell? (A.add t) = some u) := by
      by_cases hc : cap = k + 1
      · refine ⟨⟨g, 0, none⟩, by simp [hc], Lib.hid fun t u hu => ?_⟩
        have := (List.getElem?_eq_some_iff.1 hu).1
        rw [List.length_drop, jcells_len] at this
        omega
      · refine ⟨⟨g, (k + 1) * 2, none⟩, by simp [hc], Lib.hid fun t u hu => ?_⟩
        have ht := (List.getElem?_eq_some_iff.1 hu).1
        rw [List.length_drop, jcells_len] at ht
        rw [Addr.add_lit, hx ((k + 1) * 2 + t) (by omega)]
        rw [List.getElem?_drop] at hu
        exact hu
    have hsrc1 := Lib.hid (show ∀ t u, ((jcells L).take (k * 2))[t]? = some u → w.cell? ((⟨g, 0, none⟩ : Addr).add t) = some u from fun t u hu => by
      have ht := (List.getElem?_eq_some_iff.1 hu).1
      rw [List.length_take, jcells_len] at ht
      rw [Addr.add_lit, Nat.zero_add, hx t (by omega)]
      rw [List.getElem?_take, if_pos (by omega)] at hu
      exact hu)
    have l1 := Lib.hid (show ((jcells L).take (k * 2)).length = k * 2 by rw [List.length_take, jcells_len]; omega)
    have l2 := Lib.hid (show ((jcells L).drop ((k + 1) * 2)).length = (L.length - (k + 1)) * 2 by rw [List.length_drop, jcells_len]; omega)
    have o1 := Lib.hid (show ∀ u ∈ (jcells L).take (k * 2), u.oneCell' = true from fun u hu => jcells_one L u (List.mem_of_mem_take hu))
    have o2 := Lib.hid (show ∀ u ∈ (jcells L).drop ((k + 1) * 2), u.oneCell' = true from fun u hu => jcells_one L u (List.mem_of_mem_drop hu))
    have n1 := Lib.hid (show 0 + k ≤ maxLen ∧ (0 + k) * 16 ≤ 140737488355328 ∧ 0 + k + (L.length - (k + 1)) ≤ maxLen ∧ (0 + k + (L.length - (k + 1))) * 16 ≤ 140737488355328 ∧ 0 + k + (L.length - (k + 1)) = L.length - 1 by unfold maxLen; omega)
    generalize hxx : L[k].2 = x at *
    clear hxx hk e h hx hlt hcc
    go_enter Try.func21, Try.ntmps21
    go_wp2_with fail
    refine cf.out.mono ?_
    rintro e' w1 ⟨rfl, rfl⟩
    go_upto_region 6 with (at_builtin; first | (refine wpList_append_own _ rfl _ _ 44 rfl w.heap.size 55 _ _ 2 16 Try.underlying44 rfl rfl rfl rfl rfl (by decide) _ _ _ rfl (World.ownsRow_made w #[] 0 (Nat.le_refl _) (Nat.zero_le _) (by simp)) ⟨g, 0, none⟩ k cap ((jcells L).take (k * 2)) rfl l1.out (fun j u hu => Lib.cell?_alloc_some _ (hsrc1.out j u hu)) o1.out n1.out.1 n1.out.2.1 (by simp) ?_; intro v2 w3 hO hg3 _; have hb3 : Below w.heap.size w w3 := bel_grown hg3 (bel_alloc hB (.cells #[] 55)) (fun k hk => Nat.le_of_eq (Option.some.inj hk))) | (refine wpList_append_own _ rfl _ _ 44 rfl w.heap.size 55 _ _ 2 16 Try.underlying44 rfl rfl rfl rfl rfl (by decide) v2 (0 + k) _ rfl hO A (L.length - (k + 1)) (cap - (k + 1)) ((jcells L).drop ((k + 1) * 2)) rfl l2.out (fun j u hu => cell_call (hsrc.out j u hu) hb3) o2.out n1.out.2.2.1 n1.out.2.2.2.1 (by have := hg3.size; simp at this; omega) ?_; intro v3 w4 hO4 hg4 _))
    have hb4 : Below w.heap.size w w4 := bel_grown hg4 hb3 (fun k hk => (hO.lt k hk).1)
    have q4 := cell_call q hb4
    clear hg3 hg4 hO q
    refine wp_region_plan [(0, true), (1, true), (2, true), (3, true), (4, true), (5, true), (6, false), (7, false), (8, false)] (fun w' => w'.cell? ⟨g, k * 2 + 1, none⟩ = some (.int .i64 x)) (by kernel_rfl) (by kernel_rfl) (fun _ _ _ _ h => h) ?_ (fun hS => ?_)
    · exact q4
    iterate 6
      refine plan_light (o := ?_) (v := ?_) ?_ ?_ ?_ ?_
      rotate_left 2
      · simp only [List.getElem?_toArray, List.getElem?_cons_zero, List.getElem?_cons_succ]
        rfl
      · go_simp
      · intro w' hS
        have sa1 := hS
        go_simp
        try rfl
      simp only [Act.put, List.setIfInBounds_toArray, List.set_cons_zero, List.set_cons_succ]
    refine plan_heavy (o := ?_) ?_ (fun K' hK => ?_)
    rotate_left
    · simp only [List.getElem?_toArray, List.getElem?_cons_zero, List.getElem?_cons_succ]
      rfl
    go_simp
    refine hK.out _ _ ?_ (fun hS => ?_)
    · exact hS
    clear hK K'
    refine plan_heavy (o := ?_) ?_ (fun K' hK => ?_)
    rotate_left
    · simp only [List.getElem?_toArray, List.getElem?_cons_zero, List.getElem?_cons_succ]
      rfl
    go_simp
    refine hK.out _ _ ?_ (fun hS => ?_)
    · exact hS
    clear hK K'
    refine plan_sink (o := ?_) ?_ (by kernel_rfl) (fun K' hK => ?_)
    rotate_left
    · simp only [List.getElem?_toArray, List.getElem?_cons_zero, List.getElem?_cons_succ]
      rfl
    go_simp
    refine hK.out _ _ ?_
    clear hK K'
    refine plan_nil ?_
    replace hO4 := hO4.kept (gr_below (bel_drew (bel_refl w4)) none) (by cases v3.ownBlock <;> simp)
    replace hb4 := bel_drew hb4
    go_wp2_with fail
    go_ret3
    refine ⟨⟨v3, by rw [HQ.out.1, HQ.out.2.1]; rfl, ?_, ?_⟩, hb4⟩
    · rw [HQ.out.2.2]
      unfold XAt
      rw [HL.out.2, ← HL.out.1, ← n1.out.2.2.2.2]
      exact own_base (by simpa using hO4) (Nat.zero_le _)
    · cases hv : v3.ownBlock with
      | none =>
        rcases hO4.2 with ⟨e, hn⟩ | ⟨g', cap', cur, e, _⟩
        · exact .inr (.inl e)
        · rw [e] at hv; cases hv
      | some k' => exact .inr (.inr ⟨k', rfl, (hO4.lt k' hv).1⟩)
  · have e := findI_neg hk
    have HQ := Lib.hid (show dropQ L id = 0 ∧ dropB L id = false ∧ dropN L id = L by
      refine ⟨?_, by unfold dropB; rw [e]; decide, by unfold dropN; rw [if_neg hk]⟩
      unfold dropQ getQ
      rw [if_neg hk])
    rw [e] at cf
    have h0 := Lib.hid h
    clear hk e h
    go_enter Try.func21, Try.ntmps21
    go_wp2_with fail
    refine cf.out.mono ?_
    rintro e' w1 ⟨rfl, rfl⟩
    go_wp2_with fail
    go_ret3
    exact ⟨⟨_, by rw [HQ.out.1, HQ.out.2.1]; rfl, by rw [HQ.out.2.2]; exact h0.out, .inl rfl⟩, hB⟩
set_option maxHeartbeats 4000000 in
theorem same_any (w : World) (v1 v2 : Value) (b : Nat) (L : List (Int × Int)) (h1 : w.ownsRow b 34 2 v1 L.length (jcells L)) (h2 : XAt w v2 L) (hl : L.length ≤ 1000000) : Calls Try.prog 24 #[v1, v2] w fun e w' => e = .returned (.bool true) ∧ Below w.heap.size w w' := by
  obtain ⟨sa, cap, rfl, -, -, hq⟩ := h2.open
  obtain ⟨sb, capb, rfl, hp⟩ : ∃ sb capb, v1 = .slice sb L.length capb ∧ ∀ i, (hi : i < L.length) → ∃ g, sb = some ⟨g, 0, none⟩ ∧ w.cell? ⟨g, i * 2, none⟩ = some (.int .i64 L[i].1) ∧ w.cell? ⟨g, i * 2 + 1, none⟩ = some (.int .i64 L[i].2) := by
    rcases h1.2 with ⟨e, hn⟩ | ⟨g, cap, cur, e, hg, hh, hle, hm, hs, ht⟩
    · exact ⟨none, 0, by rw [e, hn], fun i hi => by omega⟩
    · refine ⟨_, _, e, fun i hi => ⟨g, rfl, ?_⟩⟩
      subst e
      have q := jcells_get L i hi
      rw [World.ownsRow.cellAt h1 (i * 2) (by omega), World.ownsRow.cellAt h1 (i * 2 + 1) (by omega)]
      exact q
  clear h1 h2
  go_enter Try.func24, Try.ntmps24
  go_wp2_with fail
  go_loopw [5] (fun i wr => ∃ j : Nat, j ≤ L.length ∧ i = .int .i64 j ∧ Below w.heap.size w wr) (fun i _ => L.length - (intOf i).toNat)
  case atStart => exact ⟨0, by omega, rfl, bel_refl _⟩
  case round =>
    obtain ⟨j, hj, rfl, hB⟩ := hrel
    by_cases hlt : j < L.length
    · obtain ⟨g, rfl, p0, p1⟩ := hq j hlt
      obtain ⟨g2, rfl, q0, q1⟩ := hp j hlt
      replace p0 := cell_call p0 hB
      replace p1 := cell_call p1 hB
      replace q0 := cell_call q0 hB
      replace q1 := cell_call q1 hB
      have hd1 : decide ((j : Int) < (L.length : Int)) = true := by simp; omega
      have hj0 : (0 : Int) ≤ (j : Int) := by omega
      have hj1 : (j : Int) < (L.length : Int) := by omega
      clear hq hp
      generalize L[j].1 = x at *
      generalize L[j].2 = y at *
      go_wp2_with fail
      refine wp_region_plan [(0, true), (1, true), (2, true), (3, true), (4, true), (5, true), (6, true), (7, true), (8, true), (9, true), (10, true), (11, true), (12, true), (13, true), (14, true), (15, true), (16, true), (17, true), (18, true), (19, true), (20, true), (21, true), (22, true), (23, true)] (fun w' => (w'.cell? ⟨g, j * 2, none⟩ = some (.int .i64 x) ∧ w'.cell? ⟨g, j * 2 + 1, none⟩ = some (.int .i64 y)) ∧ (w'.cell? ⟨g2, j * 2, none⟩ = some (.int .i64 x) ∧ w'.cell? ⟨g2, j * 2 + 1, none⟩ = some (.int .i64 y))) (by kernel_rfl) (by kernel_rfl) (fun _ _ _ _ h => h) ?_ (fun hS => ?_)
      · exact ⟨⟨p0, p1⟩, ⟨q0, q1⟩⟩
      iterate 24
        refine plan_light (o := ?_) (v := ?_) ?_ ?_ ?_ ?_
        rotate_left 2
        · simp only [List.getElem?_toArray, List.getElem?_cons_zero, List.getElem?_cons_succ]
          rfl
        · go_simp
        · intro w' hS
          (have sa1 := hS.1.1; have sa2 := hS.1.2; have sa3 := hS.2.1; have sa4 := hS.2.2)
          go_simp
          try rfl
        simp only [Act.put, List.setIfInBounds_toArray, List.set_cons_zero, List.set_cons_succ]
      refine plan_nil ?_
      go_wp2_with fail
      go_roundw
      case rel => exact ⟨j + 1, by omega, by go_num, bel_drew hB⟩
      case measure => simp [intOf]; omega
    · have hd1 : decide ((j : Int) < (L.length : Int)) = false := by simp; omega
      clear hq hp
      go_wp2_with fail
      go_ret
      exact ⟨rfl, hB⟩
end Go.Proofs.Ytkebpibcoklglaa
