/-
  The walk of QueueRanks.
-/
import Derived.Test.YtkebpibcoklglaaLast
namespace Go.Proofs.Ytkebpibcoklglaa
open Go.RowKit
set_option linter.unusedSimpArgs false
set_option linter.unusedVariables false
theorem cut_num (f : Nat → Int) (n k : Nat) (h : k < n) (h1 : 1 < f k) : cutB (num f n) ((k : Int) + 1) 1 = true ∧ cutN (num f n) ((k : Int) + 1) 1 = num (fun j => if j = k then 1 else f j) n := by
  have e := find_num f n k h
  have hb : cutB (num f n) ((k : Int) + 1) 1 = true := by
    unfold cutB
    rw [e, Int.toNat_natCast, num_get f n k h, decide_eq_true_eq]
    exact ⟨by omega, by omega, h1⟩
  refine ⟨hb, ?_⟩
  unfold cutN
  rw [if_pos hb, e, Int.toNat_natCast, num_get f n k h]
  apply List.ext_getElem?
  intro i
  by_cases hi : i < n
  · rw [num_get _ n i hi, List.getElem?_set]
    by_cases hk : k = i
    · subst hk
      rw [if_pos rfl, if_pos (by rw [num_len]; exact h), if_pos rfl]
      rfl
    · rw [if_neg hk, num_get f n i hi, if_neg (fun e => hk e.symm)]
  · rw [List.getElem?_eq_none (by rw [List.length_set, num_len]; omega), List.getElem?_eq_none (by rw [num_len]; omega)]
theorem out_lo (L : List (Int × Int)) (k i : Nat) (h : i < k) (hk : k < L.length) (hi : i < (out L k).length) : (out L k)[i] = L[i]'(by omega) := by
  have h2 : (out L k)[i]? = L[i]? := by
    unfold out
    rw [List.getElem?_append_left (by rw [List.length_take]; omega), List.getElem?_take, if_pos h]
  rw [List.getElem?_eq_getElem hi, List.getElem?_eq_getElem (by omega)] at h2
  exact Option.some.inj h2
theorem out_hi (L : List (Int × Int)) (k i : Nat) (h : k ≤ i) (hk : k < L.length) (hi : i < (out L k).length) (hi2 : i + 1 < L.length) : (out L k)[i] = L[i + 1] := by
  have h2 : (out L k)[i]? = L[i + 1]? := by
    unfold out
    rw [List.getElem?_append_right (by rw [List.length_take]; omega), List.getElem?_drop, List.length_take]
    congr 1
    omega
  rw [List.getElem?_eq_getElem hi, List.getElem?_eq_getElem hi2] at h2
  exact Option.some.inj h2
theorem cell_turn {w w' : World} {qb g o : Nat} {gq : Option Nat} {v : Value} (h : w.cell? ⟨g, o, none⟩ = some v) (t : Turn w w' qb gq) (h1 : g ≠ qb) (h2 : some g ≠ gq) : w'.cell? ⟨g, o, none⟩ = some v := by
  rw [World.cell?_of_block (w := w) (t.block g (World.block_lt_of_cell? w _ h) h1 h2)]
  exact h
set_option maxHeartbeats 8000000 in
set_option maxRecDepth 100000 in
theorem ranks_walk (sa : Option Addr) (len cap : Nat) (D : Nat → Nat → Int) (x y : Int) (w : World) (hD : RowsOf w sa len cap 1 (fun _ => .u8) D) (wx : (Lit.int .u8 x).wf = true) (wy : (Lit.int .u8 y).wf = true) :
    Calls Try.prog 5 #[.slice sa len cap, .int .u8 x, .int .u8 y] w fun e w' => e = .returned (.bool true) ∧ Below w.heap.size w w' := by
  have hB := bel_refl w
  have hlen : len ≤ 9223372036854775807 := by have := hD.lenCap; have := hD.capMax; unfold maxLen at this; omega
  have hx : 0 ≤ x ∧ x ≤ 255 := by
    simp [Lit.wf, IntKind.min, IntKind.max, IntKind.signed, IntKind.bits] at wx
    omega
  have hy : 0 ≤ y ∧ y ≤ 255 := by
    simp [Lit.wf, IntKind.min, IntKind.max, IntKind.signed, IntKind.bits] at wy
    omega
  go_enter Try.func5, Try.ntmps5
  go_wp2_with fail
  refine (awake_any _).mono ?_
  rintro e w1 ⟨rfl, hb⟩
  have hD1 := hD.keep hb
  replace hB := bel_call hb hB
  have hs1 := hB.size
  clear hb
  go_wp2_with fail
  refine (filled_any _ _ _ D _ hD1).mono ?_
  rintro e w2 ⟨⟨gq, rfl, hQ⟩, hb⟩
  replace hB := bel_call hb hB
  obtain ⟨qb, hqb⟩ : ∃ qb, w1.heap.size = qb := ⟨_, rfl⟩
  rw [hqb] at hQ hs1 ⊢
  obtain ⟨n, hn⟩ : ∃ n, min len 60 = n := ⟨_, rfl⟩
  rw [hn] at hQ
  have hn60 : n ≤ 60 := by omega
  have HR := Lib.hid (fun i hi => u8_of hD i hi)
  clear hb hD hD1 hqb wx wy
  by_cases hn0 : n = 0
  · subst hn0
    have hmin : min (len : Int) 60 = 0 := by omega
    go_wp2_with fail
    refine (len_any _ _ _ _ hQ).mono ?_
    rw [num_len]
    rintro e w3 ⟨rfl, rfl⟩
    go_wp2_with fail
    go_ret
    exact ⟨rfl, hB⟩
  · obtain ⟨m, rfl⟩ : ∃ m, n = m + 1 := ⟨n - 1, by omega⟩
    have hmin : min (len : Int) 60 = ((m : Int) + 1) := by omega
    have hm0 : ((m : Int) + 1 == 0) = false := by simp; omega
    obtain ⟨kc, hkc⟩ : ∃ k : Nat, (k : Int) = x % ((m : Int) + 1) := ⟨(x % ((m : Int) + 1)).toNat, by have := Int.emod_nonneg x (show ((m : Int) + 1) ≠ 0 by omega); omega⟩
    obtain ⟨kd, hkd⟩ : ∃ k : Nat, (k : Int) = y % ((m : Int) + 1) := ⟨(y % ((m : Int) + 1)).toNat, by have := Int.emod_nonneg y (show ((m : Int) + 1) ≠ 0 by omega); omega⟩
    have hcm : kc < m + 1 := by have := Int.emod_lt_of_pos x (show (0 : Int) < (m : Int) + 1 by omega); omega
    have hdm : kd < m + 1 := by have := Int.emod_lt_of_pos y (show (0 : Int) < (m : Int) + 1 by omega); omega
    have hfk := HR.out kc (by omega)
    have hcu := cut_num (fun i => D i 0 + 2) (m + 1) kc hcm (by show 1 < D kc 0 + 2; omega)
    obtain ⟨f', hf'⟩ : ∃ f' : Nat → Int, (fun j => if j = kc then 1 else D j 0 + 2) = f' := ⟨_, rfl⟩
    rw [hf'] at hcu
    have hfc : f' kc = 1 := by rw [← hf']; simp
    have hdr := drop_num f' (m + 1) kd hdm
    have hL := num_len (fun i => D i 0 + 2) (m + 1)
    have hL' := num_len f' (m + 1)
    have hol := out_len (num f' (m + 1)) kd (by omega)
    rw [hL'] at hol
    have hge : ∀ i (h : i < (num f' (m + 1)).length), (num f' (m + 1))[i] = ((i : Int) + 1, f' i) := fun i h => num_elem f' (m + 1) i h
    have hlo : ∀ i, i < kd → ∀ h, (out (num f' (m + 1)) kd)[i]'h = ((i : Int) + 1, f' i) := fun i hi h => by rw [out_lo _ _ _ hi (by omega) h, hge]
    have hhi : ∀ i, kd ≤ i → i < m → ∀ h, (out (num f' (m + 1)) kd)[i]'h = (((i + 1 : Nat) : Int) + 1, f' (i + 1)) := fun i hi hm h => by rw [out_hi _ _ _ hi (by omega) h (by omega), hge]
    rw [show (kc : Int) + 1 = 1 + (kc : Int) by omega] at hcu
    rw [show (kd : Int) + 1 = 1 + (kd : Int) by omega] at hdr
    generalize num (fun i => D i 0 + 2) (m + 1) = L at *
    generalize num f' (m + 1) = L' at *
    generalize out L' kd = L1 at *
    have cc := Lib.hid (fun (w : World) (g : Option Nat) (h : QAt w qb g L) => cut_any w qb g L h (by omega) (1 + (kc : Int)) 1)
    rw [hcu.1, hcu.2] at cc
    have cl := Lib.hid (fun (w : World) (g : Option Nat) (h : QAt w qb g L') => list_any w _ L' h.isQ (by omega))
    have cd := Lib.hid (fun (w : World) (g : Option Nat) (h : QAt w qb g L') => drop_any w qb g L' h (by omega) (1 + (kd : Int)))
    rw [hdr.1, hdr.2.1, hdr.2.2] at cd
    have cl1 := Lib.hid (fun (w : World) (g : Option Nat) (h : QAt w qb g L1) => list_any w _ L1 h.isQ (by omega))
    have HG := Lib.hid hge
    have HLO := Lib.hid hlo
    have HHI := Lib.hid hhi
    have HL := Lib.hid (And.intro hL' hol)
    have HF := Lib.hid hfc
    clear hcu hdr hf' hfc hL hL' hol hge hlo hhi hfk
    go_upto_region 9 with fail
    rw [← hkc]
    clear hkc
    go_upto_region 10 with fail
    rw [← hkd]
    clear hkd hx hy
    obtain ⟨cI, hcI⟩ : ∃ cI, 1 + (kc : Int) = cI := ⟨_, rfl⟩
    obtain ⟨dI, hdI⟩ : ∃ dI, 1 + (kd : Int) = dI := ⟨_, rfl⟩
    rw [hcI] at cc ⊢
    rw [hdI] at cd ⊢
    have HCD := Lib.hid (And.intro hcI hdI)
    clear hcI hdI
    go_wp2_with fail
    refine (cc.out _ _ hQ).mono ?_
    rintro e w3 ⟨rfl, hQ3, ht, -⟩
    replace hB := bel_q hB hQ hs1 ht
    clear ht hQ
    go_wp2_with fail
    refine (cl.out _ _ hQ3).mono ?_
    rintro e w4 ⟨v1, rfl, hO1, hb⟩
    have hq3 := hQ3.lt
    replace hQ3 := hQ3.call hb
    replace hB := bel_call hb hB
    clear hb
    obtain ⟨sw, cw, rfl, hW⟩ := items_open hO1
    go_wp2_with fail
    refine (cd.out _ _ hQ3).mono ?_
    rintro e w5 ⟨rfl, hQ5, ht, -⟩
    replace hB := bel_q hB hQ3 hs1 ht
    have hW5 : ∀ i, (hi : i < L'.length) → ∃ g, sw = some ⟨g, 0, none⟩ ∧ w5.cell? ⟨g, i * 2, none⟩ = some (.int .i64 ((i : Int) + 1)) ∧ w5.cell? ⟨g, i * 2 + 1, none⟩ = some (.int .i64 (f' i)) := fun i hi => by
      obtain ⟨g, e, g1, g2, p0, p1⟩ := hW i hi
      rw [HG.out i hi] at p0 p1
      have h1 : g ≠ qb := by omega
      have h2 : some g ≠ gq := fun e => by have := hq3.2 g e.symm; omega
      exact ⟨g, e, cell_turn p0 ht h1 h2, cell_turn p1 ht h1 h2⟩
    clear ht hQ3 hW hO1 hq3
    rw [HL.out.1] at hW5 ⊢
    go_wp2_with fail
    refine (cl1.out _ _ hQ5).mono ?_
    rintro e w6 ⟨v2, rfl, hO2, hb⟩
    replace hB := bel_call hb hB
    have hB5 := hb
    clear hb hQ5
    obtain ⟨sn, cn, rfl, hN⟩ := items_open hO2
    rw [HL.out.2]
    have HW := Lib.hid hW5
    have HN := Lib.hid hN
    clear hW5 hN hO2
    have hm1 : m + 1 - 1 = m := rfl
    rw [hm1]
    go_wp2_with fail
    go_loopw [16, 17] (fun kk i wr => ∃ (j kn : Nat), j ≤ m + 1 ∧ (j ≤ kd → kn = j) ∧ (kd < j → kn + 1 = j) ∧ i = .int .i64 j ∧ kk = .int .i64 kn ∧ Below w.heap.size w wr ∧ Below w5.heap.size w5 wr ∧ Below w6.heap.size w6 wr) (fun _ i _ => m + 1 - (intOf i).toNat)
    case atStart => exact ⟨0, 0, by omega, fun _ => rfl, fun h => by omega, rfl, rfl, hB, hB5, bel_refl _⟩
    case round =>
      clear hB hB5
      obtain ⟨j, kn, hj, hk1, hk2, rfl, rfl, hB, hB5, hB6⟩ := hrel
      by_cases hlt : j < m + 1
      · obtain ⟨g1, rfl, p0, p1⟩ := HW.out j hlt
        replace p0 := cell_call p0 hB5
        replace p1 := cell_call p1 hB5
        have hd1 : decide ((j : Int) < (m : Int) + 1) = true := by simp; omega
        have hj0 : (0 : Int) ≤ (j : Int) := by omega
        have hj1 : (j : Int) < (m : Int) + 1 := by omega
        obtain ⟨hcI, hdI⟩ := HCD.out
        have hcj : (((j : Int) + 1 == cI) = true ∧ f' j = 1) ∨ ((j : Int) + 1 == cI) = false := by
          by_cases h : j = kc
          · refine .inl ⟨by simp; omega, by rw [h]; exact HF.out⟩
          · refine .inr (by simp; omega)
        by_cases hjd : j = kd
        · have hdj : ((j : Int) + 1 == dI) = true := by simp; omega
          have hkn : kn + 1 = j + 1 := by have := hk1 (by omega); omega
          have HK := Lib.hid (And.intro hkn hjd)
          have hfe : f' kd = f' j := by rw [hjd]
          have HE := Lib.hid hfe
          clear hcI hdI hk1 hk2 hkn hfe
          obtain ⟨fd, hfd⟩ : ∃ fd, f' kd = fd := ⟨_, rfl⟩
          have hfj : f' j = fd := HE.out.symm.trans hfd
          rw [hfj] at p1 hcj
          rw [hfd]
          clear hfd hfj hjd
          rcases hcj with ⟨e1, e2⟩ | e1
          · subst e2
            go_wp2_with fail
            go_roundw
            case rel => exact ⟨j + 1, kn, by omega, fun h => by have := HK.out; omega, fun h => by have := HK.out; omega, by go_num, rfl, hB, hB5, hB6⟩
            case measure => simp [intOf]; omega
          · go_wp2_with fail
            go_roundw
            case rel => exact ⟨j + 1, kn, by omega, fun h => by have := HK.out; omega, fun h => by have := HK.out; omega, by go_num, rfl, hB, hB5, hB6⟩
            case measure => simp [intOf]; omega
        · have hdj : ((j : Int) + 1 == dI) = false := by simp; omega
          have hkm : kn < m := by
            rcases Nat.lt_or_gt_of_ne hjd with h | h
            · have := hk1 (by omega); omega
            · have := hk2 h; omega
          have HK := Lib.hid (show (j + 1 ≤ kd → kn + 1 = j + 1) ∧ (kd < j + 1 → kn + 1 + 1 = j + 1) from ⟨fun h => by have := hk1 (by omega); omega, fun h => by have := hk2 (by omega); omega⟩)
          obtain ⟨g2, rfl, -, -, q0, q1⟩ := HN.out kn (by have := HL.out; omega)
          have hel : ∀ h : kn < L1.length, L1[kn]'h = ((j : Int) + 1, f' j) := fun h => by
            rcases Nat.lt_or_gt_of_ne hjd with h2 | h2
            · have e := hk1 (by omega)
              rw [HLO.out kn (by omega) h, e]
            · have e := hk2 h2
              rw [HHI.out kn (by omega) hkm h, e]
          rw [hel] at q0 q1
          replace q0 := cell_call q0 hB6
          replace q1 := cell_call q1 hB6
          have hk0 : (0 : Int) ≤ (kn : Int) := by omega
          have hk1' : (kn : Int) < (m : Int) := by omega
          clear hcI hdI hk1 hk2 hel hjd hkm
          generalize f' j = fj at *
          rcases hcj with ⟨e1, e2⟩ | e1
          · subst e2
            go_wp2_with fail
            refine wp_region_plan [(0, true), (1, true), (2, true), (3, true), (4, true), (5, true), (6, true), (7, true), (8, true)] (fun w' => (w'.cell? ⟨g1, j * 2, none⟩ = some (.int .i64 ((j : Int) + 1)) ∧ w'.cell? ⟨g1, j * 2 + 1, none⟩ = some (.int .i64 1)) ∧ (w'.cell? ⟨g2, kn * 2, none⟩ = some (.int .i64 ((j : Int) + 1)) ∧ w'.cell? ⟨g2, kn * 2 + 1, none⟩ = some (.int .i64 1))) (by kernel_rfl) (by kernel_rfl) (fun _ _ _ _ h => h) ?_ (fun hS => ?_)
            · exact ⟨⟨p0, p1⟩, ⟨q0, q1⟩⟩
            iterate 9
              refine plan_light (o := ?_) (v := ?_) ?_ ?_ ?_ ?_
              rotate_left 2
              · simp only [List.getElem?_toArray, List.getElem?_cons_zero, List.getElem?_cons_succ]
                rfl
              · go_simp
              · intro w' hS
                (have sa1 := hS.1.1; have sa2 := hS.1.2; have sa3 := hS.2.1; have sa4 := hS.2.2)
                go_simp
                try rfl
              simp only [Act.put, List.setIfInBounds_toArray, List.set_cons_zero, List.set_cons_succ]
            refine plan_nil ?_
            go_wp2_with fail
            go_roundw
            case rel => exact ⟨j + 1, kn + 1, by omega, HK.out.1, HK.out.2, by go_num, by go_num, bel_drew hB, bel_drew hB5, bel_drew hB6⟩
            case measure => simp [intOf]; omega
          · skip
            go_wp2_with fail
            refine wp_region_plan [(0, true), (1, true), (2, true), (3, true), (4, true), (5, true), (6, true), (7, true), (8, true)] (fun w' => (w'.cell? ⟨g1, j * 2, none⟩ = some (.int .i64 ((j : Int) + 1)) ∧ w'.cell? ⟨g1, j * 2 + 1, none⟩ = some (.int .i64 fj)) ∧ (w'.cell? ⟨g2, kn * 2, none⟩ = some (.int .i64 ((j : Int) + 1)) ∧ w'.cell? ⟨g2, kn * 2 + 1, none⟩ = some (.int .i64 fj))) (by kernel_rfl) (by kernel_rfl) (fun _ _ _ _ h => h) ?_ (fun hS => ?_)
            · exact ⟨⟨p0, p1⟩, ⟨q0, q1⟩⟩
            iterate 9
              refine plan_light (o := ?_) (v := ?_) ?_ ?_ ?_ ?_
              rotate_left 2
              · simp only [List.getElem?_toArray, List.getElem?_cons_zero, List.getElem?_cons_succ]
                rfl
              · go_simp
              · intro w' hS
                (have sa1 := hS.1.1; have sa2 := hS.1.2; have sa3 := hS.2.1; have sa4 := hS.2.2)
                go_simp
                try rfl
              simp only [Act.put, List.setIfInBounds_toArray, List.set_cons_zero, List.set_cons_succ]
            refine plan_nil ?_
            go_wp2_with fail
            go_roundw
            case rel => exact ⟨j + 1, kn + 1, by omega, HK.out.1, HK.out.2, by go_num, by go_num, bel_drew hB, bel_drew hB5, bel_drew hB6⟩
            case measure => simp [intOf]; omega
      · have hd1 : decide ((j : Int) < (m : Int) + 1) = false := by simp; omega
        go_wp2_with fail
        go_ret
        exact ⟨rfl, hB⟩
end Go.Proofs.Ytkebpibcoklglaa
