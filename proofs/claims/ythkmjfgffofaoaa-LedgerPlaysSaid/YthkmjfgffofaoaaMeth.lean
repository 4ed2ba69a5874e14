/-
  Contracts of the ledger's methods.
-/
import Derived.Test.YthkmjfgffofaoaaLed
namespace Go.Proofs.Ythkmjfgffofaoaa
open Go.RowKit
set_option linter.unusedSimpArgs false
set_option linter.unusedVariables false
set_option maxHeartbeats 2000000 in
theorem hold_any (w : World) (b : Nat) (F : Nat → Int) (h : LAt w b F) (hF : Bd F) (acc asset n : Int) :
    Calls Try.prog 21 #[.pointer (some ⟨b, 0, none⟩), .int .i64 acc, .int .i64 asset, .int .i64 n] w fun e w' => e = .returned (.int .i64 (moveE F (okD acc asset n) (ix acc asset) n)) ∧ LAt w' b (moveN F (okD acc asset n) (ix acc asset) (ix acc asset + 1) n) ∧ w.grownBy w' (some b) := by
  have hg := gr_refl w (some b)
  by_cases hA : okA acc asset
  · obtain ⟨a, s, rfl, rfl, ha, hs, hi, ht⟩ := okA_nat hA
    have c1 := Lib.hid (at_in w b F h a s ha hs)
    rw [← hi] at c1
    have i1 : ix a s + 1 < 262 := by omega
    have t1 : tx s < 262 ∧ ix a s < tx s := by omega
    have s0 : (0 : Int) ≤ (s : Int) := by omega
    have s2 : (s : Int) < 2 := by omega
    by_cases hN : 0 ≤ n ∧ n ≤ 1152921504606846976
    · have hD : okD a s n := ⟨hA, hN⟩
      have hn := okN_yes hN
      have HL := Lib.hid h
      generalize ix (a : Int) (s : Int) = i at *
      clear hi t1
      have hc := h.cell i (by omega)
      have hc' := h.cell (i + 1) (by omega)
      have hf := h.free i
      have hf' := h.free (i + 1)
      have b1 := hF i (by omega)
      have b2 := hF (i + 1) (by omega)
      have k1 : i < 262 := by omega
      have k2 : i + 1 < 262 := by omega
      by_cases hl : F i < n
      · have e0 : decide (F i < n) = true := decide_eq_true hl
        rw [show moveE F (okD a s n) i n = 9 by unfold moveE; rw [if_pos hD, if_pos hl], show moveN F (okD a s n) i (i + 1) n = F by unfold moveN; rw [if_neg (fun hh => hh.2 hl)]]
        clear hl hD hN hA b1 b2 h
        go_enter Try.func21, Try.ntmps21
        go_wp2_with fail
        refine (c1.out).mono ?_
        rintro e w1 ⟨rfl, rfl⟩
        go_wp2_with fail
        refine (may_any n _).mono ?_
        rintro e w1 ⟨rfl, rfl⟩
        go_wp2_with fail
        go_ret
        exact ⟨rfl, HL.out, hg⟩
      · have e0 : decide (F i < n) = false := decide_eq_false hl
        rw [show moveE F (okD a s n) i n = 0 by unfold moveE; rw [if_pos hD, if_neg hl], show moveN F (okD a s n) i (i + 1) n = upd (upd F i (F i - n)) (i + 1) (F (i + 1) + n) by unfold moveN; rw [if_pos ⟨hD, hl⟩, upd_ne _ _ _ _ (by omega)]]
        have w1 : IntKind.i64.wrap (F i - n) = F i - n := IntWalk.i64_in _ (by omega)
        have w2 : IntKind.i64.wrap (F (i + 1) + n) = F (i + 1) + n := IntWalk.i64_in _ (by omega)
        clear hl hD hN hA b1 b2 h
        go_enter Try.func21, Try.ntmps21
        go_wp2_with fail
        refine (c1.out).mono ?_
        rintro e w1 ⟨rfl, rfl⟩
        go_wp2_with fail
        refine (may_any n _).mono ?_
        rintro e w1 ⟨rfl, rfl⟩
        go_wp2_with fail
        go_ret
        exact ⟨rfl, (HL.out.set i k1 _).set (i + 1) k2 _, gr_set (gr_set hg _ _ (.inl rfl)) _ _ (.inl rfl)⟩
    · have hD : ¬ okD a s n := fun hh => hN hh.2
      have hn := okN_no hN
      rw [show moveE F (okD a s n) (ix a s) n = 1 by unfold moveE; rw [if_neg hD], show moveN F (okD a s n) (ix a s) (ix a s + 1) n = F by unfold moveN; rw [if_neg (fun hh => hD hh.1)]]
      clear hi
      generalize ix (a : Int) (s : Int) = i at *
      have HL := Lib.hid h
      clear h hD hN hA
      go_enter Try.func21, Try.ntmps21
      go_wp2_with fail
      refine (c1.out).mono ?_
      rintro e w1 ⟨rfl, rfl⟩
      go_wp2_with fail
      refine (may_any n _).mono ?_
      rintro e w1 ⟨rfl, rfl⟩
      go_wp2_with fail
      go_ret
      exact ⟨rfl, HL.out, hg⟩
  · have hD : ¬ okD acc asset n := fun hh => hA hh.1
    rw [show moveE F (okD acc asset n) (ix acc asset) n = 1 by unfold moveE; rw [if_neg hD], show moveN F (okD acc asset n) (ix acc asset) (ix acc asset + 1) n = F by unfold moveN; rw [if_neg (fun hh => hD hh.1)]]
    have c1 := Lib.hid (at_out w b acc asset hA)
    have HL := Lib.hid h
    clear h hD hA
    go_enter Try.func21, Try.ntmps21
    go_wp2_with fail
    refine (c1.out).mono ?_
    rintro e w1 ⟨rfl, rfl⟩
    go_wp2_with fail
    go_ret
    exact ⟨rfl, HL.out, hg⟩
set_option maxHeartbeats 2000000 in
theorem release_any (w : World) (b : Nat) (F : Nat → Int) (h : LAt w b F) (hF : Bd F) (acc asset n : Int) :
    Calls Try.prog 24 #[.pointer (some ⟨b, 0, none⟩), .int .i64 acc, .int .i64 asset, .int .i64 n] w fun e w' => e = .returned (.int .i64 (moveE F (okD acc asset n) (ix acc asset + 1) n)) ∧ LAt w' b (moveN F (okD acc asset n) (ix acc asset + 1) (ix acc asset) n) ∧ w.grownBy w' (some b) := by
  have hg := gr_refl w (some b)
  by_cases hA : okA acc asset
  · obtain ⟨a, s, rfl, rfl, ha, hs, hi, ht⟩ := okA_nat hA
    have c1 := Lib.hid (at_in w b F h a s ha hs)
    rw [← hi] at c1
    have i1 : ix a s + 1 < 262 := by omega
    have t1 : tx s < 262 ∧ ix a s < tx s := by omega
    have s0 : (0 : Int) ≤ (s : Int) := by omega
    have s2 : (s : Int) < 2 := by omega
    by_cases hN : 0 ≤ n ∧ n ≤ 1152921504606846976
    · have hD : okD a s n := ⟨hA, hN⟩
      have hn := okN_yes hN
      have HL := Lib.hid h
      generalize ix (a : Int) (s : Int) = i at *
      clear hi t1
      have hc := h.cell (i + 1) (by omega)
      have hc' := h.cell i (by omega)
      have hf := h.free (i + 1)
      have hf' := h.free i
      have b1 := hF (i + 1) (by omega)
      have b2 := hF i (by omega)
      have k1 : i + 1 < 262 := by omega
      have k2 : i < 262 := by omega
      by_cases hl : F (i + 1) < n
      · have e0 : decide (F (i + 1) < n) = true := decide_eq_true hl
        rw [show moveE F (okD a s n) (i + 1) n = 9 by unfold moveE; rw [if_pos hD, if_pos hl], show moveN F (okD a s n) (i + 1) i n = F by unfold moveN; rw [if_neg (fun hh => hh.2 hl)]]
        clear hl hD hN hA b1 b2 h
        go_enter Try.func24, Try.ntmps24
        go_wp2_with fail
        refine (c1.out).mono ?_
        rintro e w1 ⟨rfl, rfl⟩
        go_wp2_with fail
        refine (may_any n _).mono ?_
        rintro e w1 ⟨rfl, rfl⟩
        go_wp2_with fail
        go_ret
        exact ⟨rfl, HL.out, hg⟩
      · have e0 : decide (F (i + 1) < n) = false := decide_eq_false hl
        rw [show moveE F (okD a s n) (i + 1) n = 0 by unfold moveE; rw [if_pos hD, if_neg hl], show moveN F (okD a s n) (i + 1) i n = upd (upd F (i + 1) (F (i + 1) - n)) i (F i + n) by unfold moveN; rw [if_pos ⟨hD, hl⟩, upd_ne _ _ _ _ (by omega)]]
        have w1 : IntKind.i64.wrap (F (i + 1) - n) = F (i + 1) - n := IntWalk.i64_in _ (by omega)
        have w2 : IntKind.i64.wrap (F i + n) = F i + n := IntWalk.i64_in _ (by omega)
        clear hl hD hN hA b1 b2 h
        go_enter Try.func24, Try.ntmps24
        go_wp2_with fail
        refine (c1.out).mono ?_
        rintro e w1 ⟨rfl, rfl⟩
        go_wp2_with fail
        refine (may_any n _).mono ?_
        rintro e w1 ⟨rfl, rfl⟩
        go_wp2_with fail
        go_ret
        exact ⟨rfl, (HL.out.set (i + 1) k1 _).set i k2 _, gr_set (gr_set hg _ _ (.inl rfl)) _ _ (.inl rfl)⟩
    · have hD : ¬ okD a s n := fun hh => hN hh.2
      have hn := okN_no hN
      rw [show moveE F (okD a s n) (ix a s + 1) n = 1 by unfold moveE; rw [if_neg hD], show moveN F (okD a s n) (ix a s + 1) (ix a s) n = F by unfold moveN; rw [if_neg (fun hh => hD hh.1)]]
      clear hi
      generalize ix (a : Int) (s : Int) = i at *
      have HL := Lib.hid h
      clear h hD hN hA
      go_enter Try.func24, Try.ntmps24
      go_wp2_with fail
      refine (c1.out).mono ?_
      rintro e w1 ⟨rfl, rfl⟩
      go_wp2_with fail
      refine (may_any n _).mono ?_
      rintro e w1 ⟨rfl, rfl⟩
      go_wp2_with fail
      go_ret
      exact ⟨rfl, HL.out, hg⟩
  · have hD : ¬ okD acc asset n := fun hh => hA hh.1
    rw [show moveE F (okD acc asset n) (ix acc asset + 1) n = 1 by unfold moveE; rw [if_neg hD], show moveN F (okD acc asset n) (ix acc asset + 1) (ix acc asset) n = F by unfold moveN; rw [if_neg (fun hh => hD hh.1)]]
    have c1 := Lib.hid (at_out w b acc asset hA)
    have HL := Lib.hid h
    clear h hD hA
    go_enter Try.func24, Try.ntmps24
    go_wp2_with fail
    refine (c1.out).mono ?_
    rintro e w1 ⟨rfl, rfl⟩
    go_wp2_with fail
    go_ret
    exact ⟨rfl, HL.out, hg⟩
set_option maxHeartbeats 2000000 in
theorem take_any (w : World) (b : Nat) (F : Nat → Int) (h : LAt w b F) (hF : Bd F) (acc asset n : Int) :
    Calls Try.prog 23 #[.pointer (some ⟨b, 0, none⟩), .int .i64 acc, .int .i64 asset, .int .i64 n] w fun e w' => e = .returned (.int .i64 (moveE F (okD acc asset n) (ix acc asset) n)) ∧ LAt w' b (takeN F acc asset n) ∧ w.grownBy w' (some b) := by
  have hg := gr_refl w (some b)
  by_cases hA : okA acc asset
  · obtain ⟨a, s, rfl, rfl, ha, hs, hi, ht⟩ := okA_nat hA
    have c1 := Lib.hid (at_in w b F h a s ha hs)
    rw [← hi] at c1
    have s0 : (0 : Int) ≤ (s : Int) := by omega
    have s2 : (s : Int) < 2 := by omega
    have s3 : decide (2 ≤ (s : Int)) = false := by simp; omega
    by_cases hN : 0 ≤ n ∧ n ≤ 1152921504606846976
    · have hD : okD a s n := ⟨hA, hN⟩
      have hn := okN_yes hN
      have HL := Lib.hid h
      by_cases hl : F (ix a s) < n
      · rw [show moveE F (okD a s n) (ix a s) n = 9 by unfold moveE; rw [if_pos hD, if_pos hl], show takeN F a s n = F by unfold takeN; rw [if_neg (fun hh => hh.2 hl)]]
        generalize ix (a : Int) (s : Int) = i at *
        have hc := h.cell i (by omega)
        have hc' := h.cell (260 + s) (by omega)
        have b2 := hF (260 + s) (by omega)
        have w3 : IntKind.i64.wrap (1152921504606846976 - F (260 + s)) = 1152921504606846976 - F (260 + s) := IntWalk.i64_in _ (by omega)
        have e0 : decide (F i < n) = true := decide_eq_true hl
        clear hl hD hN hA h b2 hi ht
        go_enter Try.func23, Try.ntmps23
        go_wp2_with fail
        refine (c1.out).mono ?_
        rintro e w1 ⟨rfl, rfl⟩
        go_wp2_with fail
        refine (may_any n _).mono ?_
        rintro e w1 ⟨rfl, rfl⟩
        go_wp2_with fail
        go_ret
        exact ⟨rfl, HL.out, hg⟩
      · rw [show moveE F (okD a s n) (ix a s) n = 0 by unfold moveE; rw [if_pos hD, if_neg hl], show takeN F a s n = upd (upd F (ix a s) (F (ix a s) - n)) (tx s) (F (tx s) - n) by unfold takeN; rw [if_pos ⟨hD, hl⟩]]
        rw [ht]
        generalize ix (a : Int) (s : Int) = i at *
        have hc := h.cell i (by omega)
        have hc' := h.cell (260 + s) (by omega)
        have hf := h.free i
        have hf' := h.free (260 + s)
        have b1 := hF i (by omega)
        have b2 := hF (260 + s) (by omega)
        have k1 : i < 262 := by omega
        have k2 : 260 + s < 262 := by omega
        have w1 : IntKind.i64.wrap (F i - n) = F i - n := IntWalk.i64_in _ (by omega)
        have w2 : IntKind.i64.wrap (F (260 + s) - n) = F (260 + s) - n := IntWalk.i64_in _ (by omega)
        have w3 : IntKind.i64.wrap (1152921504606846976 - F (260 + s)) = 1152921504606846976 - F (260 + s) := IntWalk.i64_in _ (by omega)
        have e0 : decide (F i < n) = false := decide_eq_false hl
        have L1 := h.set i k1 (F i - n)
        have L2 : upd F i (F i - n) (260 + s) = F (260 + s) := upd_ne _ _ _ _ (by omega)
        have d1 := L1.cell (260 + s) k2
        rw [L2] at d1
        have d2 := L1.free (260 + s)
        have HM := Lib.hid L1
        have HD := Lib.hid (And.intro d1 d2)
        clear hl hD hN hA b1 b2 h hi ht L1 L2 d1 d2
        go_enter Try.func23, Try.ntmps23
        go_wp2_with fail
        refine (c1.out).mono ?_
        rintro e w1 ⟨rfl, rfl⟩
        go_wp2_with fail
        refine (may_any n _).mono ?_
        rintro e w1 ⟨rfl, rfl⟩
        go_wp2_with fail
        have d1 := HD.out.1
        have d2 := HD.out.2
        refine wp_region_plan [(0, true), (1, true), (2, true), (3, true), (4, true), (5, true), (6, true), (7, true), (8, true), (9, true), (10, true), (11, false)] (fun w' => w'.cell? ⟨b, 260 + s, none⟩ = some (.int .i64 (F (260 + s))) ∧ w'.frozen? ⟨b, 260 + s, none⟩ = false) (by kernel_rfl) (by kernel_rfl) (fun _ _ _ _ h => h) ?_ (fun hS => ?_)
        · go_simp
        iterate 11
          refine plan_light (o := ?_) (v := ?_) ?_ ?_ ?_ ?_
          rotate_left 2
          · simp only [List.getElem?_toArray, List.getElem?_cons_zero, List.getElem?_cons_succ]
            rfl
          · go_simp
          · intro w' hS
            go_simp
            try rfl
          simp only [Act.put, List.setIfInBounds_toArray, List.set_cons_zero, List.set_cons_succ]
        refine plan_sink (o := ?_) ?_ (by kernel_rfl) (fun K' hK => ?_)
        rotate_left
        · simp only [List.getElem?_toArray, List.getElem?_cons_zero, List.getElem?_cons_succ]
          rfl
        go_simp
        refine hK.out _ _ ?_
        clear hK K'
        refine plan_nil ?_
        go_wp2
        go_ret
        exact ⟨rfl, HM.out.drew.set (260 + s) k2 _, gr_set (gr_drew (gr_set hg _ _ (.inl rfl))) _ _ (.inl rfl)⟩
    · have hD : ¬ okD a s n := fun hh => hN hh.2
      have hn := okN_no hN
      rw [show moveE F (okD a s n) (ix a s) n = 1 by unfold moveE; rw [if_neg hD], show takeN F a s n = F by unfold takeN; rw [if_neg (fun hh => hD hh.1)]]
      clear hi
      generalize ix (a : Int) (s : Int) = i at *
      have HL := Lib.hid h
      clear h hD hN hA
      go_enter Try.func23, Try.ntmps23
      go_wp2_with fail
      refine (c1.out).mono ?_
      rintro e w1 ⟨rfl, rfl⟩
      go_wp2_with fail
      refine (may_any n _).mono ?_
      rintro e w1 ⟨rfl, rfl⟩
      go_wp2_with fail
      go_ret
      exact ⟨rfl, HL.out, hg⟩
  · have hD : ¬ okD acc asset n := fun hh => hA hh.1
    rw [show moveE F (okD acc asset n) (ix acc asset) n = 1 by unfold moveE; rw [if_neg hD], show takeN F acc asset n = F by unfold takeN; rw [if_neg (fun hh => hD hh.1)]]
    have c1 := Lib.hid (at_out w b acc asset hA)
    have HL := Lib.hid h
    clear h hD hA
    go_enter Try.func23, Try.ntmps23
    go_wp2_with fail
    refine (c1.out).mono ?_
    rintro e w1 ⟨rfl, rfl⟩
    go_wp2_with fail
    go_ret
    exact ⟨rfl, HL.out, hg⟩
set_option maxHeartbeats 2000000 in
theorem add_any (w : World) (b : Nat) (F : Nat → Int) (h : LAt w b F) (hF : Bd F) (acc asset n : Int) :
    Calls Try.prog 11 #[.pointer (some ⟨b, 0, none⟩), .int .i64 acc, .int .i64 asset, .int .i64 n] w fun e w' => e = .returned (.int .i64 (addE F acc asset n)) ∧ LAt w' b (addN F acc asset n) ∧ w.grownBy w' (some b) := by
  have hg := gr_refl w (some b)
  by_cases hA : okA acc asset
  · obtain ⟨a, s, rfl, rfl, ha, hs, hi, ht⟩ := okA_nat hA
    have c1 := Lib.hid (at_in w b F h a s ha hs)
    rw [← hi] at c1
    have s0 : (0 : Int) ≤ (s : Int) := by omega
    have s2 : (s : Int) < 2 := by omega
    have s3 : decide (2 ≤ (s : Int)) = false := by simp; omega
    by_cases hN : 0 ≤ n ∧ n ≤ 1152921504606846976
    · have hD : okD a s n := ⟨hA, hN⟩
      have hn := okN_yes hN
      have HL := Lib.hid h
      by_cases hl : 1152921504606846976 - F (tx s) < n
      · rw [show addE F a s n = 8 by unfold addE; rw [if_pos hD, if_pos hl], show addN F a s n = F by unfold addN; rw [if_neg (fun hh => hh.2 hl)]]
        rw [ht] at hl
        generalize ix (a : Int) (s : Int) = i at *
        have hc := h.cell i (by omega)
        have hc' := h.cell (260 + s) (by omega)
        have b2 := hF (260 + s) (by omega)
        have w3 : IntKind.i64.wrap (1152921504606846976 - F (260 + s)) = 1152921504606846976 - F (260 + s) := IntWalk.i64_in _ (by omega)
        have e0 : decide (1152921504606846976 - F (260 + s) < n) = true := decide_eq_true hl
        clear hl hD hN hA h b2 hi ht
        go_enter Try.func11, Try.ntmps11
        go_wp2_with fail
        refine (c1.out).mono ?_
        rintro e w1 ⟨rfl, rfl⟩
        go_wp2_with fail
        refine (may_any n _).mono ?_
        rintro e w1 ⟨rfl, rfl⟩
        go_wp2_with fail
        go_ret
        exact ⟨rfl, HL.out, hg⟩
      · rw [show addE F a s n = 0 by unfold addE; rw [if_pos hD, if_neg hl], show addN F a s n = upd (upd F (ix a s) (F (ix a s) + n)) (tx s) (F (tx s) + n) by unfold addN; rw [if_pos ⟨hD, hl⟩]]
        rw [ht]
        rw [ht] at hl
        generalize ix (a : Int) (s : Int) = i at *
        have hc := h.cell i (by omega)
        have hc' := h.cell (260 + s) (by omega)
        have hf := h.free i
        have hf' := h.free (260 + s)
        have b1 := hF i (by omega)
        have b2 := hF (260 + s) (by omega)
        have k1 : i < 262 := by omega
        have k2 : 260 + s < 262 := by omega
        have w1 : IntKind.i64.wrap (F i + n) = F i + n := IntWalk.i64_in _ (by omega)
        have w2 : IntKind.i64.wrap (F (260 + s) + n) = F (260 + s) + n := IntWalk.i64_in _ (by omega)
        have w3 : IntKind.i64.wrap (1152921504606846976 - F (260 + s)) = 1152921504606846976 - F (260 + s) := IntWalk.i64_in _ (by omega)
        have e0 : decide (1152921504606846976 - F (260 + s) < n) = false := decide_eq_false hl
        have L1 := h.set i k1 (F i + n)
        have L2 : upd F i (F i + n) (260 + s) = F (260 + s) := upd_ne _ _ _ _ (by omega)
        have d1 := L1.cell (260 + s) k2
        rw [L2] at d1
        have d2 := L1.free (260 + s)
        have HM := Lib.hid L1
        have HD := Lib.hid (And.intro d1 d2)
        clear hl hD hN hA b1 b2 h hi ht L1 L2 d1 d2
        go_enter Try.func11, Try.ntmps11
        go_wp2_with fail
        refine (c1.out).mono ?_
        rintro e w1 ⟨rfl, rfl⟩
        go_wp2_with fail
        refine (may_any n _).mono ?_
        rintro e w1 ⟨rfl, rfl⟩
        go_wp2_with fail
        have d1 := HD.out.1
        have d2 := HD.out.2
        refine wp_region_plan [(0, true), (1, true), (2, true), (3, true), (4, true), (5, true), (6, true), (7, true), (8, true), (9, true), (10, true), (11, false)] (fun w' => w'.cell? ⟨b, 260 + s, none⟩ = some (.int .i64 (F (260 + s))) ∧ w'.frozen? ⟨b, 260 + s, none⟩ = false) (by kernel_rfl) (by kernel_rfl) (fun _ _ _ _ h => h) ?_ (fun hS => ?_)
        · go_simp
        iterate 11
          refine plan_light (o := ?_) (v := ?_) ?_ ?_ ?_ ?_
          rotate_left 2
          · simp only [List.getElem?_toArray, List.getElem?_cons_zero, List.getElem?_cons_succ]
            rfl
          · go_simp
          · intro w' hS
            go_simp
            try rfl
          simp only [Act.put, List.setIfInBounds_toArray, List.set_cons_zero, List.set_cons_succ]
        refine plan_sink (o := ?_) ?_ (by kernel_rfl) (fun K' hK => ?_)
        rotate_left
        · simp only [List.getElem?_toArray, List.getElem?_cons_zero, List.getElem?_cons_succ]
          rfl
        go_simp
        refine hK.out _ _ ?_
        clear hK K'
        refine plan_nil ?_
        go_wp2
        go_ret
        exact ⟨rfl, HM.out.drew.set (260 + s) k2 _, gr_set (gr_drew (gr_set hg _ _ (.inl rfl))) _ _ (.inl rfl)⟩
    · have hD : ¬ okD a s n := fun hh => hN hh.2
      have hn := okN_no hN
      rw [show addE F a s n = 1 by unfold addE; rw [if_neg hD], show addN F a s n = F by unfold addN; rw [if_neg (fun hh => hD hh.1)]]
      clear hi
      generalize ix (a : Int) (s : Int) = i at *
      have HL := Lib.hid h
      clear h hD hN hA
      go_enter Try.func11, Try.ntmps11
      go_wp2_with fail
      refine (c1.out).mono ?_
      rintro e w1 ⟨rfl, rfl⟩
      go_wp2_with fail
      refine (may_any n _).mono ?_
      rintro e w1 ⟨rfl, rfl⟩
      go_wp2_with fail
      go_ret
      exact ⟨rfl, HL.out, hg⟩
  · have hD : ¬ okD acc asset n := fun hh => hA hh.1
    rw [show addE F acc asset n = 1 by unfold addE; rw [if_neg hD], show addN F acc asset n = F by unfold addN; rw [if_neg (fun hh => hD hh.1)]]
    have c1 := Lib.hid (at_out w b acc asset hA)
    have HL := Lib.hid h
    clear h hD hA
    go_enter Try.func11, Try.ntmps11
    go_wp2_with fail
    refine (c1.out).mono ?_
    rintro e w1 ⟨rfl, rfl⟩
    go_wp2_with fail
    go_ret
    exact ⟨rfl, HL.out, hg⟩
end Go.Proofs.Ythkmjfgffofaoaa
