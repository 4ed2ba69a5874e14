/-
  Contracts of the ledger's methods: Pay, Spend, what each has, and a ledger that is nil.
-/
import Derived.Test.YthkmjfgffofaoaaMeth
namespace Go.Proofs.Ythkmjfgffofaoaa
open Go.RowKit
set_option linter.unusedSimpArgs false
set_option linter.unusedVariables false
set_option maxHeartbeats 4000000 in
theorem pay_any (w : World) (b : Nat) (F : Nat → Int) (h : LAt w b F) (hF : Bd F) (acc dst asset n : Int) :
    Calls Try.prog 22 #[.pointer (some ⟨b, 0, none⟩), .int .i64 acc, .int .i64 dst, .int .i64 asset, .int .i64 n] w fun e w' => e = .returned (.int .i64 (moveE F (okT acc dst asset n) (ix acc asset) n)) ∧ LAt w' b (moveN F (okT acc dst asset n) (ix acc asset) (ix dst asset) n) ∧ w.grownBy w' (some b) := by
  have hg := gr_refl w (some b)
  have HL := Lib.hid h
  by_cases hA : okA acc asset
  · obtain ⟨a, s, rfl, rfl, ha, hs, hi, ht⟩ := okA_nat hA
    have c1 := Lib.hid (at_in w b F h a s ha hs)
    rw [← hi] at c1
    by_cases hB : okA dst s
    · obtain ⟨a', s', rfl, hs', ha', hs2, hi', ht'⟩ := okA_nat hB
      obtain rfl : s = s' := by omega
      have c2 := Lib.hid (at_in w b F h a' s ha' hs)
      rw [← hi'] at c2
      have hpar : ix a s + 1 ≠ ix a' s := by omega
      have b0 : ix a s + 1 < 262 := by omega
      have b0' : ix a' s + 1 < 262 := by omega
      generalize ix (a : Int) (s : Int) = i at *
      generalize ix (a' : Int) (s : Int) = j at *
      clear hi hi' ht ht' hs'
      by_cases hN : 0 ≤ n ∧ n ≤ 1152921504606846976
      · have hD : okT a a' s n := ⟨hA, hB, hN⟩
        have hn := okN_yes hN
        have hc := h.cell (i) (by omega)
        have hc' := h.cell j (by omega)
        have hf := h.free (i)
        have hf' := h.free j
        have b1 := hF (i) (by omega)
        have b2 := hF j (by omega)
        have k1 : i < 262 := by omega
        have k2 : j < 262 := by omega
        by_cases hl : F (i) < n
        · have e0 : decide (F (i) < n) = true := decide_eq_true hl
          rw [show moveE F (okT a a' s n) (i) n = 9 by unfold moveE; rw [if_pos hD, if_pos hl], show moveN F (okT a a' s n) (i) (j) n = F by unfold moveN; rw [if_neg (fun hh => hh.2 hl)]]
          clear hl hD hN hA hB b1 b2 h hpar b0 b0'
          go_enter Try.func22, Try.ntmps22
          go_wp2_with fail
          refine (c1.out).mono ?_
          rintro e w1 ⟨rfl, rfl⟩
          go_wp2_with fail
          refine (c2.out).mono ?_
          rintro e w1 ⟨rfl, rfl⟩
          go_wp2_with fail
          refine (may_any n _).mono ?_
          rintro e w1 ⟨rfl, rfl⟩
          go_wp2_with fail
          go_ret
          exact ⟨rfl, HL.out, hg⟩
        · have e0 : decide (F (i) < n) = false := decide_eq_false hl
          rw [show moveE F (okT a a' s n) (i) n = 0 by unfold moveE; rw [if_pos hD, if_neg hl], show moveN F (okT a a' s n) (i) (j) n = upd (upd F (i) (F (i) - n)) j (upd F (i) (F (i) - n) j + n) by unfold moveN; rw [if_pos ⟨hD, hl⟩]]
          have w1 : IntKind.i64.wrap (F (i) - n) = F (i) - n := IntWalk.i64_in _ (by omega)
          have w2 : IntKind.i64.wrap (F j + n) = F j + n := IntWalk.i64_in _ (by omega)
          have w3 : IntKind.i64.wrap (F (i) - n + n) = F (i) - n + n := IntWalk.i64_in _ (by omega)
          by_cases hij : i = j
          · subst hij
            rw [upd_at, Int.sub_add_cancel]
            have w4 : IntKind.i64.wrap (F i) = F i := IntWalk.i64_in _ (by omega)
            have w5 : wrap64 (F i) = F i := by unfold wrap64; omega
            clear hl hD hN hA hB b1 b2 h hpar b0 b0'
            go_enter Try.func22, Try.ntmps22
            go_wp2_with fail
            refine (c1.out).mono ?_
            rintro e w1 ⟨rfl, rfl⟩
            go_wp2_with fail
            refine (c2.out).mono ?_
            rintro e w1 ⟨rfl, rfl⟩
            go_wp2_with fail
            refine (may_any n _).mono ?_
            rintro e w1 ⟨rfl, rfl⟩
            go_wp2_with fail
            go_ret
            exact ⟨rfl, (HL.out.set i k1 _).set i k2 _, gr_set (gr_set hg _ _ (.inl rfl)) _ _ (.inl rfl)⟩
          · rw [upd_ne _ _ _ _ (fun hh => hij hh.symm)]
            have hji : ¬ (j = i) := fun hh => hij hh.symm
            clear hl hD hN hA hB b1 b2 h hpar b0 b0'
            go_enter Try.func22, Try.ntmps22
            go_wp2_with fail
            refine (c1.out).mono ?_
            rintro e w1 ⟨rfl, rfl⟩
            go_wp2_with fail
            refine (c2.out).mono ?_
            rintro e w1 ⟨rfl, rfl⟩
            go_wp2_with fail
            refine (may_any n _).mono ?_
            rintro e w1 ⟨rfl, rfl⟩
            go_wp2_with fail
            go_ret
            exact ⟨rfl, (HL.out.set i k1 _).set j k2 _, gr_set (gr_set hg _ _ (.inl rfl)) _ _ (.inl rfl)⟩
      · have hD : ¬ okT a a' s n := fun hh => hN hh.2.2
        have hn := okN_no hN
        rw [show moveE F (okT a a' s n) (i) n = 1 by unfold moveE; rw [if_neg hD], show moveN F (okT a a' s n) (i) (j) n = F by unfold moveN; rw [if_neg (fun hh => hD hh.1)]]
        clear h hD hN hA hB hpar b0 b0'
        go_enter Try.func22, Try.ntmps22
        go_wp2_with fail
        refine (c1.out).mono ?_
        rintro e w1 ⟨rfl, rfl⟩
        go_wp2_with fail
        refine (c2.out).mono ?_
        rintro e w1 ⟨rfl, rfl⟩
        go_wp2_with fail
        refine (may_any n _).mono ?_
        rintro e w1 ⟨rfl, rfl⟩
        go_wp2_with fail
        go_ret
        exact ⟨rfl, HL.out, hg⟩
    · have hD : ¬ okT a dst s n := fun hh => hB hh.2.1
      rw [show moveE F (okT a dst s n) (ix a s) n = 1 by unfold moveE; rw [if_neg hD], show moveN F (okT a dst s n) (ix a s) (ix dst s) n = F by unfold moveN; rw [if_neg (fun hh => hD hh.1)]]
      have c2 := Lib.hid (at_out w b dst s hB)
      clear hi
      generalize ix (a : Int) (s : Int) = i at *
      clear h hD hA hB
      go_enter Try.func22, Try.ntmps22
      go_wp2_with fail
      refine (c1.out).mono ?_
      rintro e w1 ⟨rfl, rfl⟩
      go_wp2_with fail
      refine (c2.out).mono ?_
      rintro e w1 ⟨rfl, rfl⟩
      go_wp2_with fail
      go_ret
      exact ⟨rfl, HL.out, hg⟩
  · have hD : ¬ okT acc dst asset n := fun hh => hA hh.1
    rw [show moveE F (okT acc dst asset n) (ix acc asset) n = 1 by unfold moveE; rw [if_neg hD], show moveN F (okT acc dst asset n) (ix acc asset) (ix dst asset) n = F by unfold moveN; rw [if_neg (fun hh => hD hh.1)]]
    have c1 := Lib.hid (at_out w b acc asset hA)
    have c2 : Hid (∃ v : Option Addr, Calls Try.prog 26 #[.pointer (some ⟨b, 0, none⟩), .int .i64 dst, .int .i64 asset] w fun e w' => e = .returned (.pointer v) ∧ w = w') := by
      by_cases hB : okA dst asset
      · obtain ⟨a, s, rfl, rfl, ha, hs, hi, ht⟩ := okA_nat hB
        exact Lib.hid ⟨_, at_in w b F h a s ha hs⟩
      · exact Lib.hid ⟨_, at_out w b dst asset hB⟩
    obtain ⟨v, c3⟩ := c2.out
    replace c3 := Lib.hid c3
    clear h hD hA c2
    go_enter Try.func22, Try.ntmps22
    go_wp2_with fail
    refine (c1.out).mono ?_
    rintro e w1 ⟨rfl, rfl⟩
    go_wp2_with fail
    refine (c3.out).mono ?_
    rintro e w1 ⟨rfl, rfl⟩
    go_wp2_with fail
    go_ret
    exact ⟨rfl, HL.out, hg⟩
set_option maxHeartbeats 4000000 in
theorem spend_any (w : World) (b : Nat) (F : Nat → Int) (h : LAt w b F) (hF : Bd F) (acc dst asset n : Int) :
    Calls Try.prog 25 #[.pointer (some ⟨b, 0, none⟩), .int .i64 acc, .int .i64 dst, .int .i64 asset, .int .i64 n] w fun e w' => e = .returned (.int .i64 (moveE F (okT acc dst asset n) (ix acc asset + 1) n)) ∧ LAt w' b (moveN F (okT acc dst asset n) (ix acc asset + 1) (ix dst asset) n) ∧ w.grownBy w' (some b) := by
  have hg := gr_refl w (some b)
  have HL := Lib.hid h
  by_cases hA : okA acc asset
  · obtain ⟨a, s, rfl, rfl, ha, hs, hi, ht⟩ := okA_nat hA
    have c1 := Lib.hid (at_in w b F h a s ha hs)
    rw [← hi] at c1
    by_cases hB : okA dst s
    · obtain ⟨a', s', rfl, hs', ha', hs2, hi', ht'⟩ := okA_nat hB
      obtain rfl : s = s' := by omega
      have c2 := Lib.hid (at_in w b F h a' s ha' hs)
      rw [← hi'] at c2
      have hpar : ix a s + 1 ≠ ix a' s := by omega
      have b0 : ix a s + 1 < 262 := by omega
      have b0' : ix a' s + 1 < 262 := by omega
      generalize ix (a : Int) (s : Int) = i at *
      generalize ix (a' : Int) (s : Int) = j at *
      clear hi hi' ht ht' hs'
      by_cases hN : 0 ≤ n ∧ n ≤ 1152921504606846976
      · have hD : okT a a' s n := ⟨hA, hB, hN⟩
        have hn := okN_yes hN
        have hc := h.cell (i + 1) (by omega)
        have hc' := h.cell j (by omega)
        have hf := h.free (i + 1)
        have hf' := h.free j
        have b1 := hF (i + 1) (by omega)
        have b2 := hF j (by omega)
        have k1 : i + 1 < 262 := by omega
        have k2 : j < 262 := by omega
        by_cases hl : F (i + 1) < n
        · have e0 : decide (F (i + 1) < n) = true := decide_eq_true hl
          rw [show moveE F (okT a a' s n) (i + 1) n = 9 by unfold moveE; rw [if_pos hD, if_pos hl], show moveN F (okT a a' s n) (i + 1) (j) n = F by unfold moveN; rw [if_neg (fun hh => hh.2 hl)]]
          clear hl hD hN hA hB b1 b2 h hpar b0 b0'
          go_enter Try.func25, Try.ntmps25
          go_wp2_with fail
          refine (c1.out).mono ?_
          rintro e w1 ⟨rfl, rfl⟩
          go_wp2_with fail
          refine (c2.out).mono ?_
          rintro e w1 ⟨rfl, rfl⟩
          go_wp2_with fail
          refine (may_any n _).mono ?_
          rintro e w1 ⟨rfl, rfl⟩
          go_wp2_with fail
          go_ret
          exact ⟨rfl, HL.out, hg⟩
        · have e0 : decide (F (i + 1) < n) = false := decide_eq_false hl
          rw [show moveE F (okT a a' s n) (i + 1) n = 0 by unfold moveE; rw [if_pos hD, if_neg hl], show moveN F (okT a a' s n) (i + 1) (j) n = upd (upd F (i + 1) (F (i + 1) - n)) j (upd F (i + 1) (F (i + 1) - n) j + n) by unfold moveN; rw [if_pos ⟨hD, hl⟩]]
          have w1 : IntKind.i64.wrap (F (i + 1) - n) = F (i + 1) - n := IntWalk.i64_in _ (by omega)
          have w2 : IntKind.i64.wrap (F j + n) = F j + n := IntWalk.i64_in _ (by omega)
          have w3 : IntKind.i64.wrap (F (i + 1) - n + n) = F (i + 1) - n + n := IntWalk.i64_in _ (by omega)
          rw [upd_ne _ _ _ _ (fun hh => hpar hh.symm)]
          have hij : ¬ (i + 1 = j) := hpar
          have hji : ¬ (j = i + 1) := fun hh => hij hh.symm
          clear hl hD hN hA hB b1 b2 h hpar b0 b0'
          go_enter Try.func25, Try.ntmps25
          go_wp2_with fail
          refine (c1.out).mono ?_
          rintro e w1 ⟨rfl, rfl⟩
          go_wp2_with fail
          refine (c2.out).mono ?_
          rintro e w1 ⟨rfl, rfl⟩
          go_wp2_with fail
          refine (may_any n _).mono ?_
          rintro e w1 ⟨rfl, rfl⟩
          go_wp2_with fail
          go_ret
          exact ⟨rfl, (HL.out.set (i + 1) k1 _).set j k2 _, gr_set (gr_set hg _ _ (.inl rfl)) _ _ (.inl rfl)⟩
      · have hD : ¬ okT a a' s n := fun hh => hN hh.2.2
        have hn := okN_no hN
        rw [show moveE F (okT a a' s n) (i + 1) n = 1 by unfold moveE; rw [if_neg hD], show moveN F (okT a a' s n) (i + 1) (j) n = F by unfold moveN; rw [if_neg (fun hh => hD hh.1)]]
        clear h hD hN hA hB hpar b0 b0'
        go_enter Try.func25, Try.ntmps25
        go_wp2_with fail
        refine (c1.out).mono ?_
        rintro e w1 ⟨rfl, rfl⟩
        go_wp2_with fail
        refine (c2.out).mono ?_
        rintro e w1 ⟨rfl, rfl⟩
        go_wp2_with fail
        refine (may_any n _).mono ?_
        rintro e w1 ⟨rfl, rfl⟩
        go_wp2_with fail
        go_ret
        exact ⟨rfl, HL.out, hg⟩
    · have hD : ¬ okT a dst s n := fun hh => hB hh.2.1
      rw [show moveE F (okT a dst s n) (ix a s + 1) n = 1 by unfold moveE; rw [if_neg hD], show moveN F (okT a dst s n) (ix a s + 1) (ix dst s) n = F by unfold moveN; rw [if_neg (fun hh => hD hh.1)]]
      have c2 := Lib.hid (at_out w b dst s hB)
      clear hi
      generalize ix (a : Int) (s : Int) = i at *
      clear h hD hA hB
      go_enter Try.func25, Try.ntmps25
      go_wp2_with fail
      refine (c1.out).mono ?_
      rintro e w1 ⟨rfl, rfl⟩
      go_wp2_with fail
      refine (c2.out).mono ?_
      rintro e w1 ⟨rfl, rfl⟩
      go_wp2_with fail
      go_ret
      exact ⟨rfl, HL.out, hg⟩
  · have hD : ¬ okT acc dst asset n := fun hh => hA hh.1
    rw [show moveE F (okT acc dst asset n) (ix acc asset + 1) n = 1 by unfold moveE; rw [if_neg hD], show moveN F (okT acc dst asset n) (ix acc asset + 1) (ix dst asset) n = F by unfold moveN; rw [if_neg (fun hh => hD hh.1)]]
    have c1 := Lib.hid (at_out w b acc asset hA)
    have c2 : Hid (∃ v : Option Addr, Calls Try.prog 26 #[.pointer (some ⟨b, 0, none⟩), .int .i64 dst, .int .i64 asset] w fun e w' => e = .returned (.pointer v) ∧ w = w') := by
      by_cases hB : okA dst asset
      · obtain ⟨a, s, rfl, rfl, ha, hs, hi, ht⟩ := okA_nat hB
        exact Lib.hid ⟨_, at_in w b F h a s ha hs⟩
      · exact Lib.hid ⟨_, at_out w b dst asset hB⟩
    obtain ⟨v, c3⟩ := c2.out
    replace c3 := Lib.hid c3
    clear h hD hA c2
    go_enter Try.func25, Try.ntmps25
    go_wp2_with fail
    refine (c1.out).mono ?_
    rintro e w1 ⟨rfl, rfl⟩
    go_wp2_with fail
    refine (c3.out).mono ?_
    rintro e w1 ⟨rfl, rfl⟩
    go_wp2_with fail
    go_ret
    exact ⟨rfl, HL.out, hg⟩
instance (acc asset : Int) : Decidable (okA acc asset) := by unfold okA; exact inferInstance
def getF (F : Nat → Int) (acc asset : Int) (i : Nat) : Int := if okA acc asset then F i else 0
def totF (F : Nat → Int) (asset : Int) : Int := if 0 ≤ asset ∧ asset < 2 then F (tx asset) else 0
theorem free_any (w : World) (b : Nat) (F : Nat → Int) (h : LAt w b F) (acc asset : Int) :
    Calls Try.prog 16 #[.pointer (some ⟨b, 0, none⟩), .int .i64 acc, .int .i64 asset] w fun e w' => e = .returned (.int .i64 (getF F acc asset (ix acc asset))) ∧ w = w' := by
  by_cases hA : okA acc asset
  · obtain ⟨a, s, rfl, rfl, ha, hs, hi, ht⟩ := okA_nat hA
    have c1 := Lib.hid (at_in w b F h a s ha hs)
    rw [← hi] at c1
    rw [show getF F a s (ix a s) = F (ix a s) by unfold getF; rw [if_pos hA]]
    have hc := h.cell (ix a s) (by omega)
    generalize ix (a : Int) (s : Int) = i at *
    clear hi ht hA h
    go_enter Try.func16, Try.ntmps16
    go_wp2_with fail
    refine (c1.out).mono ?_
    rintro e w1 ⟨rfl, rfl⟩
    go_wp2_with fail
    go_ret
    exact ⟨rfl, rfl⟩
  · rw [show getF F acc asset (ix acc asset) = 0 by unfold getF; rw [if_neg hA]]
    have c1 := Lib.hid (at_out w b acc asset hA)
    clear h hA
    go_enter Try.func16, Try.ntmps16
    go_wp2_with fail
    refine (c1.out).mono ?_
    rintro e w1 ⟨rfl, rfl⟩
    go_wp2_with fail
    go_ret
    exact ⟨rfl, rfl⟩
theorem held_any (w : World) (b : Nat) (F : Nat → Int) (h : LAt w b F) (acc asset : Int) :
    Calls Try.prog 18 #[.pointer (some ⟨b, 0, none⟩), .int .i64 acc, .int .i64 asset] w fun e w' => e = .returned (.int .i64 (getF F acc asset (ix acc asset + 1))) ∧ w = w' := by
  by_cases hA : okA acc asset
  · obtain ⟨a, s, rfl, rfl, ha, hs, hi, ht⟩ := okA_nat hA
    have c1 := Lib.hid (at_in w b F h a s ha hs)
    rw [← hi] at c1
    rw [show getF F a s (ix a s + 1) = F (ix a s + 1) by unfold getF; rw [if_pos hA]]
    have hc := h.cell (ix a s + 1) (by omega)
    generalize ix (a : Int) (s : Int) = i at *
    clear hi ht hA h
    go_enter Try.func18, Try.ntmps18
    go_wp2_with fail
    refine (c1.out).mono ?_
    rintro e w1 ⟨rfl, rfl⟩
    go_wp2_with fail
    go_ret
    exact ⟨rfl, rfl⟩
  · rw [show getF F acc asset (ix acc asset + 1) = 0 by unfold getF; rw [if_neg hA]]
    have c1 := Lib.hid (at_out w b acc asset hA)
    clear h hA
    go_enter Try.func18, Try.ntmps18
    go_wp2_with fail
    refine (c1.out).mono ?_
    rintro e w1 ⟨rfl, rfl⟩
    go_wp2_with fail
    go_ret
    exact ⟨rfl, rfl⟩
theorem total_any (w : World) (b : Nat) (F : Nat → Int) (h : LAt w b F) (asset : Int) :
    Calls Try.prog 14 #[.pointer (some ⟨b, 0, none⟩), .int .i64 asset] w fun e w' => e = .returned (.int .i64 (totF F asset)) ∧ w = w' := by
  by_cases h0 : 0 ≤ asset
  · obtain ⟨s, rfl⟩ := Int.eq_ofNat_of_zero_le h0
    have d1 : decide ((s : Int) < 0) = false := by simp
    by_cases h2 : (s : Int) < 2
    · rw [show totF F s = F (260 + s) by unfold totF tx; rw [if_pos ⟨h0, h2⟩]; rfl]
      have d2 : decide (2 ≤ (s : Int)) = false := by simp; omega
      have hc := h.cell (260 + s) (by omega)
      clear h
      go_enter Try.func14, Try.ntmps14
      go_wp2
      go_ret
      exact ⟨rfl, rfl⟩
    · rw [show totF F s = 0 by unfold totF; rw [if_neg (fun hh => h2 hh.2)]]
      have d2 : decide (2 ≤ (s : Int)) = true := by simp; omega
      clear h h2
      go_enter Try.func14, Try.ntmps14
      go_wp2
      go_ret
      exact ⟨rfl, rfl⟩
  · rw [show totF F asset = 0 by unfold totF; rw [if_neg (fun hh => h0 hh.1)]]
    have d1 : decide (asset < 0) = true := by simp; omega
    clear h h0
    go_enter Try.func14, Try.ntmps14
    go_wp2
    go_ret
    exact ⟨rfl, rfl⟩
/-! a ledger that is nil -/
theorem hold_nil (w : World) (acc asset n : Int) : Calls Try.prog 21 #[.pointer none, .int .i64 acc, .int .i64 asset, .int .i64 n] w fun e w' => e = .returned (.int .i64 1) ∧ w = w' := by
  go_enter Try.func21, Try.ntmps21
  go_wp2_with fail
  refine (at_nil _ _ _).mono ?_
  rintro e w1 ⟨rfl, rfl⟩
  go_wp2_with fail
  go_ret
  exact ⟨rfl, rfl⟩
theorem release_nil (w : World) (acc asset n : Int) : Calls Try.prog 24 #[.pointer none, .int .i64 acc, .int .i64 asset, .int .i64 n] w fun e w' => e = .returned (.int .i64 1) ∧ w = w' := by
  go_enter Try.func24, Try.ntmps24
  go_wp2_with fail
  refine (at_nil _ _ _).mono ?_
  rintro e w1 ⟨rfl, rfl⟩
  go_wp2_with fail
  go_ret
  exact ⟨rfl, rfl⟩
theorem take_nil (w : World) (acc asset n : Int) : Calls Try.prog 23 #[.pointer none, .int .i64 acc, .int .i64 asset, .int .i64 n] w fun e w' => e = .returned (.int .i64 1) ∧ w = w' := by
  go_enter Try.func23, Try.ntmps23
  go_wp2_with fail
  refine (at_nil _ _ _).mono ?_
  rintro e w1 ⟨rfl, rfl⟩
  go_wp2_with fail
  go_ret
  exact ⟨rfl, rfl⟩
theorem add_nil (w : World) (acc asset n : Int) : Calls Try.prog 11 #[.pointer none, .int .i64 acc, .int .i64 asset, .int .i64 n] w fun e w' => e = .returned (.int .i64 1) ∧ w = w' := by
  go_enter Try.func11, Try.ntmps11
  go_wp2_with fail
  refine (at_nil _ _ _).mono ?_
  rintro e w1 ⟨rfl, rfl⟩
  go_wp2_with fail
  go_ret
  exact ⟨rfl, rfl⟩
theorem pay_nil (w : World) (acc dst asset n : Int) : Calls Try.prog 22 #[.pointer none, .int .i64 acc, .int .i64 dst, .int .i64 asset, .int .i64 n] w fun e w' => e = .returned (.int .i64 1) ∧ w = w' := by
  go_enter Try.func22, Try.ntmps22
  go_wp2_with fail
  refine (at_nil _ _ _).mono ?_
  rintro e w1 ⟨rfl, rfl⟩
  go_wp2_with fail
  refine (at_nil _ _ _).mono ?_
  rintro e w1 ⟨rfl, rfl⟩
  go_wp2_with fail
  go_ret
  exact ⟨rfl, rfl⟩
theorem spend_nil (w : World) (acc dst asset n : Int) : Calls Try.prog 25 #[.pointer none, .int .i64 acc, .int .i64 dst, .int .i64 asset, .int .i64 n] w fun e w' => e = .returned (.int .i64 1) ∧ w = w' := by
  go_enter Try.func25, Try.ntmps25
  go_wp2_with fail
  refine (at_nil _ _ _).mono ?_
  rintro e w1 ⟨rfl, rfl⟩
  go_wp2_with fail
  refine (at_nil _ _ _).mono ?_
  rintro e w1 ⟨rfl, rfl⟩
  go_wp2_with fail
  go_ret
  exact ⟨rfl, rfl⟩
theorem free_nil (w : World) (acc asset : Int) : Calls Try.prog 16 #[.pointer none, .int .i64 acc, .int .i64 asset] w fun e w' => e = .returned (.int .i64 0) ∧ w = w' := by
  go_enter Try.func16, Try.ntmps16
  go_wp2_with fail
  refine (at_nil _ _ _).mono ?_
  rintro e w1 ⟨rfl, rfl⟩
  go_wp2_with fail
  go_ret
  exact ⟨rfl, rfl⟩
theorem held_nil (w : World) (acc asset : Int) : Calls Try.prog 18 #[.pointer none, .int .i64 acc, .int .i64 asset] w fun e w' => e = .returned (.int .i64 0) ∧ w = w' := by
  go_enter Try.func18, Try.ntmps18
  go_wp2_with fail
  refine (at_nil _ _ _).mono ?_
  rintro e w1 ⟨rfl, rfl⟩
  go_wp2_with fail
  go_ret
  exact ⟨rfl, rfl⟩
theorem total_nil (w : World) (asset : Int) : Calls Try.prog 14 #[.pointer none, .int .i64 asset] w fun e w' => e = .returned (.int .i64 0) ∧ w = w' := by
  go_enter Try.func14, Try.ntmps14
  go_wp2_with fail
  go_ret
  exact ⟨rfl, rfl⟩
end Go.Proofs.Ythkmjfgffofaoaa
