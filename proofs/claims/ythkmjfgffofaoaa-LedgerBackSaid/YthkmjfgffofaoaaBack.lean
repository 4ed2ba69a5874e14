/-
  The walk of LedgerBack.
-/
import Derived.Test.YthkmjfgffofaoaaMost
namespace Go.Proofs.Ythkmjfgffofaoaa
open Go.RowKit
set_option linter.unusedSimpArgs false
set_option linter.unusedVariables false
/-- a ledger in which one account has so much. -/
def one (i t : Nat) (own : Int) : Nat → Int := upd (upd (fun _ => 0) i own) t own
theorem one_bd (i t : Nat) (own : Int) (h : 0 ≤ own ∧ own ≤ 1152921504606846976) : Bd (one i t own) := (Bd.zero.upd _ _ h).upd _ _ h
theorem one_i {i t : Nat} (h : i < t) (own : Int) : one i t own i = own := by unfold one; rw [upd_ne _ _ _ _ (by omega), upd_at]
theorem one_else {i t : Nat} (own : Int) (k : Nat) (h1 : k ≠ i) (h2 : k ≠ t) : one i t own k = 0 := by unfold one; rw [upd_ne _ _ _ _ h2, upd_ne _ _ _ _ h1]
theorem okT_n (a b s : Nat) (n : Int) (ha : a ≤ 64) (hb : b ≤ 64) (hs : s < 2) (hn : 0 ≤ n ∧ n ≤ 1152921504606846976) : okT a b s n := ⟨⟨by omega, by omega, by omega, by omega⟩, ⟨by omega, by omega, by omega, by omega⟩, hn⟩
theorem low {F : Nat → Int} {ok : Prop} [Decidable ok] {x : Nat} {n : Int} (y : Nat) (h : ok) (hl : F x < n) : moveE F ok x n = 9 ∧ moveN F ok x y n = F := by
  unfold moveE moveN
  exact ⟨by rw [if_pos h, if_pos hl], if_neg (fun hh => hh.2 hl)⟩
/-- there and back again. -/
theorem there (F : Nat → Int) (x y : Nat) (n : Int) (h : ¬ x = y) : upd (upd (upd (upd F x (F x - n)) y (upd F x (F x - n) y + n)) y (upd (upd F x (F x - n)) y (upd F x (F x - n) y + n) y - n)) x
    (upd (upd (upd F x (F x - n)) y (upd F x (F x - n) y + n)) y (upd (upd F x (F x - n)) y (upd F x (F x - n) y + n) y - n) x + n) = F := by
  funext k
  simp only [upd]
  split <;> split <;> simp_all <;> (repeat' split) <;> simp_all <;> omega
theorem self (F : Nat → Int) (x : Nat) (n : Int) : upd (upd F x (F x - n)) x (upd F x (F x - n) x + n) = F := by
  funext k
  simp only [upd]
  split <;> simp_all
set_option maxRecDepth 100000 in
set_option maxHeartbeats 8000000 in
theorem back_walk (acc dst asset have_ k : Int) (w : World) (g0 : (Lit.int .u8 acc).wf = true) (g1 : (Lit.int .u8 dst).wf = true) (g2 : (Lit.int .u8 asset).wf = true) (g3 : (Lit.int .u32 have_).wf = true) (g4 : (Lit.int .u32 k).wf = true) :
    Calls Try.prog 7 #[.int .u8 acc, .int .u8 dst, .int .u8 asset, .int .u32 have_, .int .u32 k] w fun e w' => e = .returned (.bool true) ∧ Below w.heap.size w w' := by
  have hB := bel_refl w
  have b0 := bounds_u8 g0; have b1 := bounds_u8 g1; have b2 := bounds_u8 g2; have b3 := bounds_u32 g3; have b4 := bounds_u32 g4
  clear g0 g1 g2 g3 g4
  obtain ⟨a, ha⟩ : ∃ a : Nat, acc % 65 = a := ⟨(acc % 65).toNat, by omega⟩
  obtain ⟨b, hb⟩ : ∃ b : Nat, dst % 65 = b := ⟨(dst % 65).toNat, by omega⟩
  obtain ⟨s, hs⟩ : ∃ s : Nat, asset % 2 = s := ⟨(asset % 2).toNat, by omega⟩
  have t0 : acc.tmod 65 = (a : Int) := by rw [Int.tmod_eq_emod_of_nonneg b0.1]; exact ha
  have t1 : dst.tmod 65 = (b : Int) := by rw [Int.tmod_eq_emod_of_nonneg b1.1]; exact hb
  have t2 : asset.tmod 2 = (s : Int) := by rw [Int.tmod_eq_emod_of_nonneg b2.1]; exact hs
  have ba : a ≤ 64 := by omega
  have bb : b ≤ 64 := by omega
  have bs : s < 2 := by omega
  have w0 : IntKind.i64.wrap (a : Int) = (a : Int) := IntWalk.i64_in _ (by omega)
  have w1' : IntKind.i64.wrap (b : Int) = (b : Int) := IntWalk.i64_in _ (by omega)
  have w2' : IntKind.i64.wrap (s : Int) = (s : Int) := IntWalk.i64_in _ (by omega)
  have w3' : IntKind.i64.wrap have_ = have_ := IntWalk.i64_in _ (by omega)
  have w4' : IntKind.i64.wrap k = k := IntWalk.i64_in _ (by omega)
  have w5' : IntKind.i64.wrap (1 - (s : Int)) = 1 - (s : Int) := IntWalk.i64_in _ (by omega)
  have kb : 0 ≤ k ∧ k ≤ 1152921504606846976 := by omega
  have hbd : 0 ≤ have_ ∧ have_ ≤ 1152921504606846976 := by omega
  clear ha hb hs
  have hbi := one_bd (a * 4 + s * 2) (260 + s) have_ hbd
  have c0 : Hid (∀ (w : World) (c : Nat), LAt w c (fun _ => 0) → Calls Try.prog 11 #[.pointer (some ⟨c, 0, none⟩), .int .i64 a, .int .i64 s, .int .i64 have_] w fun e w' => e = .returned (.int .i64 0) ∧ LAt w' c (one (a * 4 + s * 2) (260 + s) have_) ∧ w.grownBy w' (some c)) :=
    Lib.hid fun w c hc => by have := add_in w c _ Bd.zero hc a s have_ ba bs hbd (by simp; omega); rw [add_first _ _ _ bs] at this; exact this
  have oD := okD_n a s k ba bs kb
  have oT := okT_n a b s k ba bb bs kb
  have oT' := okT_n b a s k bb ba bs kb
  have oS := okT_n a a s k ba ba bs kb
  have v1 := one_i (i := a * 4 + s * 2) (t := 260 + s) (by omega) have_
  have v2 := one_else (i := a * 4 + s * 2) (t := 260 + s) have_ (a * 4 + s * 2 + 1) (by omega) (by omega)
  have x1 : getF (one (a * 4 + s * 2) (260 + s) have_) a s (ix a s) = have_ := by unfold getF; rw [if_pos oD.1, ixn]; exact v1
  have x2 : getF (one (a * 4 + s * 2) (260 + s) have_) a s (ix a s + 1) = 0 := by unfold getF; rw [if_pos oD.1, ixn]; exact v2
  have x3 : totF (one (a * 4 + s * 2) (260 + s) have_) s = have_ := by unfold totF; rw [if_pos (by omega), txn]; unfold one; rw [upd_at]
  have x4 : totF (one (a * 4 + s * 2) (260 + s) have_) (1 - s) = 0 := by
    unfold totF
    rw [if_pos (by omega)]
    exact one_else _ _ (by unfold tx; omega) (by unfold tx; omega)
  have mono : ∀ {w : World} {E1 E2 : Int} {N1 N2 : Nat → Int} {f : Nat} {args : Array Value} {c : Nat}, E1 = E2 → N1 = N2 → (Calls Try.prog f args w fun e w' => e = .returned (.int .i64 E1) ∧ LAt w' c N1 ∧ w.grownBy w' (some c)) → Calls Try.prog f args w fun e w' => e = .returned (.int .i64 E2) ∧ LAt w' c N2 ∧ w.grownBy w' (some c) := fun h1 h2 h => by subst h1; subst h2; exact h
  generalize hA0 : one (a * 4 + s * 2) (260 + s) have_ = A at *
  have g1 := Lib.hid (fun (w : World) (c : Nat) (h : LAt w c A) => free_any w c A h a s)
  rw [x1] at g1
  have g2 := Lib.hid (fun (w : World) (c : Nat) (h : LAt w c A) => held_any w c A h a s)
  rw [x2] at g2
  have g3 := Lib.hid (fun (w : World) (c : Nat) (h : LAt w c A) => total_any w c A h s)
  rw [x3] at g3
  have g4 := Lib.hid (fun (w : World) (c : Nat) (h : LAt w c A) => total_any w c A h (1 - s))
  rw [x4] at g4
  clear x1 x2 x3 x4
  by_cases hk : have_ < k
  · have e0 : decide (have_ < k) = true := decide_eq_true hk
    have hlow : A (ix a s) < k := by rw [ixn, v1]; exact hk
    have c1 := Lib.hid (fun (w : World) (c : Nat) (h : LAt w c A) => mono (low (ix a s + 1) oD hlow).1 (low (ix a s + 1) oD hlow).2 (hold_any w c A h hbi a s k))
    have c2 := Lib.hid (fun (w : World) (c : Nat) (h : LAt w c A) => mono (low (ix b s) oT hlow).1 (low (ix b s) oT hlow).2 (pay_any w c A h hbi a b s k))
    have c3 := Lib.hid (fun (w : World) (c : Nat) (h : LAt w c A) => mono (low 0 oD hlow).1 (show takeN A a s k = A by unfold takeN; rw [if_neg (fun hh => hh.2 hlow)]) (take_any w c A h hbi a s k))
    clear mono hbi v1 v2 hlow hk kb hbd b0 b1 b2 b3 b4 oD oT oT' oS hA0
    go_enter Try.func7, Try.ntmps7
    go_wp2_with fail
    refine (awake_any _).mono ?_
    rintro e w1 ⟨rfl, hb⟩
    replace hB := bel_call hb (by first | exact hB | exact bel_alloc hB _ | exact bel_alloc (bel_alloc hB _) _ | exact bel_alloc (bel_alloc (bel_alloc hB _) _) _ | exact bel_drew hB | exact bel_drew (bel_alloc hB _) | exact bel_drew (bel_alloc (bel_alloc hB _) _))
    clear hb
    go_wp2_with fail
    have HBB := Lib.hid hB.size
    refine (new_any _).mono ?_
    rintro e w2 ⟨rfl, hw, hb9⟩
    replace hB := bel_call hb9 hB
    have hbb : w.heap.size ≤ w1.heap.size := HBB.out
    clear hb9
    go_wp2_with fail
    refine (c0.out _ _ hw).mono ?_
    rintro e w3 ⟨rfl, hx, hg⟩
    replace hB := bel_grown hg hB (fun j hj => by cases hj; exact hbb)
    clear hg hw
    have hw := hx
    clear hx
    go_wp2_with fail
    refine (c1.out _ _ hw).mono ?_
    rintro e w4 ⟨rfl, hx, hg⟩
    replace hB := bel_grown hg hB (fun j hj => by cases hj; exact hbb)
    clear hg hw
    have hw := hx
    clear hx
    go_wp2_with fail
    refine (c2.out _ _ hw).mono ?_
    rintro e w5 ⟨rfl, hx, hg⟩
    replace hB := bel_grown hg hB (fun j hj => by cases hj; exact hbb)
    clear hg hw
    have hw := hx
    clear hx
    go_wp2_with fail
    refine (c3.out _ _ hw).mono ?_
    rintro e w6 ⟨rfl, hx, hg⟩
    replace hB := bel_grown hg hB (fun j hj => by cases hj; exact hbb)
    clear hg hw
    have hw := hx
    clear hx
    go_wp2_with fail
    refine (g1.out _ _ hw).mono ?_
    rintro e w9 ⟨rfl, rfl⟩
    go_wp2_with fail
    go_ret
    exact ⟨rfl, hB⟩
  · have e0 : decide (have_ < k) = false := decide_eq_false hk
    have hge : ¬ A (ix a s) < k := by rw [ixn, v1]; exact hk
    obtain ⟨C, hC⟩ : ∃ C, upd (upd A (ix a s) (A (ix a s) - k)) (ix a s + 1) (upd A (ix a s) (A (ix a s) - k) (ix a s + 1) + k) = C := ⟨_, rfl⟩
    have C1 : C (ix a s) = have_ - k := by rw [← hC, upd_ne _ _ _ _ (by omega), upd_at, ixn, v1]
    have C2 : C (ix a s + 1) = k := by rw [← hC, upd_at, upd_ne _ _ _ _ (by omega), ixn, v2]; omega
    have CB : Bd C := by
      rw [← hC]
      refine (hbi.upd _ _ ?_).upd _ _ ?_
      · rw [ixn, v1]; omega
      · rw [upd_ne _ _ _ _ (by omega), ixn, v2]; omega
    have C3 : upd (upd C (ix a s + 1) (C (ix a s + 1) - k)) (ix a s) (upd C (ix a s + 1) (C (ix a s + 1) - k) (ix a s) + k) = A := by rw [← hC]; exact there A _ _ k (by omega)
    have hgeC : ¬ C (ix a s + 1) < k := by omega
    have c1 := Lib.hid (fun (w : World) (c : Nat) (h : LAt w c A) => mono (move_ok (y := ix a s + 1) oD hge).1 ((move_ok (y := ix a s + 1) oD hge).2.trans hC) (hold_any w c A h hbi a s k))
    have c2 := Lib.hid (fun (w : World) (c : Nat) (h : LAt w c C) => mono (move_ok (y := ix a s) oD hgeC).1 ((move_ok (y := ix a s) oD hgeC).2.trans C3) (release_any w c C h CB a s k))
    have c3 := Lib.hid (fun (w : World) (c : Nat) (h : LAt w c C) => mono (move_ok (y := ix a s) oS hgeC).1 ((move_ok (y := ix a s) oS hgeC).2.trans C3) (spend_any w c C h CB a a s k))
    have gC : getF C a s (ix a s + 1) = k := by unfold getF; rw [if_pos oD.1]; exact C2
    have g5 := Lib.hid (fun (w : World) (c : Nat) (h : LAt w c C) => held_any w c C h a s)
    rw [gC] at g5
    obtain ⟨D, hD⟩ : ∃ D, upd (upd A (ix a s) (A (ix a s) - k)) (ix b s) (upd A (ix a s) (A (ix a s) - k) (ix b s) + k) = D := ⟨_, rfl⟩
    have hDD : Bd D ∧ ¬ D (ix b s) < k ∧ upd (upd D (ix b s) (D (ix b s) - k)) (ix a s) (upd D (ix b s) (D (ix b s) - k) (ix a s) + k) = A := by
      by_cases hab : a = b
      · subst hab
        rw [self] at hD
        subst hD
        exact ⟨hbi, hge, self A _ k⟩
      · have hne : ¬ ix a s = ix b s := by rw [ixn, ixn]; omega
        have z : A (ix b s) = 0 := by rw [← hA0]; exact one_else _ _ (by rw [ixn]; omega) (by rw [ixn]; omega)
        refine ⟨?_, ?_, ?_⟩
        · rw [← hD]
          refine (hbi.upd _ _ ?_).upd _ _ ?_
          · rw [ixn, v1]; omega
          · rw [upd_ne _ _ _ _ (fun h => hne h.symm), z]; omega
        · rw [← hD, upd_at, upd_ne _ _ _ _ (fun h => hne h.symm), z]; omega
        · rw [← hD]; exact there A _ _ k hne
    obtain ⟨DB, hgeD, D3⟩ := hDD
    have c4 := Lib.hid (fun (w : World) (c : Nat) (h : LAt w c A) => mono (move_ok (y := ix b s) oT hge).1 ((move_ok (y := ix b s) oT hge).2.trans hD) (pay_any w c A h hbi a b s k))
    have c5 := Lib.hid (fun (w : World) (c : Nat) (h : LAt w c D) => mono (move_ok (y := ix a s) oT' hgeD).1 ((move_ok (y := ix a s) oT' hgeD).2.trans D3) (pay_any w c D h DB b a s k))
    clear mono hbi v1 v2 hge hk kb hbd b0 b1 b2 b3 b4 oD oT oT' oS hA0 hC C1 C2 CB C3 hgeC gC hD DB hgeD D3
    go_enter Try.func7, Try.ntmps7
    go_wp2_with fail
    refine (awake_any _).mono ?_
    rintro e w1 ⟨rfl, hb⟩
    replace hB := bel_call hb (by first | exact hB | exact bel_alloc hB _ | exact bel_alloc (bel_alloc hB _) _ | exact bel_alloc (bel_alloc (bel_alloc hB _) _) _ | exact bel_drew hB | exact bel_drew (bel_alloc hB _) | exact bel_drew (bel_alloc (bel_alloc hB _) _))
    clear hb
    go_wp2_with fail
    have HBB := Lib.hid hB.size
    refine (new_any _).mono ?_
    rintro e w2 ⟨rfl, hw, hb9⟩
    replace hB := bel_call hb9 hB
    have hbb : w.heap.size ≤ w1.heap.size := HBB.out
    clear hb9
    go_wp2_with fail
    refine (c0.out _ _ hw).mono ?_
    rintro e w3 ⟨rfl, hx, hg⟩
    replace hB := bel_grown hg hB (fun j hj => by cases hj; exact hbb)
    clear hg hw
    have hw := hx
    clear hx
    go_wp2_with fail
    refine (c1.out _ _ hw).mono ?_
    rintro e w4 ⟨rfl, hx, hg⟩
    replace hB := bel_grown hg hB (fun j hj => by cases hj; exact hbb)
    clear hg hw
    have hw := hx
    clear hx
    go_wp2_with fail
    refine (g5.out _ _ hw).mono ?_
    rintro e w9 ⟨rfl, rfl⟩
    go_wp2_with fail
    refine (c2.out _ _ hw).mono ?_
    rintro e w5 ⟨rfl, hx, hg⟩
    replace hB := bel_grown hg hB (fun j hj => by cases hj; exact hbb)
    clear hg hw
    have hw := hx
    clear hx
    go_wp2_with fail
    refine (c4.out _ _ hw).mono ?_
    rintro e w6 ⟨rfl, hx, hg⟩
    replace hB := bel_grown hg hB (fun j hj => by cases hj; exact hbb)
    clear hg hw
    have hw := hx
    clear hx
    go_wp2_with fail
    refine (c5.out _ _ hw).mono ?_
    rintro e w7 ⟨rfl, hx, hg⟩
    replace hB := bel_grown hg hB (fun j hj => by cases hj; exact hbb)
    clear hg hw
    have hw := hx
    clear hx
    go_wp2_with fail
    refine (c1.out _ _ hw).mono ?_
    rintro e w8 ⟨rfl, hx, hg⟩
    replace hB := bel_grown hg hB (fun j hj => by cases hj; exact hbb)
    clear hg hw
    have hw := hx
    clear hx
    go_wp2_with fail
    refine (c3.out _ _ hw).mono ?_
    rintro e w9 ⟨rfl, hx, hg⟩
    replace hB := bel_grown hg hB (fun j hj => by cases hj; exact hbb)
    clear hg hw
    have hw := hx
    clear hx
    go_wp2_with fail
    refine (g1.out _ _ hw).mono ?_
    rintro e w9 ⟨rfl, rfl⟩
    go_wp2_with fail
    refine (g2.out _ _ hw).mono ?_
    rintro e w9 ⟨rfl, rfl⟩
    go_wp2_with fail
    refine (g3.out _ _ hw).mono ?_
    rintro e w9 ⟨rfl, rfl⟩
    go_wp2_with fail
    refine (g4.out _ _ hw).mono ?_
    rintro e w9 ⟨rfl, rfl⟩
    go_wp2_with fail
    go_ret
    exact ⟨rfl, hB⟩
end Go.Proofs.Ythkmjfgffofaoaa
