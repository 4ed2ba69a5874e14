/-
  The walks of LedgerMost and LedgerBack.
-/
import Derived.Test.YthkmjfgffofaoaaDeed
namespace Go.Proofs.Ythkmjfgffofaoaa
open Go.RowKit
set_option linter.unusedSimpArgs false
set_option linter.unusedVariables false
theorem ixn (a s : Nat) : ix (a : Int) (s : Int) = a * 4 + s * 2 := by unfold ix; simp
theorem txn (s : Nat) : tx (s : Int) = 260 + s := by unfold tx; simp
theorem okD_n (a s : Nat) (n : Int) (ha : a ≤ 64) (hs : s < 2) (hn : 0 ≤ n ∧ n ≤ 1152921504606846976) : okD a s n := ⟨⟨by omega, by omega, by omega, by omega⟩, hn⟩
theorem add_in (w : World) (b : Nat) (F : Nat → Int) (hF : Bd F) (h : LAt w b F) (a s : Nat) (n : Int) (ha : a ≤ 64) (hs : s < 2) (hn : 0 ≤ n ∧ n ≤ 1152921504606846976) (hm : ¬ 1152921504606846976 - F (260 + s) < n) :
    Calls Try.prog 11 #[.pointer (some ⟨b, 0, none⟩), .int .i64 a, .int .i64 s, .int .i64 n] w fun e w' => e = .returned (.int .i64 0) ∧ LAt w' b (upd (upd F (a * 4 + s * 2) (F (a * 4 + s * 2) + n)) (260 + s) (F (260 + s) + n)) ∧ w.grownBy w' (some b) := by
  have h1 := add_any w b F h hF a s n
  have h2 := addN_ok (F := F) (okD_n a s n ha hs hn) (by rw [txn]; exact hm)
  rw [h2.1, h2.2, ixn, txn] at h1
  exact h1
theorem add_over (w : World) (b : Nat) (F : Nat → Int) (hF : Bd F) (h : LAt w b F) (a s : Nat) (n : Int) (ha : a ≤ 64) (hs : s < 2) (hn : 0 ≤ n ∧ n ≤ 1152921504606846976) (hm : 1152921504606846976 - F (260 + s) < n) :
    Calls Try.prog 11 #[.pointer (some ⟨b, 0, none⟩), .int .i64 a, .int .i64 s, .int .i64 n] w fun e w' => e = .returned (.int .i64 8) ∧ LAt w' b F ∧ w.grownBy w' (some b) := by
  have h1 := add_any w b F h hF a s n
  have e1 : addE F a s n = 8 := by unfold addE; rw [if_pos (okD_n a s n ha hs hn), txn, if_pos hm]
  have e2 : addN F a s n = F := by unfold addN; rw [if_neg (fun hh => hh.2 (by rw [txn]; exact hm))]
  rw [e1, e2] at h1
  exact h1
theorem add_bad (w : World) (b : Nat) (F : Nat → Int) (hF : Bd F) (h : LAt w b F) (acc asset n : Int) (hn : ¬ okD acc asset n) :
    Calls Try.prog 11 #[.pointer (some ⟨b, 0, none⟩), .int .i64 acc, .int .i64 asset, .int .i64 n] w fun e w' => e = .returned (.int .i64 1) ∧ LAt w' b F ∧ w.grownBy w' (some b) := by
  have h1 := add_any w b F h hF acc asset n
  have e1 : addE F acc asset n = 1 := by unfold addE; rw [if_neg hn]
  have e2 : addN F acc asset n = F := by unfold addN; rw [if_neg (fun hh => hn hh.1)]
  rw [e1, e2] at h1
  exact h1
theorem add_first (n : Int) (a s : Nat) (hs : s < 2) : upd (upd (fun _ => 0) (a * 4 + s * 2) ((fun _ => (0 : Int)) (a * 4 + s * 2) + n)) (260 + s) ((fun _ => (0 : Int)) (260 + s) + n) = upd (upd (fun _ => 0) (a * 4 + s * 2) n) (260 + s) n := by simp
set_option maxHeartbeats 4000000 in
theorem most_walk (acc dst less more : Int) (w : World) (g0 : (Lit.int .u8 acc).wf = true) (g1 : (Lit.int .u8 dst).wf = true) (g2 : (Lit.int .u32 less).wf = true) (g3 : (Lit.int .u32 more).wf = true) :
    Calls Try.prog 3 #[.int .u8 acc, .int .u8 dst, .int .u32 less, .int .u32 more] w fun e w' => e = .returned (.bool true) ∧ Below w.heap.size w w' := by
  have hB := bel_refl w
  have b0 := bounds_u8 g0; have b1 := bounds_u8 g1; have b2 := bounds_u32 g2; have b3 := bounds_u32 g3
  clear g0 g1 g2 g3
  obtain ⟨a, ha⟩ : ∃ a : Nat, acc % 65 = a := ⟨(acc % 65).toNat, by omega⟩
  obtain ⟨b, hb⟩ : ∃ b : Nat, dst % 65 = b := ⟨(dst % 65).toNat, by omega⟩
  have t0 : acc.tmod 65 = (a : Int) := by rw [Int.tmod_eq_emod_of_nonneg b0.1]; exact ha
  have t1 : dst.tmod 65 = (b : Int) := by rw [Int.tmod_eq_emod_of_nonneg b1.1]; exact hb
  have ba : a ≤ 64 := by omega
  have bb : b ≤ 64 := by omega
  have w0 : IntKind.i64.wrap (a : Int) = (a : Int) := IntWalk.i64_in _ (by omega)
  have w1' : IntKind.i64.wrap (b : Int) = (b : Int) := IntWalk.i64_in _ (by omega)
  have w2' : IntKind.i64.wrap less = less := IntWalk.i64_in _ (by omega)
  have w3' : IntKind.i64.wrap more = more := IntWalk.i64_in _ (by omega)
  obtain ⟨m, hm⟩ : ∃ m, 1152921504606846976 - less = m := ⟨_, rfl⟩
  have w4' : IntKind.i64.wrap m = m := IntWalk.i64_in _ (by omega)
  have bm : 0 ≤ m ∧ m ≤ 1152921504606846976 := by omega
  obtain ⟨F1, hF1⟩ : ∃ F, F = upd (upd (fun _ => (0 : Int)) (a * 4) m) 260 m := ⟨_, rfl⟩
  have B1 : Bd F1 := by rw [hF1]; exact (Bd.zero.upd _ _ bm).upd _ _ bm
  have c1 := Lib.hid (fun (w : World) (b : Nat) (h : LAt w b fun _ => 0) => add_in w b _ Bd.zero h a 0 m ba (by omega) bm (by show ¬ 1152921504606846976 - 0 < m; omega))
  simp only [Int.ofNat_zero, Nat.zero_mul, Nat.add_zero, Int.zero_add] at c1
  have c1' : Hid (∀ (w : World) (c : Nat), LAt w c (fun _ => 0) → Calls Try.prog 11 #[.pointer (some ⟨c, 0, none⟩), .int .i64 a, .int .i64 0, .int .i64 m] w fun e w' => e = .returned (.int .i64 0) ∧ LAt w' c F1 ∧ w.grownBy w' (some c)) := by rw [hF1]; exact c1
  have v1 : F1 260 = m := by rw [hF1, upd_at]
  have v2 : F1 261 = 0 := by rw [hF1, upd_ne _ _ _ _ (by omega), upd_ne _ _ _ _ (by omega)]
  have v4 : F1 (b * 4 + 2) = 0 := by rw [hF1, upd_ne _ _ _ _ (by omega), upd_ne _ _ _ _ (by omega)]
  have v3 : 0 ≤ F1 (b * 4) ∧ F1 (b * 4) ≤ m := by
    rw [hF1, upd_ne _ _ _ _ (by omega)]
    unfold upd
    split
    · omega
    · show 0 ≤ (0 : Int) ∧ (0 : Int) ≤ m
      omega
  have c2 : ∃ (E2 : Int) (F2 : Nat → Int), Bd F2 ∧ F2 261 = 0 ∧ F2 (b * 4 + 2) = 0 ∧ ((E2 = 0 ∧ decide (more ≤ less) = true) ∨ (E2 = 8 ∧ decide (more ≤ less) = false)) ∧
      Hid (∀ (w : World) (c : Nat), LAt w c F1 → Calls Try.prog 11 #[.pointer (some ⟨c, 0, none⟩), .int .i64 b, .int .i64 0, .int .i64 more] w fun e w' => e = .returned (.int .i64 E2) ∧ LAt w' c F2 ∧ w.grownBy w' (some c)) := by
    by_cases h : more ≤ less
    · refine ⟨0, upd (upd F1 (b * 4) (F1 (b * 4) + more)) 260 (F1 260 + more), (B1.upd _ _ (by omega)).upd _ _ (by omega), by rw [upd_ne _ _ _ _ (by omega), upd_ne _ _ _ _ (by omega)]; exact v2, by rw [upd_ne _ _ _ _ (by omega), upd_ne _ _ _ _ (by omega)]; exact v4, .inl ⟨rfl, by simpa using h⟩, ?_⟩
      exact Lib.hid fun w c hc => by simpa using add_in w c F1 B1 hc b 0 more bb (by omega) (by omega) (by simp; omega)
    · refine ⟨8, F1, B1, v2, v4, .inr ⟨rfl, by simpa using h⟩, ?_⟩
      exact Lib.hid fun w c hc => by simpa using add_over w c F1 B1 hc b 0 more bb (by omega) (by omega) (by simp; omega)
  obtain ⟨E2, F2, B2, u1, hz, hE2, c2⟩ := c2
  obtain ⟨F3, B3, c3⟩ : ∃ F3, Bd F3 ∧ Hid (∀ (w : World) (c : Nat), LAt w c F2 → Calls Try.prog 11 #[.pointer (some ⟨c, 0, none⟩), .int .i64 b, .int .i64 1, .int .i64 1152921504606846976] w fun e w' => e = .returned (.int .i64 0) ∧ LAt w' c F3 ∧ w.grownBy w' (some c)) := by
    refine ⟨_, (B2.upd (b * 4 + 2) (F2 (b * 4 + 2) + 1152921504606846976) (by omega)).upd 261 (F2 261 + 1152921504606846976) (by omega), ?_⟩
    exact Lib.hid fun w c hc => by simpa using add_in w c F2 B2 hc b 1 1152921504606846976 bb (by omega) (by omega) (by simp; omega)
  have c4 := Lib.hid (fun (w : World) (c : Nat) (h : LAt w c F3) => add_bad w c F3 B3 h a 0 1152921504606846977 (by unfold okD; omega))
  have c5 := Lib.hid (fun (w : World) (c : Nat) (h : LAt w c F3) => add_bad w c F3 B3 h a 2 1 (by unfold okD okA; omega))
  have c6 := Lib.hid (fun (w : World) (c : Nat) (h : LAt w c F3) => add_bad w c F3 B3 h 65 0 1 (by unfold okD okA; omega))
  have c7 := Lib.hid (fun (w : World) (c : Nat) (h : LAt w c F3) => add_bad w c F3 B3 h a 0 (-1) (by unfold okD; omega))
  clear hF1 B1 v1 v2 v3 v4 hz c1 B2 u1 B3 ba bb bm
  rcases hE2 with ⟨rfl, e2⟩ | ⟨rfl, e2⟩
  · skip
    go_enter Try.func3, Try.ntmps3
    go_wp2_with fail
    refine (awake_any _).mono ?_
    rintro e w1 ⟨rfl, hb⟩
    replace hB := bel_call hb (by first | exact hB | exact bel_alloc hB _ | exact bel_alloc (bel_alloc hB _) _ | exact bel_alloc (bel_alloc (bel_alloc hB _) _) _ | exact bel_drew hB | exact bel_drew (bel_alloc hB _) | exact bel_drew (bel_alloc (bel_alloc hB _) _))
    clear hb
    go_wp2_with fail
    have HBB := Lib.hid hB.size
    refine (new_any _).mono ?_
    rintro e w2 ⟨rfl, hw, hb9⟩
    replace hB := bel_call hb9 hB
    have hbb : w.heap.size ≤ w1.heap.size := HBB.out
    clear hb9
    go_wp2_with fail
    refine (c1'.out _ _ hw).mono ?_
    rintro e w3 ⟨rfl, hx, hg⟩
    replace hB := bel_grown hg hB (fun j hj => by cases hj; exact hbb)
    clear hg hw
    have hw := hx
    clear hx
    go_wp2_with fail
    refine (c2.out _ _ hw).mono ?_
    rintro e w4 ⟨rfl, hx, hg⟩
    replace hB := bel_grown hg hB (fun j hj => by cases hj; exact hbb)
    clear hg hw
    have hw := hx
    clear hx
    go_wp2_with fail
    refine (c3.out _ _ hw).mono ?_
    rintro e w5 ⟨rfl, hx, hg⟩
    replace hB := bel_grown hg hB (fun j hj => by cases hj; exact hbb)
    clear hg hw
    have hw := hx
    clear hx
    go_wp2_with fail
    refine (c4.out _ _ hw).mono ?_
    rintro e w6 ⟨rfl, hx, hg⟩
    replace hB := bel_grown hg hB (fun j hj => by cases hj; exact hbb)
    clear hg hw
    have hw := hx
    clear hx
    go_wp2_with fail
    refine (c5.out _ _ hw).mono ?_
    rintro e w7 ⟨rfl, hx, hg⟩
    replace hB := bel_grown hg hB (fun j hj => by cases hj; exact hbb)
    clear hg hw
    have hw := hx
    clear hx
    go_wp2_with fail
    refine (c6.out _ _ hw).mono ?_
    rintro e w8 ⟨rfl, hx, hg⟩
    replace hB := bel_grown hg hB (fun j hj => by cases hj; exact hbb)
    clear hg hw
    have hw := hx
    clear hx
    go_wp2_with fail
    refine (c7.out _ _ hw).mono ?_
    rintro e w9 ⟨rfl, hx, hg⟩
    replace hB := bel_grown hg hB (fun j hj => by cases hj; exact hbb)
    clear hg hw
    have hw := hx
    clear hx
    go_wp2_with fail
    go_ret
    exact ⟨rfl, hB⟩
  · skip
    go_enter Try.func3, Try.ntmps3
    go_wp2_with fail
    refine (awake_any _).mono ?_
    rintro e w1 ⟨rfl, hb⟩
    replace hB := bel_call hb (by first | exact hB | exact bel_alloc hB _ | exact bel_alloc (bel_alloc hB _) _ | exact bel_alloc (bel_alloc (bel_alloc hB _) _) _ | exact bel_drew hB | exact bel_drew (bel_alloc hB _) | exact bel_drew (bel_alloc (bel_alloc hB _) _))
    clear hb
    go_wp2_with fail
    have HBB := Lib.hid hB.size
    refine (new_any _).mono ?_
    rintro e w2 ⟨rfl, hw, hb9⟩
    replace hB := bel_call hb9 hB
    have hbb : w.heap.size ≤ w1.heap.size := HBB.out
    clear hb9
    go_wp2_with fail
    refine (c1'.out _ _ hw).mono ?_
    rintro e w3 ⟨rfl, hx, hg⟩
    replace hB := bel_grown hg hB (fun j hj => by cases hj; exact hbb)
    clear hg hw
    have hw := hx
    clear hx
    go_wp2_with fail
    refine (c2.out _ _ hw).mono ?_
    rintro e w4 ⟨rfl, hx, hg⟩
    replace hB := bel_grown hg hB (fun j hj => by cases hj; exact hbb)
    clear hg hw
    have hw := hx
    clear hx
    go_wp2_with fail
    refine (c3.out _ _ hw).mono ?_
    rintro e w5 ⟨rfl, hx, hg⟩
    replace hB := bel_grown hg hB (fun j hj => by cases hj; exact hbb)
    clear hg hw
    have hw := hx
    clear hx
    go_wp2_with fail
    refine (c4.out _ _ hw).mono ?_
    rintro e w6 ⟨rfl, hx, hg⟩
    replace hB := bel_grown hg hB (fun j hj => by cases hj; exact hbb)
    clear hg hw
    have hw := hx
    clear hx
    go_wp2_with fail
    refine (c5.out _ _ hw).mono ?_
    rintro e w7 ⟨rfl, hx, hg⟩
    replace hB := bel_grown hg hB (fun j hj => by cases hj; exact hbb)
    clear hg hw
    have hw := hx
    clear hx
    go_wp2_with fail
    refine (c6.out _ _ hw).mono ?_
    rintro e w8 ⟨rfl, hx, hg⟩
    replace hB := bel_grown hg hB (fun j hj => by cases hj; exact hbb)
    clear hg hw
    have hw := hx
    clear hx
    go_wp2_with fail
    refine (c7.out _ _ hw).mono ?_
    rintro e w9 ⟨rfl, hx, hg⟩
    replace hB := bel_grown hg hB (fun j hj => by cases hj; exact hbb)
    clear hg hw
    have hw := hx
    clear hx
    go_wp2_with fail
    go_ret
    exact ⟨rfl, hB⟩
end Go.Proofs.Ythkmjfgffofaoaa
