/-
  What a ledger keeps: nothing is less than 0, each total is the sum of all purses, no total is more than 2^60. Plain lemmas.
-/
import Derived.Test.YthkmjfgffofaoaaDeed
namespace Go.Proofs.Ythkmjfgffofaoaa
open Go.RowKit
set_option linter.unusedSimpArgs false
set_option linter.unusedVariables false
def SK (F : Nat → Int) (s : Nat) : Nat → Int
  | 0 => 0
  | m + 1 => SK F s m + F (m * 4 + s * 2) + F (m * 4 + s * 2 + 1)
theorem SK_out (F : Nat → Int) (s k : Nat) (v : Int) : ∀ m, (∀ a, a < m → k ≠ a * 4 + s * 2 ∧ k ≠ a * 4 + s * 2 + 1) → SK (upd F k v) s m = SK F s m
  | 0, _ => rfl
  | m + 1, h => by
    have ih := SK_out F s k v m (fun a ha => h a (by omega))
    obtain ⟨h1, h2⟩ := h m (by omega)
    simp only [SK]
    rw [ih, upd_ne _ _ _ _ (fun e => h1 e.symm), upd_ne _ _ _ _ (fun e => h2 e.symm)]
theorem SK_in (F : Nat → Int) (a s r : Nat) (v : Int) (hr : r < 2) : ∀ m, SK (upd F (a * 4 + s * 2 + r) v) s m = SK F s m + if a < m then v - F (a * 4 + s * 2 + r) else 0
  | 0 => by simp [SK]
  | m + 1 => by
    have ih := SK_in F a s r v hr m
    simp only [SK]
    rw [ih]
    by_cases hm : a = m
    · subst hm
      rw [if_neg (by omega), if_pos (by omega)]
      match r, hr with
      | 0, _ => simp only [Nat.add_zero]; rw [upd_at, upd_ne _ _ _ _ (by omega)]; omega
      | 1, _ => rw [upd_at, upd_ne _ _ _ _ (by omega)]; omega
    · rw [upd_ne _ _ _ _ (by omega), upd_ne _ _ _ _ (by omega)]
      by_cases hl : a < m
      · rw [if_pos hl, if_pos (by omega)]; omega
      · rw [if_neg hl, if_neg (by omega)]; omega
theorem SK_set (F : Nat → Int) (a s r s' : Nat) (v : Int) (ha : a < 65) (hs : s < 2) (hr : r < 2) (hs' : s' < 2) :
    SK (upd F (a * 4 + s * 2 + r) v) s' 65 = SK F s' 65 + if s' = s then v - F (a * 4 + s * 2 + r) else 0 := by
  by_cases e : s' = s
  · subst e
    rw [SK_in F a s' r v hr 65, if_pos ha, if_pos rfl]
  · rw [if_neg e, SK_out F s' _ v 65 (fun b hb => by omega)]; omega
theorem SK_far (F : Nat → Int) (k s : Nat) (v : Int) (hk : 260 ≤ k) (hs : s < 2) : SK (upd F k v) s 65 = SK F s 65 := SK_out F s k v 65 (fun a ha => by omega)
theorem SK_nn (F : Nat → Int) (s : Nat) (hs : s < 2) : ∀ m, m ≤ 65 → (∀ k, k < 262 → 0 ≤ F k) → 0 ≤ SK F s m
  | 0, _, _ => by simp [SK]
  | m + 1, hm, h => by
    have := SK_nn F s hs m (by omega) h
    have := h (m * 4 + s * 2) (by omega); have := h (m * 4 + s * 2 + 1) (by omega)
    simp only [SK]; omega
theorem SK_up (F : Nat → Int) (s : Nat) (hs : s < 2) (h : ∀ k, k < 262 → 0 ≤ F k) (m : Nat) : ∀ d, m + d ≤ 65 → SK F s m ≤ SK F s (m + d)
  | 0, _ => Int.le_refl _
  | d + 1, hd => by
    have := SK_up F s hs h m d (by omega)
    have := h ((m + d) * 4 + s * 2) (by omega); have := h ((m + d) * 4 + s * 2 + 1) (by omega)
    show SK F s m ≤ SK F s (m + d) + F ((m + d) * 4 + s * 2) + F ((m + d) * 4 + s * 2 + 1)
    omega
theorem SK_le (F : Nat → Int) (a s r : Nat) (ha : a < 65) (hs : s < 2) (hr : r < 2) (h : ∀ k, k < 262 → 0 ≤ F k) : F (a * 4 + s * 2 + r) ≤ SK F s 65 := by
  have h1 := SK_nn F s hs a (by omega) h
  have h2 := SK_up F s hs h (a + 1) (65 - (a + 1)) (by omega)
  rw [show a + 1 + (65 - (a + 1)) = 65 by omega] at h2
  have h3 : SK F s (a + 1) = SK F s a + F (a * 4 + s * 2) + F (a * 4 + s * 2 + 1) := rfl
  have := h (a * 4 + s * 2) (by omega); have := h (a * 4 + s * 2 + 1) (by omega)
  match r, hr with
  | 0, _ => simp only [Nat.add_zero]; omega
  | 1, _ => omega
structure Inv (F : Nat → Int) : Prop where
  nn : ∀ k, k < 262 → 0 ≤ F k
  tot : ∀ s, s < 2 → F (260 + s) = SK F s 65
  lim : ∀ s, s < 2 → F (260 + s) ≤ 1152921504606846976
theorem Inv.bd {F : Nat → Int} (h : Inv F) : Bd F := fun k hk => by
  refine ⟨h.nn k hk, ?_⟩
  by_cases e : k < 260
  · have h1 := SK_le F (k / 4) (k % 4 / 2) (k % 2) (by omega) (by omega) (by omega) h.nn
    rw [show k / 4 * 4 + k % 4 / 2 * 2 + k % 2 = k by omega, ← h.tot _ (by omega)] at h1
    have := h.lim (k % 4 / 2) (by omega)
    omega
  · have := h.lim (k - 260) (by omega)
    rw [show 260 + (k - 260) = k by omega] at this
    exact this
theorem Inv.zero : Inv (fun _ => 0) := by
  have : ∀ s m, SK (fun _ => 0) s m = 0 := by
    intro s m
    induction m with
    | zero => rfl
    | succ m ih => simp only [SK]; rw [ih]; rfl
  exact ⟨fun k _ => Int.le_refl _, fun s _ => (this s 65).symm, fun s _ => by show (0 : Int) ≤ 1152921504606846976; omega⟩
theorem Inv.move {F : Nat → Int} (h : Inv F) (a s r a' r' : Nat) (n : Int) (ha : a < 65) (hs : s < 2) (hr : r < 2) (ha' : a' < 65) (hr' : r' < 2) (hn : 0 ≤ n) (hl : ¬ F (a * 4 + s * 2 + r) < n) :
    Inv (upd (upd F (a * 4 + s * 2 + r) (F (a * 4 + s * 2 + r) - n)) (a' * 4 + s * 2 + r') (upd F (a * 4 + s * 2 + r) (F (a * 4 + s * 2 + r) - n) (a' * 4 + s * 2 + r') + n)) := by
  have t : ∀ s', s' < 2 → upd (upd F (a * 4 + s * 2 + r) (F (a * 4 + s * 2 + r) - n)) (a' * 4 + s * 2 + r') (upd F (a * 4 + s * 2 + r) (F (a * 4 + s * 2 + r) - n) (a' * 4 + s * 2 + r') + n) (260 + s') = F (260 + s') := fun s' hs' => by
    rw [upd_ne _ _ _ _ (by omega), upd_ne _ _ _ _ (by omega)]
  refine ⟨fun k hk => ?_, fun s' hs' => ?_, fun s' hs' => by rw [t s' hs']; exact h.lim s' hs'⟩
  · have := h.nn k hk
    have := h.nn (a' * 4 + s * 2 + r') (by omega)
    unfold upd
    (repeat' split) <;> omega
  · rw [t s' hs', SK_set _ a' s r' s' _ ha' hs hr' hs', SK_set _ a s r s' _ ha hs hr hs', h.tot s' hs']
    split <;> omega
theorem Inv.grow {F : Nat → Int} (h : Inv F) (a s : Nat) (n : Int) (ha : a < 65) (hs : s < 2) (h0 : 0 ≤ F (a * 4 + s * 2) + n) (hl : F (260 + s) + n ≤ 1152921504606846976) :
    Inv (upd (upd F (a * 4 + s * 2) (F (a * 4 + s * 2) + n)) (260 + s) (F (260 + s) + n)) := by
  have k1 := SK_le F a s 0 ha hs (by omega) h.nn
  rw [Nat.add_zero, ← h.tot s hs] at k1
  refine ⟨fun k hk => ?_, fun s' hs' => ?_, fun s' hs' => ?_⟩
  · have := h.nn k hk
    have := h.nn (260 + s) (by omega)
    unfold upd
    (repeat' split) <;> omega
  · rw [SK_far _ _ _ _ (by omega) hs']
    have := SK_set F a s 0 s' (F (a * 4 + s * 2) + n) ha hs (by omega) hs'
    rw [Nat.add_zero] at this
    rw [this, ← h.tot s' hs']
    by_cases e : s' = s
    · subst e
      rw [upd_at, if_pos rfl]; omega
    · rw [if_neg e, upd_ne _ _ _ _ (by omega), upd_ne _ _ _ _ (by omega)]; omega
  · have := h.lim s' hs'
    unfold upd
    (repeat' split) <;> omega
theorem Inv.moveN {F : Nat → Int} (h : Inv F) (ok : Prop) [Decidable ok] (x y : Nat) (n : Int) (hok : ok → 0 ≤ n ∧ ∃ a s r a' r' : Nat, a < 65 ∧ s < 2 ∧ r < 2 ∧ a' < 65 ∧ r' < 2 ∧ x = a * 4 + s * 2 + r ∧ y = a' * 4 + s * 2 + r') : Inv (moveN F ok x y n) := by
  unfold Go.Proofs.Ythkmjfgffofaoaa.moveN
  split
  · rename_i hh
    obtain ⟨hn, a, s, r, a', r', ha, hs, hr, ha', hr', rfl, rfl⟩ := hok hh.1
    exact h.move a s r a' r' n ha hs hr ha' hr' hn hh.2
  · exact h
theorem Inv.doN {F : Nat → Int} (h : Inv F) (k acc dst asset n : Int) : Inv (doN F k acc dst asset n) := by
  have hD : ∀ r r' : Nat, r < 2 → r' < 2 → okD acc asset n → 0 ≤ n ∧ ∃ a s q a' q' : Nat, a < 65 ∧ s < 2 ∧ q < 2 ∧ a' < 65 ∧ q' < 2 ∧ ix acc asset + r = a * 4 + s * 2 + q ∧ ix acc asset + r' = a' * 4 + s * 2 + q' := fun r r' hr hr' ⟨hA, hn⟩ => by
    unfold okA at hA
    exact ⟨hn.1, acc.toNat, asset.toNat, r, acc.toNat, r', by omega, by omega, hr, by omega, hr', rfl, rfl⟩
  have hT : ∀ r : Nat, r < 2 → okT acc dst asset n → 0 ≤ n ∧ ∃ a s q a' q' : Nat, a < 65 ∧ s < 2 ∧ q < 2 ∧ a' < 65 ∧ q' < 2 ∧ ix acc asset + r = a * 4 + s * 2 + q ∧ ix dst asset = a' * 4 + s * 2 + q' := fun r hr ⟨hA, hB, hn⟩ => by
    unfold okA at hA hB
    exact ⟨hn.1, acc.toNat, asset.toNat, r, dst.toNat, 0, by omega, by omega, hr, by omega, by omega, rfl, rfl⟩
  unfold Go.Proofs.Ythkmjfgffofaoaa.doN
  split
  · unfold addN
    split
    · rename_i hh
      obtain ⟨⟨hA, hn⟩, hl⟩ := hh
      unfold okA at hA
      exact h.grow acc.toNat asset.toNat n (by omega) (by omega) (by have := h.nn (acc.toNat * 4 + asset.toNat * 2) (by omega); omega) (by have := hl; unfold tx at this; omega)
    · exact h
  · split
    · unfold takeN
      split
      · rename_i hh
        obtain ⟨⟨hA, hn⟩, hl⟩ := hh
        unfold okA at hA
        have := h.grow acc.toNat asset.toNat (-n) (by omega) (by omega) (by have := hl; unfold ix at this; omega) (by have := h.lim asset.toNat (by omega); omega)
        exact this
      · exact h
    · split
      · exact h.moveN _ _ _ _ (hD 0 1 (by omega) (by omega))
      · split
        · exact h.moveN _ _ _ _ (hD 1 0 (by omega) (by omega))
        · split
          · exact h.moveN _ _ _ _ (hT 0 (by omega))
          · exact h.moveN _ _ _ _ (hT 1 (by omega))
theorem moveE_no {F : Nat → Int} {ok : Prop} [Decidable ok] {x : Nat} (y : Nat) {n : Int} (h : moveE F ok x n ≠ 0) : moveN F ok x y n = F := by
  unfold moveE at h
  unfold moveN
  rw [if_neg]
  rintro ⟨h1, h2⟩
  rw [if_pos h1, if_neg h2] at h
  exact h rfl
/-- what is refused changes nothing. -/
theorem doN_no {F : Nat → Int} {k acc dst asset n : Int} (h : doE F k acc dst asset n ≠ 0) : doN F k acc dst asset n = F := by
  unfold doE at h
  unfold doN
  split at h
  · rw [if_pos (by assumption)]
    unfold addE at h
    unfold addN
    rw [if_neg]
    rintro ⟨h1, h2⟩
    rw [if_pos h1, if_neg h2] at h
    exact h rfl
  · rw [if_neg (by assumption)]
    split at h
    · rw [if_pos (by assumption)]
      unfold moveE at h
      unfold takeN
      rw [if_neg]
      rintro ⟨h1, h2⟩
      rw [if_pos h1, if_neg h2] at h
      exact h rfl
    · rw [if_neg (by assumption)]
      split at h
      · rw [if_pos (by assumption)]; exact moveE_no _ h
      · rw [if_neg (by assumption)]
        split at h
        · rw [if_pos (by assumption)]; exact moveE_no _ h
        · rw [if_neg (by assumption)]
          split at h
          · rw [if_pos (by assumption)]; exact moveE_no _ h
          · rw [if_neg (by assumption)]; exact moveE_no _ h
end Go.Proofs.Ythkmjfgffofaoaa
