/-
  A queue of the numbers 1, 2, ..; what is refused; contract of filled.
-/
import Derived.Test.YtkebpibcoklglaaAwake
namespace Go.Proofs.Ytkebpibcoklglaa
open Go.RowKit
set_option linter.unusedSimpArgs false
set_option linter.unusedVariables false
/-- the numbers from 1 on, with these quantities. -/
def num (f : Nat → Int) (n : Nat) : List (Int × Int) := (List.range n).map fun (i : Nat) => ((i : Int) + 1, f i)
theorem num_len (f : Nat → Int) (n : Nat) : (num f n).length = n := by simp [num]
theorem num_get (f : Nat → Int) (n i : Nat) (h : i < n) : (num f n)[i]? = some ((i : Int) + 1, f i) := by simp [num, h]
theorem num_elem (f : Nat → Int) (n i : Nat) (h : i < (num f n).length) : (num f n)[i] = ((i : Int) + 1, f i) := by
  have := num_get f n i (by rw [num_len] at h; exact h)
  rw [List.getElem?_eq_getElem h] at this
  exact Option.some.inj this
theorem num_succ (f : Nat → Int) (n : Nat) : num f (n + 1) = num f n ++ [((n : Int) + 1, f n)] := by simp [num, List.range_succ]
theorem itm_num (f : Nat → Int) (n i : Nat) (h : i < n) : itm (num f n) i = (i, (i : Int) + 1, f i) := by
  unfold itm
  rw [num_get f n i h]
  rfl
theorem find_num (f : Nat → Int) (n : Nat) (k : Nat) (h : k < n) : findI (num f n) ((k : Int) + 1) = k := by
  refine findI_some (by rw [num_len]; exact h) (fun x hx => ?_) (by rw [itm_num f n k h])
  obtain ⟨j, hj, rfl⟩ := List.mem_map.1 hx
  rw [itm_num f n j (by have := List.mem_range.1 hj; omega)]
  have := List.mem_range.1 hj
  show (j : Int) + 1 ≠ (k : Int) + 1
  omega
theorem find_num_no (f : Nat → Int) (n : Nat) (id : Int) (h : ¬ (1 ≤ id ∧ id ≤ n)) : findI (num f n) id = -1 := by
  refine findI_none (fun x hx => ?_)
  obtain ⟨j, hj, rfl⟩ := List.mem_map.1 hx
  rw [num_len] at hj
  rw [itm_num f n j (List.mem_range.1 hj)]
  have := List.mem_range.1 hj
  show (j : Int) + 1 ≠ id
  omega
theorem put_num (f : Nat → Int) (n : Nat) (hn : n < 256) (h1 : 1 ≤ f n) (h2 : f n ≤ 1073741824) : putE (num f n) ((n : Int) + 1) (f n) = 0 ∧ putN (num f n) ((n : Int) + 1) (f n) = num f (n + 1) := by
  have e : putE (num f n) ((n : Int) + 1) (f n) = 0 := by
    unfold putE
    rw [if_neg (by omega), find_num_no f n _ (by omega), if_neg (by omega), num_len, if_neg (by omega)]
  exact ⟨e, by unfold putN; rw [if_pos e, num_succ]⟩
theorem cut_own (L : List (Int × Int)) (id x : Int) (hx : 0 ≤ x) : cutB L id (getQ L id + x) = false := by
  unfold cutB
  rw [decide_eq_false_iff_not]
  rintro ⟨h1, _, h2⟩
  unfold getQ at h2
  rw [if_pos h1] at h2
  omega
theorem cut_own0 (L : List (Int × Int)) (id : Int) : cutB L id (getQ L id) = false := by
  have := cut_own L id 0 (Int.le_refl _)
  rwa [Int.add_zero] at this
theorem cut_0 (L : List (Int × Int)) (id : Int) : cutB L id 0 = false := by
  unfold cutB
  rw [decide_eq_false_iff_not]
  rintro ⟨_, h2, _⟩
  omega
theorem cutN_no {L : List (Int × Int)} {id q : Int} (h : cutB L id q = false) : cutN L id q = L := by unfold cutN; rw [h]; rfl
theorem putN_no {L : List (Int × Int)} {id q : Int} (h : putE L id q ≠ 0) : putN L id q = L := by unfold putN; rw [if_neg h]
/-- what a list's value holds. -/
theorem items_open {w : World} {lo : Nat} {v : Value} {L : List (Int × Int)} (h : w.ownsRow lo 34 2 v L.length (jcells L)) :
    ∃ sa cap, v = .slice sa L.length cap ∧ ∀ i, (hi : i < L.length) → ∃ g, sa = some ⟨g, 0, none⟩ ∧ lo ≤ g ∧ g < w.heap.size ∧ w.cell? ⟨g, i * 2, none⟩ = some (.int .i64 L[i].1) ∧ w.cell? ⟨g, i * 2 + 1, none⟩ = some (.int .i64 L[i].2) := by
  rcases h.2 with ⟨e, hn⟩ | ⟨g, cap, cur, e, hg, hh, hle, hm, hs, ht⟩
  · exact ⟨none, 0, by rw [e, hn], fun i hi => by omega⟩
  · refine ⟨_, _, e, fun i hi => ⟨g, rfl, hg, (Array.getElem?_eq_some_iff.1 hh).1, ?_⟩⟩
    subst e
    have q := jcells_get L i hi
    rw [h.cellAt (i * 2) (by omega), h.cellAt (i * 2 + 1) (by omega)]
    exact q
set_option maxHeartbeats 2000000 in
set_option maxRecDepth 100000 in
theorem filled_any (sa : Option Addr) (len cap : Nat) (D : Nat → Nat → Int) (w : World) (hD : RowsOf w sa len cap 1 (fun _ => .u8) D) :
    Calls Try.prog 10 #[.slice sa len cap] w fun e w' => (∃ gq, e = .returned (.pointer (some ⟨w.heap.size, 0, none⟩)) ∧ QAt w' w.heap.size gq (num (fun i => D i 0 + 2) (min len 60))) ∧ Below w.heap.size w w' := by
  have hB := bel_refl w
  have hlen : len ≤ 9223372036854775807 := by have := hD.lenCap; have := hD.capMax; unfold maxLen at this; omega
  go_enter Try.func10, Try.ntmps10
  go_wp2_with fail
  refine (new_any _).mono ?_
  rintro e w1 ⟨rfl, hQ, hb⟩
  replace hB := bel_call hb hB
  obtain ⟨qb, hqb⟩ : ∃ qb, w.heap.size = qb := ⟨_, rfl⟩
  have HB := Lib.hid hqb
  rw [hqb] at hQ ⊢
  clear hb hqb
  go_wp2_with fail
  go_loopw [4] (fun i wr => ∃ (j : Nat) (gq : Option Nat), j ≤ len ∧ j ≤ 60 ∧ i = .int .i64 j ∧ QAt wr qb gq (num (fun i => D i 0 + 2) j) ∧ Below w.heap.size w wr) (fun i _ => len - (intOf i).toNat)
  case atStart => exact ⟨0, none, by omega, by omega, rfl, hQ, hB⟩
  case round =>
    clear hQ hB
    obtain ⟨j, gq, hj, hj2, rfl, hQ, hB⟩ := hrel
    by_cases hlt : j < len ∧ j < 60
    · obtain ⟨hlt, hlt2⟩ := hlt
      obtain ⟨b, off, rfl, hcell⟩ := hD.cells (by omega)
      have hd1 : decide ((j : Int) < (len : Int)) = true := by simp; omega
      have hd2 : decide ((j : Int) < 60) = true := by simp; omega
      have q0 := hcell j hlt 0 (by omega)
      have hw := hD.wf j hlt 0 (by omega)
      rw [Nat.mul_one, Nat.add_zero] at q0
      have p0 := cell_call q0 hB
      have hj0 : (0 : Int) ≤ (j : Int) := by omega
      have hj1 : (j : Int) < (len : Int) := by omega
      have HD := Lib.hid hD
      have hr : 0 ≤ D j 0 ∧ D j 0 ≤ 255 := by
        simp [Lit.wf, IntKind.min, IntKind.max, IntKind.signed, IntKind.bits] at hw
        omega
      have hp := put_num (fun i => D i 0 + 2) j (by omega) (by show 1 ≤ D j 0 + 2; omega) (by show D j 0 + 2 ≤ 1073741824; omega)
      have cp := Lib.hid (fun (w : World) (h : QAt w qb gq (num (fun i => D i 0 + 2) j)) => put_any w qb gq _ h (by rw [num_len]; omega) ((j : Int) + 1) (D j 0 + 2))
      rw [hp.1, hp.2] at cp
      clear hcell hD q0 hp
      generalize D j 0 = d at *
      go_wp2_with fail
      refine (cp.out _ hQ).mono ?_
      rintro e w3 ⟨rfl, ⟨gq', hQ', -⟩, ht, -⟩
      have hB3 := bel_q hB hQ (Nat.le_of_eq HB.out) ht
      clear hQ hB ht p0
      go_wp2_with fail
      go_roundw
      case rel => exact ⟨j + 1, gq', by omega, by omega, by go_num, hQ', hB3⟩
      case measure => simp [intOf]; omega
    · have hd : (¬ j < len ∧ decide ((j : Int) < (len : Int)) = false) ∨ (j < len ∧ decide ((j : Int) < (len : Int)) = true ∧ decide ((j : Int) < 60) = false) := by
        simp only [decide_eq_true_eq, decide_eq_false_iff_not]; omega
      have hjm : j = min len 60 := by omega
      clear hlt
      rcases hd with ⟨hk, hd⟩ | ⟨hk, hd, hd2⟩
      all_goals
        go_wp2_with fail
        go_ret
        exact ⟨⟨gq, by rw [HB.out]; rfl, by rw [← hjm, HB.out]; exact hQ⟩, hB⟩
end Go.Proofs.Ytkebpibcoklglaa
