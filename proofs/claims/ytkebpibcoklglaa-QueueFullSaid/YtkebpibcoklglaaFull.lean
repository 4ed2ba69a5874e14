/-
  The walk of QueueFull.
-/
import Derived.Test.YtkebpibcoklglaaLast
namespace Go.Proofs.Ytkebpibcoklglaa
open Go.RowKit
set_option linter.unusedSimpArgs false
set_option linter.unusedVariables false
theorem total_num (c : Int) : ∀ n : Nat, total (num (fun _ => c) n) = n * c
  | 0 => by simp [num, total]
  | n + 1 => by
    rw [num_succ, total_app, total_num c n]
    have : total [((n : Int) + 1, c)] = c := by simp [total]
    rw [this, show ((n + 1 : Nat) : Int) = (n : Int) + 1 by omega, Int.add_mul]
    omega
theorem mem_num {f : Nat → Int} {n : Nat} {p : Int × Int} (h : p ∈ num f n) : p.1 ≤ n := by
  obtain ⟨i, hi, rfl⟩ := List.mem_map.1 h
  have := List.mem_range.1 hi
  show (i : Int) + 1 ≤ n
  omega
theorem mem_out {L : List (Int × Int)} {k : Nat} {p : Int × Int} (h : p ∈ out L k) : p ∈ L := by
  unfold out at h
  rcases List.mem_append.1 h with h | h
  · exact List.mem_of_mem_take h
  · exact List.mem_of_mem_drop h
set_option maxHeartbeats 4000000 in
set_option maxRecDepth 100000 in
theorem full_walk (x q : Int) (w : World) (wx : (Lit.int .u8 x).wf = true) (wq : (Lit.int .u16 q).wf = true) :
    Calls Try.prog 6 #[.int .u8 x, .int .u16 q] w fun e w' => e = .returned (.bool true) ∧ Below w.heap.size w w' := by
  have hB := bel_refl w
  have hx : 0 ≤ x ∧ x ≤ 255 := by
    simp [Lit.wf, IntKind.min, IntKind.max, IntKind.signed, IntKind.bits] at wx
    omega
  have hq : 0 ≤ q ∧ q ≤ 65535 := by
    simp [Lit.wf, IntKind.min, IntKind.max, IntKind.signed, IntKind.bits] at wq
    omega
  clear wx wq
  go_enter Try.func6, Try.ntmps6
  go_wp2_with fail
  refine (awake_any _).mono ?_
  rintro e w1 ⟨rfl, hb⟩
  replace hB := bel_call hb (by first | exact hB | exact bel_alloc hB _ | exact bel_alloc (bel_alloc hB _) _ | exact bel_alloc (bel_alloc (bel_alloc hB _) _) _ | exact bel_drew hB | exact bel_drew (bel_alloc hB _) | exact bel_drew (bel_alloc (bel_alloc hB _) _))
  clear hb
  go_wp2_with fail
  refine (new_any _).mono ?_
  rintro e w2 ⟨rfl, hQ, hb⟩
  have hs1 := hB.size
  replace hB := bel_call hb hB
  obtain ⟨qb, hqb⟩ : ∃ qb, w1.heap.size = qb := ⟨_, rfl⟩
  rw [hqb] at hQ hs1 ⊢
  clear hb hqb
  go_wp2_with fail
  go_loopw [7] (fun i wr => ∃ (j : Nat) (gq : Option Nat), j ≤ 256 ∧ i = .int .i64 ((j : Int) + 1) ∧ QAt wr qb gq (num (fun _ => 1 + q) j) ∧ Below w.heap.size w wr) (fun i _ => 257 - (intOf i).toNat)
  case atStart => exact ⟨0, none, by omega, rfl, hQ, hB⟩
  case round =>
    clear hQ hB
    obtain ⟨j, gq, hj, rfl, hQ, hB⟩ := hrel
    by_cases hlt : j < 256
    · have hd1 : decide ((j : Int) + 1 ≤ 256) = true := by simp; omega
      have hp := put_num (fun _ => 1 + q) j hlt (by show 1 ≤ 1 + q; omega) (by show 1 + q ≤ 1073741824; omega)
      have cp := Lib.hid (fun (w : World) (h : QAt w qb gq (num (fun _ => 1 + q) j)) => put_any w qb gq _ h (by rw [num_len]; omega) ((j : Int) + 1) (1 + q))
      rw [hp.1, hp.2] at cp
      clear hp
      go_wp2_with fail
      refine (cp.out _ hQ).mono ?_
      rintro e w3 ⟨rfl, ⟨gq', hQ', -⟩, ht, -⟩
      have hB3 := bel_q hB hQ hs1 ht
      clear hQ hB ht
      go_wp2_with fail
      go_roundw
      case rel => exact ⟨j + 1, gq', by omega, by go_num, hQ', hB3⟩
      case measure => simp [intOf]; omega
    · have hj6 : j = 256 := by omega
      subst hj6
      have hd1 : decide (((256 : Nat) : Int) + 1 ≤ 256) = false := by simp
      obtain ⟨k, rfl⟩ : ∃ k : Nat, x = (k : Int) := ⟨x.toNat, by omega⟩
      have hk : k < 256 := by omega
      have hL := num_len (fun _ => 1 + q) 256
      have hdr := drop_num (fun _ => 1 + q) 256 k hk
      rw [show (k : Int) + 1 = 1 + (k : Int) by omega] at hdr
      have hol := out_len (num (fun _ => 1 + q) 256) k (by omega)
      rw [hL] at hol
      have e1 : putE (num (fun _ => 1 + q) 256) 300 1 = 5 := by
        unfold putE
        rw [if_neg (by omega), find_no (fun p hp => by have := mem_num hp; omega), if_neg (by omega), if_pos (by omega)]
      have e2 : putE (out (num (fun _ => 1 + q) 256) k) 300 1 = 0 := by
        unfold putE
        rw [if_neg (by omega), find_no (fun p hp => by have := mem_num (mem_out hp); omega), if_neg (by omega), if_neg (by omega)]
      have e3 : putN (out (num (fun _ => 1 + q) 256) k) 300 1 = out (num (fun _ => 1 + q) 256) k ++ [(300, 1)] := by unfold putN; rw [if_pos e2]
      have hsl : (out (num (fun _ => 1 + q) 256) k ++ [((300 : Int), (1 : Int))]).length = 256 := by rw [List.length_append, hol]; rfl
      have hst : sumW (upto (itm (out (num (fun _ => 1 + q) 256) k ++ [((300 : Int), (1 : Int))])) 256) = 255 * (1 + q) + 1 := by
        have a1 := sum_total (out (num (fun _ => 1 + q) 256) k ++ [((300 : Int), (1 : Int))])
        rw [hsl] at a1
        have a2 := total_out (num (fun _ => 1 + q) 256) k (by omega) 300
        rw [num_elem, total_app, total_num] at a2
        rw [a1, total_app]
        have t1 : total [((300 : Int), (1 : Int))] = 1 := by simp [total]
        have t2 : total [((300 : Int), 1 + q)] = 1 + q := by simp [total]
        dsimp only at a2
        rw [t2] at a2
        rw [t1]
        have : total (out (num (fun _ => 1 + q) 256) k) = 255 * (1 + q) := by omega
        rw [this]
        exact IntWalk.wrap64_in _ (by omega)
      generalize num (fun _ => 1 + q) 256 = L at *
      generalize out L k = L1 at *
      generalize L1 ++ [((300 : Int), (1 : Int))] = L2 at *
      have c1 := Lib.hid (fun (w : World) (g : Option Nat) (h : QAt w qb g L) => put_any w qb g L h (by omega) 300 1)
      have cd := Lib.hid (fun (w : World) (g : Option Nat) (h : QAt w qb g L) => drop_any w qb g L h (by omega) (1 + (k : Int)))
      have c2 := Lib.hid (fun (w : World) (g : Option Nat) (h : QAt w qb g L1) => put_any w qb g L1 h (by omega) 300 1)
      have cn := Lib.hid (fun (w : World) (g : Option Nat) (h : QAt w qb g L2) => len_any w qb g L2 h)
      have cs := Lib.hid (fun (w : World) (g : Option Nat) (h : QAt w qb g L2) => sum_any w _ L2 h.isQ (by omega))
      rw [e1] at c1
      rw [hdr.1, hdr.2.1, hdr.2.2] at cd
      rw [e2, e3] at c2
      rw [hsl] at cn
      rw [hsl, hst] at cs
      clear e1 e2 e3 hdr hol hL hsl hst
      go_wp2_with fail
      refine (c1.out _ _ hQ).mono ?_
      rintro e w3 ⟨rfl, -, -, hb⟩
      replace hb := hb (by decide)
      replace hQ := hQ.call hb
      replace hB := bel_call hb hB
      clear hb
      go_wp2_with fail
      refine (cd.out _ _ hQ).mono ?_
      rintro e w4 ⟨rfl, hQ4, ht, -⟩
      replace hB := bel_q hB hQ hs1 ht
      clear ht hQ
      go_wp2_with fail
      refine (c2.out _ _ hQ4).mono ?_
      rintro e w5 ⟨rfl, ⟨g5, hQ5, -⟩, ht, -⟩
      replace hB := bel_q hB hQ4 hs1 ht
      clear ht hQ4
      go_wp2_with fail
      refine (cn.out _ _ hQ5).mono ?_
      rintro e w6 ⟨rfl, rfl⟩
      go_wp2_with fail
      refine (cs.out _ _ hQ5).mono ?_
      rintro e w7 ⟨rfl, hb⟩
      replace hB := bel_call hb hB
      go_wp2_with fail
      go_ret
      exact ⟨rfl, hB⟩
end Go.Proofs.Ytkebpibcoklglaa
