/-
  The walk of QueueFails.
-/
import Derived.Test.YtkebpibcoklglaaNum
namespace Go.Proofs.Ytkebpibcoklglaa
open Go.RowKit
set_option linter.unusedSimpArgs false
set_option linter.unusedVariables false
set_option maxHeartbeats 4000000 in
set_option maxRecDepth 100000 in
theorem fails_walk (sa : Option Addr) (len cap : Nat) (D : Nat → Nat → Int) (id qty : Int) (w : World) (hD : RowsOf w sa len cap 1 (fun _ => .u8) D) (wi : (Lit.int .i64 id).wf = true) (wq : (Lit.int .i64 qty).wf = true) :
    Calls Try.prog 3 #[.slice sa len cap, .int .i64 id, .int .i64 qty] w fun e w' => e = .returned (.bool true) ∧ Below w.heap.size w w' := by
  have hB := bel_refl w
  have hlen : len ≤ 9223372036854775807 := by have := hD.lenCap; have := hD.capMax; unfold maxLen at this; omega
  go_enter Try.func3, Try.ntmps3
  go_wp2_with fail
  refine (awake_any _).mono ?_
  rintro e w1 ⟨rfl, hb⟩
  have hD1 : RowsOf w1 sa len cap 1 (fun _ => .u8) D := ⟨hD.lenCap, hD.capMax, fun h0 => by obtain ⟨b, off, e, hc⟩ := hD.cells h0; exact ⟨b, off, e, fun i hi j hj => cell_call (hc i hi j hj) hb⟩, hD.wf⟩
  replace hB := bel_call hb hB
  have hs1 := hB.size
  clear hb
  go_wp2_with fail
  refine (filled_any _ _ _ D _ hD1).mono ?_
  rintro e w2 ⟨⟨gq, rfl, hQ⟩, hb⟩
  replace hB := bel_call hb hB
  obtain ⟨qb, hqb⟩ : ∃ qb, w1.heap.size = qb := ⟨_, rfl⟩
  rw [hqb] at hQ hs1 ⊢
  obtain ⟨n, hn⟩ : ∃ n, min len 60 = n := ⟨_, rfl⟩
  rw [hn] at hQ
  have hmin : min (len : Int) 60 = (n : Int) := by omega
  have hn60 : n ≤ 60 := by omega
  have HR := Lib.hid (fun (i : Nat) (hi : i < len) => show 0 ≤ D i 0 ∧ D i 0 ≤ 255 by
    have hw := hD.wf i hi 0 (by omega)
    simp [Lit.wf, IntKind.min, IntKind.max, IntKind.signed, IntKind.bits] at hw
    omega)
  clear hb hD hD1 hqb
  have hL : (num (fun i => D i 0 + 2) n).length = n := num_len _ _
  generalize hLL : num (fun i => D i 0 + 2) n = L at *
  have cl := Lib.hid (fun (w : World) (g : Option Nat) (h : QAt w qb g L) => list_any w _ L h.isQ (by omega))
  have cg := Lib.hid (fun (w : World) (g : Option Nat) (h : QAt w qb g L) => get_any w qb g L h (by omega) id)
  by_cases hn0 : n = 0
  · subst hn0
    obtain rfl : L = [] := List.length_eq_zero_iff.1 hL
    have hk0 : decide (((0 : Nat) : Int) = 0) = true := by simp
    have hth : (decide (1 ≤ id) = true ∧ decide (id ≤ ((0 : Nat) : Int)) = false) ∨ decide (1 ≤ id) = false := by
      simp only [decide_eq_true_eq, decide_eq_false_iff_not]; omega
    clear HR hLL hL
    go_wp2_with fail
    refine (cl.out _ _ hQ).mono ?_
    rintro e w3 ⟨v1, rfl, hO1, hb⟩
    replace hQ := hQ.call hb
    replace hB := bel_call hb hB
    clear hb
    obtain ⟨sw, cw, rfl, hW⟩ := items_open hO1
    clear hW hO1
    go_upto_region 8 with fail
    rcases hth with ⟨t1, t2⟩ | t1
    all_goals
      go_wp2_with fail
      refine (put_any _ qb gq [] hQ (by decide) 1 1).mono ?_
      rw [show putE [] 1 1 = 0 by decide, show putN [] 1 1 = [(1, 1)] by decide]
      rintro e w4 ⟨rfl, ⟨g4, hQ4, -⟩, ht, -⟩
      replace hB := bel_q hB hQ hs1 ht
      clear ht hQ
      have hQ := hQ4
      clear hQ4
      go_wp2_with fail
      refine (put_any _ qb g4 [(1, 1)] hQ (by decide) 0 1).mono ?_
      rw [show putE [(1, 1)] 0 1 = 1 by decide]
      rintro e w5 ⟨rfl, -, -, hb⟩
      replace hb := hb (by decide)
      replace hQ := hQ.call hb
      replace hB := bel_call hb hB
      clear hb
      go_wp2_with fail
      refine (put_any _ qb g4 [(1, 1)] hQ (by decide) 99 0).mono ?_
      rw [show putE [(1, 1)] 99 0 = 1 by decide]
      rintro e w6 ⟨rfl, -, -, hb⟩
      replace hb := hb (by decide)
      replace hQ := hQ.call hb
      replace hB := bel_call hb hB
      clear hb
      go_wp2_with fail
      refine (put_any _ qb g4 [(1, 1)] hQ (by decide) 99 1073741825).mono ?_
      rw [show putE [(1, 1)] 99 1073741825 = 1 by decide]
      rintro e w7 ⟨rfl, -, -, hb⟩
      replace hb := hb (by decide)
      replace hQ := hQ.call hb
      replace hB := bel_call hb hB
      clear hb
      go_wp2_with fail
      refine (get_any _ qb g4 [(1, 1)] hQ (by decide) id).mono ?_
      rintro e w8 ⟨rfl, hb⟩
      replace hQ := hQ.call hb
      replace hB := bel_call hb hB
      clear hb
      go_wp2_with fail
      refine (cut_any _ qb g4 [(1, 1)] hQ (by decide) id (getQ [(1, 1)] id)).mono ?_
      rw [cut_own0]
      rintro e w9 ⟨rfl, -, -, hb⟩
      replace hb := hb (by first | trivial | rfl)
      replace hQ := hQ.call hb
      replace hB := bel_call hb hB
      clear hb
      go_wp2_with fail
      refine (cut_any _ qb g4 [(1, 1)] hQ (by decide) id 0).mono ?_
      rw [cut_0]
      rintro e w10 ⟨rfl, -, -, hb⟩
      replace hb := hb (by first | trivial | rfl)
      replace hB := bel_call hb hB
      go_wp2_with fail
      go_ret
      exact ⟨rfl, hB⟩
  · have e1 : putE L 1 1 = 7 := by
      have := find_num (fun i => D i 0 + 2) n 0 (by omega)
      rw [hLL] at this
      unfold putE
      rw [if_neg (by omega), show (1 : Int) = ((0 : Nat) : Int) + 1 by omega, this, if_pos (by omega)]
    have hk0 : decide ((n : Int) = 0) = false := by simp; omega
    have e2 : putE L 0 1 = 1 := by unfold putE; rw [if_pos (by omega)]
    have e3 : putE L 99 0 = 1 := by unfold putE; rw [if_pos (by omega)]
    have e4 : putE L 99 1073741825 = 1 := by unfold putE; rw [if_pos (by omega)]
    have c1 := Lib.hid (fun (w : World) (g : Option Nat) (h : QAt w qb g L) => put_any w qb g L h (by omega) 1 1)
    have c2 := Lib.hid (fun (w : World) (g : Option Nat) (h : QAt w qb g L) => put_any w qb g L h (by omega) 0 1)
    have c3 := Lib.hid (fun (w : World) (g : Option Nat) (h : QAt w qb g L) => put_any w qb g L h (by omega) 99 0)
    have c4 := Lib.hid (fun (w : World) (g : Option Nat) (h : QAt w qb g L) => put_any w qb g L h (by omega) 99 1073741825)
    rw [e1] at c1
    rw [e2] at c2
    rw [e3] at c3
    rw [e4] at c4
    have c5 := Lib.hid (fun (w : World) (g : Option Nat) (h : QAt w qb g L) => cut_any w qb g L h (by omega) id (getQ L id))
    rw [cut_own0] at c5
    have c6 := Lib.hid (fun (w : World) (g : Option Nat) (h : QAt w qb g L) => cut_any w qb g L h (by omega) id 0)
    rw [cut_0] at c6
    obtain ⟨own, hown⟩ : ∃ own, getQ L id = own := ⟨_, rfl⟩
    have c7 := Lib.hid (fun (x : Int) (hx : 0 ≤ x) (w : World) (g : Option Nat) (h : QAt w qb g L) => cut_any w qb g L h (by omega) id (getQ L id + x))
    have hco := Lib.hid (fun (x : Int) (hx : 0 ≤ x) => cut_own L id x hx)
    rw [hown] at c5 c7 hco
    rw [hown] at cg
    have hob : 0 ≤ own ∧ own ≤ 1000 := by
      rw [← hown]
      unfold getQ
      by_cases hf : 0 ≤ findI L id
      · rw [if_pos hf]
        obtain ⟨k, e, hlt⟩ := findI_pos hf
        rw [e, List.getElem?_eq_getElem (by simpa using hlt)]
        have := num_elem (fun i => D i 0 + 2) n k (by rw [hLL]; exact hlt)
        simp only [Int.toNat_natCast, Option.getD_some]
        have hk2 : L[k] = (num (fun i => D i 0 + 2) n)[k]'(by rw [hLL]; exact hlt) := by simp only [hLL]
        rw [hk2, this]
        have hr := HR.out k (by omega)
        show 0 ≤ D k 0 + 2 ∧ D k 0 + 2 ≤ 1000
        omega
      · rw [if_neg hf]; omega
    clear e1 e2 e3 e4 hown
    have hx : 0 ≤ max qty 0 % 1000 ∧ max qty 0 % 1000 < 1000 := by omega
    have hth : (decide (1 ≤ id) = true ∧ decide (id ≤ (n : Int)) = true) ∨ (decide (1 ≤ id) = true ∧ decide (id ≤ (n : Int)) = false) ∨ decide (1 ≤ id) = false := by
      simp only [decide_eq_true_eq, decide_eq_false_iff_not]; omega
    have hc7 := c7.out (max qty 0 % 1000) hx.1
    rw [hco.out (max qty 0 % 1000) hx.1] at hc7
    have c8 := Lib.hid hc7
    clear hc7
    rcases hth with ⟨t1, t2⟩ | ⟨t1, t2⟩ | t1
    · go_wp2_with fail
      refine (cl.out _ _ hQ).mono ?_
      rintro e w3 ⟨v1, rfl, hO1, hb⟩
      replace hQ := hQ.call hb
      replace hB := bel_call hb hB
      clear hb
      obtain ⟨sw, cw, rfl, hW⟩ := items_open hO1
      go_wp2_with fail
      refine (c1.out _ _ hQ).mono ?_
      rintro e w4 ⟨rfl, -, -, hb⟩
      replace hb := hb (by decide)
      replace hQ := hQ.call hb
      replace hB := bel_call hb hB
      have hB3 := hb
      clear hb
      go_wp2_with fail
      refine (c2.out _ _ hQ).mono ?_
      rintro e w5 ⟨rfl, -, -, hb⟩
      replace hb := hb (by decide)
      replace hQ := hQ.call hb
      replace hB := bel_call hb hB
      replace hB3 := bel_call hb hB3
      clear hb
      go_wp2_with fail
      refine (c3.out _ _ hQ).mono ?_
      rintro e w6 ⟨rfl, -, -, hb⟩
      replace hb := hb (by decide)
      replace hQ := hQ.call hb
      replace hB := bel_call hb hB
      replace hB3 := bel_call hb hB3
      clear hb
      go_wp2_with fail
      refine (c4.out _ _ hQ).mono ?_
      rintro e w7 ⟨rfl, -, -, hb⟩
      replace hb := hb (by decide)
      replace hQ := hQ.call hb
      replace hB := bel_call hb hB
      replace hB3 := bel_call hb hB3
      clear hb
      go_wp2_with fail
      refine (cg.out _ _ hQ).mono ?_
      rintro e w8 ⟨rfl, hb⟩
      replace hQ := hQ.call hb
      replace hB := bel_call hb hB
      replace hB3 := bel_call hb hB3
      clear hb
      go_wp2_with fail
      refine (c5.out _ _ hQ).mono ?_
      rintro e w9 ⟨rfl, -, -, hb⟩
      replace hb := hb (by first | trivial | rfl)
      replace hQ := hQ.call hb
      replace hB := bel_call hb hB
      replace hB3 := bel_call hb hB3
      clear hb
      go_wp2_with fail
      refine (c6.out _ _ hQ).mono ?_
      rintro e w10 ⟨rfl, -, -, hb⟩
      replace hb := hb (by first | trivial | rfl)
      replace hQ := hQ.call hb
      replace hB := bel_call hb hB
      replace hB3 := bel_call hb hB3
      clear hb
      go_wp2_with fail
      refine (c8.out _ _ hQ).mono ?_
      rintro e w11 ⟨rfl, -, -, hb⟩
      replace hb := hb (by first | trivial | rfl)
      replace hQ := hQ.call hb
      replace hB := bel_call hb hB
      replace hB3 := bel_call hb hB3
      clear hb
      go_wp2_with fail
      refine (cl.out _ _ hQ).mono ?_
      rintro e w12 ⟨v2, rfl, hO2, hb⟩
      replace hB := bel_call hb hB
      replace hB3 := bel_call hb hB3
      clear hb hQ
      obtain ⟨sn, cn, rfl, hN⟩ := items_open hO2
      rw [hL]
      have HW := Lib.hid hW
      have HN := Lib.hid hN
      clear hW hN hO1 hO2
      go_wp2_with fail
      go_loopw [22] (fun i wr => ∃ j : Nat, j ≤ n ∧ i = .int .i64 j ∧ Below w.heap.size w wr ∧ Below w3.heap.size w3 wr ∧ Below w12.heap.size w12 wr) (fun i _ => n - (intOf i).toNat)
      case atStart => exact ⟨0, by omega, rfl, hB, hB3, bel_refl _⟩
      case round =>
        clear hB hB3
        obtain ⟨j, hj, rfl, hB, hB3, hB12⟩ := hrel
        by_cases hlt : j < n
        · obtain ⟨g1, rfl, -, -, p0, p1⟩ := HW.out j (by omega)
          obtain ⟨g2, rfl, -, -, q0, q1⟩ := HN.out j (by omega)
          replace p0 := cell_call p0 hB3
          replace p1 := cell_call p1 hB3
          replace q0 := cell_call q0 hB12
          replace q1 := cell_call q1 hB12
          generalize L[j].1 = x0 at *
          generalize L[j].2 = x1 at *
          have hd1 : decide ((j : Int) < (n : Int)) = true := by simp; omega
          have hj0 : (0 : Int) ≤ (j : Int) := by omega
          have hj1 : (j : Int) < (n : Int) := by omega
          go_wp2_with fail
          refine wp_region_plan [(0, true), (1, true), (2, true), (3, true), (4, true), (5, true), (6, true), (7, true), (8, true)] (fun w' => (w'.cell? ⟨g1, j * 2, none⟩ = some (.int .i64 x0) ∧ w'.cell? ⟨g1, j * 2 + 1, none⟩ = some (.int .i64 x1)) ∧ (w'.cell? ⟨g2, j * 2, none⟩ = some (.int .i64 x0) ∧ w'.cell? ⟨g2, j * 2 + 1, none⟩ = some (.int .i64 x1))) (by kernel_rfl) (by kernel_rfl) (fun _ _ _ _ h => h) ?_ (fun hS => ?_)
          · exact ⟨⟨p0, p1⟩, ⟨q0, q1⟩⟩
          iterate 9
            refine plan_light (o := ?_) (v := ?_) ?_ ?_ ?_ ?_
            rotate_left 2
            · simp only [List.getElem?_toArray, List.getElem?_cons_zero, List.getElem?_cons_succ]
              rfl
            · go_simp
            · intro w' hS
              (have sa1 := hS.1.1; have sa2 := hS.1.2; have sa3 := hS.2.1; have sa4 := hS.2.2)
              go_simp
              try rfl
            simp only [Act.put, List.setIfInBounds_toArray, List.set_cons_zero, List.set_cons_succ]
          refine plan_nil ?_
          go_wp2_with fail
          go_roundw
          case rel => exact ⟨j + 1, by omega, by go_num, bel_drew hB, bel_drew hB3, bel_drew hB12⟩
          case measure => simp [intOf]; omega
        · have hd1 : decide ((j : Int) < (n : Int)) = false := by simp; omega
          go_wp2_with fail
          go_ret
          exact ⟨rfl, hB⟩
    · go_wp2_with fail
      refine (cl.out _ _ hQ).mono ?_
      rintro e w3 ⟨v1, rfl, hO1, hb⟩
      replace hQ := hQ.call hb
      replace hB := bel_call hb hB
      clear hb
      obtain ⟨sw, cw, rfl, hW⟩ := items_open hO1
      go_wp2_with fail
      refine (c1.out _ _ hQ).mono ?_
      rintro e w4 ⟨rfl, -, -, hb⟩
      replace hb := hb (by decide)
      replace hQ := hQ.call hb
      replace hB := bel_call hb hB
      have hB3 := hb
      clear hb
      go_wp2_with fail
      refine (c2.out _ _ hQ).mono ?_
      rintro e w5 ⟨rfl, -, -, hb⟩
      replace hb := hb (by decide)
      replace hQ := hQ.call hb
      replace hB := bel_call hb hB
      replace hB3 := bel_call hb hB3
      clear hb
      go_wp2_with fail
      refine (c3.out _ _ hQ).mono ?_
      rintro e w6 ⟨rfl, -, -, hb⟩
      replace hb := hb (by decide)
      replace hQ := hQ.call hb
      replace hB := bel_call hb hB
      replace hB3 := bel_call hb hB3
      clear hb
      go_wp2_with fail
      refine (c4.out _ _ hQ).mono ?_
      rintro e w7 ⟨rfl, -, -, hb⟩
      replace hb := hb (by decide)
      replace hQ := hQ.call hb
      replace hB := bel_call hb hB
      replace hB3 := bel_call hb hB3
      clear hb
      go_wp2_with fail
      refine (cg.out _ _ hQ).mono ?_
      rintro e w8 ⟨rfl, hb⟩
      replace hQ := hQ.call hb
      replace hB := bel_call hb hB
      replace hB3 := bel_call hb hB3
      clear hb
      go_wp2_with fail
      refine (c5.out _ _ hQ).mono ?_
      rintro e w9 ⟨rfl, -, -, hb⟩
      replace hb := hb (by first | trivial | rfl)
      replace hQ := hQ.call hb
      replace hB := bel_call hb hB
      replace hB3 := bel_call hb hB3
      clear hb
      go_wp2_with fail
      refine (c6.out _ _ hQ).mono ?_
      rintro e w10 ⟨rfl, -, -, hb⟩
      replace hb := hb (by first | trivial | rfl)
      replace hQ := hQ.call hb
      replace hB := bel_call hb hB
      replace hB3 := bel_call hb hB3
      clear hb
      go_wp2_with fail
      refine (c5.out _ _ hQ).mono ?_
      rintro e w11 ⟨rfl, -, -, hb⟩
      replace hb := hb (by first | trivial | rfl)
      replace hQ := hQ.call hb
      replace hB := bel_call hb hB
      replace hB3 := bel_call hb hB3
      clear hb
      go_wp2_with fail
      refine (cl.out _ _ hQ).mono ?_
      rintro e w12 ⟨v2, rfl, hO2, hb⟩
      replace hB := bel_call hb hB
      replace hB3 := bel_call hb hB3
      clear hb hQ
      obtain ⟨sn, cn, rfl, hN⟩ := items_open hO2
      rw [hL]
      have HW := Lib.hid hW
      have HN := Lib.hid hN
      clear hW hN hO1 hO2
      go_wp2_with fail
      go_loopw [22] (fun i wr => ∃ j : Nat, j ≤ n ∧ i = .int .i64 j ∧ Below w.heap.size w wr ∧ Below w3.heap.size w3 wr ∧ Below w12.heap.size w12 wr) (fun i _ => n - (intOf i).toNat)
      case atStart => exact ⟨0, by omega, rfl, hB, hB3, bel_refl _⟩
      case round =>
        clear hB hB3
        obtain ⟨j, hj, rfl, hB, hB3, hB12⟩ := hrel
        by_cases hlt : j < n
        · obtain ⟨g1, rfl, -, -, p0, p1⟩ := HW.out j (by omega)
          obtain ⟨g2, rfl, -, -, q0, q1⟩ := HN.out j (by omega)
          replace p0 := cell_call p0 hB3
          replace p1 := cell_call p1 hB3
          replace q0 := cell_call q0 hB12
          replace q1 := cell_call q1 hB12
          generalize L[j].1 = x0 at *
          generalize L[j].2 = x1 at *
          have hd1 : decide ((j : Int) < (n : Int)) = true := by simp; omega
          have hj0 : (0 : Int) ≤ (j : Int) := by omega
          have hj1 : (j : Int) < (n : Int) := by omega
          go_wp2_with fail
          refine wp_region_plan [(0, true), (1, true), (2, true), (3, true), (4, true), (5, true), (6, true), (7, true), (8, true)] (fun w' => (w'.cell? ⟨g1, j * 2, none⟩ = some (.int .i64 x0) ∧ w'.cell? ⟨g1, j * 2 + 1, none⟩ = some (.int .i64 x1)) ∧ (w'.cell? ⟨g2, j * 2, none⟩ = some (.int .i64 x0) ∧ w'.cell? ⟨g2, j * 2 + 1, none⟩ = some (.int .i64 x1))) (by kernel_rfl) (by kernel_rfl) (fun _ _ _ _ h => h) ?_ (fun hS => ?_)
          · exact ⟨⟨p0, p1⟩, ⟨q0, q1⟩⟩
          iterate 9
            refine plan_light (o := ?_) (v := ?_) ?_ ?_ ?_ ?_
            rotate_left 2
            · simp only [List.getElem?_toArray, List.getElem?_cons_zero, List.getElem?_cons_succ]
              rfl
            · go_simp
            · intro w' hS
              (have sa1 := hS.1.1; have sa2 := hS.1.2; have sa3 := hS.2.1; have sa4 := hS.2.2)
              go_simp
              try rfl
            simp only [Act.put, List.setIfInBounds_toArray, List.set_cons_zero, List.set_cons_succ]
          refine plan_nil ?_
          go_wp2_with fail
          go_roundw
          case rel => exact ⟨j + 1, by omega, by go_num, bel_drew hB, bel_drew hB3, bel_drew hB12⟩
          case measure => simp [intOf]; omega
        · have hd1 : decide ((j : Int) < (n : Int)) = false := by simp; omega
          go_wp2_with fail
          go_ret
          exact ⟨rfl, hB⟩
    · go_wp2_with fail
      refine (cl.out _ _ hQ).mono ?_
      rintro e w3 ⟨v1, rfl, hO1, hb⟩
      replace hQ := hQ.call hb
      replace hB := bel_call hb hB
      clear hb
      obtain ⟨sw, cw, rfl, hW⟩ := items_open hO1
      go_wp2_with fail
      refine (c1.out _ _ hQ).mono ?_
      rintro e w4 ⟨rfl, -, -, hb⟩
      replace hb := hb (by decide)
      replace hQ := hQ.call hb
      replace hB := bel_call hb hB
      have hB3 := hb
      clear hb
      go_wp2_with fail
      refine (c2.out _ _ hQ).mono ?_
      rintro e w5 ⟨rfl, -, -, hb⟩
      replace hb := hb (by decide)
      replace hQ := hQ.call hb
      replace hB := bel_call hb hB
      replace hB3 := bel_call hb hB3
      clear hb
      go_wp2_with fail
      refine (c3.out _ _ hQ).mono ?_
      rintro e w6 ⟨rfl, -, -, hb⟩
      replace hb := hb (by decide)
      replace hQ := hQ.call hb
      replace hB := bel_call hb hB
      replace hB3 := bel_call hb hB3
      clear hb
      go_wp2_with fail
      refine (c4.out _ _ hQ).mono ?_
      rintro e w7 ⟨rfl, -, -, hb⟩
      replace hb := hb (by decide)
      replace hQ := hQ.call hb
      replace hB := bel_call hb hB
      replace hB3 := bel_call hb hB3
      clear hb
      go_wp2_with fail
      refine (cg.out _ _ hQ).mono ?_
      rintro e w8 ⟨rfl, hb⟩
      replace hQ := hQ.call hb
      replace hB := bel_call hb hB
      replace hB3 := bel_call hb hB3
      clear hb
      go_wp2_with fail
      refine (c5.out _ _ hQ).mono ?_
      rintro e w9 ⟨rfl, -, -, hb⟩
      replace hb := hb (by first | trivial | rfl)
      replace hQ := hQ.call hb
      replace hB := bel_call hb hB
      replace hB3 := bel_call hb hB3
      clear hb
      go_wp2_with fail
      refine (c6.out _ _ hQ).mono ?_
      rintro e w10 ⟨rfl, -, -, hb⟩
      replace hb := hb (by first | trivial | rfl)
      replace hQ := hQ.call hb
      replace hB := bel_call hb hB
      replace hB3 := bel_call hb hB3
      clear hb
      go_wp2_with fail
      refine (c5.out _ _ hQ).mono ?_
      rintro e w11 ⟨rfl, -, -, hb⟩
      replace hb := hb (by first | trivial | rfl)
      replace hQ := hQ.call hb
      replace hB := bel_call hb hB
      replace hB3 := bel_call hb hB3
      clear hb
      go_wp2_with fail
      refine (cl.out _ _ hQ).mono ?_
      rintro e w12 ⟨v2, rfl, hO2, hb⟩
      replace hB := bel_call hb hB
      replace hB3 := bel_call hb hB3
      clear hb hQ
      obtain ⟨sn, cn, rfl, hN⟩ := items_open hO2
      rw [hL]
      have HW := Lib.hid hW
      have HN := Lib.hid hN
      clear hW hN hO1 hO2
      go_wp2_with fail
      go_loopw [22] (fun i wr => ∃ j : Nat, j ≤ n ∧ i = .int .i64 j ∧ Below w.heap.size w wr ∧ Below w3.heap.size w3 wr ∧ Below w12.heap.size w12 wr) (fun i _ => n - (intOf i).toNat)
      case atStart => exact ⟨0, by omega, rfl, hB, hB3, bel_refl _⟩
      case round =>
        clear hB hB3
        obtain ⟨j, hj, rfl, hB, hB3, hB12⟩ := hrel
        by_cases hlt : j < n
        · obtain ⟨g1, rfl, -, -, p0, p1⟩ := HW.out j (by omega)
          obtain ⟨g2, rfl, -, -, q0, q1⟩ := HN.out j (by omega)
          replace p0 := cell_call p0 hB3
          replace p1 := cell_call p1 hB3
          replace q0 := cell_call q0 hB12
          replace q1 := cell_call q1 hB12
          generalize L[j].1 = x0 at *
          generalize L[j].2 = x1 at *
          have hd1 : decide ((j : Int) < (n : Int)) = true := by simp; omega
          have hj0 : (0 : Int) ≤ (j : Int) := by omega
          have hj1 : (j : Int) < (n : Int) := by omega
          go_wp2_with fail
          refine wp_region_plan [(0, true), (1, true), (2, true), (3, true), (4, true), (5, true), (6, true), (7, true), (8, true)] (fun w' => (w'.cell? ⟨g1, j * 2, none⟩ = some (.int .i64 x0) ∧ w'.cell? ⟨g1, j * 2 + 1, none⟩ = some (.int .i64 x1)) ∧ (w'.cell? ⟨g2, j * 2, none⟩ = some (.int .i64 x0) ∧ w'.cell? ⟨g2, j * 2 + 1, none⟩ = some (.int .i64 x1))) (by kernel_rfl) (by kernel_rfl) (fun _ _ _ _ h => h) ?_ (fun hS => ?_)
          · exact ⟨⟨p0, p1⟩, ⟨q0, q1⟩⟩
          iterate 9
            refine plan_light (o := ?_) (v := ?_) ?_ ?_ ?_ ?_
            rotate_left 2
            · simp only [List.getElem?_toArray, List.getElem?_cons_zero, List.getElem?_cons_succ]
              rfl
            · go_simp
            · intro w' hS
              (have sa1 := hS.1.1; have sa2 := hS.1.2; have sa3 := hS.2.1; have sa4 := hS.2.2)
              go_simp
              try rfl
            simp only [Act.put, List.setIfInBounds_toArray, List.set_cons_zero, List.set_cons_succ]
          refine plan_nil ?_
          go_wp2_with fail
          go_roundw
          case rel => exact ⟨j + 1, by omega, by go_num, bel_drew hB, bel_drew hB3, bel_drew hB12⟩
          case measure => simp [intOf]; omega
        · have hd1 : decide ((j : Int) < (n : Int)) = false := by simp; omega
          go_wp2_with fail
          go_ret
          exact ⟨rfl, hB⟩
end Go.Proofs.Ytkebpibcoklglaa
