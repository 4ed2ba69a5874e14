/-
  The walk of QueuePlays.
-/
import Derived.Test.YtkebpibcoklglaaRef2
namespace Go.Proofs.Ytkebpibcoklglaa
open Go.RowKit
set_option linter.unusedSimpArgs false
set_option linter.unusedVariables false
theorem putN_len (L : List (Int × Int)) (id qty : Int) (h : L.length ≤ 256) : (putN L id qty).length ≤ 256 := by
  unfold putN
  split
  · rename_i he
    have : ¬ 256 ≤ L.length := by
      intro hl
      unfold putE at he
      split at he
      · cases he
      · split at he
        · cases he
        · cases he
    rw [List.length_append]; simp; omega
  · exact h
theorem dropN_len (L : List (Int × Int)) (id : Int) (h : L.length ≤ 256) : (dropN L id).length ≤ 256 := by
  unfold dropN
  split
  · unfold out
    rw [List.length_append, List.length_take, List.length_drop]
    omega
  · exact h
/-- the document's block is none of the queue's. -/
def Off (v : Value) (qb : Nat) (gq : Option Nat) : Prop := ∀ k, v.ownBlock = some k → k ≠ qb ∧ Option.some k ≠ gq
theorem x_lt {w : World} {v : Value} {L : List (Int × Int)} (h : XAt w v L) : ∀ k, v.ownBlock = some k → k < w.heap.size := fun k hk => (World.ownsRow.lt h k hk).2
theorem x_turn {w w' : World} {v : Value} {L : List (Int × Int)} {qb : Nat} {gq : Option Nat} (h : XAt w v L) (t : Turn w w' qb gq) (ho : Off v qb gq) : XAt w' v L := by
  have hl := x_lt h
  refine ⟨h.1, ?_⟩
  rcases h.2 with h1 | ⟨g, cap, cur, h1, h3, h4, h5⟩
  · exact .inl h1
  · have hk : v.ownBlock = some g := by rw [h1]; rfl
    exact .inr ⟨g, cap, cur, h1, h3, (t.block g (hl g hk) (ho g hk).1 (ho g hk).2).trans h4, h5⟩
theorem off_q {w : World} {v : Value} {L : List (Int × Int)} {qb : Nat} {gq gq' : Option Nat} (hX : XAt w v L) (ho : Off v qb gq) (h : gq' = gq ∨ ∃ k, gq' = some k ∧ w.heap.size ≤ k) : Off v qb gq' := fun k hk => ⟨(ho k hk).1, by
  rcases h with rfl | ⟨k', rfl, h2⟩
  · exact (ho k hk).2
  · intro e
    have := x_lt hX k hk
    have : k = k' := Option.some.inj e
    omega⟩
theorem off_x {w : World} {v v' : Value} {L : List (Int × Int)} {qb : Nat} {gq : Option Nat} (hQ : QAt w qb gq L) (ho : Off v qb gq) (h : v' = v ∨ v' = .slice none 0 0 ∨ ∃ k, v'.ownBlock = some k ∧ w.heap.size ≤ k) : Off v' qb gq := by
  rcases h with rfl | rfl | ⟨k', e, h2⟩
  · exact ho
  · intro k hk; cases hk
  · intro k hk
    rw [e] at hk
    obtain rfl := Option.some.inj hk
    have := hQ.lt
    exact ⟨by omega, fun e => by have := this.2 k' e.symm; omega⟩
theorem or_mid {a b c : Prop} (h : a ∨ c) : a ∨ b ∨ c := h.elim .inl (fun h => .inr (.inr h))
set_option maxHeartbeats 8000000 in
set_option maxRecDepth 100000 in
theorem plays_walk (sa : Option Addr) (len cap : Nat) (D : Nat → Nat → Int) (w : World) (hD : RowsOf w sa len cap 3 (fun _ => .i64) D) :
    Calls Try.prog 7 #[.slice sa len cap] w fun e w' => e = .returned (.bool true) ∧ Below w.heap.size w w' := by
  have hB := bel_refl w
  have hlen : len ≤ 9223372036854775807 := by have := hD.lenCap; have := hD.capMax; unfold maxLen at this; omega
  go_enter Try.func7, Try.ntmps7
  go_wp2_with fail
  refine (awake_any _).mono ?_
  rintro e w1 ⟨rfl, hb⟩
  have hs0 := hb.size
  replace hB := bel_call hb hB
  clear hb
  go_wp2_with fail
  refine (new_any _).mono ?_
  rintro e w2 ⟨rfl, hQ, hb⟩
  replace hB := bel_call hb hB
  obtain ⟨qb, hqb⟩ : ∃ qb, w1.heap.size = qb := ⟨_, rfl⟩
  rw [hqb] at hQ hs0 ⊢
  clear hb hqb
  go_wp2_with fail
  go_loopw [5, 6] (fun x i wr => ∃ (j : Nat) (L : List (Int × Int)) (gq : Option Nat), j ≤ len ∧ j ≤ 400 ∧ i = .int .i64 j ∧ L.length ≤ 256 ∧ QAt wr qb gq L ∧ XAt wr x L ∧ Off x qb gq ∧ Below w.heap.size w wr) (fun _ i _ => 400 - (intOf i).toNat)
  case atStart => exact ⟨0, [], none, by omega, by omega, rfl, by simp, hQ, World.ownsRow_nil _ _ _ _, (fun k hk => by cases hk), hB⟩
  case round =>
    clear hB hQ
    obtain ⟨j, L, gq, hj, hj4, rfl, hL, hQ, hX, hO, hB⟩ := hrel
    by_cases hlt : j < len ∧ j < 400
    · obtain ⟨b, off, rfl, hc⟩ := hD.cells (by omega)
      have hd1 : decide ((j : Int) < (len : Int)) = true := by simp; omega
      have hd2 : decide ((j : Int) < 400) = true := by simp; omega
      have hj0 : (0 : Int) ≤ (j : Int) := by omega
      have hj1 : (j : Int) < (len : Int) := by omega
      have p0 := cell_call (hc j hlt.1 0 (by omega)) hB
      have p1 := cell_call (hc j hlt.1 1 (by omega)) hB
      have p2 := cell_call (hc j hlt.1 2 (by omega)) hB
      clear hc hD
      simp only [← Nat.add_assoc, Nat.add_zero] at p0 p1 p2
      generalize D j 0 = k at *
      generalize D j 1 = id at *
      generalize D j 2 = qty at *
      go_upto_region 10 with fail
      have A := Blk.new wr #[.int .i64 k, .int .i64 id, .int .i64 qty] 46
      have hQl := hQ.lt
      replace hQ := hQ.alloc (.cells #[.int .i64 k, .int .i64 id, .int .i64 qty] 46)
      replace hX := hX.alloc (.cells #[.int .i64 k, .int .i64 id, .int .i64 qty] 46)
      replace hB := bel_alloc hB (.cells #[.int .i64 k, .int .i64 id, .int .i64 qty] 46)
      obtain ⟨w3, hw3⟩ : ∃ w3, wr.alloc (.cells #[.int .i64 k, .int .i64 id, .int .i64 qty] 46) = w3 := ⟨_, rfl⟩
      rw [hw3] at A hQ hX hB ⊢
      obtain ⟨d0, hd0⟩ : ∃ d0, wr.heap.size = d0 := ⟨_, rfl⟩
      rw [hd0] at A hQl ⊢
      clear hw3 hd0 p0 p1 p2
      have n1 : d0 ≠ qb := by omega
      have n2 : ∀ k, gq = some k → k < d0 := fun k hk => (hQl.2 k hk).2
      have n3 : some d0 ≠ gq := fun e => by have := n2 _ e.symm; omega
      clear hQl
      have A_c := A.cell
      have hk : ((k == 0) = true ∧ k = 0) ∨ ((k == 0) = false ∧ (k == 1) = true ∧ k = 1) ∨ ((k == 0) = false ∧ (k == 1) = false) := by
        simp only [beq_iff_eq, beq_eq_false_iff_ne, ne_eq]; omega
      have HL := Lib.hid hlt
      rcases hk with ⟨k1, rfl⟩ | ⟨k1, k2, rfl⟩ | ⟨k1, k2⟩
      case' inl =>
        go_wp2_with fail
        refine (put_any _ qb gq L hQ hL id qty).mono ?_
        rintro e w4 ⟨rfl, ⟨gq', hQ4, hg⟩, ht, -⟩
        have hB4 := bel_q hB hQ hs0 ht
        have A4 := A.turn ht n1 n3
        have hX4 := x_turn hX ht hO
        have hO4 := off_q hX hO hg
        clear A A_c hQ hX hO hB ht n2 n3 hg
        have A_c := A4.cell
        go_wp2_with fail
        refine (rput_any _ _ L hX4 hL id qty).mono ?_
        rintro e w5 ⟨⟨v', rfl, hX5, hv⟩, hb⟩
        have hO5 := off_x hQ4 hO4 (or_mid hv)
        have hQ5 := hQ4.call hb
        have A5 := A4.call hb
        have hB5 := bel_call hb hB4
        have hL5 := putN_len L id qty hL
        clear hO4 hQ4 A4 A_c hB4 hX4 hb hv hL
        have A_c := A5.cell
        generalize putN L id qty = L' at *
        generalize putE L id qty = pe at *
        go_upto_region 28 with fail
      case' inr.inl =>
        go_wp2_with fail
        refine (cut_any _ qb gq L hQ (by omega) id qty).mono ?_
        rintro e w4 ⟨rfl, hQ4, ht, -⟩
        have hB4 := bel_q hB hQ hs0 ht
        have A4 := A.turn ht n1 n3
        have hX4 := x_turn hX ht hO
        have hO4 := hO
        clear A A_c hQ hX hO hB ht n2 n3
        have A_c := A4.cell
        go_wp2_with fail
        refine (rcut_any _ _ L hX4 hL id qty).mono ?_
        rintro e w5 ⟨⟨v', rfl, hX5, hv⟩, hb⟩
        have hO5 := off_x hQ4 hO4 (or_mid hv)
        have hQ5 := hQ4.call hb
        have A5 := A4.call hb
        have hB5 := bel_call hb hB4
        have hL5 : (cutN L id qty).length ≤ 256 := by rw [cutN_len]; exact hL
        clear hO4 hQ4 A4 A_c hB4 hX4 hb hv hL
        have A_c := A5.cell
        generalize cutN L id qty = L' at *
        generalize cutB L id qty = pe at *
        go_upto_region 28 with fail
      case' inr.inr =>
        go_wp2_with fail
        refine (drop_any _ qb gq L hQ (by omega) id).mono ?_
        rintro e w4 ⟨rfl, hQ4, ht, -⟩
        have hB4 := bel_q hB hQ hs0 ht
        have A4 := A.turn ht n1 n3
        have hX4 := x_turn hX ht hO
        have hO4 := hO
        clear A A_c hQ hX hO hB ht n2 n3
        have A_c := A4.cell
        go_wp2_with fail
        refine (rdrop_any _ _ L hX4 hL id).mono ?_
        rintro e w5 ⟨⟨v', rfl, hX5, hv⟩, hb⟩
        have hO5 := off_x hQ4 hO4 hv
        have hQ5 := hQ4.call hb
        have A5 := A4.call hb
        have hB5 := bel_call hb hB4
        have hL5 := dropN_len L id hL
        clear hO4 hQ4 A4 A_c hB4 hX4 hb hv hL
        have A_c := A5.cell
        generalize dropN L id = L' at *
        generalize dropB L id = pb at *
        generalize dropQ L id = pq at *
        go_upto_region 28 with fail
      all_goals
        have cg := Lib.hid (get_any w5 qb _ L' hQ5 (by omega) id)
        go_wp2_with fail
        refine cg.out.mono ?_
        rintro e w6 ⟨rfl, hb⟩
        have A6 := A5.call hb
        have hQ6 := hQ5.call hb
        have hX6 := hX5.call hb
        have hB6 := bel_call hb hB5
        clear A_c A5 hQ5 hX5 hB5 hb cg
        have A_c := A6.cell
        obtain ⟨sx, cx, rfl, hxl, hxm, hxc⟩ := hX6.open
        by_cases hf : 0 ≤ findI L' id
        · obtain ⟨kk, ek, hkl⟩ := findI_pos hf
          obtain ⟨g, rfl, -, q1⟩ := hxc kk hkl
          have hgq : getQ L' id = L'[kk].2 := by
            unfold getQ
            rw [if_pos hf, ek]
            simp [List.getElem?_eq_getElem hkl]
          have hde : decide (0 ≤ findI L' id) = true := decide_eq_true hf
          have cf := Lib.hid (rfind_any w6 _ L' hX6 (by omega) id)
          rw [ek] at cf
          rw [hde, hgq]
          generalize L'[kk].2 = y at *
          have hk0 : (0 : Int) ≤ (kk : Int) := by omega
          have hk1 : (kk : Int) < (L'.length : Int) := by omega
          have hd4 : decide ((kk : Int) < 0) = false := by simp
          clear hf ek hxc hgq hde
          go_wp2_with fail
          refine cf.out.mono ?_
          rintro e w6' ⟨rfl, rfl⟩
          go_wp2_with fail
          refine (len_any _ _ _ _ hQ6).mono ?_
          rintro e w6' ⟨rfl, rfl⟩
          go_wp2_with fail
          refine (sum_any _ _ _ hQ6.isQ (by omega)).mono ?_
          rintro e w7 ⟨rfl, hb⟩
          have hQ7 := hQ6.call hb
          have hX7 := hX6.call hb
          have hB7 := bel_call hb hB6
          replace q1 := cell_call q1 hb
          clear A_c A6 hQ6 hX6 hB6 hb cf
          go_wp2_with fail
          refine (rsum_any _ _ _ hX7 (by omega)).mono ?_
          rintro e w7' ⟨rfl, rfl⟩
          go_wp2_with fail
          go_roundw
          case rel => exact ⟨j + 1, L', _, HL.out.1, HL.out.2, by go_num, hL5, hQ7, hX7, hO5, hB7⟩
          case measure => have := HL.out; simp [intOf]; omega
        · have ek := findI_neg hf
          have hgq : getQ L' id = 0 := by
            unfold getQ
            rw [if_neg hf]
          have hde : decide (0 ≤ findI L' id) = false := decide_eq_false hf
          have cf := Lib.hid (rfind_any w6 _ L' hX6 (by omega) id)
          rw [ek] at cf
          rw [hde, hgq]
          clear hf ek hxc hgq hde
          go_wp2_with fail
          refine cf.out.mono ?_
          rintro e w6' ⟨rfl, rfl⟩
          go_wp2_with fail
          refine (len_any _ _ _ _ hQ6).mono ?_
          rintro e w6' ⟨rfl, rfl⟩
          go_wp2_with fail
          refine (sum_any _ _ _ hQ6.isQ (by omega)).mono ?_
          rintro e w7 ⟨rfl, hb⟩
          have hQ7 := hQ6.call hb
          have hX7 := hX6.call hb
          have hB7 := bel_call hb hB6
          clear A_c A6 hQ6 hX6 hB6 hb cf
          go_wp2_with fail
          refine (rsum_any _ _ _ hX7 (by omega)).mono ?_
          rintro e w7' ⟨rfl, rfl⟩
          go_wp2_with fail
          go_roundw
          case rel => exact ⟨j + 1, L', _, HL.out.1, HL.out.2, by go_num, hL5, hQ7, hX7, hO5, hB7⟩
          case measure => have := HL.out; simp [intOf]; omega
    · have hd1 : (decide ((j : Int) < (len : Int)) = false ∧ ¬ j < len) ∨ (decide ((j : Int) < (len : Int)) = true ∧ j < len ∧ decide ((j : Int) < 400) = false ∧ ¬ j < 400) := by
        simp only [decide_eq_true_eq, decide_eq_false_iff_not]; omega
      clear hD hlt
      rcases hd1 with ⟨hd1, hn1⟩ | ⟨hd1, hn1, hd2, hn2⟩
      all_goals
        go_wp2_with fail
        refine (list_any _ _ L hQ.isQ (by omega)).mono ?_
        rintro e w3 ⟨v1, rfl, hO1, hb⟩
        replace hX := hX.call hb
        replace hB := bel_call hb hB
        clear hQ hb
        go_wp2_with fail
        refine (same_any _ _ _ _ L (by simpa using hO1) hX (by omega)).mono ?_
        rintro e w4 ⟨rfl, hb⟩
        replace hB := bel_call hb hB
        go_wp2_with fail
        go_ret
        exact ⟨rfl, hB⟩
end Go.Proofs.Ytkebpibcoklglaa
