/-
  The law TimerSilent: plain lemmas. (The walk is under way.)
-/
import Derived.Test.YtkgfikaojbfoiaaHeard
namespace Go.Proofs.Ytkgfikaojbfoiaa
open Go.RowKit
set_option linter.unusedSimpArgs false
set_option linter.unusedVariables false
theorem mem_susp (p : Int) (s : Nat → Int) (n q : Nat) (hq : q < n) (h : p < s q) : (q : Int) ∈ susp p s n := by
  unfold susp
  exact List.mem_map.2 ⟨q, List.mem_filter.2 ⟨by simpa using hq, by simpa using h⟩, rfl⟩
theorem susp_silI (p : Int) (m n : Nat) (i : Int) (h0 : 0 ≤ i) (hi : i ≤ p) : susp p (silI m n i) n = [] :=
  susp_none p _ n (fun j hj => by unfold silI; split <;> omega)
/-- is q among the first j? -/
def seen (xs : List Int) (q : Int) (j : Nat) : Bool := (xs.take j).any (· == q)
theorem seen_zero (xs : List Int) (q : Int) : seen xs q 0 = false := by simp [seen]
theorem seen_succ (xs : List Int) (q : Int) (j : Nat) (hj : j < xs.length) : seen xs q (j + 1) = (seen xs q j || (xs.getD j 0 == q)) := by
  unfold seen
  rw [List.take_succ_eq_append_getElem hj, List.any_append, List.getD_eq_getElem?_getD, List.getElem?_eq_getElem hj]
  simp
theorem seen_all (xs : List Int) (q : Int) : seen xs q xs.length = decide (q ∈ xs) := by
  unfold seen
  rw [List.take_length, Bool.eq_iff_iff]
  simp

theorem susp_iff (p : Int) (s : Nat → Int) (n m q : Nat) (hp : 0 ≤ p) (hq : q < n) (hm : s m = 0) (hs : q ≠ m → p < s q) : seen (susp p s n) q (susp p s n).length = !decide (q = m) := by
  rw [seen_all]
  by_cases e : q = m
  · subst e
    have : ¬ (q : Int) ∈ susp p s n := fun h => by
      obtain ⟨i, hi, he, hpi⟩ := susp_mem p s n _ h
      obtain rfl : i = q := by omega
      omega
    simp [this]
  · have := mem_susp p s n q hq (hs e)
    simp [this, e]
set_option maxRecDepth 100000 in
set_option maxHeartbeats 16000000 in
theorem silent_walk (x y z : Int) (sa : Option Addr) (len cap : Nat) (D : Nat → Nat → Int) (more : Int) (w : World) (gx : (Lit.int .u8 x).wf = true) (gy : (Lit.int .u8 y).wf = true) (gz : (Lit.int .u8 z).wf = true) (hD : RowsOf w sa len cap 1 (fun _ => .u8) D) (gw : (Lit.int .u8 more).wf = true) :
    Calls Try.prog 5 #[.agg #[.int .u8 x, .int .u8 y, .int .u8 z], .slice sa len cap, .int .u8 more] w fun e w' => e = .returned (.bool true) ∧ Below w.heap.size w w' := by
  have bx := bounds_u8 gx; have by' := bounds_u8 gy; have bz := bounds_u8 gz; have bw := bounds_u8 gw
  clear gx gy gz gw
  have hlen : len ≤ 9223372036854775807 := by have := hD.lenCap; have := hD.capMax; unfold maxLen at this; omega
  obtain ⟨n, m, hn, hm, hn1, hn7, hmn⟩ := pick_nm x y bx.1 by'.1
  obtain ⟨p, hp⟩ : ∃ p, p = 1 + z % 50 := ⟨_, rfl⟩
  have hp0 : 1 ≤ p ∧ p ≤ 50 := by have := Int.emod_nonneg z (b := 50) (by omega); have := Int.emod_lt_of_pos z (b := 50) (by omega); omega
  obtain ⟨q, hq⟩ : ∃ q : Nat, more % (n : Int) = (q : Int) := ⟨(more % (n : Int)).toNat, by have := Int.emod_nonneg more (b := (n : Int)) (by omega); omega⟩
  have hqn : (q : Int) < n := by rw [← hq]; exact Int.emod_lt_of_pos _ (by omega)
  have hB := bel_refl w
  have HN := Lib.hid hn; have HM := Lib.hid hm; have HP := Lib.hid hp
  have hmm : x % (n : Int) = (m : Int) := hm.symm
  clear hn hm hp
  go_enter Try.func5, Try.ntmps5
  go_wp2_with fail
  refine (awake_any _).mono ?_
  rintro e w1 ⟨rfl, hb⟩
  have C : Blk w1 w.heap.size _ := Blk.call (by first | exact (Blk.new _ _ _) | exact (Blk.new _ _ _).alloc _ | exact ((Blk.new _ _ _).alloc _).alloc _ | exact (((Blk.new _ _ _).alloc _).alloc _).alloc _ | exact (Blk.new _ _ _).drew | exact ((Blk.new _ _ _).alloc _).drew | exact (((Blk.new _ _ _).alloc _).alloc _).drew) hb
  replace hB := bel_call hb (by first | exact hB | exact bel_alloc hB _ | exact bel_alloc (bel_alloc hB _) _ | exact bel_alloc (bel_alloc (bel_alloc hB _) _) _ | exact bel_drew hB | exact bel_drew (bel_alloc hB _) | exact bel_drew (bel_alloc (bel_alloc hB _) _))
  clear hb
  have C_c := C.cell; have C_f := C.free; have C_l := C.lt
  go_wp2_with fail
  refine (watch_any _ x y z bx by' bz n HN.out m HM.out p HP.out).mono ?_
  rintro e w2 ⟨rfl, hw, hb⟩
  clear C_c C_f C_l
  replace C := C.call hb
  have C_c := C.cell; have C_f := C.free
  have hbb : w.heap.size ≤ w1.heap.size := hB.size
  replace hB := bel_call hb hB
  clear hb
  go_wp2_with fail
  simp only [hq, hmm]
  clear hq hmm C_c C_f C
  go_loopw [13] (fun i wr => ∃ k : Nat, (k : Int) ≤ p + 1 ∧ i = .int .i64 k ∧ WatchAt wr w1.heap.size m n p (silI m n k) ∧ Below w.heap.size w wr) (fun i _ => (p + 1).toNat - (intOf i).toNat)
  case atStart => exact ⟨0, by omega, rfl, by rw [show ((0 : Nat) : Int) = 0 from rfl, silI_zero]; exact hw, hB⟩
  case round =>
    obtain ⟨k, hk, rfl, hwr, hBr⟩ := hrel
    by_cases hlt : (k : Int) < p + 1
    · go_wp2_with fail
      refine (suspects_any _ _ m p n _ hwr hn7).mono ?_
      rintro e w3 ⟨v, rfl, hown, hb⟩
      rw [susp_silI p m n k (by omega) (by omega)] at hown
      obtain ⟨sl, cl, rfl, hrow⟩ := own_open (xs := []) hown
      replace hwr := hwr.call hb
      replace hBr := bel_call hb hBr
      clear hb hown hrow
      go_wp2_with fail
      refine (tick_any _ _ m p n _ hwr hn7 (silI_ge _ _ _ (by omega))).mono ?_
      rintro e w4 ⟨rfl, hw4, hg⟩
      rw [tick_silI m n k (by omega) (by omega)] at hw4
      go_wp2_with fail
      go_roundw
      case rel => exact ⟨k + 1, by omega, by go_num, hw4, bel_grown hg hBr (fun j hj => by cases hj; exact hbb)⟩
      case measure => simp [intOf]; omega
    · have hkp : (k : Int) = p + 1 := by omega
      have hq1 : q ≠ m → p < silI m n k q := fun h => by unfold silI; rw [if_pos ⟨by omega, by omega⟩]; omega
      have hm1 : silI m n k m = 0 := by unfold silI; rw [if_neg (by omega)]
      have hg1 := silI_ge m n k (by omega)
      generalize silI m n k = s0 at *
      have H1 := Lib.hid hq1; have H2 := Lib.hid hm1; have H3 := Lib.hid hg1
      clear hkp hq1 hm1 hg1
      go_wp2_with fail
      go_loopw [14] (fun i wx => ∃ (j : Nat) (s : Nat → Int), j ≤ len ∧ j ≤ 50 ∧ i = .int .i64 j ∧ WatchAt wx w1.heap.size m n p s ∧ s m = 0 ∧ (q ≠ m → p < s q) ∧ (∀ j, j < 7 → 0 ≤ s j) ∧ Below w.heap.size w wx) (fun i _ => len - (intOf i).toNat)
      case atStart => exact ⟨0, s0, by omega, by omega, rfl, hwr, H2.out, H1.out, H3.out, hBr⟩
      case round =>
        clear hwr hBr H1 H2 H3
        obtain ⟨j, s, hj, hj2, rfl, hwx, hsm, hsq, hs0, hBx⟩ := hrel
        have Hsm := Lib.hid hsm; have Hs0 := Lib.hid hs0; have Hsq := Lib.hid hsq
        clear hsm hs0 hsq
        by_cases hlj : j < len
        · by_cases hlj2 : j < 50
          · obtain ⟨b, off, rfl, hcell⟩ := hD.cells (by omega)
            have d0 : w.cell? ⟨b, off + j, none⟩ = some (.int .u8 (D j 0)) := by have := hcell j hlj 0 (by omega); simpa using this
            have c0 := cell_call d0 hBx
            obtain ⟨t0, t1⟩ := bounds_u8 (hD.wf j hlj 0 (by omega))
            have hi0 : (0 : Int) ≤ (j : Int) := by omega
            have hi1 : (j : Int) < (len : Int) := by omega
            have hd1 : decide ((j : Int) < 50) = true := by simp; omega
            have hd2 : decide ((j : Int) < (len : Int)) = true := by simp; omega
            clear d0 hcell hD
            generalize D j 0 = t at *
            have hh1 : 0 ≤ t % (n : Int) := Int.emod_nonneg t (by omega)
            have hh2 : t % (n : Int) < n := Int.emod_lt_of_pos _ (by omega)
            go_upto_if 71 with fail
            go_cut [] (fun wy => ∃ s' : Nat → Int, WatchAt wy w1.heap.size m n p s' ∧ s' m = 0 ∧ (q ≠ m → p < s' q) ∧ (∀ j, j < 7 → 0 ≤ s' j) ∧ Below w.heap.size w wy)
            case first =>
              by_cases ht : t % (n : Int) = (q : Int)
              · have e1 : (t % (n : Int) == (q : Int)) = true := by simp [ht]
                have e2 : (t % (n : Int) != (q : Int)) = false := by simp [ht]
                clear ht
                go_wp2_with fail
                refine (tick_any _ _ m p n _ hwx hn7 Hs0.out).mono ?_
                rintro e w3 ⟨rfl, hw3, hg⟩
                have HX := Lib.hid (tickK_ge m s n Hs0.out)
                have HY := Lib.hid (show q ≠ m → p < tickK m s n q from fun h => by have := Hsq.out h; unfold tickK; split <;> omega)
                go_wp2_with fail
                go_meet
                exact ⟨_, hw3, tick_me _ _ _ Hsm.out, HY.out, HX.out, bel_grown hg hBx (fun j hj => by cases hj; exact hbb)⟩
              · have e1 : (t % (n : Int) == (q : Int)) = false := by simp [ht]
                have e2 : (t % (n : Int) != (q : Int)) = true := by simp [ht]
                have HT := Lib.hid ht
                clear ht
                go_wp2_with fail
                refine (heard_at _ _ m n p _ hwx _ (by first | exact hh1 | omega) (by first | exact hh2 | omega) (by omega)).mono ?_
                rintro e w3 ⟨rfl, hw3, hg⟩
                have HX := Lib.hid (upd_ge s (t % (n : Int)).toNat Hs0.out)
                have HY := Lib.hid (show q ≠ m → p < upd s (t % (n : Int)).toNat 0 q from fun h => by have := Hsq.out h; unfold upd; rw [if_neg (by intro e; exact HT.out (by omega))]; exact this)
                go_wp2_with fail
                go_meet
                exact ⟨_, hw3, upd_me _ _ _ Hsm.out, HY.out, HX.out, bel_grown hg hBx (fun j hj => by cases hj; exact hbb)⟩
            case rest =>
              obtain ⟨s', hw', hsm', hsq', hs0', hB'⟩ := hcut
              have HQ := Lib.hid (susp_iff p s' n m q (by omega) (by omega) hsm' hsq')
              have Hsm' := Lib.hid hsm'; have Hs0' := Lib.hid hs0'; have Hsq' := Lib.hid hsq'
              clear hsm' hs0' hsq'
              go_wp2_with fail
              refine (suspects_any _ _ m p n _ hw' hn7).mono ?_
              rintro e w5 ⟨v, rfl, hown, hb⟩
              replace hw' := hw'.call hb
              replace hB' := bel_call hb hB'
              obtain ⟨sl, cl, rfl, hrow⟩ := own_open hown
              clear hb hown
              generalize susp p s' n = xs at *
              have hxl : (xs.length : Int) ≤ 9223372036854775807 := by have := hrow.len; unfold maxLen at this; omega
              go_wp2_with fail
              go_loop [16, 17] (fun f i => ∃ c : Nat, c ≤ xs.length ∧ i = .int .i64 c ∧ f = .bool (seen xs q c)) (fun _ i => xs.length - (intOf i).toNat)
              case atStart => exact ⟨0, by omega, rfl, by rw [seen_zero]⟩
              case round =>
                obtain ⟨c, hc, rfl, rfl⟩ := hrel
                by_cases hcl : c < xs.length
                · obtain ⟨g, hg, hg1, hg2, hg3⟩ := hrow.cells (by omega)
                  have cj := hg3 c hcl
                  have HS := Lib.hid (seen_succ xs q c hcl)
                  have hj0 : (0 : Int) ≤ (c : Int) := by omega
                  have hj1 : (c : Int) < (xs.length : Int) := by omega
                  clear hg3 hrow
                  subst hg
                  generalize xs.getD c 0 = xj at *
                  cases hsn : seen xs q c with
                  | true =>
                    go_wp2
                    go_round
                    case rel => exact ⟨c + 1, by omega, by go_num, by rw [HS.out, hsn]; rfl⟩
                    case measure => simp [intOf]; omega
                  | false =>
                    go_wp2
                    go_round
                    case rel => exact ⟨c + 1, by omega, by go_num, by rw [HS.out, hsn]; rfl⟩
                    case measure => simp [intOf]; omega
                · have hc' : c = xs.length := by omega
                  subst hc'
                  clear hrow
                  rw [HQ.out]
                  by_cases hqm : q = m
                  · have e0 : decide (q = m) = true := decide_eq_true hqm
                    have e1 : ((q : Int) == (m : Int)) = true := by simp [hqm]
                    have e2 : ((q : Int) != (m : Int)) = false := by simp [hqm]
                    have Hqm := Lib.hid hqm
                    clear hqm
                    rw [e0]
                    go_wp2
                    go_roundw
                    case rel => exact ⟨j + 1, s', by omega, by omega, by go_num, hw', Hsm'.out, Hsq'.out, Hs0'.out, hB'⟩
                    case measure => simp [intOf]; omega
                  · have e0 : decide (q = m) = false := decide_eq_false hqm
                    have e1 : ((q : Int) == (m : Int)) = false := by simp; omega
                    have e2 : ((q : Int) != (m : Int)) = true := by simp; omega
                    clear hqm
                    rw [e0]
                    go_wp2
                    go_roundw
                    case rel => exact ⟨j + 1, s', by omega, by omega, by go_num, hw', Hsm'.out, Hsq'.out, Hs0'.out, hB'⟩
                    case measure => simp [intOf]; omega
          · have hd : decide ((j : Int) < 50) = false := by simp; omega
            have hd2 : decide ((j : Int) < (len : Int)) = true := by simp; omega
            go_wp2_with fail
            refine (silent_any _ _ (m : Int) (n : Int) p _ hwx (m : Int) (by omega)).mono ?_
            rintro e w9 ⟨rfl, rfl⟩
            have e9 : silentF n s m = 0 := (silentF_at n s m hmn).trans Hsm.out
            rw [e9]
            go_wp2_with fail
            go_ret
            exact ⟨rfl, hBx⟩
        · have hd : decide ((j : Int) < (len : Int)) = false := by simp; omega
          go_wp2_with fail
          refine (silent_any _ _ (m : Int) (n : Int) p _ hwx (m : Int) (by omega)).mono ?_
          rintro e w9 ⟨rfl, rfl⟩
          have e9 : silentF n s m = 0 := (silentF_at n s m hmn).trans Hsm.out
          rw [e9]
          go_wp2_with fail
          go_ret
          exact ⟨rfl, hBx⟩
end Go.Proofs.Ytkgfikaojbfoiaa
