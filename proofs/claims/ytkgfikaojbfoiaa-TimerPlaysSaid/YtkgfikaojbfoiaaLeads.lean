/-
  The law TimerLeads: plain lemmas on who leads and who are suspects, and the walk. For every input it returns true.
-/
import Derived.Test.YtkgfikaojbfoiaaTicks
namespace Go.Proofs.Ytkgfikaojbfoiaa
open Go.RowKit
set_option linter.unusedSimpArgs false
set_option linter.unusedVariables false

theorem lead_spec (p : Int) (s : Nat → Int) (n m : Nat) (hm : m < n) (hs : s m ≤ p) : ∃ L : Nat, lead p s n = L ∧ L < n ∧ s L ≤ p ∧ ∀ i, i < L → p < s i := by
  induction n with
  | zero => omega
  | succ k ih =>
    by_cases h : ∃ i, i < k ∧ s i ≤ p
    · obtain ⟨i, hi, hp⟩ := h
      have : ∃ L : Nat, L < k ∧ s L ≤ p ∧ ∀ i, i < L → p < s i := by
        clear ih hm
        induction i using Nat.strongRecOn with
        | _ i ih2 =>
          by_cases h2 : ∃ j, j < i ∧ s j ≤ p
          · obtain ⟨j, hj, hpj⟩ := h2
            exact ih2 j hj (by omega) hpj
          · exact ⟨i, hi, hp, fun j hj => by
              by_cases h3 : p < s j
              · exact h3
              · exact absurd ⟨j, hj, by omega⟩ h2⟩
      obtain ⟨L, hL, hLp, hall⟩ := this
      exact ⟨L, lead_hit p s (k + 1) L (by omega) hall hLp, by omega, hLp, hall⟩
    · have hall : ∀ i, i < k → p < s i := fun i hi => by
        by_cases h3 : p < s i
        · exact h3
        · exact absurd ⟨i, hi, by omega⟩ h
      have hmk : m = k := by
        by_cases e : m < k
        · have := hall m e; omega
        · omega
      subst hmk
      exact ⟨m, lead_hit p s (m + 1) m (by omega) hall hs, by omega, hs, hall⟩
theorem susp_split (p : Int) (s : Nat → Int) (n L : Nat) (hL : L < n) (hp : s L ≤ p) (hall : ∀ i, i < L → p < s i) :
    ∃ rest : List Int, susp p s n = (List.range L).map (fun (i : Nat) => (i : Int)) ++ rest ∧ ∀ x ∈ rest, (L : Int) < x := by
  induction n with
  | zero => omega
  | succ k ih =>
    by_cases e : L = k
    · subst e
      refine ⟨[], ?_, fun x hx => by cases hx⟩
      rw [susp_miss p s L (by omega), List.append_nil]
      unfold susp
      rw [List.filter_eq_self.2 (fun i hi => by simpa using hall i (by simpa using hi))]
    · obtain ⟨rest, h1, h2⟩ := ih (by omega)
      by_cases h3 : p < s k
      · refine ⟨rest ++ [(k : Int)], by rw [susp_hit p s k h3, h1, List.append_assoc], fun x hx => ?_⟩
        rcases List.mem_append.1 hx with hx | hx
        · exact h2 x hx
        · rw [List.mem_singleton] at hx; omega
      · exact ⟨rest, by rw [susp_miss p s k h3, h1], h2⟩
/-- what the law asks of the list. -/
theorem susp_at (p : Int) (s : Nat → Int) (n L : Nat) (hL : L < n) (hp : s L ≤ p) (hall : ∀ i, i < L → p < s i) :
    L ≤ (susp p s n).length ∧ (∀ k, k < L → (susp p s n).getD k 0 = (k : Int)) ∧ (L < (susp p s n).length → (susp p s n).getD L 0 ≠ (L : Int)) := by
  obtain ⟨rest, h1, h2⟩ := susp_split p s n L hL hp hall
  rw [h1]
  refine ⟨by simp, fun k hk => ?_, fun h => ?_⟩
  · simp [List.getElem?_append, hk]
  · have hl : 0 < rest.length := by simp at h; omega
    have hx := h2 (rest[0]) (List.getElem_mem hl)
    simp [List.getElem?_append, List.getElem?_eq_getElem hl]
    omega

theorem susp_none (p : Int) (s : Nat → Int) (n : Nat) (h : ∀ i, i < n → s i ≤ p) : susp p s n = [] := by
  unfold susp
  rw [List.filter_eq_nil_iff.2 (fun i hi => by have := h i (by simpa using hi); simp; omega)]
  rfl
theorem tick_me (m : Nat) (s : Nat → Int) (n : Nat) (h : s m = 0) : tickK m s n m = 0 := by unfold tickK; rw [if_neg (by omega), h]
theorem upd_me (s : Nat → Int) (m k : Nat) (h : s m = 0) : upd s k 0 m = 0 := by unfold upd; split <;> first | rfl | exact h
theorem heard_at (w : World) (b : Nat) (me n p : Int) (s : Nat → Int) (h : WatchAt w b me n p s) (site : Int) (h0 : 0 ≤ site) (h1 : site < n) (hn : n ≤ 7) :
    Calls Try.prog 14 #[.pointer (some ⟨b, 0, none⟩), .int .i64 site] w fun e w' => e = .returned (.tuple #[]) ∧ WatchAt w' b me n p (upd s site.toNat 0) ∧ w.grownBy w' (some b) := by
  obtain ⟨k, rfl⟩ : ∃ k : Nat, site = k := ⟨site.toNat, by omega⟩
  refine (heard_in w b me n p s h k h1 hn).mono ?_
  rintro e w' ⟨he, rfl⟩
  rw [Int.toNat_natCast]
  exact ⟨he, h.set k (by omega) 0, gr_set (gr_refl _ _) _ _ (.inl rfl)⟩
set_option maxRecDepth 100000 in
set_option maxHeartbeats 4000000 in
theorem leads_walk (x y z : Int) (sa : Option Addr) (len cap : Nat) (D : Nat → Nat → Int) (w : World) (gx : (Lit.int .u8 x).wf = true) (gy : (Lit.int .u8 y).wf = true) (gz : (Lit.int .u8 z).wf = true) (hD : RowsOf w sa len cap 1 (fun _ => .u8) D) :
    Calls Try.prog 6 #[.agg #[.int .u8 x, .int .u8 y, .int .u8 z], .slice sa len cap] w fun e w' => e = .returned (.bool true) ∧ Below w.heap.size w w' := by
  have bx := bounds_u8 gx; have by' := bounds_u8 gy; have bz := bounds_u8 gz
  clear gx gy gz
  have hlen : len ≤ 9223372036854775807 := by have := hD.lenCap; have := hD.capMax; unfold maxLen at this; omega
  obtain ⟨n, m, hn, hm, hn1, hn7, hmn⟩ := pick_nm x y bx.1 by'.1
  obtain ⟨p, hp⟩ : ∃ p, p = 1 + z % 50 := ⟨_, rfl⟩
  have hp0 : 0 ≤ p := by have := Int.emod_nonneg z (b := 50) (by omega); omega
  have hB := bel_refl w
  have HN := Lib.hid hn; have HM := Lib.hid hm; have HP := Lib.hid hp
  clear hn hm hp
  go_enter Try.func6, Try.ntmps6
  go_wp2_with fail
  refine (awake_any _).mono ?_
  rintro e w1 ⟨rfl, hb⟩
  have C : Blk w1 w.heap.size _ := Blk.call (by first | exact (Blk.new _ _ _) | exact (Blk.new _ _ _).alloc _ | exact ((Blk.new _ _ _).alloc _).alloc _ | exact (((Blk.new _ _ _).alloc _).alloc _).alloc _ | exact (Blk.new _ _ _).drew | exact ((Blk.new _ _ _).alloc _).drew | exact (((Blk.new _ _ _).alloc _).alloc _).drew) hb
  replace hB := bel_call hb (by first | exact hB | exact bel_alloc hB _ | exact bel_alloc (bel_alloc hB _) _ | exact bel_alloc (bel_alloc (bel_alloc hB _) _) _ | exact bel_drew hB | exact bel_drew (bel_alloc hB _) | exact bel_drew (bel_alloc (bel_alloc hB _) _))
  clear hb
  have C_c := C.cell; have C_f := C.free; have C_l := C.lt
  go_wp2_with fail
  refine (watch_any _ x y z bx by' bz n HN.out m HM.out p HP.out).mono ?_
  rintro e w2 ⟨rfl, hw, hb⟩
  clear C_c C_f C_l C
  have hbb : w.heap.size ≤ w1.heap.size := hB.size
  replace hB := bel_call hb hB
  clear hb
  go_wp2_with fail
  go_loopw [9] (fun i wr => ∃ (k : Nat) (s : Nat → Int), k ≤ len ∧ k ≤ 200 ∧ i = .int .i64 k ∧ WatchAt wr w1.heap.size m n p s ∧ s m = 0 ∧ (∀ j, j < 7 → 0 ≤ s j) ∧ Below w.heap.size w wr) (fun i _ => len - (intOf i).toNat)
  case atStart => exact ⟨0, _, by omega, by omega, rfl, hw, rfl, fun _ _ => Int.le_refl _, hB⟩
  case round =>
    obtain ⟨k, s, hk, hk2, rfl, hwr, hsm, hs0, hBr⟩ := hrel
    by_cases hlt : k < len
    · by_cases hlt2 : k < 200
      · obtain ⟨b, off, rfl, hcell⟩ := hD.cells (by omega)
        have d0 : w.cell? ⟨b, off + k, none⟩ = some (.int .u8 (D k 0)) := by have := hcell k hlt 0 (by omega); simpa using this
        have c0 := cell_call d0 hBr
        obtain ⟨t0, t1⟩ := bounds_u8 (hD.wf k hlt 0 (by omega))
        have hi0 : (0 : Int) ≤ (k : Int) := by omega
        have hi1 : (k : Int) < (len : Int) := by omega
        clear d0 hcell hD
        generalize D k 0 = t at *
        have Hsm := Lib.hid hsm; have Hs0 := Lib.hid hs0
        clear hsm hs0
        go_upto_if 42 with fail
        go_cut [] (fun wx => ∃ s' : Nat → Int, WatchAt wx w1.heap.size m n p s' ∧ s' m = 0 ∧ (∀ j, j < 7 → 0 ≤ s' j) ∧ Below w.heap.size w wx)
        case first =>
          by_cases ht : t < 64
          · have hh1 : 0 ≤ t % (n : Int) := Int.emod_nonneg t (by omega)
            have hh2 : t % (n : Int) < n := Int.emod_lt_of_pos _ (by omega)
            go_wp2_with fail
            refine (heard_at _ _ m n p _ hwr _ (by first | exact hh1 | omega) (by first | exact hh2 | omega) (by omega)).mono ?_
            rintro e w3 ⟨rfl, hw3, hg⟩
            have HX := Lib.hid (upd_ge s (t % (n : Int)).toNat Hs0.out)
            go_wp2_with fail
            go_meet
            exact ⟨_, hw3, upd_me _ _ _ Hsm.out, HX.out, bel_grown hg hBr (fun j hj => by cases hj; exact hbb)⟩
          · go_wp2_with fail
            refine (tick_any _ _ m p n _ hwr hn7 Hs0.out).mono ?_
            rintro e w3 ⟨rfl, hw3, hg⟩
            have HX := Lib.hid (tickK_ge m s n Hs0.out)
            go_wp2_with fail
            go_meet
            exact ⟨_, hw3, tick_me _ _ _ Hsm.out, HX.out, bel_grown hg hBr (fun j hj => by cases hj; exact hbb)⟩
        case rest =>
          obtain ⟨s', hw', hsm', hs0', hB'⟩ := hcut
          obtain ⟨L, hL, hLn, hLp, hLall⟩ := lead_spec p s' n m (by omega) (by omega)
          obtain ⟨q1, q2, q3⟩ := susp_at p s' n L hLn hLp hLall
          have HL := Lib.hid hL; have Hall := Lib.hid hLall; have Hsm' := Lib.hid hsm'; have Hs0' := Lib.hid hs0'; have Q2 := Lib.hid q2; have Q3 := Lib.hid q3
          clear hL hLall hsm' hs0' q2 q3
          go_wp2_with fail
          refine (leader_any _ _ m p n _ hw' hn7).mono ?_
          rintro e w4 ⟨rfl, hb⟩
          rw [HL.out]
          replace hw' := hw'.call hb
          replace hB' := bel_call hb hB'
          clear hb
          go_wp2_with fail
          refine (suspects_any _ _ m p n _ hw' hn7).mono ?_
          rintro e w5 ⟨v, rfl, hown, hb⟩
          replace hw' := hw'.call hb
          replace hB' := bel_call hb hB'
          have hsz4 := w4.heap.size
          obtain ⟨sl, cl, rfl, hrow⟩ := own_open hown
          clear hb hown
          generalize susp p s' n = xs at *
          have hL0 : (0 : Int) ≤ (L : Int) := by omega
          have hLn' : (L : Int) < (n : Int) := by omega
          have hLx : (L : Int) ≤ (xs.length : Int) := by omega
          go_wp2_with fail
          go_loop [12] (fun i => ∃ j : Nat, j ≤ L ∧ i = .int .i64 j) (fun i => L - (intOf i).toNat)
          case atStart => exact ⟨0, by omega, rfl⟩
          case round =>
            obtain ⟨j, hj, rfl⟩ := hrel
            by_cases hjl : j < L
            · obtain ⟨g, hg, hg1, hg2, hg3⟩ := hrow.cells (by omega)
              have cj : w5.cell? ⟨g, j, none⟩ = some (.int .i64 (j : Int)) := by rw [hg3 j (by omega), Q2.out j hjl]
              have hj0 : (0 : Int) ≤ (j : Int) := by omega
              have hj1 : (j : Int) < (xs.length : Int) := by omega
              have HR := Lib.hid hrow
              clear hg3 hrow
              subst hg
              go_wp2
              go_round
              case rel => exact ⟨j + 1, by omega, by go_num⟩
              case measure => simp [intOf]; omega
            · have hj' : j = L := by omega
              subst hj'
              by_cases hx : j < xs.length
              · obtain ⟨g, hg, hg1, hg2, hg3⟩ := hrow.cells (by omega)
                have cj := hg3 j hx
                have hne : (xs.getD j 0 == (j : Int)) = false := by simpa using Q3.out hx
                have hj1 : (j : Int) < (xs.length : Int) := by omega
                clear hg3 hrow
                subst hg
                generalize xs.getD j 0 = xj at *
                go_wp2
                go_roundw
                case rel => exact ⟨k + 1, s', by omega, by omega, by go_num, hw', Hsm'.out, Hs0'.out, hB'⟩
                case measure => simp [intOf]; omega
              · clear hrow
                go_wp2
                go_roundw
                case rel => exact ⟨k + 1, s', by omega, by omega, by go_num, hw', Hsm'.out, Hs0'.out, hB'⟩
                case measure => simp [intOf]; omega
      · have hd : decide ((k : Int) < 200) = false := by simp; omega
        go_wp2_with fail
        go_loopw [13] (fun i wx => ∃ (j : Nat) (s' : Nat → Int), j ≤ n ∧ i = .int .i64 j ∧ WatchAt wx w1.heap.size m n p s' ∧ (∀ i, i < j → s' i = 0) ∧ Below w.heap.size w wx) (fun i _ => n - (intOf i).toNat)
        case atStart => exact ⟨0, s, by omega, rfl, hwr, fun i hi => absurd hi (by omega), hBr⟩
        case round =>
          obtain ⟨j, s', hj, rfl, hwj, hall, hBj⟩ := hrel
          have Hall := Lib.hid hall
          clear hall
          by_cases hjn : j < n
          · go_wp2_with fail
            refine (heard_at _ _ m n p _ hwj _ (by omega) (by omega) (by omega)).mono ?_
            rintro e w3 ⟨rfl, hw3, hg⟩
            rw [Int.toNat_natCast] at hw3
            have HX := Lib.hid (show ∀ i, i < j + 1 → upd s' j 0 i = 0 from fun i hi => by unfold upd; split; rfl; exact Hall.out i (by omega))
            go_wp2_with fail
            go_roundw
            case rel => exact ⟨j + 1, _, by omega, by go_num, hw3, HX.out, bel_grown hg hBj (fun q hq => by cases hq; exact hbb)⟩
            case measure => simp [intOf]; omega
          · have hj' : j = n := by omega
            subst hj'
            have HL := Lib.hid (lead_hit p s' j 0 (by omega) (fun i hi => absurd hi (by omega)) (by rw [Hall.out 0 (by omega)]; exact hp0))
            have HS := Lib.hid (susp_none p s' j (fun i hi => by rw [Hall.out i hi]; exact hp0))
            go_wp2_with fail
            refine (leader_any _ _ m p j _ hwj hn7).mono ?_
            rintro e w4 ⟨rfl, hb⟩
            rw [HL.out]
            replace hwj := hwj.call hb
            replace hBj := bel_call hb hBj
            clear hb
            go_wp2_with fail
            refine (suspects_any _ _ m p j _ hwj hn7).mono ?_
            rintro e w5 ⟨v, rfl, hown, hb⟩
            rw [HS.out] at hown
            obtain ⟨sl, cl, rfl, hrow⟩ := own_open (xs := []) hown
            replace hBj := bel_call hb hBj
            clear hb hown
            go_wp2
            go_ret
            exact ⟨rfl, hBj⟩
    · have hd : decide ((k : Int) < (len : Int)) = false := by simp; omega
      go_wp2_with fail
      go_loopw [13] (fun i wx => ∃ (j : Nat) (s' : Nat → Int), j ≤ n ∧ i = .int .i64 j ∧ WatchAt wx w1.heap.size m n p s' ∧ (∀ i, i < j → s' i = 0) ∧ Below w.heap.size w wx) (fun i _ => n - (intOf i).toNat)
      case atStart => exact ⟨0, s, by omega, rfl, hwr, fun i hi => absurd hi (by omega), hBr⟩
      case round =>
        obtain ⟨j, s', hj, rfl, hwj, hall, hBj⟩ := hrel
        have Hall := Lib.hid hall
        clear hall
        by_cases hjn : j < n
        · go_wp2_with fail
          refine (heard_at _ _ m n p _ hwj _ (by omega) (by omega) (by omega)).mono ?_
          rintro e w3 ⟨rfl, hw3, hg⟩
          rw [Int.toNat_natCast] at hw3
          have HX := Lib.hid (show ∀ i, i < j + 1 → upd s' j 0 i = 0 from fun i hi => by unfold upd; split; rfl; exact Hall.out i (by omega))
          go_wp2_with fail
          go_roundw
          case rel => exact ⟨j + 1, _, by omega, by go_num, hw3, HX.out, bel_grown hg hBj (fun q hq => by cases hq; exact hbb)⟩
          case measure => simp [intOf]; omega
        · have hj' : j = n := by omega
          subst hj'
          have HL := Lib.hid (lead_hit p s' j 0 (by omega) (fun i hi => absurd hi (by omega)) (by rw [Hall.out 0 (by omega)]; exact hp0))
          have HS := Lib.hid (susp_none p s' j (fun i hi => by rw [Hall.out i hi]; exact hp0))
          go_wp2_with fail
          refine (leader_any _ _ m p j _ hwj hn7).mono ?_
          rintro e w4 ⟨rfl, hb⟩
          rw [HL.out]
          replace hwj := hwj.call hb
          replace hBj := bel_call hb hBj
          clear hb
          go_wp2_with fail
          refine (suspects_any _ _ m p j _ hwj hn7).mono ?_
          rintro e w5 ⟨v, rfl, hown, hb⟩
          rw [HS.out] at hown
          obtain ⟨sl, cl, rfl, hrow⟩ := own_open (xs := []) hown
          replace hBj := bel_call hb hBj
          clear hb hown
          go_wp2
          go_ret
          exact ⟨rfl, hBj⟩
end Go.Proofs.Ytkgfikaojbfoiaa
