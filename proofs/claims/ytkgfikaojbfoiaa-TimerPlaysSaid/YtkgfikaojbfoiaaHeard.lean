/-
  The law TimerHeard: the walk. For every input it returns true.
-/
import Derived.Test.YtkgfikaojbfoiaaLeads
namespace Go.Proofs.Ytkgfikaojbfoiaa
open Go.RowKit
set_option linter.unusedSimpArgs false
set_option linter.unusedVariables false

theorem susp_mem (p : Int) (s : Nat → Int) (n : Nat) (x : Int) (h : x ∈ susp p s n) : ∃ i : Nat, i < n ∧ x = i ∧ p < s i := by
  unfold susp at h
  obtain ⟨i, hi, rfl⟩ := List.mem_map.1 h
  rw [List.mem_filter] at hi
  exact ⟨i, by simpa using hi.1, rfl, by simpa using hi.2⟩
theorem susp_getD (p : Int) (s : Nat → Int) (n : Nat) (j : Nat) (hj : j < (susp p s n).length) : ∃ i : Nat, i < n ∧ (susp p s n).getD j 0 = i ∧ p < s i := by
  refine susp_mem p s n _ ?_
  rw [List.getD_eq_getElem?_getD, List.getElem?_eq_getElem hj]
  exact List.getElem_mem hj
theorem tick_le (me : Int) (s : Nat → Int) (n j : Nat) : tickK me s n j ≤ s j + 1 := by unfold tickK; split <;> omega
set_option maxRecDepth 100000 in
set_option maxHeartbeats 4000000 in
theorem heard_walk (x y z who : Int) (sa : Option Addr) (len cap : Nat) (D : Nat → Nat → Int) (w : World) (gx : (Lit.int .u8 x).wf = true) (gy : (Lit.int .u8 y).wf = true) (gz : (Lit.int .u8 z).wf = true) (gw : (Lit.int .u8 who).wf = true) (hD : RowsOf w sa len cap 1 (fun _ => .u8) D) :
    Calls Try.prog 4 #[.agg #[.int .u8 x, .int .u8 y, .int .u8 z], .int .u8 who, .slice sa len cap] w fun e w' => e = .returned (.bool true) ∧ Below w.heap.size w w' := by
  have bx := bounds_u8 gx; have by' := bounds_u8 gy; have bz := bounds_u8 gz; have bw := bounds_u8 gw
  clear gx gy gz gw
  have hlen : len ≤ 9223372036854775807 := by have := hD.lenCap; have := hD.capMax; unfold maxLen at this; omega
  obtain ⟨n, m, hn, hm, hn1, hn7, hmn⟩ := pick_nm x y bx.1 by'.1
  obtain ⟨p, hp⟩ : ∃ p, p = 1 + z % 50 := ⟨_, rfl⟩
  have hp0 : 1 ≤ p ∧ p ≤ 50 := by have := Int.emod_nonneg z (b := 50) (by omega); have := Int.emod_lt_of_pos z (b := 50) (by omega); omega
  obtain ⟨q, hq⟩ : ∃ q : Nat, who % (n : Int) = (q : Int) := ⟨(who % (n : Int)).toNat, by have := Int.emod_nonneg who (b := (n : Int)) (by omega); omega⟩
  have hqn : (q : Int) < n := by rw [← hq]; exact Int.emod_lt_of_pos _ (by omega)
  have hB := bel_refl w
  have HN := Lib.hid hn; have HM := Lib.hid hm; have HP := Lib.hid hp
  have hmm : x % (n : Int) = (m : Int) := hm.symm
  clear hn hm hp
  go_enter Try.func4, Try.ntmps4
  go_wp2_with fail
  refine (awake_any _).mono ?_
  rintro e w1 ⟨rfl, hb⟩
  have C : Blk w1 w.heap.size _ := Blk.call (by first | exact (Blk.new _ _ _) | exact (Blk.new _ _ _).alloc _ | exact ((Blk.new _ _ _).alloc _).alloc _ | exact (((Blk.new _ _ _).alloc _).alloc _).alloc _ | exact (Blk.new _ _ _).drew | exact ((Blk.new _ _ _).alloc _).drew | exact (((Blk.new _ _ _).alloc _).alloc _).drew) hb
  replace hB := bel_call hb (by first | exact hB | exact bel_alloc hB _ | exact bel_alloc (bel_alloc hB _) _ | exact bel_alloc (bel_alloc (bel_alloc hB _) _) _ | exact bel_drew hB | exact bel_drew (bel_alloc hB _) | exact bel_drew (bel_alloc (bel_alloc hB _) _))
  clear hb
  have C_c := C.cell; have C_f := C.free; have C_l := C.lt
  go_wp2_with fail
  refine (watch_any _ x y z bx by' bz n HN.out m HM.out p HP.out).mono ?_
  rintro e w2 ⟨rfl, hw, hb⟩
  clear C_c C_f C_l
  replace C := C.call hb
  have C_c := C.cell; have C_f := C.free
  have hbb : w.heap.size ≤ w1.heap.size := hB.size
  replace hB := bel_call hb hB
  clear hb
  go_wp2_with fail
  simp only [hq, hmm]
  clear hq hmm C_c C_f C
  go_loopw [13] (fun i wr => ∃ (k : Nat) (s : Nat → Int), k ≤ len ∧ k ≤ 50 ∧ i = .int .i64 k ∧ WatchAt wr w1.heap.size m n p s ∧ s m = 0 ∧ s q = 0 ∧ (∀ j, j < 7 → 0 ≤ s j) ∧ Below w.heap.size w wr) (fun i _ => len - (intOf i).toNat)
  case atStart => exact ⟨0, _, by omega, by omega, rfl, hw, rfl, rfl, fun _ _ => Int.le_refl _, hB⟩
  case round =>
    obtain ⟨k, s, hk, hk2, rfl, hwr, hsm, hsq, hs0, hBr⟩ := hrel
    by_cases hlt : k < len
    · by_cases hlt2 : k < 50
      · obtain ⟨b, off, rfl, hcell⟩ := hD.cells (by omega)
        have d0 : w.cell? ⟨b, off + k, none⟩ = some (.int .u8 (D k 0)) := by have := hcell k hlt 0 (by omega); simpa using this
        obtain ⟨t0, t1⟩ := bounds_u8 (hD.wf k hlt 0 (by omega))
        have hi0 : (0 : Int) ≤ (k : Int) := by omega
        have hi1 : (k : Int) < (len : Int) := by omega
        clear hcell hD
        generalize D k 0 = t at *
        have hr1 : 0 ≤ t % (p + 1) := Int.emod_nonneg t (by omega)
        have hr2 : t % (p + 1) < p + 1 := Int.emod_lt_of_pos _ (by omega)
        have hd1 : decide ((k : Int) < 50) = true := by simp; omega
        have hd2 : decide ((k : Int) < (len : Int)) = true := by simp; omega
        have Hsm := Lib.hid hsm; have Hs0 := Lib.hid hs0; have Hsq := Lib.hid hsq
        clear hsm hs0 hsq
        go_wp2_with fail
        go_loopw [14] (fun i wx => ∃ (c : Nat) (s' : Nat → Int), (c : Int) ≤ t % (p + 1) ∧ i = .int .i64 c ∧ WatchAt wx w1.heap.size m n p s' ∧ s' m = 0 ∧ s' q ≤ c ∧ (∀ j, j < 7 → 0 ≤ s' j) ∧ Below w.heap.size w wx) (fun i _ => (t % (p + 1)).toNat - (intOf i).toNat)
        case atStart => exact ⟨0, s, by omega, rfl, hwr, Hsm.out, by rw [Hsq.out]; omega, Hs0.out, hBr⟩
        case round =>
          obtain ⟨c, s', hc, rfl, hwx, hsm', hsq', hs0', hBx⟩ := hrel
          have c0 := cell_call d0 hBx
          have Hsm' := Lib.hid hsm'; have Hs0' := Lib.hid hs0'; have Hsq' := Lib.hid hsq'
          clear hsm' hs0' hsq'
          by_cases hcl : (c : Int) < t % (p + 1)
          · go_wp2_with fail
            refine (tick_any _ _ m p n _ hwx hn7 Hs0'.out).mono ?_
            rintro e w3 ⟨rfl, hw3, hg⟩
            have HX := Lib.hid (tickK_ge m s' n Hs0'.out)
            have HY := Lib.hid (show tickK m s' n q ≤ ((c + 1 : Nat) : Int) from by have := tick_le m s' n q; have := Hsq'.out; omega)
            go_wp2_with fail
            go_roundw
            case rel => exact ⟨c + 1, _, by omega, by go_num, hw3, tick_me _ _ _ Hsm'.out, HY.out, HX.out, bel_grown hg hBx (fun j hj => by cases hj; exact hbb)⟩
            case measure => simp [intOf]; omega
          · have hcp : (c : Int) ≤ p := by omega
            have Hx := Lib.hid (show ∀ j, j < (susp p s' n).length → ((susp p s' n).getD j 0 == (q : Int)) = false ∧ ((susp p s' n).getD j 0 == (m : Int)) = false from fun j hj => by
              obtain ⟨i, hi, he, hp⟩ := susp_getD p s' n j hj
              rw [he]
              have h1 := Hsq'.out; have h2 := Hsm'.out
              refine ⟨beq_eq_false_iff_ne.2 (fun e => ?_), beq_eq_false_iff_ne.2 (fun e => ?_)⟩
              · obtain rfl : i = q := by omega
                omega
              · obtain rfl : i = m := by omega
                omega)
            go_wp2_with fail
            refine (suspects_any _ _ m p n _ hwx hn7).mono ?_
            rintro e w5 ⟨v, rfl, hown, hb⟩
            replace hwx := hwx.call hb
            replace hBx := bel_call hb hBx
            obtain ⟨sl, cl, rfl, hrow⟩ := own_open hown
            clear hb hown c0
            generalize susp p s' n = xs at *
            have hxl : (xs.length : Int) ≤ 9223372036854775807 := by have := hrow.len; unfold maxLen at this; omega
            go_wp2_with fail
            go_loop [16] (fun i => ∃ j : Nat, j ≤ xs.length ∧ i = .int .i64 j) (fun i => xs.length - (intOf i).toNat)
            case atStart => exact ⟨0, by omega, rfl⟩
            case round =>
              obtain ⟨j, hj, rfl⟩ := hrel
              by_cases hjl : j < xs.length
              · obtain ⟨g, hg, hg1, hg2, hg3⟩ := hrow.cells (by omega)
                have cj := hg3 j hjl
                obtain ⟨e1, e2⟩ := Hx.out j hjl
                have hj0 : (0 : Int) ≤ (j : Int) := by omega
                have hj1 : (j : Int) < (xs.length : Int) := by omega
                clear hg3 hrow
                subst hg
                generalize xs.getD j 0 = xj at *
                go_wp2
                go_round
                case rel => exact ⟨j + 1, by omega, by go_num⟩
                case measure => simp [intOf]; omega
              · have hj' : j = xs.length := by omega
                clear hrow
                go_wp2_with fail
                refine (heard_at _ _ m n p _ hwx _ (by omega) (by omega) (by omega)).mono ?_
                rintro e w6 ⟨rfl, hw6, hg⟩
                have HX := Lib.hid (upd_ge s' q Hs0'.out)
                have HY := Lib.hid (upd_me s' m q Hsm'.out)
                rw [Int.toNat_natCast] at hw6
                go_wp2_with fail
                go_roundw
                case rel => exact ⟨k + 1, _, by omega, by omega, by go_num, hw6, HY.out, by unfold upd; rw [if_pos rfl], HX.out, bel_grown hg hBx (fun j hj => by cases hj; exact hbb)⟩
                case measure => simp [intOf]; omega
      · have hd : decide ((k : Int) < 50) = false := by simp; omega
        go_wp2
        go_ret
        exact ⟨rfl, hBr⟩
    · have hd : decide ((k : Int) < (len : Int)) = false := by simp; omega
      go_wp2
      go_ret
      exact ⟨rfl, hBr⟩
end Go.Proofs.Ytkgfikaojbfoiaa
