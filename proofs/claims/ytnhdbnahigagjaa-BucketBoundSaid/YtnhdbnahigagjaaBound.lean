/-
  The law BucketBound: whatever is taken of a full bucket, in whatever order of times, it returns true: the walk. No condition.
-/
import Derived.Test.YtnhdbnahigagjaaMore
import Derived.Test.YtnhdbnahigagjaaOpen
namespace Go.Proofs.Ytnhdbnahigagjaa
open Go.RowKit
set_option linter.unusedSimpArgs false
set_option linter.unusedVariables false

/-- one take keeps the balance. -/
theorem bound_step (b r sum T A t n : Int) (hb : 0 ≤ b) (hb1 : b ≤ 65535) (hr : 0 ≤ r) (hr1 : r ≤ 65535) (hT : 0 ≤ T) (hTb : T ≤ b) (hA : 0 ≤ A) (hA1 : A ≤ 65535) (ht : 0 ≤ t) (ht1 : t ≤ 65535) (hs : sum + T ≤ b + r * A) :
    (takeB T A t n r b = true → sum + n + takeT T A t n r b ≤ b + r * max A t ∧ takeA T A t n r b = max A t ∧ 0 ≤ takeT T A t n r b ∧ takeT T A t n r b ≤ b ∧ 0 ≤ n) ∧
    (takeB T A t n r b = false → takeT T A t n r b = T ∧ takeA T A t n r b = A) := by
  constructor
  · intro h
    have hd : 0 ≤ n ∧ n ≤ nowT T A t r b := by unfold takeB at h; exact of_decide_eq_true h
    have e1 : takeT T A t n r b = nowT T A t r b - n := by unfold takeT; rw [if_pos h]
    have e2 : takeA T A t n r b = nowA A t := by unfold takeA; rw [if_pos h]
    rw [e1, e2]
    by_cases hle : t ≤ A
    · obtain ⟨f1, f2⟩ := now_back T A t r b hT (by rw [hold_in b B hb (by unfold B; omega)]; exact hTb) hA (by unfold M; omega) (by rw [hold_in t M ht (by unfold M; omega)]; exact hle)
      rw [f1] at hd ⊢
      rw [f2, show max A t = A by omega]
      omega
    · have f1 := nowT_small T A t r b hT hTb (by omega) hr (by omega) hA (by omega) (by omega)
      have f2 := nowA_small A t hA (by omega) (by omega)
      rw [f2, show max A t = t by omega]
      have e : r * t = r * A + r * (t - A) := by rw [← Int.mul_add]; congr 1; omega
      rw [e]
      omega
  · intro h
    unfold takeT takeA
    rw [h]
    exact ⟨rfl, rfl⟩
theorem prod_bd (r t : Int) (hr : 0 ≤ r) (hr1 : r ≤ 65535) (ht : 0 ≤ t) (ht1 : t ≤ 65535) : 0 ≤ r * t ∧ r * t ≤ 4294836225 := by
  refine ⟨Int.mul_nonneg hr ht, ?_⟩
  exact Int.le_trans (Int.mul_le_mul_of_nonneg_right hr1 ht) (by omega)

set_option maxRecDepth 100000 in
set_option maxHeartbeats 4000000 in
theorem bound_walk (rate burst : Int) (sa : Option Addr) (len cap : Nat) (D : Nat → Nat → Int) (w : World) (g0 : (Lit.int .u16 rate).wf = true) (g1 : (Lit.int .u16 burst).wf = true) (hD : RowsOf w sa len cap 2 (fun _ => .u16) D) :
    Calls Try.prog 4 #[.int .u16 rate, .int .u16 burst, .slice sa len cap] w fun e w' => e = .returned (.bool true) ∧ Below w.heap.size w w' := by
  have b0 := bounds_u16 g0; have b1 := bounds_u16 g1
  clear g0 g1
  have hlen : len ≤ 9223372036854775807 := by have := hD.lenCap; have := hD.capMax; unfold maxLen at this; omega
  have hB := bel_refl w
  have hfull : hold burst B = burst := hold_in _ _ (by omega) (by unfold B; omega)
  go_enter Try.func4, Try.ntmps4
  go_wp2_with fail
  refine (awake_any _).mono ?_
  rintro e w1 ⟨rfl, hb⟩
  replace hB := bel_call hb (by first | exact hB | exact bel_alloc hB _ | exact bel_alloc (bel_alloc hB _) _ | exact bel_alloc (bel_alloc (bel_alloc hB _) _) _ | exact bel_drew hB | exact bel_drew (bel_alloc hB _) | exact bel_drew (bel_alloc (bel_alloc hB _) _))
  clear hb
  go_wp2_with fail
  refine (full_any _ _).mono ?_
  rintro e w2 ⟨rfl, hb⟩
  replace hB := bel_call hb (by first | exact hB | exact bel_alloc hB _ | exact bel_alloc (bel_alloc hB _) _ | exact bel_alloc (bel_alloc (bel_alloc hB _) _) _ | exact bel_drew hB | exact bel_drew (bel_alloc hB _) | exact bel_drew (bel_alloc (bel_alloc hB _) _))
  clear hb
  go_wp2_with fail
  go_loopw [11, 12, 13] (fun sm tp i wr => ∃ (k : Nat) (sum A T : Int), k ≤ len ∧ k ≤ 300 ∧ i = .int .i64 k ∧ sm = .int .i64 sum ∧ tp = .int .i64 A ∧ 0 ≤ sum ∧ 0 ≤ T ∧ T ≤ burst ∧ 0 ≤ A ∧ A ≤ 65535 ∧ sum + T ≤ burst + rate * A ∧ Blk wr w2.heap.size #[.int .i64 T, .int .i64 A] ∧ Below w.heap.size w wr ∧ w.heap.size ≤ w2.heap.size)
    (fun _ _ i _ => len - (intOf i).toNat)
  case atStart =>
    exact ⟨0, 0, 0, burst, by omega, by omega, rfl, rfl, rfl, by omega, by omega, by omega, by omega, by omega, by omega, Blk.new _ _ _, bel_alloc hB _, hB.size⟩
  case round =>
    obtain ⟨k, sum, A, T, hk, hk3, rfl, rfl, rfl, hs0, hT0, hTb, hA0, hA1, hbal, S, hBr, hw2⟩ := hrel
    by_cases hlt : k < len
    · by_cases hlt3 : k < 300
      · obtain ⟨b, off, rfl, hcell⟩ := hD.cells (by omega)
        have d0 : w.cell? ⟨b, off + k * 2, none⟩ = _ := hcell k hlt 0 (by omega)
        have d1 : w.cell? ⟨b, off + k * 2 + 1, none⟩ = _ := hcell k hlt 1 (by omega)
        obtain ⟨t0, t1⟩ := bounds_u16 (hD.wf k hlt 0 (by omega))
        obtain ⟨n0, n1⟩ := bounds_u16 (hD.wf k hlt 1 (by omega))
        generalize D k 0 = t at *
        generalize D k 1 = n at *
        have hi0 : (0 : Int) ≤ (k : Int) := by omega
        have hi1 : (k : Int) < (len : Int) := by omega
        have S_c := S.cell; have S_f := S.free; have S_l := S.lt
        go_wp2_with fail
        go_upto_region 10 with fail
        go_cut [14, 15] (fun s14 s15 wx => ∃ g : Nat, s14 = .pointer (some ⟨g, 0, none⟩) ∧ s15 = .bool (takeB T A t n rate burst) ∧ g ≠ w2.heap.size ∧ Blk wx g #[.int .i64 (takeT T A t n rate burst), .int .i64 (takeA T A t n rate burst)] ∧ Below w.heap.size w wx ∧ Blk wx w2.heap.size #[.int .i64 T, .int .i64 A])
        case first =>
          clear S_c S_f S_l
          have kt : IntKind.i64.wrap t = t := IntWalk.i64_in _ (by omega)
          have kn : IntKind.i64.wrap n = n := IntWalk.i64_in _ (by omega)
          refine wp_region_part [(0, true), (1, true), (2, true), (3, true), (4, true), (5, true), (6, true), (7, true), (8, true), (9, true), (10, true), (11, true), (12, true), (13, true), (14, true)] (fun w' => Blk w' w2.heap.size #[.int .i64 T, .int .i64 A] ∧ Below w.heap.size w w') 7 #[true, true, true, true, true, true, true, true, true, true, true, true, true, true, true, false, false, false, false, false, false, false] (by kernel_rfl) (by kernel_rfl) (fun _ _ _ _ h => h) ?_ (fun hS => ?_)
          · exact ⟨S.drew, bel_drew hBr⟩
          iterate 15
            refine plan_light (o := ?_) (v := ?_) ?_ ?_ ?_ ?_
            rotate_left 2
            · simp only [List.getElem?_toArray, List.getElem?_cons_zero, List.getElem?_cons_succ]
              rfl
            · go_simp
            · intro w' hS
              (obtain ⟨s1, s2⟩ := hS; have c0 := cell_call d0 s2; have c1 := cell_call d1 s2; replace s1 := s1.cell)
              go_simp
              try rfl
            simp only [Act.put, List.setIfInBounds_toArray, List.set_cons_zero, List.set_cons_succ]
          refine plan_nil ?_
          refine anyT_two (i := 15) (j := 19) (oi := ?_) (oj := ?_) (by kernel_rfl) ?_ ?_ (fun K' hK => ?_) (fun K' hK => ?_)
          rotate_left 2
          · simp only [List.getElem?_toArray, List.getElem?_cons_zero, List.getElem?_cons_succ]
            rfl
          · simp only [List.getElem?_toArray, List.getElem?_cons_zero, List.getElem?_cons_succ]
            rfl
          · go_simp
            go_wp2_with (go_at_call 11; refine (take_any _ _ _ _ _ _ _).mono ?_; rintro e w7 ⟨rfl, hb⟩; first | (have G : Blk w7 wr.heap.size _ := Blk.call (Blk.new wr #[.int .i64 0, .int .i64 0] 23).drew hb; have G_c := G.cell; have G_f := G.free) | skip)
            refine hK.out _ _ ?_ (fun hS => ?_)
            · (first | exact ⟨hS.1.call hb, bel_call hb hS.2⟩ | exact ⟨hS.1.alloc _, bel_alloc hS.2 _⟩ | exact ⟨(‹Blk w7 _ _ ∧ Below w.heap.size w w7›).1.alloc _, bel_alloc (‹Blk w7 _ _ ∧ Below w.heap.size w w7›).2 _⟩ | exact ⟨(hS.1.set_other _ _ (by have := S.lt; simp; omega)).set_other _ _ (by have := S.lt; simp; omega), bel_set (bel_set hS.2 (by have := hBr.size; simp; omega) _) (by have := hBr.size; simp; omega) _⟩)
            clear hK K'
            refine anyT_plan [(16, true), (17, true), (18, true), (19, false), (20, false), (21, false)] (by kernel_rfl) (fun _ _ _ _ h => h) hS ?_
            iterate 3
              refine plan_light (o := ?_) (v := ?_) ?_ ?_ ?_ ?_
              rotate_left 2
              · simp only [List.getElem?_toArray, List.getElem?_cons_zero, List.getElem?_cons_succ]
                rfl
              · go_simp
              · intro w' hS
                (obtain ⟨s1, s2⟩ := hS; have c0 := cell_call d0 s2; have c1 := cell_call d1 s2; replace s1 := s1.cell)
                go_simp
                try rfl
              simp only [Act.put, List.setIfInBounds_toArray, List.set_cons_zero, List.set_cons_succ]
            refine plan_heavy (o := ?_) ?_ (fun K' hK => ?_)
            rotate_left
            · simp only [List.getElem?_toArray, List.getElem?_cons_zero, List.getElem?_cons_succ]
              rfl
            go_simp
            refine hK.out _ _ ?_ (fun hS => ?_)
            · (first | exact ⟨hS.1.call hb, bel_call hb hS.2⟩ | exact ⟨hS.1.alloc _, bel_alloc hS.2 _⟩ | exact ⟨(‹Blk w7 _ _ ∧ Below w.heap.size w w7›).1.alloc _, bel_alloc (‹Blk w7 _ _ ∧ Below w.heap.size w w7›).2 _⟩ | exact ⟨(hS.1.set_other _ _ (by have := S.lt; simp; omega)).set_other _ _ (by have := S.lt; simp; omega), bel_set (bel_set hS.2 (by have := hBr.size; simp; omega) _) (by have := hBr.size; simp; omega) _⟩)
            clear hK K'
            refine plan_heavy (o := ?_) ?_ (fun K' hK => ?_)
            rotate_left
            · simp only [List.getElem?_toArray, List.getElem?_cons_zero, List.getElem?_cons_succ]
              rfl
            go_simp
            refine hK.out _ _ ?_ (fun hS => ?_)
            · (first | exact ⟨hS.1.call hb, bel_call hb hS.2⟩ | exact ⟨hS.1.alloc _, bel_alloc hS.2 _⟩ | exact ⟨(‹Blk w7 _ _ ∧ Below w.heap.size w w7›).1.alloc _, bel_alloc (‹Blk w7 _ _ ∧ Below w.heap.size w w7›).2 _⟩ | exact ⟨(hS.1.set_other _ _ (by have := S.lt; simp; omega)).set_other _ _ (by have := S.lt; simp; omega), bel_set (bel_set hS.2 (by have := hBr.size; simp; omega) _) (by have := hBr.size; simp; omega) _⟩)
            clear hK K'
            refine plan_sink (o := ?_) ?_ (by kernel_rfl) (fun K' hK => ?_)
            rotate_left
            · simp only [List.getElem?_toArray, List.getElem?_cons_zero, List.getElem?_cons_succ]
              rfl
            go_simp
            refine hK.out _ _ ?_
            clear hK K'
            refine plan_nil ?_
            (go_wp2_with fail; go_meet; first | exact ⟨w7.heap.size, rfl, rfl, by have := (‹Blk w7 w2.heap.size _ ∧ Below w.heap.size w w7›).1.lt; omega, Blk.new _ _ _, hS.2, hS.1⟩ | exact ⟨wr.heap.size, rfl, rfl, by have := S.lt; omega, by have := (G.set 0 (.int .i64 (takeT T A t n rate burst))).set 1 (.int .i64 (takeA T A t n rate burst)); simpa using this, hS.2, hS.1⟩)
          · go_simp
            refine hK.out _ _ ?_ (fun hS => ?_)
            · (first | exact ⟨hS.1.call hb, bel_call hb hS.2⟩ | exact ⟨hS.1.alloc _, bel_alloc hS.2 _⟩ | exact ⟨(‹Blk w7 _ _ ∧ Below w.heap.size w w7›).1.alloc _, bel_alloc (‹Blk w7 _ _ ∧ Below w.heap.size w w7›).2 _⟩ | exact ⟨(hS.1.set_other _ _ (by have := S.lt; simp; omega)).set_other _ _ (by have := S.lt; simp; omega), bel_set (bel_set hS.2 (by have := hBr.size; simp; omega) _) (by have := hBr.size; simp; omega) _⟩)
            clear hK K'
            refine anyT_plan [(15, false), (16, true), (17, true), (18, true), (20, false), (21, false)] (by kernel_rfl) (fun _ _ _ _ h => h) hS ?_
            refine plan_heavy (o := ?_) ?_ (fun K' hK => ?_)
            rotate_left
            · simp only [List.getElem?_toArray, List.getElem?_cons_zero, List.getElem?_cons_succ]
              rfl
            go_simp
            go_wp2_with (go_at_call 11; refine (take_any _ _ _ _ _ _ _).mono ?_; rintro e w7 ⟨rfl, hb⟩; first | (have G : Blk w7 wr.heap.size _ := Blk.call (Blk.new wr #[.int .i64 0, .int .i64 0] 23).drew hb; have G_c := G.cell; have G_f := G.free) | skip)
            refine hK.out _ _ ?_ (fun hS => ?_)
            · (first | exact ⟨hS.1.call hb, bel_call hb hS.2⟩ | exact ⟨hS.1.alloc _, bel_alloc hS.2 _⟩ | exact ⟨(‹Blk w7 _ _ ∧ Below w.heap.size w w7›).1.alloc _, bel_alloc (‹Blk w7 _ _ ∧ Below w.heap.size w w7›).2 _⟩ | exact ⟨(hS.1.set_other _ _ (by have := S.lt; simp; omega)).set_other _ _ (by have := S.lt; simp; omega), bel_set (bel_set hS.2 (by have := hBr.size; simp; omega) _) (by have := hBr.size; simp; omega) _⟩)
            clear hK K'
            iterate 3
              refine plan_light (o := ?_) (v := ?_) ?_ ?_ ?_ ?_
              rotate_left 2
              · simp only [List.getElem?_toArray, List.getElem?_cons_zero, List.getElem?_cons_succ]
                rfl
              · go_simp
              · intro w' hS
                (obtain ⟨s1, s2⟩ := hS; have c0 := cell_call d0 s2; have c1 := cell_call d1 s2; replace s1 := s1.cell)
                go_simp
                try rfl
              simp only [Act.put, List.setIfInBounds_toArray, List.set_cons_zero, List.set_cons_succ]
            refine plan_heavy (o := ?_) ?_ (fun K' hK => ?_)
            rotate_left
            · simp only [List.getElem?_toArray, List.getElem?_cons_zero, List.getElem?_cons_succ]
              rfl
            go_simp
            refine hK.out _ _ ?_ (fun hS => ?_)
            · (first | exact ⟨hS.1.call hb, bel_call hb hS.2⟩ | exact ⟨hS.1.alloc _, bel_alloc hS.2 _⟩ | exact ⟨(‹Blk w7 _ _ ∧ Below w.heap.size w w7›).1.alloc _, bel_alloc (‹Blk w7 _ _ ∧ Below w.heap.size w w7›).2 _⟩ | exact ⟨(hS.1.set_other _ _ (by have := S.lt; simp; omega)).set_other _ _ (by have := S.lt; simp; omega), bel_set (bel_set hS.2 (by have := hBr.size; simp; omega) _) (by have := hBr.size; simp; omega) _⟩)
            clear hK K'
            refine plan_sink (o := ?_) ?_ (by kernel_rfl) (fun K' hK => ?_)
            rotate_left
            · simp only [List.getElem?_toArray, List.getElem?_cons_zero, List.getElem?_cons_succ]
              rfl
            go_simp
            refine hK.out _ _ ?_
            clear hK K'
            refine plan_nil ?_
            (go_wp2_with fail; go_meet; first | exact ⟨w7.heap.size, rfl, rfl, by have := (‹Blk w7 w2.heap.size _ ∧ Below w.heap.size w w7›).1.lt; omega, Blk.new _ _ _, hS.2, hS.1⟩ | exact ⟨wr.heap.size, rfl, rfl, by have := S.lt; omega, by have := (G.set 0 (.int .i64 (takeT T A t n rate burst))).set 1 (.int .i64 (takeA T A t n rate burst)); simpa using this, hS.2, hS.1⟩)
        case rest =>
          obtain ⟨g, rfl, rfl, hg, G, hBc, S'⟩ := hcut
          have hst := bound_step burst rate sum T A t n b1.1 b1.2 b0.1 b0.2 hT0 hTb hA0 hA1 t0 t1 hbal
          obtain ⟨mx, hmx⟩ : ∃ mx, max A t = mx := ⟨_, rfl⟩
          have hpr := prod_bd rate mx b0.1 b0.2 (by omega) (by omega)
          have hmx0 : 0 ≤ mx ∧ mx ≤ 65535 := by omega
          have hmax : (if A < t then t else A) = mx := by rw [← hmx]; split <;> omega
          rw [hmx] at hst
          have kt : IntKind.i64.wrap t = t := IntWalk.i64_in _ (by omega)
          have kn : IntKind.i64.wrap n = n := IntWalk.i64_in _ (by omega)
          have c0 := cell_call d0 hBc; have c1 := cell_call d1 hBc
          have G_c := G.cell; have G_f := G.free
          have s0 : wc.cell? ⟨w2.heap.size, 0, none⟩ = some (.int .i64 T) := S'.cell 0
          have s1 : wc.cell? ⟨w2.heap.size, 1, none⟩ = some (.int .i64 A) := S'.cell 1
          have f0 := S'.free 0; have f1 := S'.free 1
          clear S_c S_f S_l
          have hbl := World.block_lt_of_cell? w _ d0
          have hne : w2.heap.size ≠ b := by simp at hbl; omega
          have hne2 : b ≠ w2.heap.size := Ne.symm hne
          have hpA := prod_bd rate A b0.1 b0.2 hA0 hA1
          clear hcell d0 d1 hD hB hmx hbl
          cases hb : takeB T A t n rate burst with
          | true =>
            obtain ⟨h1, h2, h3, h4, h5⟩ := hst.1 hb
            clear hst
            rw [h2] at G G_c
            generalize takeT T A t n rate burst = T' at *
            clear hb h2 hpA hbal
            go_wp2
            go_roundw
            case rel => exact ⟨k + 1, sum + n, mx, T', by omega, by omega, by go_num, rfl, rfl, by omega, h3, h4, by omega, by omega, h1, by have := (S'.set 0 (.int .i64 T')).set 1 (.int .i64 mx); simpa using this, bel_set (bel_set hBc (by simp; omega) _) (by simp; omega) _, hw2⟩
            case measure => simp [intOf]; omega
          | false =>
            obtain ⟨h1, h2⟩ := hst.2 hb
            clear hst
            rw [h1, h2] at G G_c
            clear hb h1 h2 hpr
            go_wp2
            go_roundw
            case rel => exact ⟨k + 1, sum, A, T, by omega, by omega, by go_num, rfl, rfl, by omega, hT0, hTb, by omega, by omega, hbal, by have := (S'.set 0 (.int .i64 T)).set 1 (.int .i64 A); simpa using this, bel_set (bel_set hBc (by simp; omega) _) (by simp; omega) _, hw2⟩
            case measure => simp [intOf]; omega
      · have hd : decide ((k : Int) < 300) = false := by simp; omega
        go_wp2
        go_ret
        exact ⟨rfl, hBr⟩
    · have hd : decide ((k : Int) < (len : Int)) = false := by simp; omega
      go_wp2
      go_ret
      exact ⟨rfl, hBr⟩
end Go.Proofs.Ytnhdbnahigagjaa
