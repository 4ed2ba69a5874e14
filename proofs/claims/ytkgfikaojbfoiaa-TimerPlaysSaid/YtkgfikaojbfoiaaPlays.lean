/-
  The law TimerPlays: its walk.
-/
import Derived.Test.YtkgfikaojbfoiaaHeard
namespace Go.Proofs.Ytkgfikaojbfoiaa
open Go.RowKit
set_option linter.unusedSimpArgs false
set_option linter.unusedVariables false
set_option maxHeartbeats 2000000 in
theorem same_any (w : World) (b1 b2 c1 c2 : Nat) (s1 s2 : Option Addr) (xs : List Int) (h1 : IntRow w b1 s1 c1 xs) (h2 : IntRow w b2 s2 c2 xs) :
    Calls Try.prog 18 #[.slice s1 xs.length c1, .slice s2 xs.length c2] w fun e w' => e = .returned (.bool true) ∧ Below w.heap.size w w' := by
  have hB := bel_refl w
  have hxl : (xs.length : Int) ≤ 9223372036854775807 := by have := h1.len; unfold maxLen at this; omega
  go_enter Try.func18, Try.ntmps18
  go_wp2_with fail
  go_loopw [5] (fun i wr => ∃ c : Nat, c ≤ xs.length ∧ i = .int .i64 c ∧ IntRow wr b1 s1 c1 xs ∧ IntRow wr b2 s2 c2 xs ∧ Below w.heap.size w wr) (fun i _ => xs.length - (intOf i).toNat)
  case atStart => exact ⟨0, by omega, rfl, h1, h2, hB⟩
  case round =>
    clear h1 h2 hB
    obtain ⟨c, hc, rfl, h1, h2, hB⟩ := hrel
    by_cases hcl : c < xs.length
    · obtain ⟨g, hg, hg1, hg2, hg3⟩ := h1.cells (by omega)
      obtain ⟨g', hg', hg1', hg2', hg3'⟩ := h2.cells (by omega)
      have cj := hg3 c hcl
      have cj' := hg3' c hcl
      have hj0 : (0 : Int) ≤ (c : Int) := by omega
      have hj1 : (c : Int) < (xs.length : Int) := by omega
      have hd : decide ((c : Int) < (xs.length : Int)) = true := by simp; omega
      clear hg3 hg3'
      subst hg
      subst hg'
      generalize xs.getD c 0 = xj at *
      have H1 := Lib.hid h1
      have H2 := Lib.hid h2
      clear h1 h2
      go_wp2
      refine wp_region_plan [(0, true), (1, true), (2, true), (3, true), (4, true), (5, true), (6, true), (7, true), (8, true)] (fun w' => w'.cell? ⟨g, c, none⟩ = some (.int .i64 xj) ∧ w'.cell? ⟨g', c, none⟩ = some (.int .i64 xj)) (by kernel_rfl) (by kernel_rfl) (fun _ _ _ _ h => h) ?_ (fun hS => ?_)
      · go_simp
      iterate 9
        refine plan_light (o := ?_) (v := ?_) ?_ ?_ ?_ ?_
        rotate_left 2
        · simp only [List.getElem?_toArray, List.getElem?_cons_zero, List.getElem?_cons_succ]
          rfl
        · go_simp
        · intro w' hS
          go_simp
          try rfl
        simp only [Act.put, List.setIfInBounds_toArray, List.set_cons_zero, List.set_cons_succ]
      refine plan_nil ?_
      go_wp2
      go_roundw
      case rel => exact ⟨c + 1, by omega, by go_num, H1.out.drew, H2.out.drew, bel_drew hB⟩
      case measure => simp [intOf]; omega
    · have hc' : c = xs.length := by omega
      subst hc'
      go_wp2
      go_ret
      exact ⟨rfl, hB⟩
/-- the cells of a watch. -/
abbrev xcells (me n p : Int) (s : Nat → Int) : Array Value := #[.int .i64 me, .int .i64 n, .int .i64 p, .int .i64 (s 0), .int .i64 (s 1), .int .i64 (s 2), .int .i64 (s 3), .int .i64 (s 4), .int .i64 (s 5), .int .i64 (s 6)]
theorem Blk.cast {w : World} {b : Nat} {cs cs' : Array Value} (h : Blk w b cs) (e : cs = cs') : Blk w b cs' := e ▸ h
theorem store_gr (w : World) (xb : Nat) (me n p : Int) (s1 : Nat → Int) : w.grownBy ((((((((((w.setCell ⟨xb, 0, none⟩ (.int .i64 me)).setCell ⟨xb, 1, none⟩ (.int .i64 n)).setCell ⟨xb, 2, none⟩ (.int .i64 p)).setCell ⟨xb, 3, none⟩ (.int .i64 (s1 0))).setCell ⟨xb, 4, none⟩ (.int .i64 (s1 1))).setCell ⟨xb, 5, none⟩ (.int .i64 (s1 2))).setCell ⟨xb, 6, none⟩ (.int .i64 (s1 3))).setCell ⟨xb, 7, none⟩ (.int .i64 (s1 4))).setCell ⟨xb, 8, none⟩ (.int .i64 (s1 5))).setCell ⟨xb, 9, none⟩ (.int .i64 (s1 6))) (some xb) := by
  refine gr_set (gr_set (gr_set (gr_set (gr_set (gr_set (gr_set (gr_set (gr_set (gr_set (gr_refl _ _) _ _ ?_) _ _ ?_) _ _ ?_) _ _ ?_) _ _ ?_) _ _ ?_) _ _ ?_) _ _ ?_) _ _ ?_) _ _ ?_ <;> exact .inl rfl
theorem store_x (w : World) (xb : Nat) (me n p : Int) (s s1 : Nat → Int) (h : Blk w xb (xcells me n p s)) : Blk ((((((((((w.setCell ⟨xb, 0, none⟩ (.int .i64 me)).setCell ⟨xb, 1, none⟩ (.int .i64 n)).setCell ⟨xb, 2, none⟩ (.int .i64 p)).setCell ⟨xb, 3, none⟩ (.int .i64 (s1 0))).setCell ⟨xb, 4, none⟩ (.int .i64 (s1 1))).setCell ⟨xb, 5, none⟩ (.int .i64 (s1 2))).setCell ⟨xb, 6, none⟩ (.int .i64 (s1 3))).setCell ⟨xb, 7, none⟩ (.int .i64 (s1 4))).setCell ⟨xb, 8, none⟩ (.int .i64 (s1 5))).setCell ⟨xb, 9, none⟩ (.int .i64 (s1 6))) xb (xcells me n p s1) :=
  Blk.cast ((((((((((h.set 0 (.int .i64 me)).set 1 (.int .i64 n)).set 2 (.int .i64 p)).set 3 (.int .i64 (s1 0))).set 4 (.int .i64 (s1 1))).set 5 (.int .i64 (s1 2))).set 6 (.int .i64 (s1 3))).set 7 (.int .i64 (s1 4))).set 8 (.int .i64 (s1 5))).set 9 (.int .i64 (s1 6))) (by simp [xcells])
theorem store_all (w0 w : World) (wb xb cb : Nat) (me p : Int) (n : Nat) (s s1 : Nat → Int) (cs : Array Value) (h : WatchAt w wb me n p s1) (hX : Blk w xb (xcells me n p s)) (hC : Blk w cb cs) (hB : Below w0.heap.size w0 w) (h1 : wb ≠ xb) (h2 : cb ≠ xb) (h3 : w0.heap.size ≤ xb) (hs : ∀ j, j < 7 → 0 ≤ s1 j) (w' : World) (hw' : w' = ((((((((((w.setCell ⟨xb, 0, none⟩ (.int .i64 me)).setCell ⟨xb, 1, none⟩ (.int .i64 n)).setCell ⟨xb, 2, none⟩ (.int .i64 p)).setCell ⟨xb, 3, none⟩ (.int .i64 (s1 0))).setCell ⟨xb, 4, none⟩ (.int .i64 (s1 1))).setCell ⟨xb, 5, none⟩ (.int .i64 (s1 2))).setCell ⟨xb, 6, none⟩ (.int .i64 (s1 3))).setCell ⟨xb, 7, none⟩ (.int .i64 (s1 4))).setCell ⟨xb, 8, none⟩ (.int .i64 (s1 5))).setCell ⟨xb, 9, none⟩ (.int .i64 (s1 6)))) :
    ∃ s' : Nat → Int, WatchAt w' wb me n p s' ∧ (∀ j, j < 7 → 0 ≤ s' j) ∧ Blk w' xb (xcells me n p s') ∧ Blk w' cb cs ∧ Below w0.heap.size w0 w' := by
  subst hw'
  have hg := store_gr w xb me n p s1
  exact ⟨s1, h.grown hg (by simp; omega), hs, store_x w xb me n p s s1 hX, hC.grown hg (by simp; omega), bel_grown hg hB (fun j hj => by cases hj; exact h3)⟩
set_option maxRecDepth 100000 in
set_option maxHeartbeats 16000000 in
theorem plays_walk (me nI p : Int) (sa : Option Addr) (len cap : Nat) (D : Nat → Nat → Int) (w : World) (g0 : (Lit.int .i64 me).wf = true) (g1 : (Lit.int .i64 nI).wf = true) (g2 : (Lit.int .i64 p).wf = true) (hD : RowsOf w sa len cap 1 (fun _ => .i64) D) :
    Calls Try.prog 3 #[.agg #[.int .i64 me, .int .i64 nI, .int .i64 p], .slice sa len cap] w fun e w' => e = .returned (.bool true) ∧ Below w.heap.size w w' := by
  have hB := bel_refl w
  have bm := bounds_i64 g0; have bn := bounds_i64 g1; have bp := bounds_i64 g2
  clear g0 g1 g2
  have hlen : len ≤ 9223372036854775807 := by have := hD.lenCap; have := hD.capMax; unfold maxLen at this; omega
  go_enter Try.func3, Try.ntmps3
  by_cases hok : okNew me nI p
  · obtain ⟨n, rfl, hn1, hn7⟩ : ∃ n : Nat, nI = n ∧ 1 ≤ n ∧ n ≤ 7 := ⟨nI.toNat, by unfold okNew at hok; omega, by unfold okNew at hok; omega, by unfold okNew at hok; omega⟩
    have HOK := Lib.hid hok
    clear hok
    go_wp2_with fail
    refine (awake_any _).mono ?_
    rintro e w1 ⟨rfl, hb⟩
    have C : Blk w1 w.heap.size _ := Blk.call (by first | exact (Blk.new _ _ _) | exact (Blk.new _ _ _).alloc _ | exact ((Blk.new _ _ _).alloc _).alloc _ | exact (((Blk.new _ _ _).alloc _).alloc _).alloc _ | exact (Blk.new _ _ _).drew | exact ((Blk.new _ _ _).alloc _).drew | exact (((Blk.new _ _ _).alloc _).alloc _).drew) hb
    replace hB := bel_call hb (by first | exact hB | exact bel_alloc hB _ | exact bel_alloc (bel_alloc hB _) _ | exact bel_alloc (bel_alloc (bel_alloc hB _) _) _ | exact bel_drew hB | exact bel_drew (bel_alloc hB _) | exact bel_drew (bel_alloc (bel_alloc hB _) _))
    clear hb
    have C_c := C.cell; have C_f := C.free; have C_l := C.lt
    go_wp2_with fail
    refine (new_ok _ me n p HOK.out).mono ?_
    rintro e w2 ⟨rfl, hw, hb⟩
    clear C_c C_f
    have hbb : w.heap.size < w1.heap.size := C_l
    clear C_l
    replace C := C.call hb
    replace hB := bel_call hb hB
    clear hb
    have C_c := C.cell
    go_wp2_with fail
    refine (refNew_ok _ me n p HOK.out).mono ?_
    rintro e w3 ⟨rfl, hb⟩
    replace C := C.call hb
    replace hw := hw.call hb
    replace hB := bel_call hb hB
    clear hb C_c
    have C_c := C.cell
    clear C_c
    go_wp2_with fail
    go_loopw [10] (fun i wr => ∃ (j : Nat) (s : Nat → Int), j ≤ len ∧ j ≤ 200 ∧ i = .int .i64 j ∧ WatchAt wr w1.heap.size me n p s ∧ (∀ j, j < 7 → 0 ≤ s j) ∧ Blk wr w3.heap.size (xcells me n p s) ∧ Blk wr w.heap.size #[.int .i64 me, .int .i64 n, .int .i64 p] ∧ Below w.heap.size w wr) (fun i _ => len - (intOf i).toNat)
    case atStart => exact ⟨0, _, by omega, by omega, rfl, hw.alloc _, fun _ _ => Int.le_refl _, Blk.new _ _ _, C.alloc _, bel_alloc hB _⟩
    case round =>
      have hw13 : w1.heap.size < w3.heap.size := hw.lt
      clear hw hB C
      obtain ⟨j, s, hj, hj2, rfl, hwr, hs0, hX, hC, hBr⟩ := hrel
      by_cases hlt : j < len
      · by_cases hlt2 : j < 200
        · obtain ⟨b, off, rfl, hcell⟩ := hD.cells (by omega)
          have d0 : w.cell? ⟨b, off + j, none⟩ = some (.int .i64 (D j 0)) := by have := hcell j hlt 0 (by omega); simpa using this
          have HQ := Lib.hid d0
          have c0 := cell_call d0 hBr
          obtain ⟨t0, t1⟩ := bounds_i64 (hD.wf j hlt 0 (by omega))
          have hd1 : decide ((j : Int) < (len : Int)) = true := by simp; omega
          have hd2 : decide ((j : Int) < 200) = true := by simp; omega
          have hi0 : (0 : Int) ≤ (j : Int) := by omega
          have hi1 : (j : Int) < (len : Int) := by omega
          clear d0 hcell hD
          generalize D j 0 = t at *
          have Hs0 := Lib.hid hs0
          clear hs0
          have X_c := hX.cell
          have X_f := hX.free
          go_upto_if 60 with fail
          go_cut [] (fun wx => ∃ s' : Nat → Int, WatchAt wx w1.heap.size me n p s' ∧ (∀ j, j < 7 → 0 ≤ s' j) ∧ Blk wx w3.heap.size (xcells me n p s') ∧ Blk wx w.heap.size #[.int .i64 me, .int .i64 n, .int .i64 p] ∧ Below w.heap.size w wx)
          case first =>
            by_cases ht : 10 < t
            · have e0 : decide (10 < t) = true := decide_eq_true ht
              go_wp2_with fail
              refine (tick_any _ _ me p n s hwr hn7 Hs0.out).mono ?_
              rintro e w4 ⟨rfl, hw4, hg⟩
              have hX4 := hX.grown hg (by simp; omega)
              have hC4 := hC.grown hg (by simp; omega)
              have hB4 := bel_grown hg hBr (fun j hj => by cases hj; omega)
              clear hg hwr hX hC hBr X_c X_f
              have X_c := hX4.cell
              have X_f := hX4.free
              go_wp2_with fail
              refine (refTick_any _ me p n s hn7 Hs0.out).mono ?_
              rintro e w5 ⟨rfl, hb⟩
              have hw5 := hw4.call hb
              have hX5 := hX4.call hb
              have hC5 := hC4.call hb
              have hB5 := bel_call hb hB4
              clear hb hw4 hX4 hC4 hB4 X_c X_f
              have X_c := hX5.cell
              have X_f := hX5.free
              have hs1 := tickK_ge me s n Hs0.out
              generalize tickK me s n = s1 at *
              go_wp2_with fail
              go_meet
              exact store_all w w5 w1.heap.size w3.heap.size w.heap.size me p n s s1 _ hw5 hX5 hC5 hB5 (by omega) (by omega) (by omega) hs1 _ rfl
            · have e0 : decide (10 < t) = false := decide_eq_false ht
              have hcase : (∃ k : Nat, t = k ∧ (k : Int) < n) ∨ ¬ (0 ≤ t ∧ t < n) := by
                by_cases h : 0 ≤ t ∧ t < n
                · exact .inl ⟨t.toNat, by omega, by omega⟩
                · exact .inr h
              rcases hcase with ⟨k, rfl, hk⟩ | hk
              · have hk7 : k < 7 := by omega
                have hs1 := upd_ge s k Hs0.out
                have r1 := Lib.hid (refHeard_in (me := me) (n := n) (p := p) (s := s) (k := k) (hk := hk) (hn := by omega))
                go_wp2_with fail
                refine (heard_in _ _ me n p s hwr k hk (by omega)).mono ?_
                rintro e w4 ⟨rfl, rfl⟩
                have hw4 := hwr.set k hk7 0
                have hX4 := hX.set_other ⟨w1.heap.size, 3 + k, none⟩ (.int .i64 0) (by show w1.heap.size ≠ w3.heap.size; omega)
                have hC4 := hC.set_other ⟨w1.heap.size, 3 + k, none⟩ (.int .i64 0) (by show w1.heap.size ≠ w.heap.size; omega)
                have hB4 := bel_set (a := ⟨w1.heap.size, 3 + k, none⟩) hBr (by show w.heap.size ≤ w1.heap.size; omega) (.int .i64 0)
                obtain ⟨w4, hw⟩ : ∃ w4, wr.setCell ⟨w1.heap.size, 3 + k, none⟩ (.int .i64 0) = w4 := ⟨_, rfl⟩
                rw [hw] at hw4 hX4 hC4 hB4 ⊢
                clear hw hwr hX hC hBr X_c X_f c0 hk
                generalize upd s k 0 = s1 at *
                have X_c := hX4.cell
                go_wp2_with fail
                refine wp_region_plan [(0, true), (1, true), (2, true), (3, true), (4, true), (5, false), (6, false)] (fun w' => WatchAt w' w1.heap.size me n p s1 ∧ Blk w' w3.heap.size (xcells me n p s) ∧ Blk w' w.heap.size #[.int .i64 me, .int .i64 n, .int .i64 p] ∧ Below w.heap.size w w') (by kernel_rfl) (by kernel_rfl) (fun _ _ _ _ h => h) ?_ (fun hS => ?_)
                · exact ⟨hw4.drew, hX4.drew, hC4.drew, bel_drew hB4⟩
                iterate 5
                  refine plan_light (o := ?_) (v := ?_) ?_ ?_ ?_ ?_
                  rotate_left 2
                  · simp only [List.getElem?_toArray, List.getElem?_cons_zero, List.getElem?_cons_succ]
                    rfl
                  · go_simp
                  · intro w' hS
                    (have sa1 := hS.2.1.cell; have sa2 := hS.2.1.free; have sa3 := cell_call HQ.out hS.2.2.2)
                    go_simp
                    try rfl
                  simp only [Act.put, List.setIfInBounds_toArray, List.set_cons_zero, List.set_cons_succ]
                refine plan_heavy (o := ?_) ?_ (fun K' hK => ?_)
                rotate_left
                · simp only [List.getElem?_toArray, List.getElem?_cons_zero, List.getElem?_cons_succ]
                  rfl
                go_simp
                go_wp2_with (go_at_call 15; refine (r1.out _).mono ?_; rintro e w5 ⟨rfl, hb5⟩; have sb1 := (hS.2.1.call hb5).cell; have sb2 := (hS.2.1.call hb5).free)
                refine hK.out _ _ ?_ (fun hS => ?_)
                · exact ⟨hS.1.call hb5, hS.2.1.call hb5, hS.2.2.1.call hb5, bel_call hb5 hS.2.2.2⟩
                clear hK K'
                refine plan_sink (o := ?_) ?_ (by kernel_rfl) (fun K' hK => ?_)
                rotate_left
                · simp only [List.getElem?_toArray, List.getElem?_cons_zero, List.getElem?_cons_succ]
                  rfl
                go_simp
                refine hK.out _ _ ?_
                clear hK K'
                refine plan_nil ?_
                have hXf := hS.2.1.free
                go_wp2_with fail
                go_meet
                exact store_all w w5 w1.heap.size w3.heap.size w.heap.size me p n s s1 _ hS.1 hS.2.1 hS.2.2.1 hS.2.2.2 (by omega) (by omega) (by omega) hs1 _ rfl
              · have hs1 := Hs0.out
                have r1 := Lib.hid (refHeard_out (me := me) (n := n) (p := p) (s := s) (site := t) (hk := hk))
                go_wp2_with fail
                refine (heard_out _ _ me n p s hwr t hk).mono ?_
                rintro e w4 ⟨rfl, rfl⟩
                have hw4 := hwr
                have hX4 := hX
                have hC4 := hC
                have hB4 := hBr
                clear hwr hX hC hBr X_c X_f c0 hk
                have X_c := hX4.cell
                go_wp2_with fail
                refine wp_region_plan [(0, true), (1, true), (2, true), (3, true), (4, true), (5, false), (6, false)] (fun w' => WatchAt w' w1.heap.size me n p s ∧ Blk w' w3.heap.size (xcells me n p s) ∧ Blk w' w.heap.size #[.int .i64 me, .int .i64 n, .int .i64 p] ∧ Below w.heap.size w w') (by kernel_rfl) (by kernel_rfl) (fun _ _ _ _ h => h) ?_ (fun hS => ?_)
                · exact ⟨hw4.drew, hX4.drew, hC4.drew, bel_drew hB4⟩
                iterate 5
                  refine plan_light (o := ?_) (v := ?_) ?_ ?_ ?_ ?_
                  rotate_left 2
                  · simp only [List.getElem?_toArray, List.getElem?_cons_zero, List.getElem?_cons_succ]
                    rfl
                  · go_simp
                  · intro w' hS
                    (have sa1 := hS.2.1.cell; have sa2 := hS.2.1.free; have sa3 := cell_call HQ.out hS.2.2.2)
                    go_simp
                    try rfl
                  simp only [Act.put, List.setIfInBounds_toArray, List.set_cons_zero, List.set_cons_succ]
                refine plan_heavy (o := ?_) ?_ (fun K' hK => ?_)
                rotate_left
                · simp only [List.getElem?_toArray, List.getElem?_cons_zero, List.getElem?_cons_succ]
                  rfl
                go_simp
                go_wp2_with (go_at_call 15; refine (r1.out _).mono ?_; rintro e w5 ⟨rfl, hb5⟩; have sb1 := (hS.2.1.call hb5).cell; have sb2 := (hS.2.1.call hb5).free)
                refine hK.out _ _ ?_ (fun hS => ?_)
                · exact ⟨hS.1.call hb5, hS.2.1.call hb5, hS.2.2.1.call hb5, bel_call hb5 hS.2.2.2⟩
                clear hK K'
                refine plan_sink (o := ?_) ?_ (by kernel_rfl) (fun K' hK => ?_)
                rotate_left
                · simp only [List.getElem?_toArray, List.getElem?_cons_zero, List.getElem?_cons_succ]
                  rfl
                go_simp
                refine hK.out _ _ ?_
                clear hK K'
                refine plan_nil ?_
                have hXf := hS.2.1.free
                go_wp2_with fail
                go_meet
                exact store_all w w5 w1.heap.size w3.heap.size w.heap.size me p n s s _ hS.1 hS.2.1 hS.2.2.1 hS.2.2.2 (by omega) (by omega) (by omega) hs1 _ rfl
          case rest =>
            obtain ⟨s1, hw, hs1, hX, hC, hB⟩ := hcut
            have HS1 := Lib.hid hs1
            clear hs1
            have C_c := hC.cell
            go_wp2_with fail
            go_loopw [11] (fun i wx => ∃ q : Int, -1 ≤ q ∧ q ≤ n + 1 ∧ i = .int .i64 q ∧ WatchAt wx w1.heap.size me n p s1 ∧ Blk wx w3.heap.size (xcells me n p s1) ∧ Blk wx w.heap.size #[.int .i64 me, .int .i64 n, .int .i64 p] ∧ Below w.heap.size w wx) (fun i _ => (n + 1 - intOf i).toNat)
            case atStart => exact ⟨-1, by omega, by omega, rfl, hw, hX, hC, hB⟩
            case round =>
              clear hw hX hC hB C_c
              obtain ⟨q, hq1, hq2, rfl, hw, hX, hC, hB⟩ := hrel
              have C_c := hC.cell
              by_cases hqn : q ≤ n
              · have e0 : decide (q ≤ (n : Int)) = true := decide_eq_true hqn
                have e1 : IntKind.i64.wrap (q + 1) = q + 1 := IntWalk.i64_in _ (by omega)
                have HQn := Lib.hid hqn
                clear hqn
                go_wp2_with fail
                refine wp_region_plan [(0, true), (1, true), (3, true), (4, true), (2, false), (5, false), (6, true)] (fun w' => WatchAt w' w1.heap.size me n p s1 ∧ Blk w' w3.heap.size (xcells me n p s1) ∧ Blk w' w.heap.size #[.int .i64 me, .int .i64 n, .int .i64 p] ∧ Below w.heap.size w w') (by kernel_rfl) (by kernel_rfl) (fun _ _ _ _ h => h) ?_ (fun hS => ?_)
                · exact ⟨hw.drew, hX.drew, hC.drew, bel_drew hB⟩
                iterate 4
                  refine plan_light (o := ?_) (v := ?_) ?_ ?_ ?_ ?_
                  rotate_left 2
                  · simp only [List.getElem?_toArray, List.getElem?_cons_zero, List.getElem?_cons_succ]
                    rfl
                  · go_simp
                  · intro w' hS
                    (have sa1 := hS.2.1.cell)
                    go_simp
                    try rfl
                  simp only [Act.put, List.setIfInBounds_toArray, List.set_cons_zero, List.set_cons_succ]
                refine plan_heavy (o := ?_) ?_ (fun K' hK => ?_)
                rotate_left
                · simp only [List.getElem?_toArray, List.getElem?_cons_zero, List.getElem?_cons_succ]
                  rfl
                go_simp
                go_wp2_with (first | (go_at_call 16; refine (silent_any _ _ me n p s1 hS.1 q (by omega)).mono ?_; rintro e w' ⟨rfl, rfl⟩) | (go_at_call 17; refine (refSilent_any _ me n p s1 q (by omega)).mono ?_; rintro e w6 ⟨rfl, hb6⟩))
                refine hK.out _ _ ?_ (fun hS => ?_)
                · (first | exact hS | exact ⟨hS.1.call hb6, hS.2.1.call hb6, hS.2.2.1.call hb6, bel_call hb6 hS.2.2.2⟩)
                clear hK K'
                refine plan_heavy (o := ?_) ?_ (fun K' hK => ?_)
                rotate_left
                · simp only [List.getElem?_toArray, List.getElem?_cons_zero, List.getElem?_cons_succ]
                  rfl
                go_simp
                go_wp2_with (first | (go_at_call 16; refine (silent_any _ _ me n p s1 hS.1 q (by omega)).mono ?_; rintro e w' ⟨rfl, rfl⟩) | (go_at_call 17; refine (refSilent_any _ me n p s1 q (by omega)).mono ?_; rintro e w6 ⟨rfl, hb6⟩))
                refine hK.out _ _ ?_ (fun hS => ?_)
                · (first | exact hS | exact ⟨hS.1.call hb6, hS.2.1.call hb6, hS.2.2.1.call hb6, bel_call hb6 hS.2.2.2⟩)
                clear hK K'
                refine plan_light (o := ?_) (v := ?_) ?_ ?_ ?_ ?_
                rotate_left 2
                · simp only [List.getElem?_toArray, List.getElem?_cons_zero, List.getElem?_cons_succ]
                  rfl
                · go_simp
                · intro w' hS
                  (have sa1 := hS.2.1.cell)
                  go_simp
                  try rfl
                simp only [Act.put, List.setIfInBounds_toArray, List.set_cons_zero, List.set_cons_succ]
                refine plan_nil ?_
                go_wp2_with fail
                go_roundw
                case rel => exact ⟨q + 1, by omega, by have := HQn.out; omega, by go_num, hS.1, hS.2.1, hS.2.2.1, hS.2.2.2⟩
                case measure => have := HQn.out; simp [intOf]; omega
              · have e0 : decide (q ≤ (n : Int)) = false := decide_eq_false hqn
                clear hqn
                go_wp2_with fail
                refine wp_region_plan [(0, true), (2, true), (1, false), (3, false), (4, false), (5, true), (6, true), (7, true), (9, true), (8, false), (10, false), (11, true), (12, true)] (fun w' => WatchAt w' w1.heap.size me n p s1 ∧ Blk w' w3.heap.size (xcells me n p s1) ∧ Blk w' w.heap.size #[.int .i64 me, .int .i64 n, .int .i64 p] ∧ Below w.heap.size w w') (by kernel_rfl) (by kernel_rfl) (fun _ _ _ _ h => h) ?_ (fun hS => ?_)
                · exact ⟨hw.drew, hX.drew, hC.drew, bel_drew hB⟩
                iterate 2
                  refine plan_light (o := ?_) (v := ?_) ?_ ?_ ?_ ?_
                  rotate_left 2
                  · simp only [List.getElem?_toArray, List.getElem?_cons_zero, List.getElem?_cons_succ]
                    rfl
                  · go_simp
                  · intro w' hS
                    (have sa1 := hS.2.1.cell)
                    go_simp
                    try rfl
                  simp only [Act.put, List.setIfInBounds_toArray, List.set_cons_zero, List.set_cons_succ]
                refine plan_heavy (o := ?_) ?_ (fun K' hK => ?_)
                rotate_left
                · simp only [List.getElem?_toArray, List.getElem?_cons_zero, List.getElem?_cons_succ]
                  rfl
                go_simp
                go_wp2_with (first | (go_at_call 19; refine (suspects_any _ _ me p n s1 hS.1 hn7).mono ?_; rintro e w6 ⟨v, rfl, hown, hb6⟩; obtain ⟨sl, cl, rfl, hrow⟩ := own_open hown) | (go_at_call 20; refine (refSuspects_any _ me p n s1 hn7).mono ?_; rintro e w7 ⟨v', rfl, hown', hb7⟩; obtain ⟨sl', cl', rfl, hrow'⟩ := own_open hown'; have hrow2 := hrow.call hb7) | (go_at_call 18; refine (same_any _ _ _ _ _ _ _ _ hrow2 hrow').mono ?_; rintro e w8 ⟨rfl, hb8⟩) | (go_at_call 21; refine (leader_any _ _ me p n s1 hS.1 hn7).mono ?_; rintro e w9 ⟨rfl, hb9⟩) | (go_at_call 22; refine (refLeader_any _ me p n s1 hn7).mono ?_; rintro e w10 ⟨rfl, hb10⟩))
                refine hK.out _ _ ?_ (fun hS => ?_)
                · (first | exact ⟨hS.1.call hb10, hS.2.1.call hb10, hS.2.2.1.call hb10, bel_call hb10 hS.2.2.2⟩ | exact ⟨hS.1.call hb9, hS.2.1.call hb9, hS.2.2.1.call hb9, bel_call hb9 hS.2.2.2⟩ | exact ⟨hS.1.call hb8, hS.2.1.call hb8, hS.2.2.1.call hb8, bel_call hb8 hS.2.2.2⟩ | exact ⟨hS.1.call hb7, hS.2.1.call hb7, hS.2.2.1.call hb7, bel_call hb7 hS.2.2.2⟩ | exact ⟨hS.1.call hb6, hS.2.1.call hb6, hS.2.2.1.call hb6, bel_call hb6 hS.2.2.2⟩)
                clear hK K'
                refine plan_heavy (o := ?_) ?_ (fun K' hK => ?_)
                rotate_left
                · simp only [List.getElem?_toArray, List.getElem?_cons_zero, List.getElem?_cons_succ]
                  rfl
                go_simp
                go_wp2_with (first | (go_at_call 19; refine (suspects_any _ _ me p n s1 hS.1 hn7).mono ?_; rintro e w6 ⟨v, rfl, hown, hb6⟩; obtain ⟨sl, cl, rfl, hrow⟩ := own_open hown) | (go_at_call 20; refine (refSuspects_any _ me p n s1 hn7).mono ?_; rintro e w7 ⟨v', rfl, hown', hb7⟩; obtain ⟨sl', cl', rfl, hrow'⟩ := own_open hown'; have hrow2 := hrow.call hb7) | (go_at_call 18; refine (same_any _ _ _ _ _ _ _ _ hrow2 hrow').mono ?_; rintro e w8 ⟨rfl, hb8⟩) | (go_at_call 21; refine (leader_any _ _ me p n s1 hS.1 hn7).mono ?_; rintro e w9 ⟨rfl, hb9⟩) | (go_at_call 22; refine (refLeader_any _ me p n s1 hn7).mono ?_; rintro e w10 ⟨rfl, hb10⟩))
                refine hK.out _ _ ?_ (fun hS => ?_)
                · (first | exact ⟨hS.1.call hb10, hS.2.1.call hb10, hS.2.2.1.call hb10, bel_call hb10 hS.2.2.2⟩ | exact ⟨hS.1.call hb9, hS.2.1.call hb9, hS.2.2.1.call hb9, bel_call hb9 hS.2.2.2⟩ | exact ⟨hS.1.call hb8, hS.2.1.call hb8, hS.2.2.1.call hb8, bel_call hb8 hS.2.2.2⟩ | exact ⟨hS.1.call hb7, hS.2.1.call hb7, hS.2.2.1.call hb7, bel_call hb7 hS.2.2.2⟩ | exact ⟨hS.1.call hb6, hS.2.1.call hb6, hS.2.2.1.call hb6, bel_call hb6 hS.2.2.2⟩)
                clear hK K'
                refine plan_heavy (o := ?_) ?_ (fun K' hK => ?_)
                rotate_left
                · simp only [List.getElem?_toArray, List.getElem?_cons_zero, List.getElem?_cons_succ]
                  rfl
                go_simp
                go_wp2_with (first | (go_at_call 19; refine (suspects_any _ _ me p n s1 hS.1 hn7).mono ?_; rintro e w6 ⟨v, rfl, hown, hb6⟩; obtain ⟨sl, cl, rfl, hrow⟩ := own_open hown) | (go_at_call 20; refine (refSuspects_any _ me p n s1 hn7).mono ?_; rintro e w7 ⟨v', rfl, hown', hb7⟩; obtain ⟨sl', cl', rfl, hrow'⟩ := own_open hown'; have hrow2 := hrow.call hb7) | (go_at_call 18; refine (same_any _ _ _ _ _ _ _ _ hrow2 hrow').mono ?_; rintro e w8 ⟨rfl, hb8⟩) | (go_at_call 21; refine (leader_any _ _ me p n s1 hS.1 hn7).mono ?_; rintro e w9 ⟨rfl, hb9⟩) | (go_at_call 22; refine (refLeader_any _ me p n s1 hn7).mono ?_; rintro e w10 ⟨rfl, hb10⟩))
                refine hK.out _ _ ?_ (fun hS => ?_)
                · (first | exact ⟨hS.1.call hb10, hS.2.1.call hb10, hS.2.2.1.call hb10, bel_call hb10 hS.2.2.2⟩ | exact ⟨hS.1.call hb9, hS.2.1.call hb9, hS.2.2.1.call hb9, bel_call hb9 hS.2.2.2⟩ | exact ⟨hS.1.call hb8, hS.2.1.call hb8, hS.2.2.1.call hb8, bel_call hb8 hS.2.2.2⟩ | exact ⟨hS.1.call hb7, hS.2.1.call hb7, hS.2.2.1.call hb7, bel_call hb7 hS.2.2.2⟩ | exact ⟨hS.1.call hb6, hS.2.1.call hb6, hS.2.2.1.call hb6, bel_call hb6 hS.2.2.2⟩)
                clear hK K'
                iterate 4
                  refine plan_light (o := ?_) (v := ?_) ?_ ?_ ?_ ?_
                  rotate_left 2
                  · simp only [List.getElem?_toArray, List.getElem?_cons_zero, List.getElem?_cons_succ]
                    rfl
                  · go_simp
                  · intro w' hS
                    (have sa1 := hS.2.1.cell)
                    go_simp
                    try rfl
                  simp only [Act.put, List.setIfInBounds_toArray, List.set_cons_zero, List.set_cons_succ]
                refine plan_heavy (o := ?_) ?_ (fun K' hK => ?_)
                rotate_left
                · simp only [List.getElem?_toArray, List.getElem?_cons_zero, List.getElem?_cons_succ]
                  rfl
                go_simp
                go_wp2_with (first | (go_at_call 19; refine (suspects_any _ _ me p n s1 hS.1 hn7).mono ?_; rintro e w6 ⟨v, rfl, hown, hb6⟩; obtain ⟨sl, cl, rfl, hrow⟩ := own_open hown) | (go_at_call 20; refine (refSuspects_any _ me p n s1 hn7).mono ?_; rintro e w7 ⟨v', rfl, hown', hb7⟩; obtain ⟨sl', cl', rfl, hrow'⟩ := own_open hown'; have hrow2 := hrow.call hb7) | (go_at_call 18; refine (same_any _ _ _ _ _ _ _ _ hrow2 hrow').mono ?_; rintro e w8 ⟨rfl, hb8⟩) | (go_at_call 21; refine (leader_any _ _ me p n s1 hS.1 hn7).mono ?_; rintro e w9 ⟨rfl, hb9⟩) | (go_at_call 22; refine (refLeader_any _ me p n s1 hn7).mono ?_; rintro e w10 ⟨rfl, hb10⟩))
                refine hK.out _ _ ?_ (fun hS => ?_)
                · (first | exact ⟨hS.1.call hb10, hS.2.1.call hb10, hS.2.2.1.call hb10, bel_call hb10 hS.2.2.2⟩ | exact ⟨hS.1.call hb9, hS.2.1.call hb9, hS.2.2.1.call hb9, bel_call hb9 hS.2.2.2⟩ | exact ⟨hS.1.call hb8, hS.2.1.call hb8, hS.2.2.1.call hb8, bel_call hb8 hS.2.2.2⟩ | exact ⟨hS.1.call hb7, hS.2.1.call hb7, hS.2.2.1.call hb7, bel_call hb7 hS.2.2.2⟩ | exact ⟨hS.1.call hb6, hS.2.1.call hb6, hS.2.2.1.call hb6, bel_call hb6 hS.2.2.2⟩)
                clear hK K'
                refine plan_heavy (o := ?_) ?_ (fun K' hK => ?_)
                rotate_left
                · simp only [List.getElem?_toArray, List.getElem?_cons_zero, List.getElem?_cons_succ]
                  rfl
                go_simp
                go_wp2_with (first | (go_at_call 19; refine (suspects_any _ _ me p n s1 hS.1 hn7).mono ?_; rintro e w6 ⟨v, rfl, hown, hb6⟩; obtain ⟨sl, cl, rfl, hrow⟩ := own_open hown) | (go_at_call 20; refine (refSuspects_any _ me p n s1 hn7).mono ?_; rintro e w7 ⟨v', rfl, hown', hb7⟩; obtain ⟨sl', cl', rfl, hrow'⟩ := own_open hown'; have hrow2 := hrow.call hb7) | (go_at_call 18; refine (same_any _ _ _ _ _ _ _ _ hrow2 hrow').mono ?_; rintro e w8 ⟨rfl, hb8⟩) | (go_at_call 21; refine (leader_any _ _ me p n s1 hS.1 hn7).mono ?_; rintro e w9 ⟨rfl, hb9⟩) | (go_at_call 22; refine (refLeader_any _ me p n s1 hn7).mono ?_; rintro e w10 ⟨rfl, hb10⟩))
                refine hK.out _ _ ?_ (fun hS => ?_)
                · (first | exact ⟨hS.1.call hb10, hS.2.1.call hb10, hS.2.2.1.call hb10, bel_call hb10 hS.2.2.2⟩ | exact ⟨hS.1.call hb9, hS.2.1.call hb9, hS.2.2.1.call hb9, bel_call hb9 hS.2.2.2⟩ | exact ⟨hS.1.call hb8, hS.2.1.call hb8, hS.2.2.1.call hb8, bel_call hb8 hS.2.2.2⟩ | exact ⟨hS.1.call hb7, hS.2.1.call hb7, hS.2.2.1.call hb7, bel_call hb7 hS.2.2.2⟩ | exact ⟨hS.1.call hb6, hS.2.1.call hb6, hS.2.2.1.call hb6, bel_call hb6 hS.2.2.2⟩)
                clear hK K'
                iterate 2
                  refine plan_light (o := ?_) (v := ?_) ?_ ?_ ?_ ?_
                  rotate_left 2
                  · simp only [List.getElem?_toArray, List.getElem?_cons_zero, List.getElem?_cons_succ]
                    rfl
                  · go_simp
                  · intro w' hS
                    (have sa1 := hS.2.1.cell)
                    go_simp
                    try rfl
                  simp only [Act.put, List.setIfInBounds_toArray, List.set_cons_zero, List.set_cons_succ]
                refine plan_nil ?_
                go_wp2_with fail
                go_roundw
                case rel => exact ⟨j + 1, s1, by omega, by omega, by go_num, hS.1, HS1.out, hS.2.1, hS.2.2.1, hS.2.2.2⟩
                case measure => simp [intOf]; omega
        · have hd1 : decide ((j : Int) < (len : Int)) = true := by simp; omega
          have hd2 : decide ((j : Int) < 200) = false := by simp; omega
          go_wp2_with fail
          go_ret
          exact ⟨rfl, hBr⟩
      · have hd1 : decide ((j : Int) < (len : Int)) = false := by simp; omega
        go_wp2_with fail
        go_ret
        exact ⟨rfl, hBr⟩
  · skip
    go_wp2_with fail
    refine (awake_any _).mono ?_
    rintro e w1 ⟨rfl, hb⟩
    have C : Blk w1 w.heap.size _ := Blk.call (by first | exact (Blk.new _ _ _) | exact (Blk.new _ _ _).alloc _ | exact ((Blk.new _ _ _).alloc _).alloc _ | exact (((Blk.new _ _ _).alloc _).alloc _).alloc _ | exact (Blk.new _ _ _).drew | exact ((Blk.new _ _ _).alloc _).drew | exact (((Blk.new _ _ _).alloc _).alloc _).drew) hb
    replace hB := bel_call hb (by first | exact hB | exact bel_alloc hB _ | exact bel_alloc (bel_alloc hB _) _ | exact bel_alloc (bel_alloc (bel_alloc hB _) _) _ | exact bel_drew hB | exact bel_drew (bel_alloc hB _) | exact bel_drew (bel_alloc (bel_alloc hB _) _))
    clear hb
    have C_c := C.cell; have C_f := C.free; have C_l := C.lt
    go_wp2_with fail
    refine (new_bad _ me nI p hok).mono ?_
    rintro e w2 ⟨rfl, rfl⟩
    go_wp2_with fail
    refine (refNew_bad _ me nI p hok).mono ?_
    rintro e w3 ⟨rfl, hb⟩
    replace hB := bel_call hb hB
    clear hb C
    go_wp2_with fail
    go_ret
    exact ⟨rfl, bel_alloc hB _⟩
end Go.Proofs.Ytkgfikaojbfoiaa
