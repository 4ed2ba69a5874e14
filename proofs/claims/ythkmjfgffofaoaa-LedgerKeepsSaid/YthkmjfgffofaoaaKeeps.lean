/-
  The walk of LedgerKeeps.
-/
import Derived.Test.YthkmjfgffofaoaaInv
import Derived.Test.YthkmjfgffofaoaaOpen
namespace Go.Proofs.Ythkmjfgffofaoaa
open Go.RowKit
set_option linter.unusedSimpArgs false
set_option linter.unusedVariables false
theorem tot_add {F : Nat → Int} {acc dst asset n : Int} (h : doE F 0 acc dst asset n = 0) : okD acc asset n ∧ ∀ s, s < 2 → doN F 0 acc dst asset n (260 + s) = F (260 + s) + if (s : Int) = asset then n else 0 := by
  unfold doE at h
  rw [if_pos rfl] at h
  unfold addE at h
  by_cases h1 : okD acc asset n
  · rw [if_pos h1] at h
    by_cases h2 : 1152921504606846976 - F (tx asset) < n
    · rw [if_pos h2] at h; exact absurd h (by decide)
    · refine ⟨h1, fun s hs => ?_⟩
      unfold doN
      rw [if_pos rfl, (addN_ok h1 h2).2]
      obtain ⟨hA, hn⟩ := h1
      unfold okA at hA
      by_cases e : (s : Int) = asset
      · rw [if_pos e, show 260 + s = tx asset by unfold tx; omega, upd_at]
      · rw [if_neg e, upd_ne _ _ _ _ (by unfold tx; omega), upd_ne _ _ _ _ (by unfold ix; omega)]; omega
  · rw [if_neg h1] at h; exact absurd h (by decide)
theorem tot_take {F : Nat → Int} {acc dst asset n : Int} (h : doE F 1 acc dst asset n = 0) : okD acc asset n ∧ ∀ s, s < 2 → doN F 1 acc dst asset n (260 + s) = F (260 + s) - if (s : Int) = asset then n else 0 := by
  unfold doE at h
  rw [if_neg (by decide), if_pos rfl] at h
  unfold moveE at h
  by_cases h1 : okD acc asset n
  · rw [if_pos h1] at h
    by_cases h2 : F (ix acc asset) < n
    · rw [if_pos h2] at h; exact absurd h (by decide)
    · refine ⟨h1, fun s hs => ?_⟩
      unfold doN takeN
      rw [if_neg (by decide), if_pos rfl, if_pos ⟨h1, h2⟩]
      obtain ⟨hA, hn⟩ := h1
      unfold okA at hA
      by_cases e : (s : Int) = asset
      · rw [if_pos e, show 260 + s = tx asset by unfold tx; omega, upd_at]
      · rw [if_neg e, upd_ne _ _ _ _ (by unfold tx; omega), upd_ne _ _ _ _ (by unfold ix; omega)]; omega
  · rw [if_neg h1] at h; exact absurd h (by decide)
theorem move_tot {F : Nat → Int} {ok : Prop} [Decidable ok] {x y : Nat} {n : Int} (hx : ok → x < 260) (hy : ok → y < 260) (s : Nat) : moveN F ok x y n (260 + s) = F (260 + s) := by
  unfold moveN
  split
  · rename_i h
    have := hx h.1; have := hy h.1
    rw [upd_ne _ _ _ _ (by omega), upd_ne _ _ _ _ (by omega)]
  · rfl
theorem tot_else {F : Nat → Int} {k acc dst asset n : Int} (h : (k ≠ 0 ∧ k ≠ 1) ∨ doE F k acc dst asset n ≠ 0) (s : Nat) : doN F k acc dst asset n (260 + s) = F (260 + s) := by
  rcases h with ⟨h0, h1⟩ | h
  · have b : okA acc asset → ix acc asset + 1 < 260 := fun h => by unfold okA at h; unfold ix; omega
    have b' : okA dst asset → ix dst asset < 260 := fun h => by unfold okA at h; unfold ix; omega
    unfold doN
    rw [if_neg h0, if_neg h1]
    split
    · exact move_tot (fun h => by have := b h.1; omega) (fun h => b h.1) s
    · split
      · exact move_tot (fun h => b h.1) (fun h => by have := b h.1; omega) s
      · split
        · exact move_tot (fun h => by have := b h.1; omega) (fun h => b' h.2.1) s
        · exact move_tot (fun h => b h.1) (fun h => b' h.2.1) s
  · rw [doN_no h]
theorem ixm (a s : Nat) : ix (a : Int) (s : Int) = a * 4 + s * 2 := by unfold ix; simp
theorem getF_nn {F : Nat → Int} (h : Inv F) (acc asset : Int) (r : Nat) (hr : r < 2) : 0 ≤ getF F acc asset (ix acc asset + r) := by
  unfold getF
  split
  · rename_i hA
    unfold okA at hA
    exact h.nn _ (by unfold ix; omega)
  · omega
set_option maxHeartbeats 2000000 in
theorem sum_any (w : World) (b : Nat) (F : Nat → Int) (h : LAt w b F) (hI : Inv F) (s : Nat) (hs : s < 2) :
    Calls Try.prog 20 #[.pointer (some ⟨b, 0, none⟩), .int .i64 s] w fun e w' => e = .returned (.int .i64 (F (260 + s))) ∧ w = w' := by
  rw [hI.tot s hs]
  go_enter Try.func20, Try.ntmps20
  go_wp2_with fail
  go_loop [5, 6] (fun n i => ∃ x : Nat, x ≤ 65 ∧ i = .int .i64 x ∧ n = .int .i64 (SK F s x)) (fun _ i => 65 - (intOf i).toNat)
  case atStart => exact ⟨0, by omega, rfl, rfl⟩
  case round =>
    obtain ⟨x, hx, rfl, rfl⟩ := hrel
    by_cases hx2 : x ≤ 64
    · have ex : decide ((x : Int) ≤ 64) = true := by simp; omega
      have hA : okA x s := ⟨by omega, by omega, by omega, by omega⟩
      have e1 : getF F x s (ix x s) = F (x * 4 + s * 2) := by unfold getF; rw [if_pos hA, ixm]
      have e2 : getF F x s (ix x s + 1) = F (x * 4 + s * 2 + 1) := by unfold getF; rw [if_pos hA, ixm]
      have m1 := SK_nn F s hs x (by omega) hI.nn
      have m2 := SK_up F s hs hI.nn (x + 1) (65 - (x + 1)) (by omega)
      rw [show x + 1 + (65 - (x + 1)) = 65 by omega, ← hI.tot s hs] at m2
      have m3 := hI.lim s hs
      have m4 := hI.nn (x * 4 + s * 2) (by omega)
      have m5 := hI.nn (x * 4 + s * 2 + 1) (by omega)
      have m6 : SK F s (x + 1) = SK F s x + F (x * 4 + s * 2) + F (x * 4 + s * 2 + 1) := rfl
      have w1 : IntKind.i64.wrap (SK F s x + F (x * 4 + s * 2)) = SK F s x + F (x * 4 + s * 2) := IntWalk.i64_in _ (by omega)
      have w2 : IntKind.i64.wrap (SK F s x + F (x * 4 + s * 2) + F (x * 4 + s * 2 + 1)) = SK F s (x + 1) := by rw [m6]; exact IntWalk.i64_in _ (by omega)
      have c1 := Lib.hid (free_any w b F h x s)
      have c2 := Lib.hid (held_any w b F h x s)
      rw [e1] at c1
      rw [e2] at c2
      clear e1 e2 m1 m2 m3 m4 m5 m6 hA
      generalize F (x * 4 + s * 2) = p at *
      generalize F (x * 4 + s * 2 + 1) = q at *
      obtain ⟨S', hS'⟩ : ∃ S', SK F s (x + 1) = S' := ⟨_, rfl⟩
      have HX := Lib.hid hS'
      rw [hS'] at w2
      clear hS'
      generalize SK F s x = S at *
      go_wp2_with fail
      refine (c1.out).mono ?_
      rintro e w5 ⟨rfl, rfl⟩
      go_wp2_with fail
      refine (c2.out).mono ?_
      rintro e w5 ⟨rfl, rfl⟩
      go_wp2_with fail
      go_round
      case rel => exact ⟨x + 1, by omega, by go_num, by rw [HX.out]⟩
      case measure => simp [intOf]; omega
    · have hx3 : x = 65 := by omega
      subst hx3
      go_wp2_with fail
      go_ret
      exact ⟨rfl, rfl⟩
theorem kinds2 (k : Int) : k = 0 ∨ k = 1 ∨ ((k == 0) = false ∧ (k == 1) = false ∧ k ≠ 0 ∧ k ≠ 1) := by
  simp
  omega
theorem sum_int (w : World) (b : Nat) (F : Nat → Int) (h : LAt w b F) (hI : Inv F) (asset : Int) (hs : asset = 0 ∨ asset = 1) :
    Calls Try.prog 20 #[.pointer (some ⟨b, 0, none⟩), .int .i64 asset] w fun e w' => e = .returned (.int .i64 (F (tx asset))) ∧ w = w' := by
  rcases hs with rfl | rfl
  · exact sum_any w b F h hI 0 (by omega)
  · exact sum_any w b F h hI 1 (by omega)
set_option maxRecDepth 100000 in
set_option maxHeartbeats 16000000 in
theorem keeps_walk (sa : Option Addr) (len cap : Nat) (D : Nat → Nat → Int) (w : World) (hD : RowsOf w sa len cap 5 (fun _ => .i64) D) :
    Calls Try.prog 5 #[.slice sa len cap] w fun e w' => e = .returned (.bool true) ∧ Below w.heap.size w w' := by
  have hB := bel_refl w
  have hlen : len ≤ 9223372036854775807 := by have := hD.lenCap; have := hD.capMax; unfold maxLen at this; omega
  go_enter Try.func5, Try.ntmps5
  go_wp2_with fail
  refine (awake_any _).mono ?_
  rintro e w1 ⟨rfl, hb⟩
  replace hB := bel_call hb (by first | exact hB | exact bel_alloc hB _ | exact bel_alloc (bel_alloc hB _) _ | exact bel_alloc (bel_alloc (bel_alloc hB _) _) _ | exact bel_drew hB | exact bel_drew (bel_alloc hB _) | exact bel_drew (bel_alloc (bel_alloc hB _) _))
  clear hb
  go_wp2_with fail
  have HBB := Lib.hid hB.size
  refine (new_any _).mono ?_
  rintro e w2 ⟨rfl, hw, hb9⟩
  replace hB := bel_call hb9 hB
  have hbb : w.heap.size ≤ w1.heap.size := HBB.out
  have hlt2 := hw.lt
  clear hb9
  go_wp2_with fail
  go_loopw [6] (fun i wr => ∃ (j : Nat) (F : Nat → Int), j ≤ len ∧ j ≤ 300 ∧ i = .int .i64 j ∧ LAt wr w1.heap.size F ∧ Inv F ∧ Blk wr w2.heap.size #[Value.int .i64 (F 260), Value.int .i64 (F 261)] ∧ Below w.heap.size w wr) (fun i _ => len - (intOf i).toNat)
  case atStart => exact ⟨0, _, by omega, by omega, rfl, hw.alloc _, Inv.zero, Blk.new _ _ _, bel_alloc hB _⟩
  case round =>
    clear hw hB
    obtain ⟨j, F, hj, hj2, rfl, hwr, hI, hA, hBr⟩ := hrel
    by_cases hlt : j < len
    · by_cases hlt3 : j < 300
      · obtain ⟨b, off, rfl, hcell⟩ := hD.cells (by omega)
        have hd1 : decide ((j : Int) < (len : Int)) = true := by simp; omega
        have hd2 : decide ((j : Int) < 300) = true := by simp; omega
        have q0 := hcell j hlt 0 (by omega)
        have q1 := hcell j hlt 1 (by omega)
        have q2 := hcell j hlt 2 (by omega)
        have q3 := hcell j hlt 3 (by omega)
        have q4 := hcell j hlt 4 (by omega)
        rw [Nat.add_zero] at q0
        rw [← Nat.add_assoc] at q1 q2 q3 q4
        have p0 := cell_call q0 hBr
        have p1 := cell_call q1 hBr
        have p2 := cell_call q2 hBr
        have p3 := cell_call q3 hBr
        have p4 := cell_call q4 hBr
        have hj0 : (0 : Int) ≤ (j : Int) := by omega
        have hj1 : (j : Int) < (len : Int) := by omega
        clear hcell hD q0 q1 q2 q3 q4
        generalize D j 0 = d0 at *
        generalize D j 1 = d1 at *
        generalize D j 2 = d2 at *
        generalize D j 3 = d3 at *
        generalize D j 4 = d4 at *
        have HI := Lib.hid hI
        have cx := Lib.hid (fun (w : World) (b : Nat) (h : LAt w b F) => do_any w b F h HI.out.bd d0 d1 d2 d3 d4)
        have HI2 := Lib.hid (hI.doN d0 d1 d2 d3 d4)
        have HE1 := Lib.hid (fun (h : d0 = 0) (h2 : doE F d0 d1 d2 d3 d4 = 0) => tot_add (F := F) (acc := d1) (dst := d2) (asset := d3) (n := d4) (by rw [h] at h2; exact h2))
        have HE2 := Lib.hid (fun (h : d0 = 1) (h2 : doE F d0 d1 d2 d3 d4 = 0) => tot_take (F := F) (acc := d1) (dst := d2) (asset := d3) (n := d4) (by rw [h] at h2; exact h2))
        have HE3 := Lib.hid (fun (h : (d0 ≠ 0 ∧ d0 ≠ 1) ∨ doE F d0 d1 d2 d3 d4 ≠ 0) (s : Nat) => tot_else (F := F) (k := d0) (acc := d1) (dst := d2) (asset := d3) (n := d4) h s)
        have l0 := hI.lim 0 (by omega); have l1 := hI.lim 1 (by omega); have l2 := hI.nn 260 (by omega); have l3 := hI.nn 261 (by omega)
        clear hI
        obtain ⟨F', hF'⟩ : ∃ F', doN F d0 d1 d2 d3 d4 = F' := ⟨_, rfl⟩
        obtain ⟨E, hE⟩ : ∃ E, doE F d0 d1 d2 d3 d4 = E := ⟨_, rfl⟩
        rw [hF'] at cx HI2 HE3
        rw [hE] at cx HE1 HE2 HE3
        obtain ⟨x0, hx0⟩ : ∃ x0, F 260 = x0 := ⟨_, rfl⟩
        obtain ⟨x1, hx1⟩ : ∃ x1, F 261 = x1 := ⟨_, rfl⟩
        rw [hx0, hx1] at hA
        obtain ⟨y0, hy0⟩ : ∃ y0, F' 260 = y0 := ⟨_, rfl⟩
        obtain ⟨y1, hy1⟩ : ∃ y1, F' 261 = y1 := ⟨_, rfl⟩
        have HY := Lib.hid (And.intro hy0 hy1)
        have nn0 := getF_nn HI2.out d1 d3 0 (by omega)
        have nn1 := getF_nn HI2.out d1 d3 1 (by omega)
        rw [Nat.add_zero] at nn0
        have f1c := Lib.hid (fun (w : World) (h : LAt w w1.heap.size F') => free_any w _ F' h d1 d3)
        have f2c := Lib.hid (fun (w : World) (h : LAt w w1.heap.size F') => held_any w _ F' h d1 d3)
        have t0c := Lib.hid (fun (w : World) (h : LAt w w1.heap.size F') => total_any w _ F' h 0)
        have t1c := Lib.hid (fun (w : World) (h : LAt w w1.heap.size F') => total_any w _ F' h 1)
        have tf0 : totF F' 0 = y0 := hy0
        have tf1 : totF F' 1 = y1 := hy1
        clear t0c t1c
        generalize getF F' d1 d3 (ix d1 d3) = v1 at *
        generalize getF F' d1 d3 (ix d1 d3 + 1) = v2 at *
        have ev1 : decide (v1 < 0) = false := by simp; omega
        have ev2 : decide (v2 < 0) = false := by simp; omega
        have b0 : 0 ≤ y0 ∧ y0 ≤ 1152921504606846976 ∧ 0 ≤ y1 ∧ y1 ≤ 1152921504606846976 := by
          have a0 := HI2.out.lim 0 (by omega); have a1 := HI2.out.lim 1 (by omega); have a2 := HI2.out.nn 260 (by omega); have a3 := HI2.out.nn 261 (by omega)
          rw [hy0] at a2; rw [hy1] at a3
          rw [show 260 + 0 = 260 from rfl, hy0] at a0
          rw [show 260 + 1 = 261 from rfl, hy1] at a1
          omega
        have HX := Lib.hid (And.intro hx0 hx1)
        have HF := Lib.hid hF'
        have HBd := Lib.hid b0
        clear hF' hE hx0 hx1 hy0 hy1 nn0 nn1 l0 l1 l2 l3 b0
        go_wp2_with fail
        refine (cx.out _ _ (hwr.alloc _)).mono ?_
        rintro e w4 ⟨rfl, hw4, hg⟩
        obtain ⟨dbk, hdbk⟩ : ∃ dbk, wr.heap.size = dbk := ⟨_, rfl⟩
        have hD4 : Blk w4 dbk _ := (Blk.new' (w := wr) hdbk.symm #[.int .i64 d0, .int .i64 d1, .int .i64 d2, .int .i64 d3, .int .i64 d4] 35).grown hg (by have := hwr.lt; simp; omega)
        have hA4 := (hA.alloc (.cells #[.int .i64 d0, .int .i64 d1, .int .i64 d2, .int .i64 d3, .int .i64 d4] 35)).grown hg (by simp; omega)
        have hB4 := bel_grown hg (bel_alloc hBr _) (fun j hj => by cases hj; exact hbb)
        have hab : w2.heap.size ≠ dbk := by have := hA.lt; omega
        have hal : w1.heap.size ≠ w2.heap.size := by omega
        rw [hdbk]
        clear hg hwr hA hBr p0 p1 p2 p3 p4 cx hdbk
        have G_c := hD4.cell
        have A_c := hA4.cell
        by_cases hE : E = 0
        · subst hE
          rcases kinds2 d0 with rfl | rfl | ⟨k0, k1, n0, n1⟩
          · skip
            have hh := HE1.out rfl rfl
            have h3 : d3 = 0 ∨ d3 = 1 := by have := hh.1.1; unfold okA at this; omega
            have z0 := hh.2 0 (by omega)
            have z1 := hh.2 1 (by omega)
            rw [HF.out] at z0 z1
            rw [show 260 + 0 = 260 from rfl, HY.out.1, HX.out.1] at z0
            rw [show 260 + 1 = 261 from rfl, HY.out.2, HX.out.2] at z1
            have hb0 := HBd.out
            rcases h3 with rfl | rfl
            · have hz : x0 + d4 = y0 := by simp at z0; omega
              have ho : y1 = x1 := by simp at z1; omega
              subst ho
              have wz : IntKind.i64.wrap y0 = y0 := IntWalk.i64_in _ (by omega)
              clear hh z0 z1 hb0 HE1 HE2 HE3
              have A_f := hA4.free
              go_wp2_with fail
              refine wp_region_plan [(0, true), (1, true), (2, true), (3, true), (4, true), (5, true), (6, true), (7, true), (8, true), (9, true), (10, false)] (fun w' => Blk w' w2.heap.size #[.int .i64 x0, .int .i64 y1] ∧ Blk w' dbk #[.int .i64 0, .int .i64 d1, .int .i64 d2, .int .i64 0, .int .i64 d4]) (by kernel_rfl) (by kernel_rfl) (fun _ _ _ _ h => h) ?_ (fun hS => ?_)
              · exact ⟨hA4.drew, hD4.drew⟩
              iterate 10
                refine plan_light (o := ?_) (v := ?_) ?_ ?_ ?_ ?_
                rotate_left 2
                · simp only [List.getElem?_toArray, List.getElem?_cons_zero, List.getElem?_cons_succ]
                  rfl
                · go_simp
                · intro w' hS
                  (have sa1 := hS.1.cell; have sa2 := hS.1.free; have sa3 := hS.2.cell)
                  go_simp
                  try rfl
                simp only [Act.put, List.setIfInBounds_toArray, List.set_cons_zero, List.set_cons_succ]
              refine plan_sink (o := ?_) ?_ (by kernel_rfl) (fun K' hK => ?_)
              rotate_left
              · simp only [List.getElem?_toArray, List.getElem?_cons_zero, List.getElem?_cons_succ]
                rfl
              go_simp
              refine hK.out _ _ ?_
              clear hK K'
              refine plan_nil ?_
              have XL : LAt (w4.drew.setCell ⟨w2.heap.size, 0, none⟩ (.int .i64 y0)) w1.heap.size F' := hw4.drew.grown (gr_set (gr_refl _ (some w2.heap.size)) _ _ (.inl rfl)) (by simp; omega)
              have XA : Blk (w4.drew.setCell ⟨w2.heap.size, 0, none⟩ (.int .i64 y0)) w2.heap.size #[.int .i64 y0, .int .i64 y1] := hA4.drew.set 0 (.int .i64 y0)
              have XD : Blk (w4.drew.setCell ⟨w2.heap.size, 0, none⟩ (.int .i64 y0)) dbk #[.int .i64 0, .int .i64 d1, .int .i64 d2, .int .i64 0, .int .i64 d4] := hD4.drew.set_other ⟨w2.heap.size, 0, none⟩ (.int .i64 y0) hab
              have XB : Below w.heap.size w (w4.drew.setCell ⟨w2.heap.size, 0, none⟩ (.int .i64 y0)) := bel_set (bel_drew hB4) (by show w.heap.size ≤ w2.heap.size; omega) _
              clear hS
              have D_c := XD.cell
              go_wp2_with fail
              refine wp_region_plan [(0, true), (1, true), (2, true), (3, true), (4, true), (5, false), (6, true), (7, true), (8, true), (9, true), (10, true), (11, true), (12, true), (13, false), (14, true), (15, true), (16, true), (17, true), (19, true), (20, true), (18, false), (21, true), (22, true), (23, true), (24, true), (26, true), (27, true), (25, false), (28, true), (29, true)] (fun w' => LAt w' w1.heap.size F' ∧ Blk w' w2.heap.size #[.int .i64 y0, .int .i64 y1] ∧ Blk w' dbk #[.int .i64 0, .int .i64 d1, .int .i64 d2, .int .i64 0, .int .i64 d4] ∧ Below w.heap.size w w') (by kernel_rfl) (by kernel_rfl) (fun _ _ _ _ h => h) ?_ (fun hS => ?_)
              · exact ⟨XL.drew, XA.drew, XD.drew, bel_drew XB⟩
              iterate 5
                refine plan_light (o := ?_) (v := ?_) ?_ ?_ ?_ ?_
                rotate_left 2
                · simp only [List.getElem?_toArray, List.getElem?_cons_zero, List.getElem?_cons_succ]
                  rfl
                · go_simp
                · intro w' hS
                  (have sa1 := hS.2.1.cell; have sa2 := hS.2.2.1.cell)
                  go_simp
                  try rfl
                simp only [Act.put, List.setIfInBounds_toArray, List.set_cons_zero, List.set_cons_succ]
              refine plan_heavy (o := ?_) ?_ (fun K' hK => ?_)
              rotate_left
              · simp only [List.getElem?_toArray, List.getElem?_cons_zero, List.getElem?_cons_succ]
                rfl
              go_simp
              go_wp2_with (first | (go_at_call 16; refine (f1c.out _ hS.1).mono ?_; rintro e w' ⟨rfl, rfl⟩) | (go_at_call 18; refine (f2c.out _ hS.1).mono ?_; rintro e w' ⟨rfl, rfl⟩) | (go_at_call 14; refine (total_any _ _ F' hS.1 _).mono ?_; rintro e w' ⟨rfl, rfl⟩))
              refine hK.out _ _ ?_ (fun hS => ?_)
              · exact hS
              clear hK K'
              iterate 7
                refine plan_light (o := ?_) (v := ?_) ?_ ?_ ?_ ?_
                rotate_left 2
                · simp only [List.getElem?_toArray, List.getElem?_cons_zero, List.getElem?_cons_succ]
                  rfl
                · go_simp
                · intro w' hS
                  (have sa1 := hS.2.1.cell; have sa2 := hS.2.2.1.cell)
                  go_simp
                  try rfl
                simp only [Act.put, List.setIfInBounds_toArray, List.set_cons_zero, List.set_cons_succ]
              refine plan_heavy (o := ?_) ?_ (fun K' hK => ?_)
              rotate_left
              · simp only [List.getElem?_toArray, List.getElem?_cons_zero, List.getElem?_cons_succ]
                rfl
              go_simp
              go_wp2_with (first | (go_at_call 16; refine (f1c.out _ hS.1).mono ?_; rintro e w' ⟨rfl, rfl⟩) | (go_at_call 18; refine (f2c.out _ hS.1).mono ?_; rintro e w' ⟨rfl, rfl⟩) | (go_at_call 14; refine (total_any _ _ F' hS.1 _).mono ?_; rintro e w' ⟨rfl, rfl⟩))
              refine hK.out _ _ ?_ (fun hS => ?_)
              · exact hS
              clear hK K'
              iterate 6
                refine plan_light (o := ?_) (v := ?_) ?_ ?_ ?_ ?_
                rotate_left 2
                · simp only [List.getElem?_toArray, List.getElem?_cons_zero, List.getElem?_cons_succ]
                  rfl
                · go_simp
                · intro w' hS
                  (have sa1 := hS.2.1.cell; have sa2 := hS.2.2.1.cell)
                  go_simp
                  try rfl
                simp only [Act.put, List.setIfInBounds_toArray, List.set_cons_zero, List.set_cons_succ]
              refine plan_heavy (o := ?_) ?_ (fun K' hK => ?_)
              rotate_left
              · simp only [List.getElem?_toArray, List.getElem?_cons_zero, List.getElem?_cons_succ]
                rfl
              go_simp
              go_wp2_with (first | (go_at_call 16; refine (f1c.out _ hS.1).mono ?_; rintro e w' ⟨rfl, rfl⟩) | (go_at_call 18; refine (f2c.out _ hS.1).mono ?_; rintro e w' ⟨rfl, rfl⟩) | (go_at_call 14; refine (total_any _ _ F' hS.1 _).mono ?_; rintro e w' ⟨rfl, rfl⟩))
              refine hK.out _ _ ?_ (fun hS => ?_)
              · exact hS
              clear hK K'
              iterate 6
                refine plan_light (o := ?_) (v := ?_) ?_ ?_ ?_ ?_
                rotate_left 2
                · simp only [List.getElem?_toArray, List.getElem?_cons_zero, List.getElem?_cons_succ]
                  rfl
                · go_simp
                · intro w' hS
                  (have sa1 := hS.2.1.cell; have sa2 := hS.2.2.1.cell)
                  go_simp
                  try rfl
                simp only [Act.put, List.setIfInBounds_toArray, List.set_cons_zero, List.set_cons_succ]
              refine plan_heavy (o := ?_) ?_ (fun K' hK => ?_)
              rotate_left
              · simp only [List.getElem?_toArray, List.getElem?_cons_zero, List.getElem?_cons_succ]
                rfl
              go_simp
              go_wp2_with (first | (go_at_call 16; refine (f1c.out _ hS.1).mono ?_; rintro e w' ⟨rfl, rfl⟩) | (go_at_call 18; refine (f2c.out _ hS.1).mono ?_; rintro e w' ⟨rfl, rfl⟩) | (go_at_call 14; refine (total_any _ _ F' hS.1 _).mono ?_; rintro e w' ⟨rfl, rfl⟩))
              refine hK.out _ _ ?_ (fun hS => ?_)
              · exact hS
              clear hK K'
              iterate 2
                refine plan_light (o := ?_) (v := ?_) ?_ ?_ ?_ ?_
                rotate_left 2
                · simp only [List.getElem?_toArray, List.getElem?_cons_zero, List.getElem?_cons_succ]
                  rfl
                · go_simp
                · intro w' hS
                  (have sa1 := hS.2.1.cell; have sa2 := hS.2.2.1.cell)
                  go_simp
                  try rfl
                simp only [Act.put, List.setIfInBounds_toArray, List.set_cons_zero, List.set_cons_succ]
              refine plan_nil ?_
              go_wp2_with fail
              go_roundw
              case rel => exact ⟨j + 1, F', by omega, by omega, by go_num, hS.1, HI2.out, by rw [HY.out.1, HY.out.2]; exact hS.2.1, hS.2.2.2⟩
              case measure => simp [intOf]; omega
            · have hz : x1 + d4 = y1 := by simp at z1; omega
              have ho : y0 = x0 := by simp at z0; omega
              subst ho
              have wz : IntKind.i64.wrap y1 = y1 := IntWalk.i64_in _ (by omega)
              clear hh z0 z1 hb0 HE1 HE2 HE3
              have A_f := hA4.free
              go_wp2_with fail
              refine wp_region_plan [(0, true), (1, true), (2, true), (3, true), (4, true), (5, true), (6, true), (7, true), (8, true), (9, true), (10, false)] (fun w' => Blk w' w2.heap.size #[.int .i64 y0, .int .i64 x1] ∧ Blk w' dbk #[.int .i64 0, .int .i64 d1, .int .i64 d2, .int .i64 1, .int .i64 d4]) (by kernel_rfl) (by kernel_rfl) (fun _ _ _ _ h => h) ?_ (fun hS => ?_)
              · exact ⟨hA4.drew, hD4.drew⟩
              iterate 10
                refine plan_light (o := ?_) (v := ?_) ?_ ?_ ?_ ?_
                rotate_left 2
                · simp only [List.getElem?_toArray, List.getElem?_cons_zero, List.getElem?_cons_succ]
                  rfl
                · go_simp
                · intro w' hS
                  (have sa1 := hS.1.cell; have sa2 := hS.1.free; have sa3 := hS.2.cell)
                  go_simp
                  try rfl
                simp only [Act.put, List.setIfInBounds_toArray, List.set_cons_zero, List.set_cons_succ]
              refine plan_sink (o := ?_) ?_ (by kernel_rfl) (fun K' hK => ?_)
              rotate_left
              · simp only [List.getElem?_toArray, List.getElem?_cons_zero, List.getElem?_cons_succ]
                rfl
              go_simp
              refine hK.out _ _ ?_
              clear hK K'
              refine plan_nil ?_
              have XL : LAt (w4.drew.setCell ⟨w2.heap.size, 1, none⟩ (.int .i64 y1)) w1.heap.size F' := hw4.drew.grown (gr_set (gr_refl _ (some w2.heap.size)) _ _ (.inl rfl)) (by simp; omega)
              have XA : Blk (w4.drew.setCell ⟨w2.heap.size, 1, none⟩ (.int .i64 y1)) w2.heap.size #[.int .i64 y0, .int .i64 y1] := hA4.drew.set 1 (.int .i64 y1)
              have XD : Blk (w4.drew.setCell ⟨w2.heap.size, 1, none⟩ (.int .i64 y1)) dbk #[.int .i64 0, .int .i64 d1, .int .i64 d2, .int .i64 1, .int .i64 d4] := hD4.drew.set_other ⟨w2.heap.size, 1, none⟩ (.int .i64 y1) hab
              have XB : Below w.heap.size w (w4.drew.setCell ⟨w2.heap.size, 1, none⟩ (.int .i64 y1)) := bel_set (bel_drew hB4) (by show w.heap.size ≤ w2.heap.size; omega) _
              clear hS
              have D_c := XD.cell
              go_wp2_with fail
              refine wp_region_plan [(0, true), (1, true), (2, true), (3, true), (4, true), (5, false), (6, true), (7, true), (8, true), (9, true), (10, true), (11, true), (12, true), (13, false), (14, true), (15, true), (16, true), (17, true), (19, true), (20, true), (18, false), (21, true), (22, true), (23, true), (24, true), (26, true), (27, true), (25, false), (28, true), (29, true)] (fun w' => LAt w' w1.heap.size F' ∧ Blk w' w2.heap.size #[.int .i64 y0, .int .i64 y1] ∧ Blk w' dbk #[.int .i64 0, .int .i64 d1, .int .i64 d2, .int .i64 1, .int .i64 d4] ∧ Below w.heap.size w w') (by kernel_rfl) (by kernel_rfl) (fun _ _ _ _ h => h) ?_ (fun hS => ?_)
              · exact ⟨XL.drew, XA.drew, XD.drew, bel_drew XB⟩
              iterate 5
                refine plan_light (o := ?_) (v := ?_) ?_ ?_ ?_ ?_
                rotate_left 2
                · simp only [List.getElem?_toArray, List.getElem?_cons_zero, List.getElem?_cons_succ]
                  rfl
                · go_simp
                · intro w' hS
                  (have sa1 := hS.2.1.cell; have sa2 := hS.2.2.1.cell)
                  go_simp
                  try rfl
                simp only [Act.put, List.setIfInBounds_toArray, List.set_cons_zero, List.set_cons_succ]
              refine plan_heavy (o := ?_) ?_ (fun K' hK => ?_)
              rotate_left
              · simp only [List.getElem?_toArray, List.getElem?_cons_zero, List.getElem?_cons_succ]
                rfl
              go_simp
              go_wp2_with (first | (go_at_call 16; refine (f1c.out _ hS.1).mono ?_; rintro e w' ⟨rfl, rfl⟩) | (go_at_call 18; refine (f2c.out _ hS.1).mono ?_; rintro e w' ⟨rfl, rfl⟩) | (go_at_call 14; refine (total_any _ _ F' hS.1 _).mono ?_; rintro e w' ⟨rfl, rfl⟩))
              refine hK.out _ _ ?_ (fun hS => ?_)
              · exact hS
              clear hK K'
              iterate 7
                refine plan_light (o := ?_) (v := ?_) ?_ ?_ ?_ ?_
                rotate_left 2
                · simp only [List.getElem?_toArray, List.getElem?_cons_zero, List.getElem?_cons_succ]
                  rfl
                · go_simp
                · intro w' hS
                  (have sa1 := hS.2.1.cell; have sa2 := hS.2.2.1.cell)
                  go_simp
                  try rfl
                simp only [Act.put, List.setIfInBounds_toArray, List.set_cons_zero, List.set_cons_succ]
              refine plan_heavy (o := ?_) ?_ (fun K' hK => ?_)
              rotate_left
              · simp only [List.getElem?_toArray, List.getElem?_cons_zero, List.getElem?_cons_succ]
                rfl
              go_simp
              go_wp2_with (first | (go_at_call 16; refine (f1c.out _ hS.1).mono ?_; rintro e w' ⟨rfl, rfl⟩) | (go_at_call 18; refine (f2c.out _ hS.1).mono ?_; rintro e w' ⟨rfl, rfl⟩) | (go_at_call 14; refine (total_any _ _ F' hS.1 _).mono ?_; rintro e w' ⟨rfl, rfl⟩))
              refine hK.out _ _ ?_ (fun hS => ?_)
              · exact hS
              clear hK K'
              iterate 6
                refine plan_light (o := ?_) (v := ?_) ?_ ?_ ?_ ?_
                rotate_left 2
                · simp only [List.getElem?_toArray, List.getElem?_cons_zero, List.getElem?_cons_succ]
                  rfl
                · go_simp
                · intro w' hS
                  (have sa1 := hS.2.1.cell; have sa2 := hS.2.2.1.cell)
                  go_simp
                  try rfl
                simp only [Act.put, List.setIfInBounds_toArray, List.set_cons_zero, List.set_cons_succ]
              refine plan_heavy (o := ?_) ?_ (fun K' hK => ?_)
              rotate_left
              · simp only [List.getElem?_toArray, List.getElem?_cons_zero, List.getElem?_cons_succ]
                rfl
              go_simp
              go_wp2_with (first | (go_at_call 16; refine (f1c.out _ hS.1).mono ?_; rintro e w' ⟨rfl, rfl⟩) | (go_at_call 18; refine (f2c.out _ hS.1).mono ?_; rintro e w' ⟨rfl, rfl⟩) | (go_at_call 14; refine (total_any _ _ F' hS.1 _).mono ?_; rintro e w' ⟨rfl, rfl⟩))
              refine hK.out _ _ ?_ (fun hS => ?_)
              · exact hS
              clear hK K'
              iterate 6
                refine plan_light (o := ?_) (v := ?_) ?_ ?_ ?_ ?_
                rotate_left 2
                · simp only [List.getElem?_toArray, List.getElem?_cons_zero, List.getElem?_cons_succ]
                  rfl
                · go_simp
                · intro w' hS
                  (have sa1 := hS.2.1.cell; have sa2 := hS.2.2.1.cell)
                  go_simp
                  try rfl
                simp only [Act.put, List.setIfInBounds_toArray, List.set_cons_zero, List.set_cons_succ]
              refine plan_heavy (o := ?_) ?_ (fun K' hK => ?_)
              rotate_left
              · simp only [List.getElem?_toArray, List.getElem?_cons_zero, List.getElem?_cons_succ]
                rfl
              go_simp
              go_wp2_with (first | (go_at_call 16; refine (f1c.out _ hS.1).mono ?_; rintro e w' ⟨rfl, rfl⟩) | (go_at_call 18; refine (f2c.out _ hS.1).mono ?_; rintro e w' ⟨rfl, rfl⟩) | (go_at_call 14; refine (total_any _ _ F' hS.1 _).mono ?_; rintro e w' ⟨rfl, rfl⟩))
              refine hK.out _ _ ?_ (fun hS => ?_)
              · exact hS
              clear hK K'
              iterate 2
                refine plan_light (o := ?_) (v := ?_) ?_ ?_ ?_ ?_
                rotate_left 2
                · simp only [List.getElem?_toArray, List.getElem?_cons_zero, List.getElem?_cons_succ]
                  rfl
                · go_simp
                · intro w' hS
                  (have sa1 := hS.2.1.cell; have sa2 := hS.2.2.1.cell)
                  go_simp
                  try rfl
                simp only [Act.put, List.setIfInBounds_toArray, List.set_cons_zero, List.set_cons_succ]
              refine plan_nil ?_
              go_wp2_with fail
              go_roundw
              case rel => exact ⟨j + 1, F', by omega, by omega, by go_num, hS.1, HI2.out, by rw [HY.out.1, HY.out.2]; exact hS.2.1, hS.2.2.2⟩
              case measure => simp [intOf]; omega
          · skip
            have hh := HE2.out rfl rfl
            have h3 : d3 = 0 ∨ d3 = 1 := by have := hh.1.1; unfold okA at this; omega
            have z0 := hh.2 0 (by omega)
            have z1 := hh.2 1 (by omega)
            rw [HF.out] at z0 z1
            rw [show 260 + 0 = 260 from rfl, HY.out.1, HX.out.1] at z0
            rw [show 260 + 1 = 261 from rfl, HY.out.2, HX.out.2] at z1
            have hb0 := HBd.out
            rcases h3 with rfl | rfl
            · have hz : x0 - d4 = y0 := by simp at z0; omega
              have ho : y1 = x1 := by simp at z1; omega
              subst ho
              have wz : IntKind.i64.wrap y0 = y0 := IntWalk.i64_in _ (by omega)
              clear hh z0 z1 hb0 HE1 HE2 HE3
              have A_f := hA4.free
              go_wp2_with fail
              refine wp_region_plan [(0, true), (1, true), (2, true), (3, true), (4, true), (5, true), (6, true), (7, true), (8, true), (9, true), (10, false)] (fun w' => Blk w' w2.heap.size #[.int .i64 x0, .int .i64 y1] ∧ Blk w' dbk #[.int .i64 1, .int .i64 d1, .int .i64 d2, .int .i64 0, .int .i64 d4]) (by kernel_rfl) (by kernel_rfl) (fun _ _ _ _ h => h) ?_ (fun hS => ?_)
              · exact ⟨hA4.drew, hD4.drew⟩
              iterate 10
                refine plan_light (o := ?_) (v := ?_) ?_ ?_ ?_ ?_
                rotate_left 2
                · simp only [List.getElem?_toArray, List.getElem?_cons_zero, List.getElem?_cons_succ]
                  rfl
                · go_simp
                · intro w' hS
                  (have sa1 := hS.1.cell; have sa2 := hS.1.free; have sa3 := hS.2.cell)
                  go_simp
                  try rfl
                simp only [Act.put, List.setIfInBounds_toArray, List.set_cons_zero, List.set_cons_succ]
              refine plan_sink (o := ?_) ?_ (by kernel_rfl) (fun K' hK => ?_)
              rotate_left
              · simp only [List.getElem?_toArray, List.getElem?_cons_zero, List.getElem?_cons_succ]
                rfl
              go_simp
              refine hK.out _ _ ?_
              clear hK K'
              refine plan_nil ?_
              have XL : LAt (w4.drew.setCell ⟨w2.heap.size, 0, none⟩ (.int .i64 y0)) w1.heap.size F' := hw4.drew.grown (gr_set (gr_refl _ (some w2.heap.size)) _ _ (.inl rfl)) (by simp; omega)
              have XA : Blk (w4.drew.setCell ⟨w2.heap.size, 0, none⟩ (.int .i64 y0)) w2.heap.size #[.int .i64 y0, .int .i64 y1] := hA4.drew.set 0 (.int .i64 y0)
              have XD : Blk (w4.drew.setCell ⟨w2.heap.size, 0, none⟩ (.int .i64 y0)) dbk #[.int .i64 1, .int .i64 d1, .int .i64 d2, .int .i64 0, .int .i64 d4] := hD4.drew.set_other ⟨w2.heap.size, 0, none⟩ (.int .i64 y0) hab
              have XB : Below w.heap.size w (w4.drew.setCell ⟨w2.heap.size, 0, none⟩ (.int .i64 y0)) := bel_set (bel_drew hB4) (by show w.heap.size ≤ w2.heap.size; omega) _
              clear hS
              have D_c := XD.cell
              go_wp2_with fail
              refine wp_region_plan [(0, true), (1, true), (2, true), (3, true), (4, true), (5, false), (6, true), (7, true), (8, true), (9, true), (10, true), (11, true), (12, true), (13, false), (14, true), (15, true), (16, true), (17, true), (19, true), (20, true), (18, false), (21, true), (22, true), (23, true), (24, true), (26, true), (27, true), (25, false), (28, true), (29, true)] (fun w' => LAt w' w1.heap.size F' ∧ Blk w' w2.heap.size #[.int .i64 y0, .int .i64 y1] ∧ Blk w' dbk #[.int .i64 1, .int .i64 d1, .int .i64 d2, .int .i64 0, .int .i64 d4] ∧ Below w.heap.size w w') (by kernel_rfl) (by kernel_rfl) (fun _ _ _ _ h => h) ?_ (fun hS => ?_)
              · exact ⟨XL.drew, XA.drew, XD.drew, bel_drew XB⟩
              iterate 5
                refine plan_light (o := ?_) (v := ?_) ?_ ?_ ?_ ?_
                rotate_left 2
                · simp only [List.getElem?_toArray, List.getElem?_cons_zero, List.getElem?_cons_succ]
                  rfl
                · go_simp
                · intro w' hS
                  (have sa1 := hS.2.1.cell; have sa2 := hS.2.2.1.cell)
                  go_simp
                  try rfl
                simp only [Act.put, List.setIfInBounds_toArray, List.set_cons_zero, List.set_cons_succ]
              refine plan_heavy (o := ?_) ?_ (fun K' hK => ?_)
              rotate_left
              · simp only [List.getElem?_toArray, List.getElem?_cons_zero, List.getElem?_cons_succ]
                rfl
              go_simp
              go_wp2_with (first | (go_at_call 16; refine (f1c.out _ hS.1).mono ?_; rintro e w' ⟨rfl, rfl⟩) | (go_at_call 18; refine (f2c.out _ hS.1).mono ?_; rintro e w' ⟨rfl, rfl⟩) | (go_at_call 14; refine (total_any _ _ F' hS.1 _).mono ?_; rintro e w' ⟨rfl, rfl⟩))
              refine hK.out _ _ ?_ (fun hS => ?_)
              · exact hS
              clear hK K'
              iterate 7
                refine plan_light (o := ?_) (v := ?_) ?_ ?_ ?_ ?_
                rotate_left 2
                · simp only [List.getElem?_toArray, List.getElem?_cons_zero, List.getElem?_cons_succ]
                  rfl
                · go_simp
                · intro w' hS
                  (have sa1 := hS.2.1.cell; have sa2 := hS.2.2.1.cell)
                  go_simp
                  try rfl
                simp only [Act.put, List.setIfInBounds_toArray, List.set_cons_zero, List.set_cons_succ]
              refine plan_heavy (o := ?_) ?_ (fun K' hK => ?_)
              rotate_left
              · simp only [List.getElem?_toArray, List.getElem?_cons_zero, List.getElem?_cons_succ]
                rfl
              go_simp
              go_wp2_with (first | (go_at_call 16; refine (f1c.out _ hS.1).mono ?_; rintro e w' ⟨rfl, rfl⟩) | (go_at_call 18; refine (f2c.out _ hS.1).mono ?_; rintro e w' ⟨rfl, rfl⟩) | (go_at_call 14; refine (total_any _ _ F' hS.1 _).mono ?_; rintro e w' ⟨rfl, rfl⟩))
              refine hK.out _ _ ?_ (fun hS => ?_)
              · exact hS
              clear hK K'
              iterate 6
                refine plan_light (o := ?_) (v := ?_) ?_ ?_ ?_ ?_
                rotate_left 2
                · simp only [List.getElem?_toArray, List.getElem?_cons_zero, List.getElem?_cons_succ]
                  rfl
                · go_simp
                · intro w' hS
                  (have sa1 := hS.2.1.cell; have sa2 := hS.2.2.1.cell)
                  go_simp
                  try rfl
                simp only [Act.put, List.setIfInBounds_toArray, List.set_cons_zero, List.set_cons_succ]
              refine plan_heavy (o := ?_) ?_ (fun K' hK => ?_)
              rotate_left
              · simp only [List.getElem?_toArray, List.getElem?_cons_zero, List.getElem?_cons_succ]
                rfl
              go_simp
              go_wp2_with (first | (go_at_call 16; refine (f1c.out _ hS.1).mono ?_; rintro e w' ⟨rfl, rfl⟩) | (go_at_call 18; refine (f2c.out _ hS.1).mono ?_; rintro e w' ⟨rfl, rfl⟩) | (go_at_call 14; refine (total_any _ _ F' hS.1 _).mono ?_; rintro e w' ⟨rfl, rfl⟩))
              refine hK.out _ _ ?_ (fun hS => ?_)
              · exact hS
              clear hK K'
              iterate 6
                refine plan_light (o := ?_) (v := ?_) ?_ ?_ ?_ ?_
                rotate_left 2
                · simp only [List.getElem?_toArray, List.getElem?_cons_zero, List.getElem?_cons_succ]
                  rfl
                · go_simp
                · intro w' hS
                  (have sa1 := hS.2.1.cell; have sa2 := hS.2.2.1.cell)
                  go_simp
                  try rfl
                simp only [Act.put, List.setIfInBounds_toArray, List.set_cons_zero, List.set_cons_succ]
              refine plan_heavy (o := ?_) ?_ (fun K' hK => ?_)
              rotate_left
              · simp only [List.getElem?_toArray, List.getElem?_cons_zero, List.getElem?_cons_succ]
                rfl
              go_simp
              go_wp2_with (first | (go_at_call 16; refine (f1c.out _ hS.1).mono ?_; rintro e w' ⟨rfl, rfl⟩) | (go_at_call 18; refine (f2c.out _ hS.1).mono ?_; rintro e w' ⟨rfl, rfl⟩) | (go_at_call 14; refine (total_any _ _ F' hS.1 _).mono ?_; rintro e w' ⟨rfl, rfl⟩))
              refine hK.out _ _ ?_ (fun hS => ?_)
              · exact hS
              clear hK K'
              iterate 2
                refine plan_light (o := ?_) (v := ?_) ?_ ?_ ?_ ?_
                rotate_left 2
                · simp only [List.getElem?_toArray, List.getElem?_cons_zero, List.getElem?_cons_succ]
                  rfl
                · go_simp
                · intro w' hS
                  (have sa1 := hS.2.1.cell; have sa2 := hS.2.2.1.cell)
                  go_simp
                  try rfl
                simp only [Act.put, List.setIfInBounds_toArray, List.set_cons_zero, List.set_cons_succ]
              refine plan_nil ?_
              go_wp2_with fail
              go_roundw
              case rel => exact ⟨j + 1, F', by omega, by omega, by go_num, hS.1, HI2.out, by rw [HY.out.1, HY.out.2]; exact hS.2.1, hS.2.2.2⟩
              case measure => simp [intOf]; omega
            · have hz : x1 - d4 = y1 := by simp at z1; omega
              have ho : y0 = x0 := by simp at z0; omega
              subst ho
              have wz : IntKind.i64.wrap y1 = y1 := IntWalk.i64_in _ (by omega)
              clear hh z0 z1 hb0 HE1 HE2 HE3
              have A_f := hA4.free
              go_wp2_with fail
              refine wp_region_plan [(0, true), (1, true), (2, true), (3, true), (4, true), (5, true), (6, true), (7, true), (8, true), (9, true), (10, false)] (fun w' => Blk w' w2.heap.size #[.int .i64 y0, .int .i64 x1] ∧ Blk w' dbk #[.int .i64 1, .int .i64 d1, .int .i64 d2, .int .i64 1, .int .i64 d4]) (by kernel_rfl) (by kernel_rfl) (fun _ _ _ _ h => h) ?_ (fun hS => ?_)
              · exact ⟨hA4.drew, hD4.drew⟩
              iterate 10
                refine plan_light (o := ?_) (v := ?_) ?_ ?_ ?_ ?_
                rotate_left 2
                · simp only [List.getElem?_toArray, List.getElem?_cons_zero, List.getElem?_cons_succ]
                  rfl
                · go_simp
                · intro w' hS
                  (have sa1 := hS.1.cell; have sa2 := hS.1.free; have sa3 := hS.2.cell)
                  go_simp
                  try rfl
                simp only [Act.put, List.setIfInBounds_toArray, List.set_cons_zero, List.set_cons_succ]
              refine plan_sink (o := ?_) ?_ (by kernel_rfl) (fun K' hK => ?_)
              rotate_left
              · simp only [List.getElem?_toArray, List.getElem?_cons_zero, List.getElem?_cons_succ]
                rfl
              go_simp
              refine hK.out _ _ ?_
              clear hK K'
              refine plan_nil ?_
              have XL : LAt (w4.drew.setCell ⟨w2.heap.size, 1, none⟩ (.int .i64 y1)) w1.heap.size F' := hw4.drew.grown (gr_set (gr_refl _ (some w2.heap.size)) _ _ (.inl rfl)) (by simp; omega)
              have XA : Blk (w4.drew.setCell ⟨w2.heap.size, 1, none⟩ (.int .i64 y1)) w2.heap.size #[.int .i64 y0, .int .i64 y1] := hA4.drew.set 1 (.int .i64 y1)
              have XD : Blk (w4.drew.setCell ⟨w2.heap.size, 1, none⟩ (.int .i64 y1)) dbk #[.int .i64 1, .int .i64 d1, .int .i64 d2, .int .i64 1, .int .i64 d4] := hD4.drew.set_other ⟨w2.heap.size, 1, none⟩ (.int .i64 y1) hab
              have XB : Below w.heap.size w (w4.drew.setCell ⟨w2.heap.size, 1, none⟩ (.int .i64 y1)) := bel_set (bel_drew hB4) (by show w.heap.size ≤ w2.heap.size; omega) _
              clear hS
              have D_c := XD.cell
              go_wp2_with fail
              refine wp_region_plan [(0, true), (1, true), (2, true), (3, true), (4, true), (5, false), (6, true), (7, true), (8, true), (9, true), (10, true), (11, true), (12, true), (13, false), (14, true), (15, true), (16, true), (17, true), (19, true), (20, true), (18, false), (21, true), (22, true), (23, true), (24, true), (26, true), (27, true), (25, false), (28, true), (29, true)] (fun w' => LAt w' w1.heap.size F' ∧ Blk w' w2.heap.size #[.int .i64 y0, .int .i64 y1] ∧ Blk w' dbk #[.int .i64 1, .int .i64 d1, .int .i64 d2, .int .i64 1, .int .i64 d4] ∧ Below w.heap.size w w') (by kernel_rfl) (by kernel_rfl) (fun _ _ _ _ h => h) ?_ (fun hS => ?_)
              · exact ⟨XL.drew, XA.drew, XD.drew, bel_drew XB⟩
              iterate 5
                refine plan_light (o := ?_) (v := ?_) ?_ ?_ ?_ ?_
                rotate_left 2
                · simp only [List.getElem?_toArray, List.getElem?_cons_zero, List.getElem?_cons_succ]
                  rfl
                · go_simp
                · intro w' hS
                  (have sa1 := hS.2.1.cell; have sa2 := hS.2.2.1.cell)
                  go_simp
                  try rfl
                simp only [Act.put, List.setIfInBounds_toArray, List.set_cons_zero, List.set_cons_succ]
              refine plan_heavy (o := ?_) ?_ (fun K' hK => ?_)
              rotate_left
              · simp only [List.getElem?_toArray, List.getElem?_cons_zero, List.getElem?_cons_succ]
                rfl
              go_simp
              go_wp2_with (first | (go_at_call 16; refine (f1c.out _ hS.1).mono ?_; rintro e w' ⟨rfl, rfl⟩) | (go_at_call 18; refine (f2c.out _ hS.1).mono ?_; rintro e w' ⟨rfl, rfl⟩) | (go_at_call 14; refine (total_any _ _ F' hS.1 _).mono ?_; rintro e w' ⟨rfl, rfl⟩))
              refine hK.out _ _ ?_ (fun hS => ?_)
              · exact hS
              clear hK K'
              iterate 7
                refine plan_light (o := ?_) (v := ?_) ?_ ?_ ?_ ?_
                rotate_left 2
                · simp only [List.getElem?_toArray, List.getElem?_cons_zero, List.getElem?_cons_succ]
                  rfl
                · go_simp
                · intro w' hS
                  (have sa1 := hS.2.1.cell; have sa2 := hS.2.2.1.cell)
                  go_simp
                  try rfl
                simp only [Act.put, List.setIfInBounds_toArray, List.set_cons_zero, List.set_cons_succ]
              refine plan_heavy (o := ?_) ?_ (fun K' hK => ?_)
              rotate_left
              · simp only [List.getElem?_toArray, List.getElem?_cons_zero, List.getElem?_cons_succ]
                rfl
              go_simp
              go_wp2_with (first | (go_at_call 16; refine (f1c.out _ hS.1).mono ?_; rintro e w' ⟨rfl, rfl⟩) | (go_at_call 18; refine (f2c.out _ hS.1).mono ?_; rintro e w' ⟨rfl, rfl⟩) | (go_at_call 14; refine (total_any _ _ F' hS.1 _).mono ?_; rintro e w' ⟨rfl, rfl⟩))
              refine hK.out _ _ ?_ (fun hS => ?_)
              · exact hS
              clear hK K'
              iterate 6
                refine plan_light (o := ?_) (v := ?_) ?_ ?_ ?_ ?_
                rotate_left 2
                · simp only [List.getElem?_toArray, List.getElem?_cons_zero, List.getElem?_cons_succ]
                  rfl
                · go_simp
                · intro w' hS
                  (have sa1 := hS.2.1.cell; have sa2 := hS.2.2.1.cell)
                  go_simp
                  try rfl
                simp only [Act.put, List.setIfInBounds_toArray, List.set_cons_zero, List.set_cons_succ]
              refine plan_heavy (o := ?_) ?_ (fun K' hK => ?_)
              rotate_left
              · simp only [List.getElem?_toArray, List.getElem?_cons_zero, List.getElem?_cons_succ]
                rfl
              go_simp
              go_wp2_with (first | (go_at_call 16; refine (f1c.out _ hS.1).mono ?_; rintro e w' ⟨rfl, rfl⟩) | (go_at_call 18; refine (f2c.out _ hS.1).mono ?_; rintro e w' ⟨rfl, rfl⟩) | (go_at_call 14; refine (total_any _ _ F' hS.1 _).mono ?_; rintro e w' ⟨rfl, rfl⟩))
              refine hK.out _ _ ?_ (fun hS => ?_)
              · exact hS
              clear hK K'
              iterate 6
                refine plan_light (o := ?_) (v := ?_) ?_ ?_ ?_ ?_
                rotate_left 2
                · simp only [List.getElem?_toArray, List.getElem?_cons_zero, List.getElem?_cons_succ]
                  rfl
                · go_simp
                · intro w' hS
                  (have sa1 := hS.2.1.cell; have sa2 := hS.2.2.1.cell)
                  go_simp
                  try rfl
                simp only [Act.put, List.setIfInBounds_toArray, List.set_cons_zero, List.set_cons_succ]
              refine plan_heavy (o := ?_) ?_ (fun K' hK => ?_)
              rotate_left
              · simp only [List.getElem?_toArray, List.getElem?_cons_zero, List.getElem?_cons_succ]
                rfl
              go_simp
              go_wp2_with (first | (go_at_call 16; refine (f1c.out _ hS.1).mono ?_; rintro e w' ⟨rfl, rfl⟩) | (go_at_call 18; refine (f2c.out _ hS.1).mono ?_; rintro e w' ⟨rfl, rfl⟩) | (go_at_call 14; refine (total_any _ _ F' hS.1 _).mono ?_; rintro e w' ⟨rfl, rfl⟩))
              refine hK.out _ _ ?_ (fun hS => ?_)
              · exact hS
              clear hK K'
              iterate 2
                refine plan_light (o := ?_) (v := ?_) ?_ ?_ ?_ ?_
                rotate_left 2
                · simp only [List.getElem?_toArray, List.getElem?_cons_zero, List.getElem?_cons_succ]
                  rfl
                · go_simp
                · intro w' hS
                  (have sa1 := hS.2.1.cell; have sa2 := hS.2.2.1.cell)
                  go_simp
                  try rfl
                simp only [Act.put, List.setIfInBounds_toArray, List.set_cons_zero, List.set_cons_succ]
              refine plan_nil ?_
              go_wp2_with fail
              go_roundw
              case rel => exact ⟨j + 1, F', by omega, by omega, by go_num, hS.1, HI2.out, by rw [HY.out.1, HY.out.2]; exact hS.2.1, hS.2.2.2⟩
              case measure => simp [intOf]; omega
          · skip
            have z0 := (HE3.out (.inl ⟨n0, n1⟩) 0).trans HX.out.1
            have z1 := (HE3.out (.inl ⟨n0, n1⟩) 1).trans HX.out.2
            have z0' := HY.out.1.symm.trans z0
            have z1' := HY.out.2.symm.trans z1
            subst z0' z1'
            clear z0 z1 n0 n1 G_c A_c HE1 HE2 HE3
            have XL := hw4
            have XA := hA4
            have XD := hD4
            have XB := hB4
            have G_c := hD4.cell
            go_wp2_with fail
            refine wp_region_plan [(0, true), (1, true), (2, true), (3, true), (4, true), (5, false), (6, true), (7, true), (8, true), (9, true), (10, true), (11, true), (12, true), (13, false), (14, true), (15, true), (16, true), (17, true), (19, true), (20, true), (18, false), (21, true), (22, true), (23, true), (24, true), (26, true), (27, true), (25, false), (28, true), (29, true)] (fun w' => LAt w' w1.heap.size F' ∧ Blk w' w2.heap.size #[.int .i64 y0, .int .i64 y1] ∧ Blk w' dbk #[.int .i64 d0, .int .i64 d1, .int .i64 d2, .int .i64 d3, .int .i64 d4] ∧ Below w.heap.size w w') (by kernel_rfl) (by kernel_rfl) (fun _ _ _ _ h => h) ?_ (fun hS => ?_)
            · exact ⟨XL.drew, XA.drew, XD.drew, bel_drew XB⟩
            iterate 5
              refine plan_light (o := ?_) (v := ?_) ?_ ?_ ?_ ?_
              rotate_left 2
              · simp only [List.getElem?_toArray, List.getElem?_cons_zero, List.getElem?_cons_succ]
                rfl
              · go_simp
              · intro w' hS
                (have sa1 := hS.2.1.cell; have sa2 := hS.2.2.1.cell)
                go_simp
                try rfl
              simp only [Act.put, List.setIfInBounds_toArray, List.set_cons_zero, List.set_cons_succ]
            refine plan_heavy (o := ?_) ?_ (fun K' hK => ?_)
            rotate_left
            · simp only [List.getElem?_toArray, List.getElem?_cons_zero, List.getElem?_cons_succ]
              rfl
            go_simp
            go_wp2_with (first | (go_at_call 16; refine (f1c.out _ hS.1).mono ?_; rintro e w' ⟨rfl, rfl⟩) | (go_at_call 18; refine (f2c.out _ hS.1).mono ?_; rintro e w' ⟨rfl, rfl⟩) | (go_at_call 14; refine (total_any _ _ F' hS.1 _).mono ?_; rintro e w' ⟨rfl, rfl⟩))
            refine hK.out _ _ ?_ (fun hS => ?_)
            · exact hS
            clear hK K'
            iterate 7
              refine plan_light (o := ?_) (v := ?_) ?_ ?_ ?_ ?_
              rotate_left 2
              · simp only [List.getElem?_toArray, List.getElem?_cons_zero, List.getElem?_cons_succ]
                rfl
              · go_simp
              · intro w' hS
                (have sa1 := hS.2.1.cell; have sa2 := hS.2.2.1.cell)
                go_simp
                try rfl
              simp only [Act.put, List.setIfInBounds_toArray, List.set_cons_zero, List.set_cons_succ]
            refine plan_heavy (o := ?_) ?_ (fun K' hK => ?_)
            rotate_left
            · simp only [List.getElem?_toArray, List.getElem?_cons_zero, List.getElem?_cons_succ]
              rfl
            go_simp
            go_wp2_with (first | (go_at_call 16; refine (f1c.out _ hS.1).mono ?_; rintro e w' ⟨rfl, rfl⟩) | (go_at_call 18; refine (f2c.out _ hS.1).mono ?_; rintro e w' ⟨rfl, rfl⟩) | (go_at_call 14; refine (total_any _ _ F' hS.1 _).mono ?_; rintro e w' ⟨rfl, rfl⟩))
            refine hK.out _ _ ?_ (fun hS => ?_)
            · exact hS
            clear hK K'
            iterate 6
              refine plan_light (o := ?_) (v := ?_) ?_ ?_ ?_ ?_
              rotate_left 2
              · simp only [List.getElem?_toArray, List.getElem?_cons_zero, List.getElem?_cons_succ]
                rfl
              · go_simp
              · intro w' hS
                (have sa1 := hS.2.1.cell; have sa2 := hS.2.2.1.cell)
                go_simp
                try rfl
              simp only [Act.put, List.setIfInBounds_toArray, List.set_cons_zero, List.set_cons_succ]
            refine plan_heavy (o := ?_) ?_ (fun K' hK => ?_)
            rotate_left
            · simp only [List.getElem?_toArray, List.getElem?_cons_zero, List.getElem?_cons_succ]
              rfl
            go_simp
            go_wp2_with (first | (go_at_call 16; refine (f1c.out _ hS.1).mono ?_; rintro e w' ⟨rfl, rfl⟩) | (go_at_call 18; refine (f2c.out _ hS.1).mono ?_; rintro e w' ⟨rfl, rfl⟩) | (go_at_call 14; refine (total_any _ _ F' hS.1 _).mono ?_; rintro e w' ⟨rfl, rfl⟩))
            refine hK.out _ _ ?_ (fun hS => ?_)
            · exact hS
            clear hK K'
            iterate 6
              refine plan_light (o := ?_) (v := ?_) ?_ ?_ ?_ ?_
              rotate_left 2
              · simp only [List.getElem?_toArray, List.getElem?_cons_zero, List.getElem?_cons_succ]
                rfl
              · go_simp
              · intro w' hS
                (have sa1 := hS.2.1.cell; have sa2 := hS.2.2.1.cell)
                go_simp
                try rfl
              simp only [Act.put, List.setIfInBounds_toArray, List.set_cons_zero, List.set_cons_succ]
            refine plan_heavy (o := ?_) ?_ (fun K' hK => ?_)
            rotate_left
            · simp only [List.getElem?_toArray, List.getElem?_cons_zero, List.getElem?_cons_succ]
              rfl
            go_simp
            go_wp2_with (first | (go_at_call 16; refine (f1c.out _ hS.1).mono ?_; rintro e w' ⟨rfl, rfl⟩) | (go_at_call 18; refine (f2c.out _ hS.1).mono ?_; rintro e w' ⟨rfl, rfl⟩) | (go_at_call 14; refine (total_any _ _ F' hS.1 _).mono ?_; rintro e w' ⟨rfl, rfl⟩))
            refine hK.out _ _ ?_ (fun hS => ?_)
            · exact hS
            clear hK K'
            iterate 2
              refine plan_light (o := ?_) (v := ?_) ?_ ?_ ?_ ?_
              rotate_left 2
              · simp only [List.getElem?_toArray, List.getElem?_cons_zero, List.getElem?_cons_succ]
                rfl
              · go_simp
              · intro w' hS
                (have sa1 := hS.2.1.cell; have sa2 := hS.2.2.1.cell)
                go_simp
                try rfl
              simp only [Act.put, List.setIfInBounds_toArray, List.set_cons_zero, List.set_cons_succ]
            refine plan_nil ?_
            go_wp2_with fail
            go_roundw
            case rel => exact ⟨j + 1, F', by omega, by omega, by go_num, hS.1, HI2.out, by rw [HY.out.1, HY.out.2]; exact hS.2.1, hS.2.2.2⟩
            case measure => simp [intOf]; omega
        · have hE1 : (E == 0) = false := by simpa using hE
          have z0 := (HE3.out (.inr hE) 0).trans HX.out.1
          have z1 := (HE3.out (.inr hE) 1).trans HX.out.2
          have z0' := HY.out.1.symm.trans z0
          have z1' := HY.out.2.symm.trans z1
          subst z0' z1'
          clear z0 z1 hE G_c A_c HE1 HE2 HE3
          have XL := hw4
          have XA := hA4
          have XD := hD4
          have XB := hB4
          have G_c := hD4.cell
          go_wp2_with fail
          refine wp_region_plan [(0, true), (1, true), (2, true), (3, true), (4, true), (5, false), (6, true), (7, true), (8, true), (9, true), (10, true), (11, true), (12, true), (13, false), (14, true), (15, true), (16, true), (17, true), (19, true), (20, true), (18, false), (21, true), (22, true), (23, true), (24, true), (26, true), (27, true), (25, false), (28, true), (29, true)] (fun w' => LAt w' w1.heap.size F' ∧ Blk w' w2.heap.size #[.int .i64 y0, .int .i64 y1] ∧ Blk w' dbk #[.int .i64 d0, .int .i64 d1, .int .i64 d2, .int .i64 d3, .int .i64 d4] ∧ Below w.heap.size w w') (by kernel_rfl) (by kernel_rfl) (fun _ _ _ _ h => h) ?_ (fun hS => ?_)
          · exact ⟨XL.drew, XA.drew, XD.drew, bel_drew XB⟩
          iterate 5
            refine plan_light (o := ?_) (v := ?_) ?_ ?_ ?_ ?_
            rotate_left 2
            · simp only [List.getElem?_toArray, List.getElem?_cons_zero, List.getElem?_cons_succ]
              rfl
            · go_simp
            · intro w' hS
              (have sa1 := hS.2.1.cell; have sa2 := hS.2.2.1.cell)
              go_simp
              try rfl
            simp only [Act.put, List.setIfInBounds_toArray, List.set_cons_zero, List.set_cons_succ]
          refine plan_heavy (o := ?_) ?_ (fun K' hK => ?_)
          rotate_left
          · simp only [List.getElem?_toArray, List.getElem?_cons_zero, List.getElem?_cons_succ]
            rfl
          go_simp
          go_wp2_with (first | (go_at_call 16; refine (f1c.out _ hS.1).mono ?_; rintro e w' ⟨rfl, rfl⟩) | (go_at_call 18; refine (f2c.out _ hS.1).mono ?_; rintro e w' ⟨rfl, rfl⟩) | (go_at_call 14; refine (total_any _ _ F' hS.1 _).mono ?_; rintro e w' ⟨rfl, rfl⟩))
          refine hK.out _ _ ?_ (fun hS => ?_)
          · exact hS
          clear hK K'
          iterate 7
            refine plan_light (o := ?_) (v := ?_) ?_ ?_ ?_ ?_
            rotate_left 2
            · simp only [List.getElem?_toArray, List.getElem?_cons_zero, List.getElem?_cons_succ]
              rfl
            · go_simp
            · intro w' hS
              (have sa1 := hS.2.1.cell; have sa2 := hS.2.2.1.cell)
              go_simp
              try rfl
            simp only [Act.put, List.setIfInBounds_toArray, List.set_cons_zero, List.set_cons_succ]
          refine plan_heavy (o := ?_) ?_ (fun K' hK => ?_)
          rotate_left
          · simp only [List.getElem?_toArray, List.getElem?_cons_zero, List.getElem?_cons_succ]
            rfl
          go_simp
          go_wp2_with (first | (go_at_call 16; refine (f1c.out _ hS.1).mono ?_; rintro e w' ⟨rfl, rfl⟩) | (go_at_call 18; refine (f2c.out _ hS.1).mono ?_; rintro e w' ⟨rfl, rfl⟩) | (go_at_call 14; refine (total_any _ _ F' hS.1 _).mono ?_; rintro e w' ⟨rfl, rfl⟩))
          refine hK.out _ _ ?_ (fun hS => ?_)
          · exact hS
          clear hK K'
          iterate 6
            refine plan_light (o := ?_) (v := ?_) ?_ ?_ ?_ ?_
            rotate_left 2
            · simp only [List.getElem?_toArray, List.getElem?_cons_zero, List.getElem?_cons_succ]
              rfl
            · go_simp
            · intro w' hS
              (have sa1 := hS.2.1.cell; have sa2 := hS.2.2.1.cell)
              go_simp
              try rfl
            simp only [Act.put, List.setIfInBounds_toArray, List.set_cons_zero, List.set_cons_succ]
          refine plan_heavy (o := ?_) ?_ (fun K' hK => ?_)
          rotate_left
          · simp only [List.getElem?_toArray, List.getElem?_cons_zero, List.getElem?_cons_succ]
            rfl
          go_simp
          go_wp2_with (first | (go_at_call 16; refine (f1c.out _ hS.1).mono ?_; rintro e w' ⟨rfl, rfl⟩) | (go_at_call 18; refine (f2c.out _ hS.1).mono ?_; rintro e w' ⟨rfl, rfl⟩) | (go_at_call 14; refine (total_any _ _ F' hS.1 _).mono ?_; rintro e w' ⟨rfl, rfl⟩))
          refine hK.out _ _ ?_ (fun hS => ?_)
          · exact hS
          clear hK K'
          iterate 6
            refine plan_light (o := ?_) (v := ?_) ?_ ?_ ?_ ?_
            rotate_left 2
            · simp only [List.getElem?_toArray, List.getElem?_cons_zero, List.getElem?_cons_succ]
              rfl
            · go_simp
            · intro w' hS
              (have sa1 := hS.2.1.cell; have sa2 := hS.2.2.1.cell)
              go_simp
              try rfl
            simp only [Act.put, List.setIfInBounds_toArray, List.set_cons_zero, List.set_cons_succ]
          refine plan_heavy (o := ?_) ?_ (fun K' hK => ?_)
          rotate_left
          · simp only [List.getElem?_toArray, List.getElem?_cons_zero, List.getElem?_cons_succ]
            rfl
          go_simp
          go_wp2_with (first | (go_at_call 16; refine (f1c.out _ hS.1).mono ?_; rintro e w' ⟨rfl, rfl⟩) | (go_at_call 18; refine (f2c.out _ hS.1).mono ?_; rintro e w' ⟨rfl, rfl⟩) | (go_at_call 14; refine (total_any _ _ F' hS.1 _).mono ?_; rintro e w' ⟨rfl, rfl⟩))
          refine hK.out _ _ ?_ (fun hS => ?_)
          · exact hS
          clear hK K'
          iterate 2
            refine plan_light (o := ?_) (v := ?_) ?_ ?_ ?_ ?_
            rotate_left 2
            · simp only [List.getElem?_toArray, List.getElem?_cons_zero, List.getElem?_cons_succ]
              rfl
            · go_simp
            · intro w' hS
              (have sa1 := hS.2.1.cell; have sa2 := hS.2.2.1.cell)
              go_simp
              try rfl
            simp only [Act.put, List.setIfInBounds_toArray, List.set_cons_zero, List.set_cons_succ]
          refine plan_nil ?_
          go_wp2_with fail
          go_roundw
          case rel => exact ⟨j + 1, F', by omega, by omega, by go_num, hS.1, HI2.out, by rw [HY.out.1, HY.out.2]; exact hS.2.1, hS.2.2.2⟩
          case measure => simp [intOf]; omega
      · have hd1 : decide ((j : Int) < (len : Int)) = true := by simp; omega
        have hd2 : decide ((j : Int) < 300) = false := by simp; omega
        obtain ⟨x0, hx0⟩ : ∃ x0, F 260 = x0 := ⟨_, rfl⟩
        obtain ⟨x1, hx1⟩ : ∃ x1, F 261 = x1 := ⟨_, rfl⟩
        rw [hx0, hx1] at hA
        have f0 : F (tx 0) = x0 := hx0
        have f1 : F (tx 1) = x1 := hx1
        have l0 := hI.lim 0 (by omega)
        have l1 := hI.lim 1 (by omega)
        rw [show 260 + 0 = 260 from rfl, hx0] at l0
        rw [show 260 + 1 = 261 from rfl, hx1] at l1
        have e0 : decide (x0 ≤ 1152921504606846976) = true := decide_eq_true l0
        have e1 : decide (x1 ≤ 1152921504606846976) = true := decide_eq_true l1
        have HI := Lib.hid hI
        clear hI hx0 hx1 l0 l1 hD
        have A_c := hA.cell
        go_wp2_with fail
        refine wp_region_plan [(0, true), (1, true), (2, true), (4, true), (5, true), (3, false), (6, true), (7, true), (8, true), (9, true), (11, true), (12, true), (10, false), (13, true), (14, true), (15, true), (16, true), (17, true), (18, true), (19, true), (20, true), (21, true), (22, true), (23, true), (24, true), (25, false)] (fun w' => LAt w' w1.heap.size F ∧ Blk w' w2.heap.size #[.int .i64 x0, .int .i64 x1] ∧ Below w.heap.size w w') (by kernel_rfl) (by kernel_rfl) (fun _ _ _ _ h => h) ?_ (fun hS => ?_)
        · exact ⟨hwr.drew, hA.drew, bel_drew hBr⟩
        iterate 5
          refine plan_light (o := ?_) (v := ?_) ?_ ?_ ?_ ?_
          rotate_left 2
          · simp only [List.getElem?_toArray, List.getElem?_cons_zero, List.getElem?_cons_succ]
            rfl
          · go_simp
          · intro w' hS
            (have sa1 := hS.2.1.cell)
            go_simp
            try rfl
          simp only [Act.put, List.setIfInBounds_toArray, List.set_cons_zero, List.set_cons_succ]
        refine plan_heavy (o := ?_) ?_ (fun K' hK => ?_)
        rotate_left
        · simp only [List.getElem?_toArray, List.getElem?_cons_zero, List.getElem?_cons_succ]
          rfl
        go_simp
        go_wp2_with (go_at_call 20; refine (sum_int _ _ F hS.1 HI.out _ (by first | exact .inl rfl | exact .inr rfl)).mono ?_; rintro e w' ⟨rfl, rfl⟩)
        refine hK.out _ _ ?_ (fun hS => ?_)
        · exact hS
        clear hK K'
        iterate 6
          refine plan_light (o := ?_) (v := ?_) ?_ ?_ ?_ ?_
          rotate_left 2
          · simp only [List.getElem?_toArray, List.getElem?_cons_zero, List.getElem?_cons_succ]
            rfl
          · go_simp
          · intro w' hS
            (have sa1 := hS.2.1.cell)
            go_simp
            try rfl
          simp only [Act.put, List.setIfInBounds_toArray, List.set_cons_zero, List.set_cons_succ]
        refine plan_heavy (o := ?_) ?_ (fun K' hK => ?_)
        rotate_left
        · simp only [List.getElem?_toArray, List.getElem?_cons_zero, List.getElem?_cons_succ]
          rfl
        go_simp
        go_wp2_with (go_at_call 20; refine (sum_int _ _ F hS.1 HI.out _ (by first | exact .inl rfl | exact .inr rfl)).mono ?_; rintro e w' ⟨rfl, rfl⟩)
        refine hK.out _ _ ?_ (fun hS => ?_)
        · exact hS
        clear hK K'
        iterate 12
          refine plan_light (o := ?_) (v := ?_) ?_ ?_ ?_ ?_
          rotate_left 2
          · simp only [List.getElem?_toArray, List.getElem?_cons_zero, List.getElem?_cons_succ]
            rfl
          · go_simp
          · intro w' hS
            (have sa1 := hS.2.1.cell)
            go_simp
            try rfl
          simp only [Act.put, List.setIfInBounds_toArray, List.set_cons_zero, List.set_cons_succ]
        refine plan_sink (o := ?_) ?_ (by kernel_rfl) (fun K' hK => ?_)
        rotate_left
        · simp only [List.getElem?_toArray, List.getElem?_cons_zero, List.getElem?_cons_succ]
          rfl
        go_simp
        refine hK.out _ _ ?_
        clear hK K'
        refine plan_nil ?_
        go_wp2_with fail
        go_ret
        exact ⟨rfl, hS.2.2⟩
    · have hd1 : decide ((j : Int) < (len : Int)) = false := by simp; omega
      obtain ⟨x0, hx0⟩ : ∃ x0, F 260 = x0 := ⟨_, rfl⟩
      obtain ⟨x1, hx1⟩ : ∃ x1, F 261 = x1 := ⟨_, rfl⟩
      rw [hx0, hx1] at hA
      have f0 : F (tx 0) = x0 := hx0
      have f1 : F (tx 1) = x1 := hx1
      have l0 := hI.lim 0 (by omega)
      have l1 := hI.lim 1 (by omega)
      rw [show 260 + 0 = 260 from rfl, hx0] at l0
      rw [show 260 + 1 = 261 from rfl, hx1] at l1
      have e0 : decide (x0 ≤ 1152921504606846976) = true := decide_eq_true l0
      have e1 : decide (x1 ≤ 1152921504606846976) = true := decide_eq_true l1
      have HI := Lib.hid hI
      clear hI hx0 hx1 l0 l1 hD
      have A_c := hA.cell
      go_wp2_with fail
      refine wp_region_plan [(0, true), (1, true), (2, true), (4, true), (5, true), (3, false), (6, true), (7, true), (8, true), (9, true), (11, true), (12, true), (10, false), (13, true), (14, true), (15, true), (16, true), (17, true), (18, true), (19, true), (20, true), (21, true), (22, true), (23, true), (24, true), (25, false)] (fun w' => LAt w' w1.heap.size F ∧ Blk w' w2.heap.size #[.int .i64 x0, .int .i64 x1] ∧ Below w.heap.size w w') (by kernel_rfl) (by kernel_rfl) (fun _ _ _ _ h => h) ?_ (fun hS => ?_)
      · exact ⟨hwr.drew, hA.drew, bel_drew hBr⟩
      iterate 5
        refine plan_light (o := ?_) (v := ?_) ?_ ?_ ?_ ?_
        rotate_left 2
        · simp only [List.getElem?_toArray, List.getElem?_cons_zero, List.getElem?_cons_succ]
          rfl
        · go_simp
        · intro w' hS
          (have sa1 := hS.2.1.cell)
          go_simp
          try rfl
        simp only [Act.put, List.setIfInBounds_toArray, List.set_cons_zero, List.set_cons_succ]
      refine plan_heavy (o := ?_) ?_ (fun K' hK => ?_)
      rotate_left
      · simp only [List.getElem?_toArray, List.getElem?_cons_zero, List.getElem?_cons_succ]
        rfl
      go_simp
      go_wp2_with (go_at_call 20; refine (sum_int _ _ F hS.1 HI.out _ (by first | exact .inl rfl | exact .inr rfl)).mono ?_; rintro e w' ⟨rfl, rfl⟩)
      refine hK.out _ _ ?_ (fun hS => ?_)
      · exact hS
      clear hK K'
      iterate 6
        refine plan_light (o := ?_) (v := ?_) ?_ ?_ ?_ ?_
        rotate_left 2
        · simp only [List.getElem?_toArray, List.getElem?_cons_zero, List.getElem?_cons_succ]
          rfl
        · go_simp
        · intro w' hS
          (have sa1 := hS.2.1.cell)
          go_simp
          try rfl
        simp only [Act.put, List.setIfInBounds_toArray, List.set_cons_zero, List.set_cons_succ]
      refine plan_heavy (o := ?_) ?_ (fun K' hK => ?_)
      rotate_left
      · simp only [List.getElem?_toArray, List.getElem?_cons_zero, List.getElem?_cons_succ]
        rfl
      go_simp
      go_wp2_with (go_at_call 20; refine (sum_int _ _ F hS.1 HI.out _ (by first | exact .inl rfl | exact .inr rfl)).mono ?_; rintro e w' ⟨rfl, rfl⟩)
      refine hK.out _ _ ?_ (fun hS => ?_)
      · exact hS
      clear hK K'
      iterate 12
        refine plan_light (o := ?_) (v := ?_) ?_ ?_ ?_ ?_
        rotate_left 2
        · simp only [List.getElem?_toArray, List.getElem?_cons_zero, List.getElem?_cons_succ]
          rfl
        · go_simp
        · intro w' hS
          (have sa1 := hS.2.1.cell)
          go_simp
          try rfl
        simp only [Act.put, List.setIfInBounds_toArray, List.set_cons_zero, List.set_cons_succ]
      refine plan_sink (o := ?_) ?_ (by kernel_rfl) (fun K' hK => ?_)
      rotate_left
      · simp only [List.getElem?_toArray, List.getElem?_cons_zero, List.getElem?_cons_succ]
        rfl
      go_simp
      refine hK.out _ _ ?_
      clear hK K'
      refine plan_nil ?_
      go_wp2_with fail
      go_ret
      exact ⟨rfl, hS.2.2⟩
end Go.Proofs.Ythkmjfgffofaoaa
