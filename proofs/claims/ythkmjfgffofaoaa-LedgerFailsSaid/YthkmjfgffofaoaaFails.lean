/-
  The walk of LedgerFails.
-/
import Derived.Test.YthkmjfgffofaoaaInv
import Derived.Test.YthkmjfgffofaoaaOpen
namespace Go.Proofs.Ythkmjfgffofaoaa
open Go.RowKit
set_option linter.unusedSimpArgs false
set_option linter.unusedVariables false
set_option maxRecDepth 100000 in
set_option maxHeartbeats 8000000 in
theorem fails_walk (sa : Option Addr) (len cap : Nat) (D : Nat → Nat → Int) (k acc dst asset n : Int) (w : World) (hD : RowsOf w sa len cap 5 (fun _ => .i64) D)
    (g0 : (Lit.int .i64 k).wf = true) (g1 : (Lit.int .i64 acc).wf = true) (g2 : (Lit.int .i64 dst).wf = true) (g3 : (Lit.int .i64 asset).wf = true) (g4 : (Lit.int .i64 n).wf = true) :
    Calls Try.prog 6 #[.slice sa len cap, .agg #[.int .i64 k, .int .i64 acc, .int .i64 dst, .int .i64 asset, .int .i64 n]] w fun e w' => e = .returned (.bool true) ∧ Below w.heap.size w w' := by
  have hB := bel_refl w
  clear g0 g1 g2 g3 g4
  have hlen : len ≤ 9223372036854775807 := by have := hD.lenCap; have := hD.capMax; unfold maxLen at this; omega
  go_enter Try.func6, Try.ntmps6
  go_wp2_with fail
  refine (awake_any _).mono ?_
  rintro e w1 ⟨rfl, hb⟩
  have C : Blk w1 w.heap.size _ := Blk.call (by first | exact (Blk.new _ _ _) | exact (Blk.new _ _ _).alloc _ | exact ((Blk.new _ _ _).alloc _).alloc _ | exact (((Blk.new _ _ _).alloc _).alloc _).alloc _ | exact (Blk.new _ _ _).drew | exact ((Blk.new _ _ _).alloc _).drew | exact (((Blk.new _ _ _).alloc _).alloc _).drew) hb
  replace hB := bel_call hb (by first | exact hB | exact bel_alloc hB _ | exact bel_alloc (bel_alloc hB _) _ | exact bel_alloc (bel_alloc (bel_alloc hB _) _) _ | exact bel_drew hB | exact bel_drew (bel_alloc hB _) | exact bel_drew (bel_alloc (bel_alloc hB _) _))
  clear hb
  have C_c := C.cell; have C_f := C.free; have C_l := C.lt
  go_wp2_with fail
  have HBB := Lib.hid hB.size
  refine (new_any _).mono ?_
  rintro e w2 ⟨rfl, hw, hb9⟩
  replace hB := bel_call hb9 hB
  replace C := C.call hb9
  have hbb : w.heap.size ≤ w1.heap.size := HBB.out
  have hb1 : w.heap.size < w1.heap.size := C_l
  clear hb9 C_c C_f C_l
  go_wp2_with fail
  refine (new_any _).mono ?_
  rintro e w3 ⟨rfl, hm, hb9⟩
  have hne : w1.heap.size < w2.heap.size := hw.lt
  replace hw := hw.call hb9
  replace hB := bel_call hb9 hB
  replace C := C.call hb9
  clear hb9
  go_wp2_with fail
  go_loopw [8] (fun i wr => ∃ (j : Nat) (F : Nat → Int), j ≤ len ∧ j ≤ 100 ∧ i = .int .i64 j ∧ LAt wr w1.heap.size F ∧ LAt wr w2.heap.size F ∧ Inv F ∧ Blk wr w.heap.size #[Value.int .i64 k, Value.int .i64 acc, Value.int .i64 dst, Value.int .i64 asset, Value.int .i64 n] ∧ Below w.heap.size w wr) (fun i _ => len - (intOf i).toNat)
  case atStart => exact ⟨0, _, by omega, by omega, rfl, hw, hm, Inv.zero, C, hB⟩
  case round =>
    clear hw hm hB C
    obtain ⟨j, F, hj, hj2, rfl, hwr, hmr, hI, hC, hBr⟩ := hrel
    by_cases hlt : j < len
    · by_cases hlt2 : j < 100
      · obtain ⟨b, off, rfl, hcell⟩ := hD.cells (by omega)
        have hd1 : decide ((j : Int) < (len : Int)) = true := by simp; omega
        have hd2 : decide ((j : Int) < 100) = true := by simp; omega
        have q0 := hcell j hlt 0 (by omega)
        have q1 := hcell j hlt 1 (by omega)
        have q2 := hcell j hlt 2 (by omega)
        have q3 := hcell j hlt 3 (by omega)
        have q4 := hcell j hlt 4 (by omega)
        rw [Nat.add_zero] at q0
        rw [← Nat.add_assoc] at q1 q2 q3 q4
        have HQ := Lib.hid (And.intro q0 (And.intro q1 (And.intro q2 (And.intro q3 q4))))
        have hj0 : (0 : Int) ≤ (j : Int) := by omega
        have hj1 : (j : Int) < (len : Int) := by omega
        clear hcell hD q0 q1 q2 q3 q4
        have p0 := cell_call HQ.out.1 hBr
        have p1 := cell_call HQ.out.2.1 hBr
        have p2 := cell_call HQ.out.2.2.1 hBr
        have p3 := cell_call HQ.out.2.2.2.1 hBr
        have p4 := cell_call HQ.out.2.2.2.2 hBr
        generalize D j 0 = d0 at *
        generalize D j 1 = d1 at *
        generalize D j 2 = d2 at *
        generalize D j 3 = d3 at *
        generalize D j 4 = d4 at *
        have HI := Lib.hid hI
        have cx := Lib.hid (fun (w : World) (b : Nat) (h : LAt w b F) => do_any w b F h HI.out.bd d0 d1 d2 d3 d4)
        have HI2 := Lib.hid (hI.doN d0 d1 d2 d3 d4)
        clear hI
        generalize doN F d0 d1 d2 d3 d4 = F' at *
        generalize doE F d0 d1 d2 d3 d4 = E at *
        go_wp2_with fail
        refine (cx.out _ _ hwr).mono ?_
        rintro e w4 ⟨rfl, hw4, hg⟩
        have hm4 := hmr.grown hg (by simp; omega)
        have hC4 := hC.grown hg (by simp; omega)
        replace hBr := bel_grown hg hBr (fun j hj => by cases hj; exact hbb)
        clear hg hwr hmr hC p0 p1 p2 p3 p4
        have p0 := cell_call HQ.out.1 hBr
        have p1 := cell_call HQ.out.2.1 hBr
        have p2 := cell_call HQ.out.2.2.1 hBr
        have p3 := cell_call HQ.out.2.2.2.1 hBr
        have p4 := cell_call HQ.out.2.2.2.2 hBr
        go_wp2_with fail
        refine (cx.out _ _ hm4).mono ?_
        rintro e w5 ⟨rfl, hm5, hg⟩
        have hw5 := hw4.grown hg (by simp; omega)
        have hC5 := hC4.grown hg (by simp; omega)
        replace hBr := bel_grown hg hBr (fun j hj => by cases hj; omega)
        clear hg hw4 hm4 hC4 p0 p1 p2 p3 p4
        go_wp2_with fail
        go_roundw
        case rel => exact ⟨j + 1, F', by omega, by omega, by go_num, hw5, hm5, HI2.out, hC5, hBr⟩
        case measure => simp [intOf]; omega
      · have hd1 : decide ((j : Int) < (len : Int)) = true := by simp; omega
        have hd2 : decide ((j : Int) < 100) = false := by simp; omega
        have HC := Lib.hid (show Blk wr w.heap.size #[Value.int .i64 k, Value.int .i64 acc, Value.int .i64 dst, Value.int .i64 asset, Value.int .i64 n] from hC)
        have G_c := hC.cell
        clear hC
        have HI := Lib.hid hI
        have cx := Lib.hid (fun (w : World) (b : Nat) (h : LAt w b F) => do_any w b F h HI.out.bd k acc dst asset n)
        by_cases hE : doE F k acc dst asset n = 0
        · rw [hE] at cx
          skip
          go_wp2_with fail
          refine (cx.out _ _ hwr).mono ?_
          rintro e w4 ⟨rfl, hw4, hg⟩
          replace hBr := bel_grown hg hBr (fun j hj => by cases hj; exact hbb)
          go_wp2_with fail
          go_ret
          exact ⟨rfl, hBr⟩
        · have e1 : (doE F k acc dst asset n == 0) = false := by simpa using hE
          rw [doN_no hE] at cx
          have HE := Lib.hid hE
          clear hE
          generalize doE F k acc dst asset n = E at *
          skip
          go_wp2_with fail
          refine (cx.out _ _ hwr).mono ?_
          rintro e w4 ⟨rfl, hw4, hg⟩
          have hm4 := hmr.grown hg (by simp; omega)
          replace hBr := bel_grown hg hBr (fun j hj => by cases hj; exact hbb)
          clear hg hwr hmr G_c
          go_wp2_with fail
          go_loop [9] (fun i => ∃ x : Nat, x ≤ 65 ∧ i = .int .i64 x) (fun i => 65 - (intOf i).toNat)
          case atStart => exact ⟨0, by omega, rfl⟩
          case round =>
            obtain ⟨x, hx, rfl⟩ := hrel
            by_cases hx2 : x ≤ 64
            · have ex : decide ((x : Int) ≤ 64) = true := by simp; omega
              go_wp2_with fail
              go_loop [10] (fun i => ∃ y : Nat, y ≤ 2 ∧ i = .int .i64 y) (fun i => 2 - (intOf i).toNat)
              case atStart => exact ⟨0, by omega, rfl⟩
              case round =>
                obtain ⟨y, hy, rfl⟩ := hrel
                by_cases hy2 : y < 2
                · have ey : decide ((y : Int) < 2) = true := by simp; omega
                  go_wp2_with fail
                  refine (free_any _ _ F hw4 x y).mono ?_
                  rintro e w5 ⟨rfl, rfl⟩
                  go_wp2_with fail
                  refine (free_any _ _ F hm4 x y).mono ?_
                  rintro e w5 ⟨rfl, rfl⟩
                  go_wp2_with fail
                  refine (held_any _ _ F hw4 x y).mono ?_
                  rintro e w5 ⟨rfl, rfl⟩
                  go_wp2_with fail
                  refine (held_any _ _ F hm4 x y).mono ?_
                  rintro e w5 ⟨rfl, rfl⟩
                  go_wp2_with fail
                  refine (total_any _ _ F hw4 y).mono ?_
                  rintro e w5 ⟨rfl, rfl⟩
                  go_wp2_with fail
                  refine (total_any _ _ F hm4 y).mono ?_
                  rintro e w5 ⟨rfl, rfl⟩
                  go_wp2_with fail
                  go_round
                  case rel => exact ⟨y + 1, by omega, by go_num⟩
                  case measure => simp [intOf]; omega
                · have ey : decide ((y : Int) < 2) = false := by simp; omega
                  go_wp2_with fail
                  go_round
                  case rel => exact ⟨x + 1, by omega, by go_num⟩
                  case measure => simp [intOf]; omega
            · have ex : decide ((x : Int) ≤ 64) = false := by simp; omega
              go_wp2_with fail
              go_ret
              exact ⟨rfl, hBr⟩
    · have hd1 : decide ((j : Int) < (len : Int)) = false := by simp; omega
      have HC := Lib.hid (show Blk wr w.heap.size #[Value.int .i64 k, Value.int .i64 acc, Value.int .i64 dst, Value.int .i64 asset, Value.int .i64 n] from hC)
      have G_c := hC.cell
      clear hC
      have HI := Lib.hid hI
      have cx := Lib.hid (fun (w : World) (b : Nat) (h : LAt w b F) => do_any w b F h HI.out.bd k acc dst asset n)
      by_cases hE : doE F k acc dst asset n = 0
      · rw [hE] at cx
        skip
        go_wp2_with fail
        refine (cx.out _ _ hwr).mono ?_
        rintro e w4 ⟨rfl, hw4, hg⟩
        replace hBr := bel_grown hg hBr (fun j hj => by cases hj; exact hbb)
        go_wp2_with fail
        go_ret
        exact ⟨rfl, hBr⟩
      · have e1 : (doE F k acc dst asset n == 0) = false := by simpa using hE
        rw [doN_no hE] at cx
        have HE := Lib.hid hE
        clear hE
        generalize doE F k acc dst asset n = E at *
        skip
        go_wp2_with fail
        refine (cx.out _ _ hwr).mono ?_
        rintro e w4 ⟨rfl, hw4, hg⟩
        have hm4 := hmr.grown hg (by simp; omega)
        replace hBr := bel_grown hg hBr (fun j hj => by cases hj; exact hbb)
        clear hg hwr hmr G_c
        go_wp2_with fail
        go_loop [9] (fun i => ∃ x : Nat, x ≤ 65 ∧ i = .int .i64 x) (fun i => 65 - (intOf i).toNat)
        case atStart => exact ⟨0, by omega, rfl⟩
        case round =>
          obtain ⟨x, hx, rfl⟩ := hrel
          by_cases hx2 : x ≤ 64
          · have ex : decide ((x : Int) ≤ 64) = true := by simp; omega
            go_wp2_with fail
            go_loop [10] (fun i => ∃ y : Nat, y ≤ 2 ∧ i = .int .i64 y) (fun i => 2 - (intOf i).toNat)
            case atStart => exact ⟨0, by omega, rfl⟩
            case round =>
              obtain ⟨y, hy, rfl⟩ := hrel
              by_cases hy2 : y < 2
              · have ey : decide ((y : Int) < 2) = true := by simp; omega
                go_wp2_with fail
                refine (free_any _ _ F hw4 x y).mono ?_
                rintro e w5 ⟨rfl, rfl⟩
                go_wp2_with fail
                refine (free_any _ _ F hm4 x y).mono ?_
                rintro e w5 ⟨rfl, rfl⟩
                go_wp2_with fail
                refine (held_any _ _ F hw4 x y).mono ?_
                rintro e w5 ⟨rfl, rfl⟩
                go_wp2_with fail
                refine (held_any _ _ F hm4 x y).mono ?_
                rintro e w5 ⟨rfl, rfl⟩
                go_wp2_with fail
                refine (total_any _ _ F hw4 y).mono ?_
                rintro e w5 ⟨rfl, rfl⟩
                go_wp2_with fail
                refine (total_any _ _ F hm4 y).mono ?_
                rintro e w5 ⟨rfl, rfl⟩
                go_wp2_with fail
                go_round
                case rel => exact ⟨y + 1, by omega, by go_num⟩
                case measure => simp [intOf]; omega
              · have ey : decide ((y : Int) < 2) = false := by simp; omega
                go_wp2_with fail
                go_round
                case rel => exact ⟨x + 1, by omega, by go_num⟩
                case measure => simp [intOf]; omega
          · have ex : decide ((x : Int) ≤ 64) = false := by simp; omega
            go_wp2_with fail
            go_ret
            exact ⟨rfl, hBr⟩
end Go.Proofs.Ythkmjfgffofaoaa
