/-
  Contracts of the document's ledger: a deed, as the document has it; its total of any asset; what anybody has.
-/
import Derived.Test.YthkmjfgffofaoaaRef6
namespace Go.Proofs.Ythkmjfgffofaoaa
open Go.RowKit
set_option linter.unusedSimpArgs false
set_option linter.unusedVariables false
theorem exec_rload {a : Act} {w : World} {o : Oper} (x : Operand) (ho : o.op = .load 33 x) (b : Nat) (hx : a.eval x = .pointer (some ⟨b, 0, none⟩)) (G : Nat → Int) (h : Blk w b (rcs G)) : (execOp a.eval o).run Try.prog w = .ok (.value (.agg (rcs G))) w := by
  have l := rload w b G h
  unfold execOp
  simp only [ho, hx, Instr.loadAt, Instr.sureAddr, Sem.run_bind, Sem.run_pure, Result.andThen_ok, l]
theorem rtotal_any (w : World) (F : Nat → Int) (hI : Inv F) (asset : Int) :
    Calls Try.prog 15 #[.agg (rcs (gF F)), .int .i64 asset] w fun e w' => e = .returned (.int .i64 (totF F asset)) ∧ Below w.heap.size w w' := by
  by_cases h : 0 ≤ asset ∧ asset ≤ 1
  · obtain ⟨s, rfl⟩ : ∃ s : Nat, asset = s := ⟨asset.toNat, by omega⟩
    have := rtotal_in w F hI s (by omega)
    rwa [show totF F (s : Int) = F (260 + s) by unfold totF; rw [if_pos (by omega)]; unfold tx; simp]
  · have := rtotal_out w F asset h
    rwa [show totF F asset = 0 by unfold totF; rw [if_neg (by omega)]]
theorem rfree_any (w : World) (F : Nat → Int) (acc asset : Int) :
    Calls Try.prog 17 #[.agg (rcs (gF F)), .int .i64 acc, .int .i64 asset] w fun e w' => e = .returned (.int .i64 (getF F acc asset (ix acc asset))) ∧ Below w.heap.size w w' := by
  have := freeOf_any w (gF F) acc asset
  rwa [rget_free] at this
theorem rheld_any (w : World) (F : Nat → Int) (acc asset : Int) :
    Calls Try.prog 19 #[.agg (rcs (gF F)), .int .i64 acc, .int .i64 asset] w fun e w' => e = .returned (.int .i64 (getF F acc asset (ix acc asset + 1))) ∧ Below w.heap.size w w' := by
  have := heldOf_any w (gF F) acc asset
  rwa [rget_held] at this
theorem takeN_takF (F : Nat → Int) (acc asset n : Int) : rcs (gF (takeN F acc asset n)) = rcs (gF (takF F acc asset n)) := by
  unfold takeN takF
  by_cases h : okD acc asset n ∧ ¬ F (ix acc asset) < n
  · rw [if_pos h, if_pos ⟨(okM_iff _ _ _).2 h.1, h.2⟩, gF_set_tot _ _ _ (by unfold tx; omega)]
  · rw [if_neg h, if_neg (fun hh => h ⟨(okM_iff _ _ _).1 hh.1, hh.2⟩)]
theorem rtake_gF (w : World) (F : Nat → Int) (hI : Inv F) (acc asset n : Int) :
    Calls Try.prog 29 #[.agg (rcs (gF F)), .int .i64 acc, .int .i64 asset, .int .i64 n] w fun e w' => e = .returned (.tuple #[.agg (rcs (gF (takeN F acc asset n))), .int .i64 (moveE F (okD acc asset n) (ix acc asset) n)]) ∧ Below w.heap.size w w' := by
  have := rtake_any w (gF F) (gF_bd hI.bd) acc asset n
  rwa [(rtake_F F acc asset n).1, (rtake_F F acc asset n).2, ← takeN_takF] at this
set_option maxRecDepth 100000 in
set_option maxHeartbeats 8000000 in
theorem want_any (w : World) (F : Nat → Int) (hI : Inv F) (k acc dst asset n : Int) :
    Calls Try.prog 13 #[.agg (rcs (gF F)), .agg #[.int .i64 k, .int .i64 acc, .int .i64 dst, .int .i64 asset, .int .i64 n]] w fun e w' => e = .returned (.tuple #[.agg (rcs (gF (doN F k acc dst asset n))), .int .i64 (doE F k acc dst asset n)]) ∧ Below w.heap.size w w' := by
  have hB := bel_refl w
  have hN := Blk.new w (rcs (gF F)) 33
  rcases kinds k with rfl | rfl | rfl | rfl | rfl | ⟨k0, k1, k2, k3, k4, n0, n1, n2, n3, n4⟩
  · obtain ⟨E, F', hE, hF, c1⟩ : ∃ E F', doE F 0 acc dst asset n = E ∧ doN F 0 acc dst asset n = F' ∧ Hid (∀ w, Calls Try.prog 28 #[.agg (rcs (gF F)), .int .i64 acc, .int .i64 asset, .int .i64 n] w fun e w' => e = .returned (.tuple #[.agg (rcs (gF F')), .int .i64 E]) ∧ Below w.heap.size w w') :=
      ⟨_, _, by unfold doE; simp, by unfold doN; simp, Lib.hid (fun w => radd_any w F hI acc asset n)⟩
    rw [hE, hF]
    clear hE hF hI
    have z33 := rzero
    go_enter Try.func13, Try.ntmps13
    go_upto_region 1 with fail
    have X := (hN.alloc (.cells #[.int .i64 0, .int .i64 acc, .int .i64 dst, .int .i64 asset, .int .i64 n] 35)).alloc (.cells (rcs fun _ => 0) 33)
    have D := (Blk.new (w.alloc (.cells (rcs (gF F)) 33)) #[.int .i64 0, .int .i64 acc, .int .i64 dst, .int .i64 asset, .int .i64 n] 35).alloc (.cells (rcs fun _ => 0) 33)
    have R := Blk.new ((w.alloc (.cells (rcs (gF F)) 33)).alloc (.cells #[.int .i64 0, .int .i64 acc, .int .i64 dst, .int .i64 asset, .int .i64 n] 35)) (rcs fun _ => 0) 33
    rw [show (w.alloc (.cells (rcs (gF F)) 33)).heap.size = w.heap.size + 1 by simp] at D
    rw [show ((w.alloc (.cells (rcs (gF F)) 33)).alloc (.cells #[.int .i64 0, .int .i64 acc, .int .i64 dst, .int .i64 asset, .int .i64 n] 35)).heap.size = w.heap.size + 1 + 1 by simp] at R
    have hB2 := bel_alloc (bel_alloc (bel_alloc hB (.cells (rcs (gF F)) 33)) (.cells #[.int .i64 0, .int .i64 acc, .int .i64 dst, .int .i64 asset, .int .i64 n] 35)) (.cells (rcs fun _ => 0) 33)
    obtain ⟨w2, hw2⟩ : ∃ w2, ((w.alloc (.cells (rcs (gF F)) 33)).alloc (.cells #[.int .i64 0, .int .i64 acc, .int .i64 dst, .int .i64 asset, .int .i64 n] 35)).alloc (.cells (rcs fun _ => 0) 33) = w2 := ⟨_, rfl⟩
    rw [hw2] at X D R hB2 ⊢
    clear hw2 hN z33
    have D_c := D.cell
    go_wp2_with (refine wpList_rload rfl _ rfl _ rfl _ X ?_)
    refine (c1.out _).mono ?_
    rintro e w3 ⟨rfl, hb⟩
    replace R := R.call hb
    replace hB2 := bel_call hb hB2
    clear hb X D D_c
    go_wp2_with (refine wpList_rstore rfl _ _ rfl _ _ rfl rfl _ R ?_; intro w9 hR9 hg9)
    have l3 := rload _ _ _ hR9
    exact bodyPost_ret (results_cell_tmp Try.results13 _ _ _ _ _ rfl l3) rfl ⟨rfl, bel_grown hg9 hB2 (fun j hj => by cases hj; omega)⟩
  · obtain ⟨E, F', hE, hF, c1⟩ : ∃ E F', doE F 1 acc dst asset n = E ∧ doN F 1 acc dst asset n = F' ∧ Hid (∀ w, Calls Try.prog 29 #[.agg (rcs (gF F)), .int .i64 acc, .int .i64 asset, .int .i64 n] w fun e w' => e = .returned (.tuple #[.agg (rcs (gF F')), .int .i64 E]) ∧ Below w.heap.size w w') :=
      ⟨_, _, by unfold doE; simp, by unfold doN; simp, Lib.hid (fun w => rtake_gF w F hI acc asset n)⟩
    rw [hE, hF]
    clear hE hF hI
    have z33 := rzero
    go_enter Try.func13, Try.ntmps13
    go_upto_region 1 with fail
    have X := (hN.alloc (.cells #[.int .i64 1, .int .i64 acc, .int .i64 dst, .int .i64 asset, .int .i64 n] 35)).alloc (.cells (rcs fun _ => 0) 33)
    have D := (Blk.new (w.alloc (.cells (rcs (gF F)) 33)) #[.int .i64 1, .int .i64 acc, .int .i64 dst, .int .i64 asset, .int .i64 n] 35).alloc (.cells (rcs fun _ => 0) 33)
    have R := Blk.new ((w.alloc (.cells (rcs (gF F)) 33)).alloc (.cells #[.int .i64 1, .int .i64 acc, .int .i64 dst, .int .i64 asset, .int .i64 n] 35)) (rcs fun _ => 0) 33
    rw [show (w.alloc (.cells (rcs (gF F)) 33)).heap.size = w.heap.size + 1 by simp] at D
    rw [show ((w.alloc (.cells (rcs (gF F)) 33)).alloc (.cells #[.int .i64 1, .int .i64 acc, .int .i64 dst, .int .i64 asset, .int .i64 n] 35)).heap.size = w.heap.size + 1 + 1 by simp] at R
    have hB2 := bel_alloc (bel_alloc (bel_alloc hB (.cells (rcs (gF F)) 33)) (.cells #[.int .i64 1, .int .i64 acc, .int .i64 dst, .int .i64 asset, .int .i64 n] 35)) (.cells (rcs fun _ => 0) 33)
    obtain ⟨w2, hw2⟩ : ∃ w2, ((w.alloc (.cells (rcs (gF F)) 33)).alloc (.cells #[.int .i64 1, .int .i64 acc, .int .i64 dst, .int .i64 asset, .int .i64 n] 35)).alloc (.cells (rcs fun _ => 0) 33) = w2 := ⟨_, rfl⟩
    rw [hw2] at X D R hB2 ⊢
    clear hw2 hN z33
    have D_c := D.cell
    go_wp2_with (refine wpList_rload rfl _ rfl _ rfl _ X ?_)
    refine (c1.out _).mono ?_
    rintro e w3 ⟨rfl, hb⟩
    replace R := R.call hb
    replace hB2 := bel_call hb hB2
    clear hb X D D_c
    go_wp2_with (refine wpList_rstore rfl _ _ rfl _ _ rfl rfl _ R ?_; intro w9 hR9 hg9)
    have l3 := rload _ _ _ hR9
    exact bodyPost_ret (results_cell_tmp Try.results13 _ _ _ _ _ rfl l3) rfl ⟨rfl, bel_grown hg9 hB2 (fun j hj => by cases hj; omega)⟩
  · obtain ⟨E, F', hE, hF, c1⟩ : ∃ E F', doE F 2 acc dst asset n = E ∧ doN F 2 acc dst asset n = F' ∧ Hid (∀ w, Calls Try.prog 30 #[.agg (rcs (gF F)), .int .i64 acc, .int .i64 asset, .int .i64 n] w fun e w' => e = .returned (.tuple #[.agg (rcs (gF F')), .int .i64 E]) ∧ Below w.heap.size w w') :=
      ⟨_, _, by unfold doE; simp, by unfold doN; simp, Lib.hid (fun w => rhold_any w F hI acc asset n)⟩
    rw [hE, hF]
    clear hE hF hI
    have z33 := rzero
    go_enter Try.func13, Try.ntmps13
    go_upto_region 1 with fail
    have X := (hN.alloc (.cells #[.int .i64 2, .int .i64 acc, .int .i64 dst, .int .i64 asset, .int .i64 n] 35)).alloc (.cells (rcs fun _ => 0) 33)
    have D := (Blk.new (w.alloc (.cells (rcs (gF F)) 33)) #[.int .i64 2, .int .i64 acc, .int .i64 dst, .int .i64 asset, .int .i64 n] 35).alloc (.cells (rcs fun _ => 0) 33)
    have R := Blk.new ((w.alloc (.cells (rcs (gF F)) 33)).alloc (.cells #[.int .i64 2, .int .i64 acc, .int .i64 dst, .int .i64 asset, .int .i64 n] 35)) (rcs fun _ => 0) 33
    rw [show (w.alloc (.cells (rcs (gF F)) 33)).heap.size = w.heap.size + 1 by simp] at D
    rw [show ((w.alloc (.cells (rcs (gF F)) 33)).alloc (.cells #[.int .i64 2, .int .i64 acc, .int .i64 dst, .int .i64 asset, .int .i64 n] 35)).heap.size = w.heap.size + 1 + 1 by simp] at R
    have hB2 := bel_alloc (bel_alloc (bel_alloc hB (.cells (rcs (gF F)) 33)) (.cells #[.int .i64 2, .int .i64 acc, .int .i64 dst, .int .i64 asset, .int .i64 n] 35)) (.cells (rcs fun _ => 0) 33)
    obtain ⟨w2, hw2⟩ : ∃ w2, ((w.alloc (.cells (rcs (gF F)) 33)).alloc (.cells #[.int .i64 2, .int .i64 acc, .int .i64 dst, .int .i64 asset, .int .i64 n] 35)).alloc (.cells (rcs fun _ => 0) 33) = w2 := ⟨_, rfl⟩
    rw [hw2] at X D R hB2 ⊢
    clear hw2 hN z33
    have D_c := D.cell
    go_wp2_with (refine wpList_rload rfl _ rfl _ rfl _ X ?_)
    refine (c1.out _).mono ?_
    rintro e w3 ⟨rfl, hb⟩
    replace R := R.call hb
    replace hB2 := bel_call hb hB2
    clear hb X D D_c
    go_wp2_with (refine wpList_rstore rfl _ _ rfl _ _ rfl rfl _ R ?_; intro w9 hR9 hg9)
    have l3 := rload _ _ _ hR9
    exact bodyPost_ret (results_cell_tmp Try.results13 _ _ _ _ _ rfl l3) rfl ⟨rfl, bel_grown hg9 hB2 (fun j hj => by cases hj; omega)⟩
  · obtain ⟨E, F', hE, hF, c1⟩ : ∃ E F', doE F 3 acc dst asset n = E ∧ doN F 3 acc dst asset n = F' ∧ Hid (∀ w, Calls Try.prog 31 #[.agg (rcs (gF F)), .int .i64 acc, .int .i64 asset, .int .i64 n] w fun e w' => e = .returned (.tuple #[.agg (rcs (gF F')), .int .i64 E]) ∧ Below w.heap.size w w') :=
      ⟨_, _, by unfold doE; simp, by unfold doN; simp, Lib.hid (fun w => rrelease_any w F hI acc asset n)⟩
    rw [hE, hF]
    clear hE hF hI
    have z33 := rzero
    go_enter Try.func13, Try.ntmps13
    go_upto_region 1 with fail
    have X := (hN.alloc (.cells #[.int .i64 3, .int .i64 acc, .int .i64 dst, .int .i64 asset, .int .i64 n] 35)).alloc (.cells (rcs fun _ => 0) 33)
    have D := (Blk.new (w.alloc (.cells (rcs (gF F)) 33)) #[.int .i64 3, .int .i64 acc, .int .i64 dst, .int .i64 asset, .int .i64 n] 35).alloc (.cells (rcs fun _ => 0) 33)
    have R := Blk.new ((w.alloc (.cells (rcs (gF F)) 33)).alloc (.cells #[.int .i64 3, .int .i64 acc, .int .i64 dst, .int .i64 asset, .int .i64 n] 35)) (rcs fun _ => 0) 33
    rw [show (w.alloc (.cells (rcs (gF F)) 33)).heap.size = w.heap.size + 1 by simp] at D
    rw [show ((w.alloc (.cells (rcs (gF F)) 33)).alloc (.cells #[.int .i64 3, .int .i64 acc, .int .i64 dst, .int .i64 asset, .int .i64 n] 35)).heap.size = w.heap.size + 1 + 1 by simp] at R
    have hB2 := bel_alloc (bel_alloc (bel_alloc hB (.cells (rcs (gF F)) 33)) (.cells #[.int .i64 3, .int .i64 acc, .int .i64 dst, .int .i64 asset, .int .i64 n] 35)) (.cells (rcs fun _ => 0) 33)
    obtain ⟨w2, hw2⟩ : ∃ w2, ((w.alloc (.cells (rcs (gF F)) 33)).alloc (.cells #[.int .i64 3, .int .i64 acc, .int .i64 dst, .int .i64 asset, .int .i64 n] 35)).alloc (.cells (rcs fun _ => 0) 33) = w2 := ⟨_, rfl⟩
    rw [hw2] at X D R hB2 ⊢
    clear hw2 hN z33
    have D_c := D.cell
    go_wp2_with (refine wpList_rload rfl _ rfl _ rfl _ X ?_)
    refine (c1.out _).mono ?_
    rintro e w3 ⟨rfl, hb⟩
    replace R := R.call hb
    replace hB2 := bel_call hb hB2
    clear hb X D D_c
    go_wp2_with (refine wpList_rstore rfl _ _ rfl _ _ rfl rfl _ R ?_; intro w9 hR9 hg9)
    have l3 := rload _ _ _ hR9
    exact bodyPost_ret (results_cell_tmp Try.results13 _ _ _ _ _ rfl l3) rfl ⟨rfl, bel_grown hg9 hB2 (fun j hj => by cases hj; omega)⟩
  · obtain ⟨E, F', hE, hF, c1⟩ : ∃ E F', doE F 4 acc dst asset n = E ∧ doN F 4 acc dst asset n = F' ∧ Hid (∀ w, Calls Try.prog 32 #[.agg (rcs (gF F)), .int .i64 acc, .int .i64 dst, .int .i64 asset, .int .i64 n] w fun e w' => e = .returned (.tuple #[.agg (rcs (gF F')), .int .i64 E]) ∧ Below w.heap.size w w') :=
      ⟨_, _, by unfold doE; simp, by unfold doN; simp, Lib.hid (fun w => rpay_any w F hI acc dst asset n)⟩
    rw [hE, hF]
    clear hE hF hI
    have z33 := rzero
    go_enter Try.func13, Try.ntmps13
    go_upto_region 1 with fail
    have X := (hN.alloc (.cells #[.int .i64 4, .int .i64 acc, .int .i64 dst, .int .i64 asset, .int .i64 n] 35)).alloc (.cells (rcs fun _ => 0) 33)
    have D := (Blk.new (w.alloc (.cells (rcs (gF F)) 33)) #[.int .i64 4, .int .i64 acc, .int .i64 dst, .int .i64 asset, .int .i64 n] 35).alloc (.cells (rcs fun _ => 0) 33)
    have R := Blk.new ((w.alloc (.cells (rcs (gF F)) 33)).alloc (.cells #[.int .i64 4, .int .i64 acc, .int .i64 dst, .int .i64 asset, .int .i64 n] 35)) (rcs fun _ => 0) 33
    rw [show (w.alloc (.cells (rcs (gF F)) 33)).heap.size = w.heap.size + 1 by simp] at D
    rw [show ((w.alloc (.cells (rcs (gF F)) 33)).alloc (.cells #[.int .i64 4, .int .i64 acc, .int .i64 dst, .int .i64 asset, .int .i64 n] 35)).heap.size = w.heap.size + 1 + 1 by simp] at R
    have hB2 := bel_alloc (bel_alloc (bel_alloc hB (.cells (rcs (gF F)) 33)) (.cells #[.int .i64 4, .int .i64 acc, .int .i64 dst, .int .i64 asset, .int .i64 n] 35)) (.cells (rcs fun _ => 0) 33)
    obtain ⟨w2, hw2⟩ : ∃ w2, ((w.alloc (.cells (rcs (gF F)) 33)).alloc (.cells #[.int .i64 4, .int .i64 acc, .int .i64 dst, .int .i64 asset, .int .i64 n] 35)).alloc (.cells (rcs fun _ => 0) 33) = w2 := ⟨_, rfl⟩
    rw [hw2] at X D R hB2 ⊢
    clear hw2 hN z33
    have D_c := D.cell
    go_wp2_with (refine wpList_rload rfl _ rfl _ rfl _ X ?_)
    refine (c1.out _).mono ?_
    rintro e w3 ⟨rfl, hb⟩
    replace R := R.call hb
    replace hB2 := bel_call hb hB2
    clear hb X D D_c
    go_wp2_with (refine wpList_rstore rfl _ _ rfl _ _ rfl rfl _ R ?_; intro w9 hR9 hg9)
    have l3 := rload _ _ _ hR9
    exact bodyPost_ret (results_cell_tmp Try.results13 _ _ _ _ _ rfl l3) rfl ⟨rfl, bel_grown hg9 hB2 (fun j hj => by cases hj; omega)⟩
  · obtain ⟨E, F', hE, hF, c1⟩ : ∃ E F', doE F k acc dst asset n = E ∧ doN F k acc dst asset n = F' ∧ Hid (∀ w, Calls Try.prog 33 #[.agg (rcs (gF F)), .int .i64 acc, .int .i64 dst, .int .i64 asset, .int .i64 n] w fun e w' => e = .returned (.tuple #[.agg (rcs (gF F')), .int .i64 E]) ∧ Below w.heap.size w w') :=
      ⟨_, _, by unfold doE; simp [n0, n1, n2, n3, n4], by unfold doN; simp [n0, n1, n2, n3, n4], Lib.hid (fun w => rspend_any w F hI acc dst asset n)⟩
    rw [hE, hF]
    clear hE hF hI n0 n1 n2 n3 n4
    have z33 := rzero
    go_enter Try.func13, Try.ntmps13
    go_upto_region 1 with fail
    have X := (hN.alloc (.cells #[.int .i64 k, .int .i64 acc, .int .i64 dst, .int .i64 asset, .int .i64 n] 35)).alloc (.cells (rcs fun _ => 0) 33)
    have D := (Blk.new (w.alloc (.cells (rcs (gF F)) 33)) #[.int .i64 k, .int .i64 acc, .int .i64 dst, .int .i64 asset, .int .i64 n] 35).alloc (.cells (rcs fun _ => 0) 33)
    have R := Blk.new ((w.alloc (.cells (rcs (gF F)) 33)).alloc (.cells #[.int .i64 k, .int .i64 acc, .int .i64 dst, .int .i64 asset, .int .i64 n] 35)) (rcs fun _ => 0) 33
    rw [show (w.alloc (.cells (rcs (gF F)) 33)).heap.size = w.heap.size + 1 by simp] at D
    rw [show ((w.alloc (.cells (rcs (gF F)) 33)).alloc (.cells #[.int .i64 k, .int .i64 acc, .int .i64 dst, .int .i64 asset, .int .i64 n] 35)).heap.size = w.heap.size + 1 + 1 by simp] at R
    have hB2 := bel_alloc (bel_alloc (bel_alloc hB (.cells (rcs (gF F)) 33)) (.cells #[.int .i64 k, .int .i64 acc, .int .i64 dst, .int .i64 asset, .int .i64 n] 35)) (.cells (rcs fun _ => 0) 33)
    obtain ⟨w2, hw2⟩ : ∃ w2, ((w.alloc (.cells (rcs (gF F)) 33)).alloc (.cells #[.int .i64 k, .int .i64 acc, .int .i64 dst, .int .i64 asset, .int .i64 n] 35)).alloc (.cells (rcs fun _ => 0) 33) = w2 := ⟨_, rfl⟩
    rw [hw2] at X D R hB2 ⊢
    clear hw2 hN z33
    have D_c := D.cell
    go_wp2_with (refine wpList_rload rfl _ rfl _ rfl _ X ?_)
    refine (c1.out _).mono ?_
    rintro e w3 ⟨rfl, hb⟩
    replace R := R.call hb
    replace hB2 := bel_call hb hB2
    clear hb X D D_c
    go_wp2_with (refine wpList_rstore rfl _ _ rfl _ _ rfl rfl _ R ?_; intro w9 hR9 hg9)
    have l3 := rload _ _ _ hR9
    exact bodyPost_ret (results_cell_tmp Try.results13 _ _ _ _ _ rfl l3) rfl ⟨rfl, bel_grown hg9 hB2 (fun j hj => by cases hj; omega)⟩
end Go.Proofs.Ythkmjfgffofaoaa
