/-
  The law BucketTakes: for every state, time, number, rate and burst it returns true. No condition.
-/
import Derived.Test.YtnhdbnahigagjaaBucket
import Derived.Test.YtnhdbnahigagjaaBlk
namespace Go.Proofs.Ytnhdbnahigagjaa
open Go.RowKit
set_option linter.unusedSimpArgs false
set_option maxHeartbeats 4000000 in
theorem takes_walk (tok at_ now n rate burst : Int) (w : World) :
    Calls Try.prog 3 #[.agg #[.int .i64 tok, .int .i64 at_, .int .i64 now, .int .i64 n, .int .i64 rate, .int .i64 burst]] w fun e w' => e = .returned (.bool true) ∧ Below w.heap.size w w' := by
  have hB := bel_refl w
  go_enter Try.func3, Try.ntmps3
  go_wp2_with fail
  refine (awake_any _).mono ?_
  rintro e w1 ⟨rfl, hb⟩
  have C : Blk w1 w.heap.size _ := Blk.call (by first | exact (Blk.new _ _ _) | exact (Blk.new _ _ _).alloc _ | exact ((Blk.new _ _ _).alloc _).alloc _ | exact (((Blk.new _ _ _).alloc _).alloc _).alloc _ | exact (Blk.new _ _ _).drew | exact ((Blk.new _ _ _).alloc _).drew | exact (((Blk.new _ _ _).alloc _).alloc _).drew) hb
  replace hB := bel_call hb (by first | exact hB | exact bel_alloc hB _ | exact bel_alloc (bel_alloc hB _) _ | exact bel_alloc (bel_alloc (bel_alloc hB _) _) _ | exact bel_drew hB | exact bel_drew (bel_alloc hB _) | exact bel_drew (bel_alloc (bel_alloc hB _) _))
  clear hb
  have C_c := C.cell; have C_f := C.free; have C_l := C.lt
  go_wp2_with fail
  refine (now_any _ _ _ _ _ _).mono ?_
  rintro e w2 ⟨rfl, hb⟩
  clear C_c C_f C_l
  replace C := Blk.call (by first | exact C | exact C.alloc _ | exact (C.alloc _).alloc _ | exact ((C.alloc _).alloc _).alloc _ | exact C.drew | exact (C.alloc _).drew | exact ((C.alloc _).alloc _).drew) hb
  have S : Blk w2 w1.heap.size _ := Blk.call (by first | exact (Blk.new _ _ _) | exact (Blk.new _ _ _).alloc _ | exact ((Blk.new _ _ _).alloc _).alloc _ | exact (((Blk.new _ _ _).alloc _).alloc _).alloc _ | exact (Blk.new _ _ _).drew | exact ((Blk.new _ _ _).alloc _).drew | exact (((Blk.new _ _ _).alloc _).alloc _).drew) hb
  replace hB := bel_call hb (by first | exact hB | exact bel_alloc hB _ | exact bel_alloc (bel_alloc hB _) _ | exact bel_alloc (bel_alloc (bel_alloc hB _) _) _ | exact bel_drew hB | exact bel_drew (bel_alloc hB _) | exact bel_drew (bel_alloc (bel_alloc hB _) _))
  clear hb
  have C_c := C.cell; have C_f := C.free; have C_l := C.lt
  have S_c := S.cell; have S_f := S.free; have S_l := S.lt
  go_wp2_with fail
  refine (refNow_any _ _ _ _ _ _).mono ?_
  rintro e w3 ⟨rfl, hb⟩
  clear C_c C_f C_l
  clear S_c S_f S_l
  replace C := Blk.call (by first | exact C | exact C.alloc _ | exact (C.alloc _).alloc _ | exact ((C.alloc _).alloc _).alloc _ | exact C.drew | exact (C.alloc _).drew | exact ((C.alloc _).alloc _).drew) hb
  replace S := Blk.call (by first | exact S | exact S.alloc _ | exact (S.alloc _).alloc _ | exact ((S.alloc _).alloc _).alloc _ | exact S.drew | exact (S.alloc _).drew | exact ((S.alloc _).alloc _).drew) hb
  have X : Blk w3 w2.heap.size _ := Blk.call (by first | exact (Blk.new _ _ _) | exact (Blk.new _ _ _).alloc _ | exact ((Blk.new _ _ _).alloc _).alloc _ | exact (((Blk.new _ _ _).alloc _).alloc _).alloc _ | exact (Blk.new _ _ _).drew | exact ((Blk.new _ _ _).alloc _).drew | exact (((Blk.new _ _ _).alloc _).alloc _).drew) hb
  replace hB := bel_call hb (by first | exact hB | exact bel_alloc hB _ | exact bel_alloc (bel_alloc hB _) _ | exact bel_alloc (bel_alloc (bel_alloc hB _) _) _ | exact bel_drew hB | exact bel_drew (bel_alloc hB _) | exact bel_drew (bel_alloc (bel_alloc hB _) _))
  clear hb
  have C_c := C.cell; have C_f := C.free; have C_l := C.lt
  have S_c := S.cell; have S_f := S.free; have S_l := S.lt
  have X_c := X.cell; have X_f := X.free; have X_l := X.lt
  go_wp2_with fail
  refine (take_any _ _ _ _ _ _ _).mono ?_
  rintro e w4 ⟨rfl, hb⟩
  clear C_c C_f C_l
  clear S_c S_f S_l
  clear X_c X_f X_l
  replace C := Blk.call (by first | exact C | exact C.alloc _ | exact (C.alloc _).alloc _ | exact ((C.alloc _).alloc _).alloc _ | exact C.drew | exact (C.alloc _).drew | exact ((C.alloc _).alloc _).drew) hb
  replace S := Blk.call (by first | exact S | exact S.alloc _ | exact (S.alloc _).alloc _ | exact ((S.alloc _).alloc _).alloc _ | exact S.drew | exact (S.alloc _).drew | exact ((S.alloc _).alloc _).drew) hb
  replace X := Blk.call (by first | exact X | exact X.alloc _ | exact (X.alloc _).alloc _ | exact ((X.alloc _).alloc _).alloc _ | exact X.drew | exact (X.alloc _).drew | exact ((X.alloc _).alloc _).drew) hb
  have Y : Blk w4 w3.heap.size _ := Blk.call (by first | exact (Blk.new _ _ _) | exact (Blk.new _ _ _).alloc _ | exact ((Blk.new _ _ _).alloc _).alloc _ | exact (((Blk.new _ _ _).alloc _).alloc _).alloc _ | exact (Blk.new _ _ _).drew | exact ((Blk.new _ _ _).alloc _).drew | exact (((Blk.new _ _ _).alloc _).alloc _).drew) hb
  replace hB := bel_call hb (by first | exact hB | exact bel_alloc hB _ | exact bel_alloc (bel_alloc hB _) _ | exact bel_alloc (bel_alloc (bel_alloc hB _) _) _ | exact bel_drew hB | exact bel_drew (bel_alloc hB _) | exact bel_drew (bel_alloc (bel_alloc hB _) _))
  clear hb
  have C_c := C.cell; have C_f := C.free; have C_l := C.lt
  have S_c := S.cell; have S_f := S.free; have S_l := S.lt
  have X_c := X.cell; have X_f := X.free; have X_l := X.lt
  have Y_c := Y.cell; have Y_f := Y.free; have Y_l := Y.lt
  go_wp2_with fail
  refine (refTake_any _ _ _ _ _ _ _).mono ?_
  rintro e w5 ⟨rfl, hb⟩
  clear C_c C_f C_l
  clear S_c S_f S_l
  clear X_c X_f X_l
  clear Y_c Y_f Y_l
  replace C := Blk.call (by first | exact C | exact C.alloc _ | exact (C.alloc _).alloc _ | exact ((C.alloc _).alloc _).alloc _ | exact C.drew | exact (C.alloc _).drew | exact ((C.alloc _).alloc _).drew) hb
  replace S := Blk.call (by first | exact S | exact S.alloc _ | exact (S.alloc _).alloc _ | exact ((S.alloc _).alloc _).alloc _ | exact S.drew | exact (S.alloc _).drew | exact ((S.alloc _).alloc _).drew) hb
  replace X := Blk.call (by first | exact X | exact X.alloc _ | exact (X.alloc _).alloc _ | exact ((X.alloc _).alloc _).alloc _ | exact X.drew | exact (X.alloc _).drew | exact ((X.alloc _).alloc _).drew) hb
  replace Y := Blk.call (by first | exact Y | exact Y.alloc _ | exact (Y.alloc _).alloc _ | exact ((Y.alloc _).alloc _).alloc _ | exact Y.drew | exact (Y.alloc _).drew | exact ((Y.alloc _).alloc _).drew) hb
  have P : Blk w5 w4.heap.size _ := Blk.call (by first | exact (Blk.new _ _ _) | exact (Blk.new _ _ _).alloc _ | exact ((Blk.new _ _ _).alloc _).alloc _ | exact (((Blk.new _ _ _).alloc _).alloc _).alloc _ | exact (Blk.new _ _ _).drew | exact ((Blk.new _ _ _).alloc _).drew | exact (((Blk.new _ _ _).alloc _).alloc _).drew) hb
  replace hB := bel_call hb (by first | exact hB | exact bel_alloc hB _ | exact bel_alloc (bel_alloc hB _) _ | exact bel_alloc (bel_alloc (bel_alloc hB _) _) _ | exact bel_drew hB | exact bel_drew (bel_alloc hB _) | exact bel_drew (bel_alloc (bel_alloc hB _) _))
  clear hb
  have C_c := C.cell; have C_f := C.free; have C_l := C.lt
  have S_c := S.cell; have S_f := S.free; have S_l := S.lt
  have X_c := X.cell; have X_f := X.free; have X_l := X.lt
  have Y_c := Y.cell; have Y_f := Y.free; have Y_l := Y.lt
  have P_c := P.cell; have P_f := P.free; have P_l := P.lt
  go_wp2_with fail
  clear C_c C_f S_c S_f S_l X_c X_f Y_c Y_f P_c P_f S
  refine wp_region_plan [(0,true),(1,true),(2,true),(3,true),(4,true),(5,true),(6,true),(7,true),(8,true),(9,true),(10,true),(11,true),(12,true),(13,true),(14,true),(15,true),(16,true),(17,true),(18,true),(20,true),(21,true),(19,false),(22,false),(23,true),(24,true),(25,false)]
    (fun w' => Below w5.heap.size w5 w' ∧ Blk w' w5.heap.size #[.int .i64 (takeT tok at_ now n rate burst), .int .i64 (takeA tok at_ now n rate burst)]) (by kernel_rfl) (by kernel_rfl) (fun _ _ _ _ h => h) ?_ ?_
  · exact ⟨bel_drew (bel_alloc (bel_refl _) _), (Blk.new _ _ _).drew⟩
  iterate 21
    refine plan_light (o := ?_) (v := ?_) ?_ ?_ ?_ ?_
    rotate_left 2
    · simp only [List.getElem?_toArray, List.getElem?_cons_zero, List.getElem?_cons_succ]
      rfl
    · go_simp
    · intro w' hS
      (obtain ⟨h1, h2⟩ := hS; have C1 := (C.below h1 C_l).cell; have X1 := (X.below h1 X_l).cell; have Y1 := (Y.below h1 Y_l).cell; have P1 := (P.below h1 P_l).cell; have Q1 := h2.cell)
      go_simp
      try rfl
    simp only [Act.put, List.setIfInBounds_toArray, List.set_cons_zero, List.set_cons_succ]
  iterate 2
    refine plan_heavy (o := ?_) ?_ (fun K' hK => ?_)
    rotate_left
    · simp only [List.getElem?_toArray, List.getElem?_cons_zero, List.getElem?_cons_succ]
      rfl
    go_simp
    try go_wp2_with (first | (go_at_call 13; refine (full_any _ _).mono ?_; rintro e w7 ⟨rfl, hb⟩) | (go_at_call 14; refine (refFull_any _ _).mono ?_; rintro e w7 ⟨rfl, hb⟩))
    refine hK.out _ _ ?_ (fun hS => ?_)
    · (first | exact ⟨bel_call hb hS.1, hS.2.call hb⟩ | exact ⟨bel_call hb (bel_drew (bel_alloc (bel_refl _) _)), (Blk.new _ _ _).drew.call hb⟩)
    clear hK K'
  iterate 2
    refine plan_light (o := ?_) (v := ?_) ?_ ?_ ?_ ?_
    rotate_left 2
    · simp only [List.getElem?_toArray, List.getElem?_cons_zero, List.getElem?_cons_succ]
      rfl
    · go_simp
    · intro w' hS
      (obtain ⟨h1, h2⟩ := hS; have C1 := (C.below h1 C_l).cell; have X1 := (X.below h1 X_l).cell; have Y1 := (Y.below h1 Y_l).cell; have P1 := (P.below h1 P_l).cell; have Q1 := h2.cell)
      go_simp
      try rfl
    simp only [Act.put, List.setIfInBounds_toArray, List.set_cons_zero, List.set_cons_succ]
  refine plan_sink (o := ?_) ?_ (by kernel_rfl) (fun K' hK => ?_)
  rotate_left
  · simp only [List.getElem?_toArray, List.getElem?_cons_zero, List.getElem?_cons_succ]
    rfl
  go_simp
  refine hK.out _ _ ?_
  refine plan_nil ?_
  clear hK K'
  go_wp2
  go_ret
  exact ⟨rfl, hB.trans (hS.1.mono hB.size)⟩
end Go.Proofs.Ytnhdbnahigagjaa
