/-
  The walk of SessionPlays.
-/
import Derived.Test.YtgjejgndmioioaaPlays
namespace Go.Proofs.Ytgjejgndmioioaa
open Go.RowKit
set_option linter.unusedSimpArgs false
set_option linter.unusedVariables false
theorem RowsAt.base0 {w : World} {base fl : Nat} {v : Value} {L : List Deed} (h : RowsAt w base fl v L) {b : Nat} (hb : b ≤ base) : RowsAt w b fl v L := ⟨own_base h.own hb, Nat.le_trans hb h.le, h.fills⟩
set_option maxHeartbeats 8000000 in
set_option maxRecDepth 100000 in
theorem plays_walk (sa : Option Addr) (len cap : Nat) (D : Nat → Deed) (w : World) (hD : DeedsOf w sa len cap D) : Calls Try.prog 4 #[.slice sa len cap] w fun e w' => e = .returned (.bool true) ∧ Below w.heap.size w w' := by
  have hB := bel_refl w
  have hlen : len ≤ 9223372036854775807 := by have := hD.lenCap; have := hD.capMax; unfold maxLen at this; omega
  go_enter Try.func4, Try.ntmps4
  go_wp2_with fail
  refine (awake_any _).mono ?_
  rintro e' w1 ⟨rfl, hb⟩
  replace hB := bel_call hb hB
  have hs1 := hB.size
  clear hb
  go_wp2_with fail
  refine (new_any _).mono ?_
  rintro e' w2 ⟨⟨tb, mb, rfl, t1, t2, hT⟩, hb⟩
  replace hB := bel_call hb hB
  clear hb
  obtain ⟨fl, hfl⟩ : ∃ fl, w.heap.size = fl := ⟨_, rfl⟩
  obtain ⟨lo, hlo⟩ : ∃ lo, w2.heap.size = lo := ⟨_, rfl⟩
  have hT' : TabS w2 tb mb 0 lo w2.heap.size (EL []) := by rw [EL_nil]; exact hlo ▸ hT
  have hR' : RowsAt w2 lo fl (.slice none 0 0) [] := by have := RowsAt.nil w2 fl; rw [hlo] at this; exact this
  have hm0 : w.heap.size ≤ mb ∧ fl ≤ mb ∧ mb < lo := by have := hT'.mlo; omega
  clear hT hlo t1 t2 hs1
  obtain ⟨base, hbase⟩ : ∃ base, lo = base := ⟨_, rfl⟩
  have hR2 : RowsAt w2 base fl (.slice none 0 0) [] := hbase ▸ hR'
  have hmb : mb < base := by omega
  clear hR' hbase
  go_wp2_with fail
  go_loopw [5, 6] (fun x i wr => ∃ (j cnt : Nat) (L : List Deed), j ≤ len ∧ j ≤ 100 ∧ cnt ≤ 2 * j ∧ L.length ≤ j ∧ i = .int .i64 j ∧ Clients L ∧ TabS wr tb mb cnt lo wr.heap.size (EL L) ∧ RowsAt wr base fl x L ∧ Below w.heap.size w wr) (fun _ i _ => len - (intOf i).toNat)
  case atStart => exact ⟨0, 0, [], by omega, by omega, by omega, by simp, rfl, (fun d hd => by cases hd), hT', hR2, hB⟩
  case round =>
    clear hT' hB hR2
    obtain ⟨j, cnt, L, hj, hj2, hcnt, hLj, rfl, hC, hT, hR, hBr⟩ := hrel
    have hcm : cnt + 2 < maxLen := by unfold maxLen; omega
    by_cases hlt : j < len
    · by_cases hlt3 : j < 100
      · obtain ⟨b, off, rfl, hcell⟩ := hD.cells (by omega)
        have hd1 : decide ((j : Int) < (len : Int)) = true := by simp; omega
        have hd2 : decide ((j : Int) < 100) = true := by simp; omega
        obtain ⟨q0, q1, q2, q3, q4, q5, q6, q7⟩ := hcell j hlt
        have wf := hD.wf j hlt
        have hF := (hD.fills j hlt).call hBr
        rw [hfl] at hF
        have hfw : fl ≤ wr.heap.size := by have := hBr.size; omega
        have p0 := cell_call q0 hBr
        have p1 := cell_call q1 hBr
        have p2 := cell_call q2 hBr
        have p3 := cell_call q3 hBr
        have p4 := cell_call q4 hBr
        have p5 := cell_call q5 hBr
        have p6 := cell_call q6 hBr
        have p7 := cell_call q7 hBr
        have hj0 : (0 : Int) ≤ (j : Int) := by omega
        have hj1 : (j : Int) < (len : Int) := by omega
        have HD := Lib.hid hD
        clear hcell hD q0 q1 q2 q3 q4 q5 q6 q7
        generalize D j = dj at *
        obtain ⟨k, c, s, ⟨e, id, d, r, n, X⟩, fa, fc⟩ := dj
        dsimp only at p0 p1 p2 p3 p4 p5 p6 p7 wf hF
        have A := Blk.new wr #[.int .i64 k, .int .i64 c, .int .i64 s, .int .i64 e, .int .i64 id, .int .i64 d, .int .i64 r, .slice fa n fc] 31
        have hT1 := hT.alloc (.cells #[.int .i64 k, .int .i64 c, .int .i64 s, .int .i64 e, .int .i64 id, .int .i64 d, .int .i64 r, .slice fa n fc] 31)
        have hR1 := hR.alloc (.cells #[.int .i64 k, .int .i64 c, .int .i64 s, .int .i64 e, .int .i64 id, .int .i64 d, .int .i64 r, .slice fa n fc] 31)
        have hB1 := bel_alloc hBr (.cells #[.int .i64 k, .int .i64 c, .int .i64 s, .int .i64 e, .int .i64 id, .int .i64 d, .int .i64 r, .slice fa n fc] 31)
        have hF1 := hF.alloc (.cells #[.int .i64 k, .int .i64 c, .int .i64 s, .int .i64 e, .int .i64 id, .int .i64 d, .int .i64 r, .slice fa n fc] 31)
        have hmw : mb < wr.heap.size := by have := hT.lohi; omega
        go_upto_region 10 with fail
        obtain ⟨w3, hw3⟩ : ∃ w3, wr.alloc (.cells #[.int .i64 k, .int .i64 c, .int .i64 s, .int .i64 e, .int .i64 id, .int .i64 d, .int .i64 r, .slice fa n fc] 31) = w3 := ⟨_, rfl⟩
        have hfw3 : fl ≤ w3.heap.size := by rw [← hw3]; simp; omega
        obtain ⟨hi, hhi⟩ : ∃ hi, wr.heap.size = hi := ⟨_, rfl⟩
        obtain ⟨ab, hab⟩ : ∃ ab, hi = ab := ⟨_, rfl⟩
        rw [hw3] at A hT1 hR1 hB1 hF1 ⊢
        rw [hhi] at A hT1 hmw
        rw [hab] at A
        have hma : mb < ab := by omega
        rw [show wr.heap.size = ab by omega]
        clear hw3 hT hR hBr hF p0 p1 p2 p3 p4 p5 p6 p7 hhi hab
        have A_c := A.cell
        have hCh := Lib.hid hC
        clear hC
        by_cases hk : k = 0
        · have e1 : (k == 0) = true := by simpa using hk
          have ca := Lib.hid (fun (w : World) (cnt hi : Nat) (h : TabS w tb mb cnt lo hi (EL L)) => ask_any w tb mb cnt lo hi (EL L) h c s wf.1)
          have cr := Lib.hid (fun (w : World) (v : Value) (h : RowsAt w base fl v L) (hfl : fl ≤ w.heap.size) => rask_any w base fl v L h hfl c s)
          generalize askE (EL L c) c s = qE at *
          generalize askR (EL L c) c s = qR at *
          clear hk
          go_wp2_with fail
          refine (ca.out _ _ _ hT1).mono ?_
          rintro e' w4 ⟨⟨v, rfl, sb, cb, rfl, hO⟩, hb⟩
          have B := Blk.new w4 #[.int .i64 qR.e, .int .i64 qR.id, .int .i64 qR.d, .int .i64 qR.r, .slice sb qR.n cb] 29
          have hO1 := hO.fills.alloc (.cells #[.int .i64 qR.e, .int .i64 qR.id, .int .i64 qR.d, .int .i64 qR.r, .slice sb qR.n cb] 29)
          have hfw4 : fl ≤ w4.heap.size := Nat.le_trans hfw3 hb.size
          replace A := (A.call hb).alloc (.cells #[.int .i64 qR.e, .int .i64 qR.id, .int .i64 qR.d, .int .i64 qR.r, .slice sb qR.n cb] 29)
          replace hT1 := (hT1.call hb).alloc (.cells #[.int .i64 qR.e, .int .i64 qR.id, .int .i64 qR.d, .int .i64 qR.r, .slice sb qR.n cb] 29)
          replace hR1 := (hR1.call hb).alloc (.cells #[.int .i64 qR.e, .int .i64 qR.id, .int .i64 qR.d, .int .i64 qR.r, .slice sb qR.n cb] 29)
          replace hB1 := bel_alloc (bel_call hb hB1) (.cells #[.int .i64 qR.e, .int .i64 qR.id, .int .i64 qR.d, .int .i64 qR.r, .slice sb qR.n cb] 29)
          clear hb hO A_c hF1
          go_upto_region 12 with fail
          obtain ⟨w5, hw5⟩ : ∃ w5, w4.alloc (.cells #[.int .i64 qR.e, .int .i64 qR.id, .int .i64 qR.d, .int .i64 qR.r, .slice sb qR.n cb] 29) = w5 := ⟨_, rfl⟩
          have hfw5 : fl ≤ w5.heap.size := by rw [← hw5]; simp; omega
          rw [hw5] at A B hT1 hB1 hR1 hO1 ⊢
          clear hw5
          have A_c := A.cell
          go_wp2_with fail
          refine (cr.out _ _ hR1 hfw5).mono ?_
          rintro e' w6 ⟨⟨v, rfl, sc, cc, rfl, hO⟩, hb⟩
          have C := Blk.new w6 #[.int .i64 qR.e, .int .i64 qR.id, .int .i64 qR.d, .int .i64 qR.r, .slice sc qR.n cc] 29
          have hO2 := hO.alloc (.cells #[.int .i64 qR.e, .int .i64 qR.id, .int .i64 qR.d, .int .i64 qR.r, .slice sc qR.n cc] 29)
          replace hO1 := (hO1.call hb).alloc (.cells #[.int .i64 qR.e, .int .i64 qR.id, .int .i64 qR.d, .int .i64 qR.r, .slice sc qR.n cc] 29)
          replace A := (A.call hb).alloc (.cells #[.int .i64 qR.e, .int .i64 qR.id, .int .i64 qR.d, .int .i64 qR.r, .slice sc qR.n cc] 29)
          replace B := (B.call hb).alloc (.cells #[.int .i64 qR.e, .int .i64 qR.id, .int .i64 qR.d, .int .i64 qR.r, .slice sc qR.n cc] 29)
          replace hT1 := (hT1.call hb).alloc (.cells #[.int .i64 qR.e, .int .i64 qR.id, .int .i64 qR.d, .int .i64 qR.r, .slice sc qR.n cc] 29)
          replace hR1 := (hR1.call hb).alloc (.cells #[.int .i64 qR.e, .int .i64 qR.id, .int .i64 qR.d, .int .i64 qR.r, .slice sc qR.n cc] 29)
          replace hB1 := bel_alloc (bel_call hb hB1) (.cells #[.int .i64 qR.e, .int .i64 qR.id, .int .i64 qR.d, .int .i64 qR.r, .slice sc qR.n cc] 29)
          clear hb hO A_c
          go_upto_region 13 with fail
          obtain ⟨w7, hw7⟩ : ∃ w7, w6.alloc (.cells #[.int .i64 qR.e, .int .i64 qR.id, .int .i64 qR.d, .int .i64 qR.r, .slice sc qR.n cc] 29) = w7 := ⟨_, rfl⟩
          rw [hw7] at A B C hT1 hB1 hR1 hO1 hO2 ⊢
          clear hw7
          have B_c := B.cell
          have C_c := C.cell
          go_wp2_with fail
          refine (same_true _ _ _ _ _ _ _ qR ⟨sb, cb, rfl, hO1⟩ ⟨sc, cc, rfl, hO2⟩).mono ?_
          rintro e' w8 ⟨rfl, hb⟩
          replace A := A.call hb
          replace hT1 := hT1.call hb
          replace hR1 := hR1.call hb
          replace hB1 := bel_call hb hB1
          clear hb B_c C_c B C hO1 hO2
          go_upto_region 20 with fail
          refine wp_region_plan [(0, true), (1, true), (2, true), (4, true), (5, true), (6, true), (3, false), (7, false), (8, true)] (fun w' => TabS w' tb mb cnt lo hi (EL L) ∧ RowsAt w' base fl u5 L ∧ Blk w' ab #[.int .i64 k, .int .i64 c, .int .i64 s, .int .i64 e, .int .i64 id, .int .i64 d, .int .i64 r, .slice fa n fc] ∧ Below w.heap.size w w') (by kernel_rfl) (by kernel_rfl) (fun _ _ _ _ h => h) ?_ (fun hS => ?_)
          · exact ⟨hT1.drew, hR1.drew, A.drew, bel_drew hB1⟩
          iterate 6
            refine plan_light (o := ?_) (v := ?_) ?_ ?_ ?_ ?_
            rotate_left 2
            · simp only [List.getElem?_toArray, List.getElem?_cons_zero, List.getElem?_cons_succ]
              rfl
            · go_simp
            · intro w' hS
              (have sa1 := hS.2.2.1.cell)
              go_simp
              try rfl
            simp only [Act.put, List.setIfInBounds_toArray, List.set_cons_zero, List.set_cons_succ]
          refine plan_heavy (o := ?_) ?_ (fun K' hK => ?_)
          rotate_left
          · simp only [List.getElem?_toArray, List.getElem?_cons_zero, List.getElem?_cons_succ]
            rfl
          go_simp
          go_wp2_with (first | (go_at_call 15; refine (lastS_any _ tb mb _ lo _ _ hS.1 c wf.1).mono ?_; rintro e' w' ⟨rfl, rfl⟩) | (go_at_call 16; refine (rLast_any _ base fl _ L hS.2.1 hCh.out c).mono ?_; rintro e' w' ⟨rfl, hb⟩; have hS' := And.intro (hS.1.call hb) (And.intro (hS.2.1.call hb) (And.intro (hS.2.2.1.call hb) (bel_call hb hS.2.2.2)))))
          refine hK.out _ _ ?_ (fun hS => ?_)
          · (first | exact hS' | exact hS)
          clear hK K'
          refine plan_heavy (o := ?_) ?_ (fun K' hK => ?_)
          rotate_left
          · simp only [List.getElem?_toArray, List.getElem?_cons_zero, List.getElem?_cons_succ]
            rfl
          go_simp
          go_wp2_with (first | (go_at_call 15; refine (lastS_any _ tb mb _ lo _ _ hS.1 c wf.1).mono ?_; rintro e' w' ⟨rfl, rfl⟩) | (go_at_call 16; refine (rLast_any _ base fl _ L hS.2.1 hCh.out c).mono ?_; rintro e' w' ⟨rfl, hb⟩; have hS' := And.intro (hS.1.call hb) (And.intro (hS.2.1.call hb) (And.intro (hS.2.2.1.call hb) (bel_call hb hS.2.2.2)))))
          refine hK.out _ _ ?_ (fun hS => ?_)
          · (first | exact hS' | exact hS)
          clear hK K'
          refine plan_light (o := ?_) (v := ?_) ?_ ?_ ?_ ?_
          rotate_left 2
          · simp only [List.getElem?_toArray, List.getElem?_cons_zero, List.getElem?_cons_succ]
            rfl
          · go_simp
          · intro w' hS
            (have sa1 := hS.2.2.1.cell)
            go_simp
            try rfl
          simp only [Act.put, List.setIfInBounds_toArray, List.set_cons_zero, List.set_cons_succ]
          refine plan_nil ?_
          go_wp2_with fail
          go_roundw
          case rel => exact ⟨j + 1, cnt, L, by omega, by omega, by omega, by omega, by go_num, hCh.out, hS.1.more hS.1.top (Nat.le_refl _), hS.2.1, hS.2.2.2⟩
          case measure => simp [intOf]; omega
        · have e1 : (k == 0) = false := by simpa using hk
          have cn := Lib.hid (fun (w : World) (cnt hi : Nat) (h : TabS w tb mb cnt lo hi (EL L)) (hc : cnt < maxLen) (l0 h0 : Nat) (v : Value) (hv : RepAt w l0 h0 v ⟨e, id, d, r, n, X⟩) => note_any w tb mb cnt lo hi (EL L) h hc c s wf.1 l0 h0 v ⟨e, id, d, r, n, X⟩ hv)
          have cm := Lib.hid (fun (w : World) (v : Value) (h : RowsAt w base fl v L) (hfl : fl ≤ w.heap.size) (hF : FillsAt w 0 fl fa n fc X) => rnote_any w base fl v L h hfl (by omega) c s e id d r fa n fc X hF)
          rw [show noteN (EL L) c s ⟨e, id, d, r, n, X⟩ = EL (noteL L ⟨0, c, s, ⟨e, id, d, r, n, X⟩, fa, fc⟩) from noteN_EL L ⟨0, c, s, ⟨e, id, d, r, n, X⟩, fa, fc⟩] at cn
          have hCh2 := Lib.hid (hCh.out.note ⟨0, c, s, ⟨e, id, d, r, n, X⟩, fa, fc⟩)
          have hLn := noteL_len L ⟨0, c, s, ⟨e, id, d, r, n, X⟩, fa, fc⟩
          generalize noteL L ⟨0, c, s, ⟨e, id, d, r, n, X⟩, fa, fc⟩ = L' at *
          generalize noteE (EL L c) c s = nE at *
          clear hk
          go_wp2_with fail
          refine (cn.out _ _ _ hT1 (by omega) _ _ _ ⟨fa, fc, rfl, hF1⟩).mono ?_
          rintro e' w4 ⟨rfl, ⟨cnt', hc', hT4⟩, hg⟩
          have hfw4 : fl ≤ w4.heap.size := Nat.le_trans hfw3 hg.size
          replace A := A.grown hg (by simp; omega)
          replace hR1 := hR1.grown hg (fun k hk => by cases hk; omega)
          replace hF1 := hF1.grown hg (fun k hk => by cases hk; omega)
          replace hB1 := bel_grown hg hB1 (fun k hk => by cases hk; exact hm0.1)
          clear hg hT1 A_c
          have A_c := A.cell
          go_wp2_with fail
          refine (cm.out _ _ hR1 hfw4 hF1).mono ?_
          rintro e' w5 ⟨⟨v5, rfl, hR5⟩, hb⟩
          replace A := A.call hb
          have hT5 := hT4.call hb
          replace hB1 := bel_call hb hB1
          clear hb A_c hT4 hR1 hF1
          go_upto_region 20 with fail
          refine wp_region_plan [(0, true), (1, true), (2, true), (4, true), (5, true), (6, true), (3, false), (7, false), (8, true)] (fun w' => TabS w' tb mb cnt' lo w4.heap.size (EL L') ∧ RowsAt w' base fl v5 L' ∧ Blk w' ab #[.int .i64 k, .int .i64 c, .int .i64 s, .int .i64 e, .int .i64 id, .int .i64 d, .int .i64 r, .slice fa n fc] ∧ Below w.heap.size w w') (by kernel_rfl) (by kernel_rfl) (fun _ _ _ _ h => h) ?_ (fun hS => ?_)
          · exact ⟨hT5.drew, hR5.drew, A.drew, bel_drew hB1⟩
          iterate 6
            refine plan_light (o := ?_) (v := ?_) ?_ ?_ ?_ ?_
            rotate_left 2
            · simp only [List.getElem?_toArray, List.getElem?_cons_zero, List.getElem?_cons_succ]
              rfl
            · go_simp
            · intro w' hS
              (have sa1 := hS.2.2.1.cell)
              go_simp
              try rfl
            simp only [Act.put, List.setIfInBounds_toArray, List.set_cons_zero, List.set_cons_succ]
          refine plan_heavy (o := ?_) ?_ (fun K' hK => ?_)
          rotate_left
          · simp only [List.getElem?_toArray, List.getElem?_cons_zero, List.getElem?_cons_succ]
            rfl
          go_simp
          go_wp2_with (first | (go_at_call 15; refine (lastS_any _ tb mb _ lo _ _ hS.1 c wf.1).mono ?_; rintro e' w' ⟨rfl, rfl⟩) | (go_at_call 16; refine (rLast_any _ base fl _ L' hS.2.1 hCh2.out c).mono ?_; rintro e' w' ⟨rfl, hb⟩; have hS' := And.intro (hS.1.call hb) (And.intro (hS.2.1.call hb) (And.intro (hS.2.2.1.call hb) (bel_call hb hS.2.2.2)))))
          refine hK.out _ _ ?_ (fun hS => ?_)
          · (first | exact hS' | exact hS)
          clear hK K'
          refine plan_heavy (o := ?_) ?_ (fun K' hK => ?_)
          rotate_left
          · simp only [List.getElem?_toArray, List.getElem?_cons_zero, List.getElem?_cons_succ]
            rfl
          go_simp
          go_wp2_with (first | (go_at_call 15; refine (lastS_any _ tb mb _ lo _ _ hS.1 c wf.1).mono ?_; rintro e' w' ⟨rfl, rfl⟩) | (go_at_call 16; refine (rLast_any _ base fl _ L' hS.2.1 hCh2.out c).mono ?_; rintro e' w' ⟨rfl, hb⟩; have hS' := And.intro (hS.1.call hb) (And.intro (hS.2.1.call hb) (And.intro (hS.2.2.1.call hb) (bel_call hb hS.2.2.2)))))
          refine hK.out _ _ ?_ (fun hS => ?_)
          · (first | exact hS' | exact hS)
          clear hK K'
          refine plan_light (o := ?_) (v := ?_) ?_ ?_ ?_ ?_
          rotate_left 2
          · simp only [List.getElem?_toArray, List.getElem?_cons_zero, List.getElem?_cons_succ]
            rfl
          · go_simp
          · intro w' hS
            (have sa1 := hS.2.2.1.cell)
            go_simp
            try rfl
          simp only [Act.put, List.setIfInBounds_toArray, List.set_cons_zero, List.set_cons_succ]
          refine plan_nil ?_
          go_wp2_with fail
          go_roundw
          case rel => exact ⟨j + 1, cnt', L', by omega, by omega, by omega, by omega, by go_num, hCh2.out, hS.1.more hS.1.top (Nat.le_refl _), hS.2.1, hS.2.2.2⟩
          case measure => simp [intOf]; omega
      · have hd1 : decide ((j : Int) < (len : Int)) = true := by simp; omega
        have hd2 : decide ((j : Int) < 100) = false := by simp; omega
        go_wp2_with fail
        go_ret
        exact ⟨rfl, hBr⟩
    · have hd1 : decide ((j : Int) < (len : Int)) = false := by simp; omega
      go_wp2_with fail
      go_ret
      exact ⟨rfl, hBr⟩
end Go.Proofs.Ytgjejgndmioioaa
