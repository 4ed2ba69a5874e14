/-
  The walk of SessionApart.
-/
import Derived.Test.YtgjejgndmioioaaOnce
namespace Go.Proofs.Ytgjejgndmioioaa
open Go.RowKit
set_option linter.unusedSimpArgs false
set_option linter.unusedVariables false
/-- a deed's cells from a place on. -/
def Eight (w : World) (b o : Nat) (k c s e id d r : Int) (sl : Value) : Prop :=
  w.cell? ⟨b, o, none⟩ = some (.int .i64 k) ∧ w.cell? ⟨b, o + 1, none⟩ = some (.int .i64 c) ∧ w.cell? ⟨b, o + 2, none⟩ = some (.int .i64 s) ∧ w.cell? ⟨b, o + 3, none⟩ = some (.int .i64 e) ∧
    w.cell? ⟨b, o + 4, none⟩ = some (.int .i64 id) ∧ w.cell? ⟨b, o + 5, none⟩ = some (.int .i64 d) ∧ w.cell? ⟨b, o + 6, none⟩ = some (.int .i64 r) ∧ w.cell? ⟨b, o + 7, none⟩ = some sl
theorem Eight.call {w w' : World} {b o : Nat} {k c s e id d r : Int} {sl : Value} (h : Eight w b o k c s e id d r sl) (hb : Below w.heap.size w w') : Eight w' b o k c s e id d r sl := by
  obtain ⟨h0, h1, h2, h3, h4, h5, h6, h7⟩ := h
  exact ⟨cell_call h0 hb, cell_call h1 hb, cell_call h2 hb, cell_call h3 hb, cell_call h4 hb, cell_call h5 hb, cell_call h6 hb, cell_call h7 hb⟩
theorem Eight.drew {w : World} {b o : Nat} {k c s e id d r : Int} {sl : Value} (h : Eight w b o k c s e id d r sl) : Eight w.drew b o k c s e id d r sl := h
set_option maxHeartbeats 4000000 in
set_option maxRecDepth 100000 in
theorem apart_walk (sa : Option Addr) (len cap : Nat) (D : Nat → Deed) (Q : Deed) (other : Int) (w : World) (hD : DeedsOf w sa len cap D)
    (hQ : ((Lit.int .i64 Q.c).wf = true ∧ (Lit.int .i64 Q.s).wf = true) ∧ FillsAt w 0 w.heap.size Q.fa Q.R.n Q.fc Q.R.X) (ho : (Lit.int .i64 other).wf = true) :
    Calls Try.prog 5 #[.slice sa len cap, .agg #[.int .i64 Q.k, .int .i64 Q.c, .int .i64 Q.s, .int .i64 Q.R.e, .int .i64 Q.R.id, .int .i64 Q.R.d, .int .i64 Q.R.r, .slice Q.fa Q.R.n Q.fc], .int .i64 other] w fun e w' => e = .returned (.bool true) ∧ Below w.heap.size w w' := by
  obtain ⟨k, c, s, ⟨e, id, d, r, n, X⟩, fa, fc⟩ := Q
  obtain ⟨wf, hF⟩ := hQ
  dsimp only at wf hF ⊢
  have hB := bel_refl w
  have hlen : len ≤ 9223372036854775807 := by have := hD.lenCap; have := hD.capMax; unfold maxLen at this; omega
  have A := Blk.new w #[.int .i64 k, .int .i64 c, .int .i64 s, .int .i64 e, .int .i64 id, .int .i64 d, .int .i64 r, .slice fa n fc] 31
  replace hB := bel_alloc hB (.cells #[.int .i64 k, .int .i64 c, .int .i64 s, .int .i64 e, .int .i64 id, .int .i64 d, .int .i64 r, .slice fa n fc] 31)
  go_enter Try.func5, Try.ntmps5
  go_upto_region 1 with fail
  obtain ⟨w0, hw0⟩ : ∃ w0, w.alloc (.cells #[.int .i64 k, .int .i64 c, .int .i64 s, .int .i64 e, .int .i64 id, .int .i64 d, .int .i64 r, .slice fa n fc] 31) = w0 := ⟨_, rfl⟩
  rw [hw0] at A hB ⊢
  clear hw0
  go_wp2_with fail
  refine (awake_any _).mono ?_
  rintro e' w1 ⟨rfl, hb⟩
  replace hB := bel_call hb hB
  replace A := A.call hb
  have hs1 := A.lt
  clear hb
  go_wp2_with fail
  refine (new_any _).mono ?_
  rintro e' w2 ⟨⟨tb, mb, rfl, t1, t2, hT⟩, hb⟩
  replace hB := bel_call hb hB
  replace A := A.call hb
  clear hb
  obtain ⟨lo, hlo⟩ : ∃ lo, w2.heap.size = lo := ⟨_, rfl⟩
  have hT' : TabS w2 tb mb 0 lo w2.heap.size E0 := hlo ▸ hT
  have hm0 : w.heap.size < mb := by omega
  clear hT hlo t1 t2 hs1
  go_wp2_with fail
  go_loopw [9] (fun i wr => ∃ (j cnt : Nat) (E : Int → Int × Rep), j ≤ len ∧ j ≤ 100 ∧ cnt ≤ 2 * j ∧ i = .int .i64 j ∧ TabS wr tb mb cnt lo wr.heap.size E ∧ Blk wr w.heap.size #[.int .i64 k, .int .i64 c, .int .i64 s, .int .i64 e, .int .i64 id, .int .i64 d, .int .i64 r, .slice fa n fc] ∧ Below w.heap.size w wr) (fun i _ => len - (intOf i).toNat)
  case atStart => exact ⟨0, 0, _, by omega, by omega, by omega, rfl, hT', A, hB⟩
  case round =>
    clear hT' hB A
    obtain ⟨j, cnt, E, hj, hj2, hcnt, rfl, hT, A, hBr⟩ := hrel
    have hcm : cnt + 2 < maxLen := by unfold maxLen; omega
    by_cases hlt : j < len ∧ j < 100
    · obtain ⟨hlt, hlt3⟩ := hlt
      obtain ⟨b, off, rfl, hcell⟩ := hD.cells (by omega)
      have hd1 : decide ((j : Int) < (len : Int)) = true := by simp; omega
      have hd2 : decide ((j : Int) < 100) = true := by simp; omega
      have q : Eight w b (off + j * 8) (D j).k (D j).c (D j).s (D j).R.e (D j).R.id (D j).R.d (D j).R.r (.slice (D j).fa (D j).R.n (D j).fc) := hcell j hlt
      have wfj := hD.wf j hlt
      have hFj := (hD.fills j hlt).call hBr
      replace q := q.call hBr
      have hj0 : (0 : Int) ≤ (j : Int) := by omega
      have hj1 : (j : Int) < (len : Int) := by omega
      have HD := Lib.hid hD
      have HF := Lib.hid hF
      clear hcell hD hF
      generalize D j = dj at *
      obtain ⟨jk, jc, js, ⟨je, jid, jd, jr, jn, jX⟩, jfa, jfc⟩ := dj
      dsimp only at q wfj hFj
      go_wp2_with fail
      refine wp_region_plan [(0, true), (1, true), (2, true), (3, true), (4, true), (5, true), (6, true), (7, true), (8, true), (9, true), (10, true), (11, true), (12, true), (13, true), (14, true), (15, true), (16, false)] (fun w' => Eight w' b (off + j * 8) jk jc js je jid jd jr (.slice jfa jn jfc) ∧ TabS w' tb mb cnt lo wr.heap.size E ∧ FillsAt w' 0 w.heap.size jfa jn jfc jX) (by kernel_rfl) (by kernel_rfl) (fun _ _ _ _ h => h) ?_ (fun hS => ?_)
      · exact ⟨q.drew, hT.drew, hFj.drew⟩
      iterate 16
        refine plan_light (o := ?_) (v := ?_) ?_ ?_ ?_ ?_
        rotate_left 2
        · simp only [List.getElem?_toArray, List.getElem?_cons_zero, List.getElem?_cons_succ]
          rfl
        · go_simp
        · intro w' hS
          (obtain ⟨s0, s1, s2, s3, s4, s5, s6, s7⟩ := hS.1)
          go_simp
          try rfl
        simp only [Act.put, List.setIfInBounds_toArray, List.set_cons_zero, List.set_cons_succ]
      refine plan_sink (o := ?_) ?_ (by kernel_rfl) (fun K' hK => ?_)
      rotate_left
      · simp only [List.getElem?_toArray, List.getElem?_cons_zero, List.getElem?_cons_succ]
        rfl
      go_simp
      go_wp2_with (go_at_call 11; refine (note_any _ tb mb cnt lo _ E hS.2.1 (by omega) jc js wfj.1 _ _ _ ⟨je, jid, jd, jr, jn, jX⟩ ⟨jfa, jfc, rfl, hS.2.2⟩).mono ?_; rintro e' w3 ⟨rfl, ⟨cnt', hc', hT3⟩, hg⟩)
      refine hK.out _ _ ?_
      clear hK K'
      refine plan_nil ?_
      go_wp2_with fail
      go_roundw
      case rel => exact ⟨j + 1, cnt', _, by omega, by omega, by omega, by go_num, hT3, A.drew.grown hg (by simp; omega), bel_grown hg (bel_drew hBr) (fun k hk => by cases hk; omega)⟩
      case measure => simp [intOf]; omega
    · have hd : (¬ j < len ∧ decide ((j : Int) < (len : Int)) = false) ∨ (j < len ∧ decide ((j : Int) < (len : Int)) = true ∧ decide ((j : Int) < 100) = false) := by
        simp only [decide_eq_true_eq, decide_eq_false_iff_not]; omega
      have hF0 : FillsAt wr 0 w.heap.size fa n fc X := hF.call hBr
      have hmw : mb < wr.heap.size := by have := hT.mlo; have := hT.lohi; omega
      clear hF hlt
      have cl := Lib.hid (fun (w : World) (cnt hi : Nat) (h : TabS w tb mb cnt lo hi E) => lastS_any w tb mb cnt lo hi E h other ho)
      have ca := Lib.hid (fun (w : World) (cnt hi : Nat) (h : TabS w tb mb cnt lo hi E) => ask_any w tb mb cnt lo hi E h other (E other).1 ho)
      have cn := Lib.hid (fun (w : World) (cnt hi : Nat) (h : TabS w tb mb cnt lo hi E) (hc : cnt < maxLen) (l0 h0 : Nat) (v : Value) (hv : RepAt w l0 h0 v ⟨e, id, d, r, n, X⟩) => note_any w tb mb cnt lo hi E h hc c s wf.1 l0 h0 v ⟨e, id, d, r, n, X⟩ hv)
      obtain ⟨E', hE'⟩ : ∃ E', noteN E c s ⟨e, id, d, r, n, X⟩ = E' := ⟨_, rfl⟩
      rw [hE'] at cn
      have hEo : c ≠ other → E' other = E other := fun hne => by rw [← hE']; unfold noteN; rw [if_neg (fun hh => hne hh.1.symm)]
      have ca2 := Lib.hid (fun (w : World) (cnt hi : Nat) (h : TabS w tb mb cnt lo hi E') => ask_any w tb mb cnt lo hi E' h other (E other).1 ho)
      have cl2 := Lib.hid (fun (w : World) (cnt hi : Nat) (h : TabS w tb mb cnt lo hi E') => lastS_any w tb mb cnt lo hi E' h other ho)
      clear hE'
      generalize noteE (E c) c s = nE at *
      have A_c := A.cell
      by_cases hco : c = other
      · subst hco
        clear hEo
        generalize askE (E c) c (E c).1 = qE at *
        generalize askR (E c) c (E c).1 = qR at *
        generalize askE (E' c) c (E c).1 = pE at *
        generalize askR (E' c) c (E c).1 = pR at *
        generalize (E' c).1 = pS at *
        generalize (E c).1 = qS at *
        rcases hd with ⟨hk, hd⟩ | ⟨hk, hd, hd2⟩
        all_goals
          go_wp2_with fail
          refine (cl.out _ _ _ hT).mono ?_
          rintro e' w3 ⟨rfl, rfl⟩
          go_wp2_with fail
          refine (ca.out _ _ _ hT).mono ?_
          rintro e' w3 ⟨⟨v, rfl, sb, cb, rfl, hO⟩, hb⟩
          have hO1 := hO.fills.alloc (.cells #[.int .i64 qR.e, .int .i64 qR.id, .int .i64 qR.d, .int .i64 qR.r, .slice sb qR.n cb] 29)
          have B := Blk.new w3 #[.int .i64 qR.e, .int .i64 qR.id, .int .i64 qR.d, .int .i64 qR.r, .slice sb qR.n cb] 29
          have hm3 : mb < w3.heap.size := Nat.lt_of_lt_of_le hmw hb.size
          replace hT := (hT.call hb).alloc (.cells #[.int .i64 qR.e, .int .i64 qR.id, .int .i64 qR.d, .int .i64 qR.r, .slice sb qR.n cb] 29)
          replace A := (A.call hb).alloc (.cells #[.int .i64 qR.e, .int .i64 qR.id, .int .i64 qR.d, .int .i64 qR.r, .slice sb qR.n cb] 29)
          replace hF0 := (hF0.call hb).alloc (.cells #[.int .i64 qR.e, .int .i64 qR.id, .int .i64 qR.d, .int .i64 qR.r, .slice sb qR.n cb] 29)
          replace hB1 := bel_alloc (bel_call hb hBr) (.cells #[.int .i64 qR.e, .int .i64 qR.id, .int .i64 qR.d, .int .i64 qR.r, .slice sb qR.n cb] 29)
          clear hb hO A_c
          go_upto_region 11 with fail
          obtain ⟨w4, hw4⟩ : ∃ w4, w3.alloc (.cells #[.int .i64 qR.e, .int .i64 qR.id, .int .i64 qR.d, .int .i64 qR.r, .slice sb qR.n cb] 29) = w4 := ⟨_, rfl⟩
          rw [hw4] at A hT hB1 hF0 hO1 B ⊢
          clear hw4
          have A_c := A.cell
          go_wp2_with fail
          refine (cn.out _ _ _ hT (by omega) _ _ _ ⟨fa, fc, rfl, hF0⟩).mono ?_
          rintro e' w5 ⟨rfl, ⟨cnt', hc', hT5⟩, hg⟩
          replace A := A.grown hg (by simp; omega)
          replace B := B.grown hg (by simp; omega)
          replace hO1 := hO1.grown hg (fun k hk => by cases hk; omega)
          replace hB1 := bel_grown hg hB1 (fun k hk => by cases hk; omega)
          clear hg hT A_c hF0
          go_wp2_with fail
          refine (ca2.out _ _ _ hT5).mono ?_
          rintro e' w6 ⟨⟨v, rfl, sc, cc, rfl, hO⟩, hb⟩
          have hO2 := hO.fills.alloc (.cells #[.int .i64 pR.e, .int .i64 pR.id, .int .i64 pR.d, .int .i64 pR.r, .slice sc pR.n cc] 29)
          have C := Blk.new w6 #[.int .i64 pR.e, .int .i64 pR.id, .int .i64 pR.d, .int .i64 pR.r, .slice sc pR.n cc] 29
          replace hT5 := (hT5.call hb).alloc (.cells #[.int .i64 pR.e, .int .i64 pR.id, .int .i64 pR.d, .int .i64 pR.r, .slice sc pR.n cc] 29)
          replace A := (A.call hb).alloc (.cells #[.int .i64 pR.e, .int .i64 pR.id, .int .i64 pR.d, .int .i64 pR.r, .slice sc pR.n cc] 29)
          replace B := (B.call hb).alloc (.cells #[.int .i64 pR.e, .int .i64 pR.id, .int .i64 pR.d, .int .i64 pR.r, .slice sc pR.n cc] 29)
          replace hO1 := (hO1.call hb).alloc (.cells #[.int .i64 pR.e, .int .i64 pR.id, .int .i64 pR.d, .int .i64 pR.r, .slice sc pR.n cc] 29)
          replace hB1 := bel_alloc (bel_call hb hB1) (.cells #[.int .i64 pR.e, .int .i64 pR.id, .int .i64 pR.d, .int .i64 pR.r, .slice sc pR.n cc] 29)
          clear hb hO
          go_upto_region 13 with fail
          obtain ⟨w7, hw7⟩ : ∃ w7, w6.alloc (.cells #[.int .i64 pR.e, .int .i64 pR.id, .int .i64 pR.d, .int .i64 pR.r, .slice sc pR.n cc] 29) = w7 := ⟨_, rfl⟩
          rw [hw7] at A hT5 hB1 hO1 hO2 B C ⊢
          clear hw7
          have A_c := A.cell
          have B_c := B.cell
          have C_c := C.cell
          go_wp2_with fail
          go_ret
          exact ⟨rfl, hB1⟩
      · have hne : (c == other) = false := by simpa using hco
        rw [hEo hco] at ca2 cl2
        clear hEo hco
        generalize askE (E other) other (E other).1 = qE at *
        generalize askR (E other) other (E other).1 = qR at *
        generalize (E other).1 = qS at *
        rcases hd with ⟨hk, hd⟩ | ⟨hk, hd, hd2⟩
        all_goals
          go_wp2_with fail
          refine (cl.out _ _ _ hT).mono ?_
          rintro e' w3 ⟨rfl, rfl⟩
          go_wp2_with fail
          refine (ca.out _ _ _ hT).mono ?_
          rintro e' w3 ⟨⟨v, rfl, sb, cb, rfl, hO⟩, hb⟩
          have hO1 := hO.fills.alloc (.cells #[.int .i64 qR.e, .int .i64 qR.id, .int .i64 qR.d, .int .i64 qR.r, .slice sb qR.n cb] 29)
          have B := Blk.new w3 #[.int .i64 qR.e, .int .i64 qR.id, .int .i64 qR.d, .int .i64 qR.r, .slice sb qR.n cb] 29
          have hm3 : mb < w3.heap.size := Nat.lt_of_lt_of_le hmw hb.size
          replace hT := (hT.call hb).alloc (.cells #[.int .i64 qR.e, .int .i64 qR.id, .int .i64 qR.d, .int .i64 qR.r, .slice sb qR.n cb] 29)
          replace A := (A.call hb).alloc (.cells #[.int .i64 qR.e, .int .i64 qR.id, .int .i64 qR.d, .int .i64 qR.r, .slice sb qR.n cb] 29)
          replace hF0 := (hF0.call hb).alloc (.cells #[.int .i64 qR.e, .int .i64 qR.id, .int .i64 qR.d, .int .i64 qR.r, .slice sb qR.n cb] 29)
          replace hB1 := bel_alloc (bel_call hb hBr) (.cells #[.int .i64 qR.e, .int .i64 qR.id, .int .i64 qR.d, .int .i64 qR.r, .slice sb qR.n cb] 29)
          clear hb hO A_c
          go_upto_region 11 with fail
          obtain ⟨w4, hw4⟩ : ∃ w4, w3.alloc (.cells #[.int .i64 qR.e, .int .i64 qR.id, .int .i64 qR.d, .int .i64 qR.r, .slice sb qR.n cb] 29) = w4 := ⟨_, rfl⟩
          rw [hw4] at A hT hB1 hF0 hO1 B ⊢
          clear hw4
          have A_c := A.cell
          go_wp2_with fail
          refine (cn.out _ _ _ hT (by omega) _ _ _ ⟨fa, fc, rfl, hF0⟩).mono ?_
          rintro e' w5 ⟨rfl, ⟨cnt', hc', hT5⟩, hg⟩
          replace A := A.grown hg (by simp; omega)
          replace B := B.grown hg (by simp; omega)
          replace hO1 := hO1.grown hg (fun k hk => by cases hk; omega)
          replace hB1 := bel_grown hg hB1 (fun k hk => by cases hk; omega)
          clear hg hT A_c hF0
          go_wp2_with fail
          refine (ca2.out _ _ _ hT5).mono ?_
          rintro e' w6 ⟨⟨v, rfl, sc, cc, rfl, hO⟩, hb⟩
          have hO2 := hO.fills.alloc (.cells #[.int .i64 qR.e, .int .i64 qR.id, .int .i64 qR.d, .int .i64 qR.r, .slice sc qR.n cc] 29)
          have C := Blk.new w6 #[.int .i64 qR.e, .int .i64 qR.id, .int .i64 qR.d, .int .i64 qR.r, .slice sc qR.n cc] 29
          replace hT5 := (hT5.call hb).alloc (.cells #[.int .i64 qR.e, .int .i64 qR.id, .int .i64 qR.d, .int .i64 qR.r, .slice sc qR.n cc] 29)
          replace A := (A.call hb).alloc (.cells #[.int .i64 qR.e, .int .i64 qR.id, .int .i64 qR.d, .int .i64 qR.r, .slice sc qR.n cc] 29)
          replace B := (B.call hb).alloc (.cells #[.int .i64 qR.e, .int .i64 qR.id, .int .i64 qR.d, .int .i64 qR.r, .slice sc qR.n cc] 29)
          replace hO1 := (hO1.call hb).alloc (.cells #[.int .i64 qR.e, .int .i64 qR.id, .int .i64 qR.d, .int .i64 qR.r, .slice sc qR.n cc] 29)
          replace hB1 := bel_alloc (bel_call hb hB1) (.cells #[.int .i64 qR.e, .int .i64 qR.id, .int .i64 qR.d, .int .i64 qR.r, .slice sc qR.n cc] 29)
          clear hb hO
          go_upto_region 13 with fail
          obtain ⟨w7, hw7⟩ : ∃ w7, w6.alloc (.cells #[.int .i64 qR.e, .int .i64 qR.id, .int .i64 qR.d, .int .i64 qR.r, .slice sc qR.n cc] 29) = w7 := ⟨_, rfl⟩
          rw [hw7] at A hT5 hB1 hO1 hO2 B C ⊢
          clear hw7
          have A_c := A.cell
          have B_c := B.cell
          have C_c := C.cell
          go_wp2_with fail
          refine (cl2.out _ _ _ hT5).mono ?_
          rintro e' w8 ⟨rfl, rfl⟩
          go_wp2_with fail
          refine (same_true _ _ _ _ _ _ _ qR ⟨sb, cb, rfl, hO1⟩ ⟨sc, cc, rfl, hO2⟩).mono ?_
          rintro e' w9 ⟨rfl, hb⟩
          replace hB1 := bel_call hb hB1
          go_wp2_with fail
          go_ret
          exact ⟨rfl, hB1⟩
end Go.Proofs.Ytgjejgndmioioaa
