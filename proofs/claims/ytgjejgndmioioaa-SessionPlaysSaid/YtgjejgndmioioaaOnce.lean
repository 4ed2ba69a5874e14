/-
  The walk of SessionOnce.
-/
import Derived.Test.YtgjejgndmioioaaDeeds
namespace Go.Proofs.Ytgjejgndmioioaa
open Go.RowKit
set_option linter.unusedSimpArgs false
set_option linter.unusedVariables false
theorem ask_note (E : Int × Rep) (c s : Int) : (askE E c s = 0 ∧ noteE E c s = 0 ∧ mayB c s = true) ∨ (askE E c s = 7 ∧ noteE E c s = 11) ∨ (askE E c s = 11 ∧ noteE E c s = 11) ∨ (askE E c s = 1 ∧ noteE E c s = 1) := by
  unfold askE noteE
  by_cases hm : mayB c s = true
  · simp only [hm, if_true]
    rcases Int.lt_trichotomy E.1 s with h | h | h
    · exact .inl ⟨by rw [if_pos h], by rw [if_neg (by omega)], trivial⟩
    · exact .inr (.inl ⟨by rw [if_neg (by omega), if_pos h.symm], by rw [if_pos (by omega)]⟩)
    · exact .inr (.inr (.inl ⟨by rw [if_neg (by omega), if_neg (by omega)], by rw [if_pos (by omega)]⟩))
  · exact .inr (.inr (.inr ⟨by rw [if_neg hm], by rw [if_neg hm]⟩))
theorem noted {E : Int → Int × Rep} {c s : Int} {R : Rep} (hm : mayB c s = true) (h : noteE (E c) c s = 0) : askE (noteN E c s R c) c s = 7 ∧ askR (noteN E c s R c) c s = R ∧ noteE (noteN E c s R c) c s = 11 := by
  have e : noteN E c s R c = (s, R) := by unfold noteN; rw [if_pos ⟨rfl, h⟩]
  rw [e]
  refine ⟨?_, ?_, ?_⟩
  · unfold askE; rw [if_pos hm, if_neg (by dsimp only; omega), if_pos rfl]
  · unfold askR; rw [if_pos ⟨hm, rfl⟩]
  · unfold noteE; rw [if_pos hm, if_pos (by dsimp only; omega)]
set_option maxHeartbeats 4000000 in
set_option maxRecDepth 100000 in
theorem once_walk (sa : Option Addr) (len cap : Nat) (D : Nat → Deed) (w : World) (hD : DeedsOf w sa len cap D) : Calls Try.prog 3 #[.slice sa len cap] w fun e w' => e = .returned (.bool true) ∧ Below w.heap.size w w' := by
  have hB := bel_refl w
  have hlen : len ≤ 9223372036854775807 := by have := hD.lenCap; have := hD.capMax; unfold maxLen at this; omega
  go_enter Try.func3, Try.ntmps3
  go_wp2_with fail
  refine (awake_any _).mono ?_
  rintro e' w1 ⟨rfl, hb⟩
  replace hB := bel_call hb hB
  have hs1 := hB.size
  clear hb
  go_wp2_with fail
  refine (new_any _).mono ?_
  rintro e' w2 ⟨⟨tb, mb, rfl, t1, t2, hT⟩, hb⟩
  replace hB := bel_call hb hB
  clear hb
  obtain ⟨lo, hlo⟩ : ∃ lo, w2.heap.size = lo := ⟨_, rfl⟩
  have hT' : TabS w2 tb mb 0 lo w2.heap.size E0 := hlo ▸ hT
  have hm0 : w.heap.size ≤ mb := by omega
  clear hT hlo t1 t2 hs1
  go_wp2_with fail
  go_loopw [5] (fun i wr => ∃ (j cnt : Nat) (E : Int → Int × Rep), j ≤ len ∧ j ≤ 100 ∧ cnt ≤ 2 * j ∧ i = .int .i64 j ∧ TabS wr tb mb cnt lo wr.heap.size E ∧ Below w.heap.size w wr) (fun i _ => len - (intOf i).toNat)
  case atStart => exact ⟨0, 0, _, by omega, by omega, by omega, rfl, hT', hB⟩
  case round =>
    clear hT' hB
    obtain ⟨j, cnt, E, hj, hj2, hcnt, rfl, hT, hBr⟩ := hrel
    have hcm : cnt + 2 < maxLen := by unfold maxLen; omega
    by_cases hlt : j < len
    · by_cases hlt3 : j < 100
      · obtain ⟨b, off, rfl, hcell⟩ := hD.cells (by omega)
        have hd1 : decide ((j : Int) < (len : Int)) = true := by simp; omega
        have hd2 : decide ((j : Int) < 100) = true := by simp; omega
        obtain ⟨q0, q1, q2, q3, q4, q5, q6, q7⟩ := hcell j hlt
        have wf := hD.wf j hlt
        have hF := (hD.fills j hlt).call hBr
        have p0 := cell_call q0 hBr
        have p1 := cell_call q1 hBr
        have p2 := cell_call q2 hBr
        have p3 := cell_call q3 hBr
        have p4 := cell_call q4 hBr
        have p5 := cell_call q5 hBr
        have p6 := cell_call q6 hBr
        have p7 := cell_call q7 hBr
        have hj0 : (0 : Int) ≤ (j : Int) := by omega
        have hj1 : (j : Int) < (len : Int) := by omega
        have HD := Lib.hid hD
        clear hcell hD q0 q1 q2 q3 q4 q5 q6 q7
        generalize D j = dj at *
        obtain ⟨k, c, s, ⟨e, id, d, r, n, X⟩, fa, fc⟩ := dj
        dsimp only at p0 p1 p2 p3 p4 p5 p6 p7 wf hF
        have A := Blk.new wr #[.int .i64 k, .int .i64 c, .int .i64 s, .int .i64 e, .int .i64 id, .int .i64 d, .int .i64 r, .slice fa n fc] 31
        have hT1 := hT.alloc (.cells #[.int .i64 k, .int .i64 c, .int .i64 s, .int .i64 e, .int .i64 id, .int .i64 d, .int .i64 r, .slice fa n fc] 31)
        have hB1 := bel_alloc hBr (.cells #[.int .i64 k, .int .i64 c, .int .i64 s, .int .i64 e, .int .i64 id, .int .i64 d, .int .i64 r, .slice fa n fc] 31)
        have hF1 := hF.alloc (.cells #[.int .i64 k, .int .i64 c, .int .i64 s, .int .i64 e, .int .i64 id, .int .i64 d, .int .i64 r, .slice fa n fc] 31)
        go_upto_region 9 with fail
        obtain ⟨w3, hw3⟩ : ∃ w3, wr.alloc (.cells #[.int .i64 k, .int .i64 c, .int .i64 s, .int .i64 e, .int .i64 id, .int .i64 d, .int .i64 r, .slice fa n fc] 31) = w3 := ⟨_, rfl⟩
        obtain ⟨ab, hab⟩ : ∃ ab, wr.heap.size = ab := ⟨_, rfl⟩
        rw [hw3] at A hT1 hB1 hF1 ⊢
        rw [hab] at A ⊢
        have hmb : mb < ab := by have := hT.mlo; have := hT.lohi; omega
        clear hw3 hT hBr hF p0 p1 p2 p3 p4 p5 p6 p7
        have ca := Lib.hid (fun (w : World) (cnt hi : Nat) (h : TabS w tb mb cnt lo hi E) => ask_any w tb mb cnt lo hi E h c s wf.1)
        have cn := Lib.hid (fun (w : World) (cnt hi : Nat) (h : TabS w tb mb cnt lo hi E) (hc : cnt < maxLen) (l0 h0 : Nat) (v : Value) (hv : RepAt w l0 h0 v ⟨e, id, d, r, n, X⟩) => note_any w tb mb cnt lo hi E h hc c s wf.1 l0 h0 v ⟨e, id, d, r, n, X⟩ hv)
        have A_c := A.cell
        rcases ask_note (E c) c s with ⟨h1, h2, hm⟩ | hno
        · have HN := Lib.hid (noted (R := ⟨e, id, d, r, n, X⟩) hm h2)
          obtain ⟨E', hE'⟩ : ∃ E', noteN E c s ⟨e, id, d, r, n, X⟩ = E' := ⟨_, rfl⟩
          rw [hE'] at cn HN
          rw [h1] at ca
          rw [h2] at cn
          clear h1 h2 hm hE'
          have ca2 := Lib.hid (fun (w : World) (cnt hi : Nat) (h : TabS w tb mb cnt lo hi E') => ask_any w tb mb cnt lo hi E' h c s wf.1)
          rw [HN.out.1, HN.out.2.1] at ca2
          have cn2 := Lib.hid (fun (w : World) (cnt hi : Nat) (h : TabS w tb mb cnt lo hi E') (hc : cnt < maxLen) (l0 h0 : Nat) (v : Value) (hv : RepAt w l0 h0 v Rep.zero) => note_any w tb mb cnt lo hi E' h hc c s wf.1 l0 h0 v Rep.zero hv)
          rw [HN.out.2.2, noteN_no (R := Rep.zero) (by rw [HN.out.2.2]; decide)] at cn2
          go_wp2_with fail
          refine (ca.out _ _ _ hT1).mono ?_
          rintro e' w4 ⟨⟨v, rfl, sb, cb, rfl, hO⟩, hb⟩
          replace A := (A.call hb).alloc (.cells #[.int .i64 (askR (E c) c s).e, .int .i64 (askR (E c) c s).id, .int .i64 (askR (E c) c s).d, .int .i64 (askR (E c) c s).r, .slice sb (askR (E c) c s).n cb] 29)
          replace hT1 := (hT1.call hb).alloc (.cells #[.int .i64 (askR (E c) c s).e, .int .i64 (askR (E c) c s).id, .int .i64 (askR (E c) c s).d, .int .i64 (askR (E c) c s).r, .slice sb (askR (E c) c s).n cb] 29)
          replace hF1 := (hF1.call hb).alloc (.cells #[.int .i64 (askR (E c) c s).e, .int .i64 (askR (E c) c s).id, .int .i64 (askR (E c) c s).d, .int .i64 (askR (E c) c s).r, .slice sb (askR (E c) c s).n cb] 29)
          replace hB1 := bel_alloc (bel_call hb hB1) (.cells #[.int .i64 (askR (E c) c s).e, .int .i64 (askR (E c) c s).id, .int .i64 (askR (E c) c s).d, .int .i64 (askR (E c) c s).r, .slice sb (askR (E c) c s).n cb] 29)
          clear hb hO A_c
          generalize askR (E c) c s = Rq at *
          go_upto_region 10 with fail
          obtain ⟨w5, hw5⟩ : ∃ w5, w4.alloc (.cells #[.int .i64 Rq.e, .int .i64 Rq.id, .int .i64 Rq.d, .int .i64 Rq.r, .slice sb Rq.n cb] 29) = w5 := ⟨_, rfl⟩
          rw [hw5] at A hT1 hB1 hF1 ⊢
          clear hw5
          have A_c := A.cell
          go_wp2_with fail
          refine (cn.out _ _ _ hT1 (by omega) _ _ _ ⟨fa, fc, rfl, hF1⟩).mono ?_
          rintro e' w6 ⟨rfl, ⟨cnt', hc', hT6⟩, hg⟩
          replace A := A.grown hg (by simp; omega)
          replace hF1 := hF1.grown hg (fun k hk => by cases hk; omega)
          replace hB1 := bel_grown hg hB1 (fun k hk => by cases hk; exact hm0)
          clear hg hT1 A_c
          have A_c := A.cell
          go_wp2_with fail
          refine (ca2.out _ _ _ hT6).mono ?_
          rintro e' w7 ⟨⟨v, rfl, sc, cc, rfl, hO⟩, hb⟩
          dsimp only at hO ⊢
          replace A := (A.call hb).alloc (.cells #[.int .i64 e, .int .i64 id, .int .i64 d, .int .i64 r, .slice sc n cc] 29)
          replace hT6 := (hT6.call hb).alloc (.cells #[.int .i64 e, .int .i64 id, .int .i64 d, .int .i64 r, .slice sc n cc] 29)
          replace hF1 := (hF1.call hb).alloc (.cells #[.int .i64 e, .int .i64 id, .int .i64 d, .int .i64 r, .slice sc n cc] 29)
          replace hB1 := bel_alloc (bel_call hb hB1) (.cells #[.int .i64 e, .int .i64 id, .int .i64 d, .int .i64 r, .slice sc n cc] 29)
          have C := Blk.new w7 #[.int .i64 e, .int .i64 id, .int .i64 d, .int .i64 r, .slice sc n cc] 29
          have hO2 := hO.fills.alloc (.cells #[.int .i64 e, .int .i64 id, .int .i64 d, .int .i64 r, .slice sc n cc] 29)
          clear hb hO A_c
          go_upto_region 15 with fail
          obtain ⟨w8, hw8⟩ : ∃ w8, w7.alloc (.cells #[.int .i64 e, .int .i64 id, .int .i64 d, .int .i64 r, .slice sc n cc] 29) = w8 := ⟨_, rfl⟩
          obtain ⟨rb, hrb⟩ : ∃ rb, w7.heap.size = rb := ⟨_, rfl⟩
          rw [hw8] at A hT6 hB1 hF1 C hO2 ⊢
          rw [hrb] at C ⊢
          clear hw8
          have A_c := A.cell
          have C_c := C.cell
          go_wp2_with fail
          refine (same_true _ _ _ _ _ _ _ ⟨e, id, d, r, n, X⟩ ⟨sc, cc, rfl, hO2⟩ ⟨fa, fc, rfl, hF1⟩).mono ?_
          rintro e' w9 ⟨rfl, hb⟩
          replace A := A.call hb
          replace hT6 := hT6.call hb
          replace hB1 := bel_call hb hB1
          clear hb A_c C_c C hO2 hF1
          have A_c := A.cell
          go_wp2_with fail
          refine (cn2.out _ _ _ hT6 (by omega) w9.heap.size w9.heap.size _ (RepAt.zero _ _ (Nat.le_refl _))).mono ?_
          rintro e' w10 ⟨rfl, ⟨cnt2, hc2, hT10⟩, hg⟩
          replace hB1 := bel_grown hg hB1 (fun k hk => by cases hk; exact hm0)
          clear hg hT6 A_c A
          go_wp2_with fail
          go_roundw
          case rel => exact ⟨j + 1, cnt2, E', by omega, by omega, by omega, by go_num, hT10, hB1⟩
          case measure => simp [intOf]; omega
        · have HN := Lib.hid (show noteN E c s ⟨e, id, d, r, n, X⟩ = E from noteN_no (by rcases hno with ⟨_, h⟩ | ⟨_, h⟩ | ⟨_, h⟩ <;> rw [h] <;> decide))
          rw [HN.out] at cn
          rcases hno with ⟨h1, h2⟩ | ⟨h1, h2⟩ | ⟨h1, h2⟩
          all_goals
            rw [h1] at ca
            rw [h2] at cn
            clear h1 h2
            go_wp2_with fail
            refine (ca.out _ _ _ hT1).mono ?_
            rintro e' w4 ⟨⟨v, rfl, sb, cb, rfl, hO⟩, hb⟩
            replace A := (A.call hb).alloc (.cells #[.int .i64 (askR (E c) c s).e, .int .i64 (askR (E c) c s).id, .int .i64 (askR (E c) c s).d, .int .i64 (askR (E c) c s).r, .slice sb (askR (E c) c s).n cb] 29)
            replace hT1 := (hT1.call hb).alloc (.cells #[.int .i64 (askR (E c) c s).e, .int .i64 (askR (E c) c s).id, .int .i64 (askR (E c) c s).d, .int .i64 (askR (E c) c s).r, .slice sb (askR (E c) c s).n cb] 29)
            replace hF1 := (hF1.call hb).alloc (.cells #[.int .i64 (askR (E c) c s).e, .int .i64 (askR (E c) c s).id, .int .i64 (askR (E c) c s).d, .int .i64 (askR (E c) c s).r, .slice sb (askR (E c) c s).n cb] 29)
            replace hB1 := bel_alloc (bel_call hb hB1) (.cells #[.int .i64 (askR (E c) c s).e, .int .i64 (askR (E c) c s).id, .int .i64 (askR (E c) c s).d, .int .i64 (askR (E c) c s).r, .slice sb (askR (E c) c s).n cb] 29)
            clear hb hO A_c
            generalize askR (E c) c s = Rq at *
            go_upto_region 10 with fail
            obtain ⟨w5, hw5⟩ : ∃ w5, w4.alloc (.cells #[.int .i64 Rq.e, .int .i64 Rq.id, .int .i64 Rq.d, .int .i64 Rq.r, .slice sb Rq.n cb] 29) = w5 := ⟨_, rfl⟩
            rw [hw5] at A hT1 hB1 hF1 ⊢
            clear hw5
            have A_c := A.cell
            go_wp2_with fail
            refine (cn.out _ _ _ hT1 (by omega) _ _ _ ⟨fa, fc, rfl, hF1⟩).mono ?_
            rintro e' w6 ⟨rfl, ⟨cnt', hc', hT6⟩, hg⟩
            replace hB1 := bel_grown hg hB1 (fun k hk => by cases hk; exact hm0)
            clear hg hT1 A_c A hF1
            go_wp2_with fail
            go_roundw
            case rel => exact ⟨j + 1, cnt', E, by omega, by omega, by omega, by go_num, hT6, hB1⟩
            case measure => simp [intOf]; omega
      · have hd1 : decide ((j : Int) < (len : Int)) = true := by simp; omega
        have hd2 : decide ((j : Int) < 100) = false := by simp; omega
        go_wp2_with fail
        go_ret
        exact ⟨rfl, hBr⟩
    · have hd1 : decide ((j : Int) < (len : Int)) = false := by simp; omega
      go_wp2_with fail
      go_ret
      exact ⟨rfl, hBr⟩
end Go.Proofs.Ytgjejgndmioioaa
