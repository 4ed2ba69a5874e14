/-
  The law TimerTicks: the walk; and what 'watch' makes of three bytes. For every input it returns true.
-/
import Derived.Test.YtkgfikaojbfoiaaLaws
import Derived.OpenShut
namespace Go.Proofs.Ytkgfikaojbfoiaa
open Go.RowKit
set_option linter.unusedSimpArgs false
set_option linter.unusedVariables false

set_option maxHeartbeats 1000000 in
theorem watch_any (w : World) (x y z : Int) (hx : 0 ≤ x ∧ x ≤ 255) (hy : 0 ≤ y ∧ y ≤ 255) (hz : 0 ≤ z ∧ z ≤ 255) (n : Nat) (hn : (n : Int) = 1 + y % 7) (m : Nat) (hm : (m : Int) = x % n) (p : Int) (hp : p = 1 + z % 50) :
    Calls Try.prog 23 #[.int .u8 x, .int .u8 y, .int .u8 z] w fun e w' => e = .returned (.tuple #[.pointer (some ⟨w.heap.size, 0, none⟩), .int .i64 n, .int .i64 p]) ∧ WatchAt w' w.heap.size m n p (fun _ => 0) ∧ Below w.heap.size w w' := by
  have h1 : 1 + y % 7 = (n : Int) := hn.symm
  have h2 : 1 + z % 50 = p := hp.symm
  have h3 : x % (n : Int) = (m : Int) := hm.symm
  have hn1 : 1 ≤ n := by omega
  have hn7 : n ≤ 7 := by omega
  have hmn : (m : Int) < n := by rw [hm]; exact Int.emod_lt_of_pos _ (by omega)
  have hp1 : 1 ≤ p ∧ p ≤ 50 := by omega
  clear hn hm hp
  go_enter Try.func23, Try.ntmps23
  go_wp2_with fail
  refine (new_ok _ m n p (by unfold okNew; omega)).mono ?_
  rintro e w1 ⟨rfl, hw, hb⟩
  go_wp2
  go_ret3
  exact ⟨rfl, hw, hb⟩
theorem pick_nm (x y : Int) (hx : 0 ≤ x) (hy : 0 ≤ y) : ∃ n m : Nat, (n : Int) = 1 + y % 7 ∧ (m : Int) = x % n ∧ 1 ≤ n ∧ n ≤ 7 ∧ m < n := by
  have h1 : 0 ≤ y % 7 := Int.emod_nonneg _ (by omega)
  have h2 : y % 7 < 7 := Int.emod_lt_of_pos _ (by omega)
  refine ⟨(1 + y % 7).toNat, (x % ((1 + y % 7).toNat : Int)).toNat, by omega, ?_, by omega, by omega, ?_⟩
  · have := Int.emod_nonneg x (b := ((1 + y % 7).toNat : Int)) (by omega)
    omega
  · have h3 := Int.emod_lt_of_pos x (b := ((1 + y % 7).toNat : Int)) (by omega)
    have h4 := Int.emod_nonneg x (b := ((1 + y % 7).toNat : Int)) (by omega)
    omega
def silI (me : Int) (n : Nat) (i : Int) : Nat → Int := fun j => if j < n ∧ (j : Int) ≠ me then i else 0
theorem silI_zero (me : Int) (n : Nat) : silI me n 0 = fun _ => 0 := by funext j; unfold silI; split <;> rfl
theorem tick_silI (me : Int) (n : Nat) (i : Int) (h0 : 0 ≤ i) (h1 : i < 1000000) : tickK me (silI me n i) n = silI me n (i + 1) := by
  funext j
  unfold tickK
  show (if j < n ∧ (j : Int) ≠ me ∧ (if j < n ∧ (j : Int) ≠ me then i else 0) < 1000000 then (if j < n ∧ (j : Int) ≠ me then i else 0) + 1 else (if j < n ∧ (j : Int) ≠ me then i else 0)) = if j < n ∧ (j : Int) ≠ me then i + 1 else 0
  by_cases h : j < n ∧ (j : Int) ≠ me
  · rw [if_pos h, if_pos ⟨h.1, h.2, h1⟩, if_pos h]
  · rw [if_neg h, if_neg (fun h' => h ⟨h'.1, h'.2.1⟩), if_neg h]
theorem silI_ge (me : Int) (n : Nat) (i : Int) (h0 : 0 ≤ i) : ∀ j, j < 7 → 0 ≤ silI me n i j := fun j _ => by unfold silI; split <;> omega
theorem silentF_at (n : Nat) (s : Nat → Int) (j : Nat) (hj : j < n) : silentF n s j = s j := by unfold silentF; rw [if_pos (by omega), Int.toNat_natCast]

set_option maxRecDepth 100000 in
set_option maxHeartbeats 4000000 in
theorem ticks_walk (x y z many : Int) (w : World) (gx : (Lit.int .u8 x).wf = true) (gy : (Lit.int .u8 y).wf = true) (gz : (Lit.int .u8 z).wf = true) (gm : (Lit.int .u16 many).wf = true) :
    Calls Try.prog 7 #[.agg #[.int .u8 x, .int .u8 y, .int .u8 z], .int .u16 many] w fun e w' => e = .returned (.bool true) ∧ Below w.heap.size w w' := by
  have bx := bounds_u8 gx; have by' := bounds_u8 gy; have bz := bounds_u8 gz; have bm := bounds_u16 gm
  clear gx gy gz gm
  obtain ⟨n, m, hn, hm, hn1, hn7, hmn⟩ := pick_nm x y bx.1 by'.1
  obtain ⟨p, hp⟩ : ∃ p, p = 1 + z % 50 := ⟨_, rfl⟩
  obtain ⟨K, hK⟩ : ∃ K : Nat, many % 3000 = (K : Int) := ⟨(many % 3000).toNat, by have := Int.emod_nonneg many (b := 3000) (by omega); omega⟩
  have hK3 : K < 3000 := by have := Int.emod_lt_of_pos many (b := 3000) (by omega); omega
  have hK1 : (K : Int) ≤ many % 3000 := by omega
  have hK2 : many % 3000 ≤ (K : Int) := by omega
  have HK := Lib.hid hK
  clear hK
  have hB := bel_refl w
  have HN := Lib.hid hn; have HM := Lib.hid hm; have HP := Lib.hid hp
  clear hn hm hp
  go_enter Try.func7, Try.ntmps7
  go_wp2_with fail
  refine (awake_any _).mono ?_
  rintro e w1 ⟨rfl, hb⟩
  have C : Blk w1 w.heap.size _ := Blk.call (by first | exact (Blk.new _ _ _) | exact (Blk.new _ _ _).alloc _ | exact ((Blk.new _ _ _).alloc _).alloc _ | exact (((Blk.new _ _ _).alloc _).alloc _).alloc _ | exact (Blk.new _ _ _).drew | exact ((Blk.new _ _ _).alloc _).drew | exact (((Blk.new _ _ _).alloc _).alloc _).drew) hb
  replace hB := bel_call hb (by first | exact hB | exact bel_alloc hB _ | exact bel_alloc (bel_alloc hB _) _ | exact bel_alloc (bel_alloc (bel_alloc hB _) _) _ | exact bel_drew hB | exact bel_drew (bel_alloc hB _) | exact bel_drew (bel_alloc (bel_alloc hB _) _))
  clear hb
  have C_c := C.cell; have C_f := C.free; have C_l := C.lt
  go_wp2_with fail
  refine (watch_any _ x y z bx by' bz n HN.out m HM.out p HP.out).mono ?_
  rintro e w2 ⟨rfl, hw, hb⟩
  clear C_c C_f
  replace C := C.call hb
  have hbb : w.heap.size ≤ w1.heap.size := hB.size
  have hne : some w.heap.size ≠ some w1.heap.size := fun e => by have := Option.some.inj e; omega
  replace hB := bel_call hb hB
  clear hb
  go_wp2_with fail
  go_loopw [10] (fun i wr => ∃ k : Nat, k ≤ K ∧ i = .int .i64 k ∧ WatchAt wr w1.heap.size m n p (silI m n k) ∧ Blk wr w.heap.size #[.int .u8 x, .int .u8 y, .int .u8 z] ∧ Below w.heap.size w wr) (fun i _ => K - (intOf i).toNat)
  case atStart => exact ⟨0, by omega, rfl, by rw [show ((0 : Nat) : Int) = 0 from rfl, silI_zero]; exact hw, C, hB⟩
  case round =>
    obtain ⟨k, hk, rfl, hwr, Cr, hBr⟩ := hrel
    by_cases hlt : k < K
    · go_wp2_with fail
      refine (tick_any _ _ m p n _ hwr hn7 (silI_ge _ _ _ (by omega))).mono ?_
      rintro e w3 ⟨rfl, hw3, hg⟩
      rw [tick_silI m n k (by omega) (by omega)] at hw3
      go_wp2
      go_roundw
      case rel => exact ⟨k + 1, by omega, by go_num, hw3, Cr.grown hg hne, bel_grown hg hBr (fun j hj => by cases hj; exact hbb)⟩
      case measure => simp [intOf]; omega
    · have hk' : k = K := by omega
      subst hk'
      go_wp2_with fail
      go_loopw [11] (fun i wr => ∃ j : Nat, j ≤ n ∧ i = .int .i64 j ∧ WatchAt wr w1.heap.size m n p (silI m n k) ∧ Blk wr w.heap.size #[.int .u8 x, .int .u8 y, .int .u8 z] ∧ Below w.heap.size w wr) (fun i _ => n - (intOf i).toNat)
      case atStart => exact ⟨0, by omega, rfl, hwr, Cr, hBr⟩
      case round =>
        obtain ⟨j, hj, rfl, hwj, Cj, hBj⟩ := hrel
        have cx : wr.cell? ⟨w.heap.size, 0, none⟩ = some (Value.int .u8 x) := Cj.cell 0
        by_cases hlt' : j < n
        · have hsj := silentF_at n (silI m n k) j hlt'
          have hxm : x % (n : Int) = (m : Int) := HM.out.symm
          by_cases hown : j = m
          · have hv : silI m n k j = 0 := by unfold silI; rw [if_neg (by omega)]
            rw [hv] at hsj
            have q1 : ((j : Int) == (m : Int)) = true := by simp [hown]
            clear hown hv
            go_wp2_with fail
            refine (silent_any _ _ m n p _ hwj j (by omega)).mono ?_
            rintro e w3 ⟨rfl, rfl⟩
            rw [hsj]
            go_wp2
            go_roundw
            case rel => exact ⟨j + 1, by omega, by go_num, hwj, Cj, hBj⟩
            case measure => simp [intOf]; omega
          · have hv : silI m n k j = k := by unfold silI; rw [if_pos ⟨hlt', by omega⟩]
            rw [hv] at hsj
            have q1 : ((j : Int) == (m : Int)) = false := by simp; omega
            clear hown hv
            go_wp2_with fail
            refine (silent_any _ _ m n p _ hwj j (by omega)).mono ?_
            rintro e w3 ⟨rfl, rfl⟩
            rw [hsj]
            have q2 : ((k : Int) == many % 3000) = true := by simp; omega
            have q3 : ((k : Int) != many % 3000) = false := by simp; omega
            go_wp2
            go_roundw
            case rel => exact ⟨j + 1, by omega, by go_num, hwj, Cj, hBj⟩
            case measure => simp [intOf]; omega
        · have hj' : j = n := by omega
          subst hj'
          go_wp2
          go_ret
          exact ⟨rfl, hBj⟩
end Go.Proofs.Ytkgfikaojbfoiaa
