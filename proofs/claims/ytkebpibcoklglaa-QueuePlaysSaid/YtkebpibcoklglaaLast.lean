/-
  Sums of queues; one out and in again; the walk of QueueLast.
-/
import Derived.Test.YtkebpibcoklglaaNum
namespace Go.Proofs.Ytkebpibcoklglaa
open Go.RowKit
set_option linter.unusedSimpArgs false
set_option linter.unusedVariables false
/-- what is left of all. -/
def total (L : List (Int × Int)) : Int := L.foldr (fun p s => p.2 + s) 0
theorem total_app (A B : List (Int × Int)) : total (A ++ B) = total A + total B := by
  unfold total
  induction A with
  | nil => simp
  | cons p A ih => simp only [List.cons_append, List.foldr_cons, ih]; omega
theorem wrap64_left (a b : Int) : wrap64 (wrap64 a + b) = wrap64 (a + b) := by
  unfold wrap64
  omega
theorem sum_fold : ∀ (l : List (Nat × Int × Int)) (s : Int), wrap64 s = s → l.foldl (fun s x => wrap64 (s + x.2.2)) s = wrap64 (s + (l.map fun x => x.2.2).foldr (· + ·) 0)
  | [], s, h => by simp [h]
  | x :: l, s, h => by
    rw [List.foldl_cons, sum_fold l (wrap64 (s + x.2.2)) (by have := wrap64_left (s + x.2.2) 0; simpa using this), wrap64_left]
    simp only [List.map_cons, List.foldr_cons]
    rw [Int.add_assoc]
theorem sum_total (L : List (Int × Int)) : sumW (upto (itm L) L.length) = wrap64 (total L) := by
  unfold sumW
  rw [sum_fold _ 0 (by decide +kernel), Int.zero_add]
  congr 1
  have h1 : (upto (itm L) L.length).map (fun x => x.2.2) = L.map (fun p => p.2) := by
    have h2 : (upto (itm L) L.length).map (fun x => x.2.2) = ((List.range L.length).map (fun j => L[j]?.getD (0, 0))).map (fun p => p.2) := by
      simp [upto, itm]
    rw [h2, range_get]
  rw [h1]
  unfold total
  rw [List.foldr_map]
theorem total_out (L : List (Int × Int)) (k : Nat) (h : k < L.length) (d : Int) : total (out L k ++ [(d, L[k].2)]) = total L := by
  have e : L = L.take k ++ [L[k]] ++ L.drop (k + 1) := by
    rw [List.append_assoc, List.singleton_append, List.getElem_cons_drop, List.take_append_drop]
  have e2 := congrArg total e
  rw [total_app, total_app] at e2
  unfold out
  rw [total_app, total_app, e2]
  have t1 : total [L[k]] = L[k].2 := by simp [total]
  have t2 : total [(d, L[k].2)] = L[k].2 := by simp [total]
  rw [t1, t2]
  omega
theorem find_no {L : List (Int × Int)} {id : Int} (h : ∀ p ∈ L, p.1 ≠ id) : findI L id = -1 := by
  refine findI_none (fun x hx => ?_)
  obtain ⟨j, hj, rfl⟩ := List.mem_map.1 hx
  have hj := List.mem_range.1 hj
  rw [itm_lt L j hj]
  exact h _ (List.getElem_mem hj)
theorem out_num (f : Nat → Int) (n k : Nat) : ∀ p ∈ out (num f n) k, p.1 ≠ (k : Int) + 1 := by
  intro p hp
  unfold out at hp
  rcases List.mem_append.1 hp with h | h
  · obtain ⟨i, hi, rfl⟩ := List.mem_iff_getElem.1 h
    rw [List.getElem_take, num_elem]
    simp only [List.length_take] at hi
    show (i : Int) + 1 ≠ (k : Int) + 1
    omega
  · obtain ⟨i, hi, rfl⟩ := List.mem_iff_getElem.1 h
    rw [List.getElem_drop, num_elem]
    show ((k + 1 + i : Nat) : Int) + 1 ≠ (k : Int) + 1
    omega
theorem drop_num (f : Nat → Int) (n k : Nat) (h : k < n) : dropQ (num f n) ((k : Int) + 1) = f k ∧ dropB (num f n) ((k : Int) + 1) = true ∧ dropN (num f n) ((k : Int) + 1) = out (num f n) k := by
  have e := find_num f n k h
  refine ⟨?_, ?_, ?_⟩
  · unfold dropQ getQ
    rw [e, if_pos (by omega), Int.toNat_natCast, num_get f n k h]
    rfl
  · unfold dropB; rw [e]; simp
  · unfold dropN; rw [e, if_pos (by omega), Int.toNat_natCast]
theorem put_again (f : Nat → Int) (n k : Nat) (h : k < n) (hn : n ≤ 256) (h1 : 1 ≤ f k) (h2 : f k ≤ 1073741824) : putE (out (num f n) k) ((k : Int) + 1) (f k) = 0 ∧ putN (out (num f n) k) ((k : Int) + 1) (f k) = out (num f n) k ++ [((k : Int) + 1, f k)] := by
  have hl := out_len (num f n) k (by rw [num_len]; exact h)
  rw [num_len] at hl
  have e : putE (out (num f n) k) ((k : Int) + 1) (f k) = 0 := by
    unfold putE
    rw [if_neg (by omega), find_no (out_num f n k), if_neg (by omega), if_neg (by omega)]
  exact ⟨e, by unfold putN; rw [if_pos e]⟩
theorem u8_of {w : World} {sa : Option Addr} {len cap : Nat} {D : Nat → Nat → Int} (hD : RowsOf w sa len cap 1 (fun _ => .u8) D) (i : Nat) (hi : i < len) : 0 ≤ D i 0 ∧ D i 0 ≤ 255 := by
  have hw := hD.wf i hi 0 (by omega)
  simp [Lit.wf, IntKind.min, IntKind.max, IntKind.signed, IntKind.bits] at hw
  omega
theorem RowsOf.keep {w w' : World} {sa : Option Addr} {len cap k : Nat} {K : Nat → IntKind} {D : Nat → Nat → Int} (hD : RowsOf w sa len cap k K D) (hb : Below w.heap.size w w') : RowsOf w' sa len cap k K D :=
  ⟨hD.lenCap, hD.capMax, fun h0 => by obtain ⟨b, off, e, hc⟩ := hD.cells h0; exact ⟨b, off, e, fun i hi j hj => cell_call (hc i hi j hj) hb⟩, hD.wf⟩
set_option maxHeartbeats 4000000 in
set_option maxRecDepth 100000 in
theorem last_walk (sa : Option Addr) (len cap : Nat) (D : Nat → Nat → Int) (x : Int) (w : World) (hD : RowsOf w sa len cap 1 (fun _ => .u8) D) (wx : (Lit.int .u8 x).wf = true) :
    Calls Try.prog 4 #[.slice sa len cap, .int .u8 x] w fun e w' => e = .returned (.bool true) ∧ Below w.heap.size w w' := by
  have hB := bel_refl w
  have hlen : len ≤ 9223372036854775807 := by have := hD.lenCap; have := hD.capMax; unfold maxLen at this; omega
  have hx : 0 ≤ x ∧ x ≤ 255 := by
    simp [Lit.wf, IntKind.min, IntKind.max, IntKind.signed, IntKind.bits] at wx
    omega
  go_enter Try.func4, Try.ntmps4
  go_wp2_with fail
  refine (awake_any _).mono ?_
  rintro e w1 ⟨rfl, hb⟩
  have hD1 := hD.keep hb
  replace hB := bel_call hb hB
  have hs1 := hB.size
  clear hb
  go_wp2_with fail
  refine (filled_any _ _ _ D _ hD1).mono ?_
  rintro e w2 ⟨⟨gq, rfl, hQ⟩, hb⟩
  replace hB := bel_call hb hB
  obtain ⟨qb, hqb⟩ : ∃ qb, w1.heap.size = qb := ⟨_, rfl⟩
  rw [hqb] at hQ hs1 ⊢
  obtain ⟨n, hn⟩ : ∃ n, min len 60 = n := ⟨_, rfl⟩
  rw [hn] at hQ
  have hn60 : n ≤ 60 := by omega
  have HR := Lib.hid (fun i hi => u8_of hD i hi)
  clear hb hD hD1 hqb wx
  by_cases hn0 : n = 0
  · have hmin : min (len : Int) 60 = 0 := by omega
    go_wp2_with fail
    go_ret
    exact ⟨rfl, hB⟩
  · obtain ⟨m, rfl⟩ : ∃ m, n = m + 1 := ⟨n - 1, by omega⟩
    have hmin : min (len : Int) 60 = ((m : Int) + 1) := by omega
    have hm0 : ((m : Int) + 1 == 0) = false := by simp; omega
    obtain ⟨k, hk⟩ : ∃ k : Nat, (k : Int) = x % ((m : Int) + 1) := ⟨(x % ((m : Int) + 1)).toNat, by have := Int.emod_nonneg x (show ((m : Int) + 1) ≠ 0 by omega); omega⟩
    have hkm : k < m + 1 := by have := Int.emod_lt_of_pos x (show (0 : Int) < (m : Int) + 1 by omega); omega
    have hrem : x.tmod ((m : Int) + 1) = (k : Int) := by rw [hk]; exact Int.tmod_eq_emod_of_nonneg hx.1
    have hfk := HR.out k (by omega)
    have hL := num_len (fun i => D i 0 + 2) (m + 1)
    have hdr := drop_num (fun i => D i 0 + 2) (m + 1) k hkm
    have hpa := put_again (fun i => D i 0 + 2) (m + 1) k hkm (by omega) (by show 1 ≤ D k 0 + 2; omega) (by show D k 0 + 2 ≤ 1073741824; omega)
    have hto := total_out (num (fun i => D i 0 + 2) (m + 1)) k (by omega) ((k : Int) + 1)
    rw [num_elem] at hto
    have hol := out_len (num (fun i => D i 0 + 2) (m + 1)) k (by omega)
    rw [num_len] at hol
    rw [show (k : Int) + 1 = 1 + (k : Int) by omega] at hdr hpa hto
    have hsl : (out (num (fun i => D i 0 + 2) (m + 1)) k ++ [(1 + (k : Int), D k 0 + 2)]).length = m + 1 := by rw [List.length_append, hol]; rfl
    have hst : sumW (upto (itm (out (num (fun i => D i 0 + 2) (m + 1)) k ++ [(1 + (k : Int), D k 0 + 2)])) (m + 1)) = sumW (upto (itm (num (fun i => D i 0 + 2) (m + 1))) (m + 1)) := by
      have a1 := sum_total (out (num (fun i => D i 0 + 2) (m + 1)) k ++ [(1 + (k : Int), D k 0 + 2)])
      have a2 := sum_total (num (fun i => D i 0 + 2) (m + 1))
      rw [hsl] at a1
      rw [hL] at a2
      rw [a1, a2, hto]
    have hlast : ∀ h, (out (num (fun i => D i 0 + 2) (m + 1)) k ++ [(1 + (k : Int), D k 0 + 2)])[m]'h = (1 + (k : Int), D k 0 + 2) := fun h => by
      rw [List.getElem_append_right (by omega)]
      simp [hol]
    clear hto
    generalize num (fun i => D i 0 + 2) (m + 1) = L at *
    generalize out L k = L1 at *
    generalize D k 0 + 2 = q at *
    generalize L1 ++ [(1 + (k : Int), q)] = L2 at *
    have cs := Lib.hid (fun (w : World) (g : Option Nat) (h : QAt w qb g L) => sum_any w _ L h.isQ (by omega))
    have cd := Lib.hid (fun (w : World) (g : Option Nat) (h : QAt w qb g L) => drop_any w qb g L h (by omega) (1 + (k : Int)))
    rw [hdr.1, hdr.2.1, hdr.2.2] at cd
    have cp := Lib.hid (fun (w : World) (g : Option Nat) (h : QAt w qb g L1) => put_any w qb g L1 h (by omega) (1 + (k : Int)) q)
    rw [hpa.1, hpa.2] at cp
    have cl := Lib.hid (fun (w : World) (g : Option Nat) (h : QAt w qb g L2) => list_any w _ L2 h.isQ (by omega))
    have cs2 := Lib.hid (fun (w : World) (g : Option Nat) (h : QAt w qb g L2) => sum_any w _ L2 h.isQ (by omega))
    rw [hL] at cs
    rw [hsl, hst] at cs2
    have HL := Lib.hid hlast
    have HS := Lib.hid hsl
    clear hdr hpa hst hlast hL hol hfk hsl
    go_upto_region 9 with fail
    rw [← hk]
    clear hk hrem
    go_wp2_with fail
    refine (cs.out _ _ hQ).mono ?_
    rintro e w3 ⟨rfl, hb⟩
    replace hQ := hQ.call hb
    replace hB := bel_call hb hB
    clear hb
    go_wp2_with fail
    refine (cd.out _ _ hQ).mono ?_
    rintro e w4 ⟨rfl, hQ4, ht, -⟩
    replace hB := bel_q hB hQ hs1 ht
    clear ht hQ
    go_wp2_with fail
    refine (cp.out _ _ hQ4).mono ?_
    rintro e w5 ⟨rfl, ⟨g5, hQ5, -⟩, ht, -⟩
    replace hB := bel_q hB hQ4 hs1 ht
    clear ht hQ4
    go_wp2_with fail
    refine (cl.out _ _ hQ5).mono ?_
    rintro e w6 ⟨v, rfl, hO, hb⟩
    replace hQ5 := hQ5.call hb
    replace hB := bel_call hb hB
    clear hb
    obtain ⟨sv, cv, rfl, hV⟩ := items_open hO
    obtain ⟨g, rfl, -, -, p0, p1⟩ := hV m (by have := HS.out; omega)
    rw [HL.out] at p0 p1
    rw [HS.out]
    have b0 : (0 : Int) ≤ (m : Int) := by omega
    have b1 : (m : Int) < (m : Int) + 1 := by omega
    clear hV hO
    go_wp2_with fail
    refine (cs2.out _ _ hQ5).mono ?_
    rintro e w7 ⟨rfl, hb⟩
    replace hB := bel_call hb hB
    go_wp2_with fail
    go_ret
    exact ⟨rfl, hB⟩
end Go.Proofs.Ytkebpibcoklglaa
