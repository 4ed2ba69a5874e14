/-
  The document's ledger: a value of 260 numbers; contracts of its functions.
-/
import Derived.Test.YthkmjfgffofaoaaInv
import Derived.Deep.MidRow
import Derived.Sort.WalkA6
namespace Go.Proofs.Ythkmjfgffofaoaa
open Go.RowKit
set_option linter.unusedSimpArgs false
set_option linter.unusedVariables false
/-- the document's ledger: its cells. -/
def rcs (G : Nat → Int) : Array Value := Array.ofFn (n := 260) fun i => Value.int .i64 (G i)
theorem rcs_size (G : Nat → Int) : (rcs G).size = 260 := by simp [rcs]
theorem rcs_get (G : Nat → Int) (i : Nat) (h : i < 260) : (rcs G)[i]? = some (.int .i64 (G i)) := by simp [rcs, h]
theorem rcs_ext (cs : Array Value) (G : Nat → Int) (hs : cs.size = 260) (h : ∀ i, i < 260 → cs[i]? = some (.int .i64 (G i))) : cs = rcs G := by
  apply Array.ext_getElem?
  intro i
  by_cases hi : i < 260
  · rw [h i hi, rcs_get G i hi]
  · rw [Array.getElem?_eq_none (by omega), Array.getElem?_eq_none (by rw [rcs_size]; omega)]
theorem rcs_zero : rcs (fun _ => 0) = Array.replicate 260 (.int .i64 0) := (rcs_ext _ _ (by simp) (fun i h => by simp [h])).symm
theorem Blk.cast {w : World} {b : Nat} {cs cs' : Array Value} (h : Blk w b cs) (e : cs = cs') : Blk w b cs' := e ▸ h
theorem rcs_set {w : World} {b : Nat} {G : Nat → Int} (h : Blk w b (rcs G)) (k : Nat) (hk : k < 260) (v : Int) : Blk (w.setCell ⟨b, k, none⟩ (.int .i64 v)) b (rcs (upd G k v)) :=
  (h.set k (.int .i64 v)).cast (rcs_ext _ _ (by simp [rcs_size]) (fun i hi => by
    rw [Array.getElem?_setIfInBounds]
    by_cases e : k = i
    · subst e; rw [if_pos rfl, if_pos (by rw [rcs_size]; exact hk), upd_at]
    · rw [if_neg e, rcs_get G i hi, upd_ne _ _ _ _ (fun h => e h.symm)]))
theorem rload (w : World) (b : Nat) (G : Nat → Int) (h : Blk w b (rcs G)) : (loadVar 33 ⟨b, 0, none⟩).run Try.prog w = .ok (.agg (rcs G)) w := by
  have := run_loadVar_mid (P := Try.prog) w b 0 33 (rcs G).toList _ (fun j v hv => by rw [Nat.zero_add, h.cell j]; simpa using hv) Try.underlying33 rfl (by rw [Array.length_toList, rcs_size]; kernel_rfl)
  simpa using this
theorem rzero (w : World) : Sem.run Try.prog (zeroValue 33) w = .ok (.agg (rcs fun _ => 0)) w := by rw [rcs_zero]; kernel_rfl
/-- a whole ledger stored. -/
def rst (w : World) (b : Nat) (G : Nat → Int) : World := w.setCells b 0 (rcs G).toList
theorem rstore (w : World) (b : Nat) (G G' : Nat → Int) (h : Blk w b (rcs G)) : Sem.run Try.prog (storeVar 33 ⟨b, 0, none⟩ (.agg (rcs G'))) w = .ok () (rst w b G') :=
  run_storeVar_mid (P := Try.prog) w b 0 33 (rcs G') (fun j hj => by
    rw [rcs_size] at hj
    rw [Nat.zero_add, h.cell j, h.free j, rcs_get G j hj]
    exact ⟨rfl, rfl⟩) (by rw [rcs_size]; kernel_rfl) (Array.all_eq_true_iff_forall_mem.2 (fun v hv => by
      obtain ⟨i, hi, rfl⟩ := Array.mem_iff_getElem.1 hv
      have := rcs_get G' i (by rw [rcs_size] at hi; exact hi)
      rw [Array.getElem?_eq_getElem hi] at this
      rw [Option.some.inj this]
      rfl))
theorem rst_blk (w : World) (b : Nat) (G G' : Nat → Int) (h : Blk w b (rcs G)) : Blk (rst w b G') b (rcs G') := by
  have hlen : (rcs G').toList.length = 260 := by rw [Array.length_toList, rcs_size]
  have ht : ∀ j, j < (rcs G').toList.length → (w.cell? ⟨b, 0 + j, none⟩).isSome = true := fun j hj => by
    rw [hlen] at hj
    rw [Nat.zero_add, h.cell j, rcs_get G j hj]; rfl
  refine ⟨?_, fun i => ?_, fun i => ?_⟩
  · have : ∀ (vs : List Value) (o : Nat) (w : World), (w.setCells b o vs).heap.size = w.heap.size := by
      intro vs
      induction vs with
      | nil => intro o w; rfl
      | cons v r ih => intro o w; simp only [World.setCells]; rw [ih]; simp [World.setCell]
    unfold rst
    rw [this]
    exact h.lt
  · unfold rst
    by_cases hi : i < 260
    · have := World.cell?_setCells_in b (rcs G').toList 0 w ht i (by rw [hlen]; exact hi)
      rw [Nat.zero_add] at this
      rw [this, ← Array.getElem?_toList, List.getElem?_eq_getElem]
    · rw [World.cell?_setCells_out b _ 0 w ⟨b, i, none⟩ (fun _ _ => .inr (by rw [hlen]; show 0 + 260 ≤ i; omega)), h.cell i, Array.getElem?_eq_none (by rw [rcs_size]; omega), Array.getElem?_eq_none (by rw [rcs_size]; omega)]
  · unfold rst
    rw [World.frozen?_setCells]
    exact h.free i
theorem rst_gr (w : World) (b : Nat) (G' : Nat → Int) : w.grownBy (rst w b G') (some b) := by
  have : ∀ (vs : List Value) (o : Nat) (w : World), w.grownBy (w.setCells b o vs) (some b) := by
    intro vs
    induction vs with
    | nil => intro o w; exact gr_refl _ _
    | cons v r ih => intro o w; exact gr_trans (gr_set (gr_refl w (some b)) _ v (.inl rfl)) (ih _ _)
  exact this _ _ _
theorem there_of {w : World} {b : Nat} {G : Nat → Int} (h : Blk w b (rcs G)) (G' : Nat → Int) : w.there b 0 (rcs G').size := fun j hj => by
  rw [rcs_size] at hj
  rw [Nat.zero_add, h.cell j, h.free j, rcs_get G j hj]
  exact ⟨rfl, rfl⟩
theorem cells_one (G : Nat → Int) : (rcs G).all (·.oneCell') = true := Array.all_eq_true_iff_forall_mem.2 (fun v hv => by
  obtain ⟨i, hi, rfl⟩ := Array.mem_iff_getElem.1 hv
  have := rcs_get G i (by rw [rcs_size] at hi; exact hi)
  rw [Array.getElem?_eq_getElem hi] at this
  rw [Option.some.inj this]
  rfl)
theorem range_of {w : World} {b : Nat} {G : Nat → Int} (h : Blk w b (rcs G)) : w.rangeAt b 0 (rcs G).toList := fun j v hv => by rw [Nat.zero_add, h.cell j]; simpa using hv
theorem wpList_rload {ops : Array Oper} {rest : List Oper} {op : Oper} {a : Act} {w : World} {Q : Exit → Act → World → Prop} (hgd : op.guard = none) (x : Operand) (ho : op.op = .load 33 x)
    (b : Nat) (hx : a.eval x = .pointer (some ⟨b, 0, none⟩)) (G : Nat → Int) (h : Blk w b (rcs G)) (k : wpList Try.prog ops Q rest (a.put op.dst (.agg (rcs G))) w) : wpList Try.prog ops Q (op :: rest) a w :=
  wpList_load_mid hgd 33 x ho b 0 hx (rcs G).toList _ (range_of h) Try.underlying33 rfl (by rw [Array.length_toList, rcs_size]; kernel_rfl) (by simpa using k)
theorem wpList_rstore {ops : Array Oper} {rest : List Oper} {op : Oper} {a : Act} {w : World} {Q : Exit → Act → World → Prop} (hgd : op.guard = none) (x y : Operand) (ho : op.op = .store 33 x y)
    (b : Nat) (G' : Nat → Int) (hx : a.eval x = .pointer (some ⟨b, 0, none⟩)) (hy : a.eval y = .agg (rcs G')) (G : Nat → Int) (h : Blk w b (rcs G)) (k : ∀ w', Blk w' b (rcs G') → w.grownBy w' (some b) → wpList Try.prog ops Q rest (a.put op.dst undef) w') : wpList Try.prog ops Q (op :: rest) a w :=
  wpList_store_mid hgd 33 x y ho b 0 (rcs G') hx hy (there_of h G') (by rw [rcs_size]; kernel_rfl) (cells_one G') (k _ (rst_blk w b G G' h) (rst_gr w b G'))
theorem results_cell_tmp {fn : Func} {s u : Tmp} {t : TypeId} (h : fn.results = #[.cell s t, .tmp u]) (tmps : Array Value) (P : Program) (w : World) (p : Addr) (v : Value) (ha : tmps.getD s undef = .pointer (some p)) (hl : (loadVar t p).run P w = .ok v w) :
    (results fn tmps).run P w = .ok (.tuple #[v, tmps.getD u undef]) w := by
  have ha' : tmps[s]?.getD undef = .pointer (some p) := by simpa using ha
  simp [results, h, ha', hl, asAddr]
def okM (acc asset n : Int) : Bool := decide (0 ≤ acc ∧ acc ≤ 64 ∧ 0 ≤ asset ∧ asset ≤ 1 ∧ 0 ≤ n ∧ n ≤ 1152921504606846976)
theorem may_ref (w : World) (acc asset n : Int) : Calls Try.prog 34 #[.int .i64 acc, .int .i64 asset, .int .i64 n] w fun e w' => e = .returned (.bool (okM acc asset n)) ∧ w = w' := by
  have hw : (okM acc asset n = true ∧ decide (0 ≤ acc) = true ∧ decide (acc ≤ 64) = true ∧ decide (0 ≤ asset) = true ∧ decide (asset ≤ 1) = true ∧ decide (0 ≤ n) = true ∧ decide (n ≤ 1152921504606846976) = true) ∨
      (okM acc asset n = false ∧ (decide (0 ≤ acc) = false ∨ (decide (0 ≤ acc) = true ∧ decide (acc ≤ 64) = false) ∨ (decide (0 ≤ acc) = true ∧ decide (acc ≤ 64) = true ∧ decide (0 ≤ asset) = false) ∨ (decide (0 ≤ acc) = true ∧ decide (acc ≤ 64) = true ∧ decide (0 ≤ asset) = true ∧ decide (asset ≤ 1) = false) ∨
        (decide (0 ≤ acc) = true ∧ decide (acc ≤ 64) = true ∧ decide (0 ≤ asset) = true ∧ decide (asset ≤ 1) = true ∧ decide (0 ≤ n) = false) ∨ (decide (0 ≤ acc) = true ∧ decide (acc ≤ 64) = true ∧ decide (0 ≤ asset) = true ∧ decide (asset ≤ 1) = true ∧ decide (0 ≤ n) = true ∧ decide (n ≤ 1152921504606846976) = false))) := by
    unfold okM
    simp only [decide_eq_true_eq, decide_eq_false_iff_not]
    omega
  go_enter Try.func34, Try.ntmps34
  rcases hw with ⟨e, h1, h2, h3, h4, h5, h6⟩ | ⟨e, h1 | ⟨h1, h2⟩ | ⟨h1, h2, h3⟩ | ⟨h1, h2, h3, h4⟩ | ⟨h1, h2, h3, h4, h5⟩ | ⟨h1, h2, h3, h4, h5, h6⟩⟩
  all_goals
    rw [e]
    clear e
    go_wp2
    go_ret
    exact ⟨rfl, rfl⟩
/-- a place of a purse in the document's ledger. -/
def rx (acc asset : Int) : Nat := acc.toNat * 2 + asset.toNat
theorem okM_nat {acc asset n : Int} (h : okM acc asset n = true) : ∃ a s : Nat, acc = a ∧ asset = s ∧ a ≤ 64 ∧ s < 2 ∧ rx acc asset = a * 2 + s := by
  unfold okM at h
  simp only [decide_eq_true_eq] at h
  exact ⟨acc.toNat, asset.toNat, by omega, by omega, by omega, by omega, rfl⟩
def rget (G : Nat → Int) (acc asset : Int) (i : Nat) : Int := if okM acc asset 0 then G i else 0
set_option maxRecDepth 100000 in
set_option maxHeartbeats 2000000 in
theorem freeOf_any (w : World) (G : Nat → Int) (acc asset : Int) :
    Calls Try.prog 17 #[.agg (rcs G), .int .i64 acc, .int .i64 asset] w fun e w' => e = .returned (.int .i64 (rget G acc asset (rx acc asset))) ∧ Below w.heap.size w w' := by
  have hB := bel_refl w
  have hN := Blk.new w (rcs G) 33
  unfold rget
  by_cases h : okM acc asset 0 = true
  · rw [if_pos h]
    obtain ⟨a, s, rfl, rfl, ha, hs, hx⟩ := okM_nat h
    rw [hx]
    have h1 : (0 : Int) ≤ (a : Int) := by omega
    have h2 : (a : Int) < 65 := by omega
    have h3 : (0 : Int) ≤ (s : Int) := by omega
    have h4 : (s : Int) < 2 := by omega
    have hc := (hN.cell (a * 2 + s)).trans (rcs_get G _ (by omega))
    go_enter Try.func17, Try.ntmps17
    go_wp2_with fail
    refine (may_ref _ _ _ _).mono ?_
    rintro e w1 ⟨rfl, rfl⟩
    rw [h]
    go_wp2_with fail
    go_ret
    exact ⟨rfl, bel_alloc hB _⟩
  · have h' : okM acc asset 0 = false := by simpa using h
    rw [if_neg h]
    go_enter Try.func17, Try.ntmps17
    go_wp2_with fail
    refine (may_ref _ _ _ _).mono ?_
    rintro e w1 ⟨rfl, rfl⟩
    rw [h']
    go_wp2_with fail
    go_ret
    exact ⟨rfl, bel_alloc hB _⟩
set_option maxRecDepth 100000 in
set_option maxHeartbeats 2000000 in
theorem heldOf_any (w : World) (G : Nat → Int) (acc asset : Int) :
    Calls Try.prog 19 #[.agg (rcs G), .int .i64 acc, .int .i64 asset] w fun e w' => e = .returned (.int .i64 (rget G acc asset (130 + rx acc asset))) ∧ Below w.heap.size w w' := by
  have hB := bel_refl w
  have hN := Blk.new w (rcs G) 33
  unfold rget
  by_cases h : okM acc asset 0 = true
  · rw [if_pos h]
    obtain ⟨a, s, rfl, rfl, ha, hs, hx⟩ := okM_nat h
    rw [hx, show 130 + (a * 2 + s) = 130 + a * 2 + s by omega]
    have h1 : (0 : Int) ≤ (a : Int) := by omega
    have h2 : (a : Int) < 65 := by omega
    have h3 : (0 : Int) ≤ (s : Int) := by omega
    have h4 : (s : Int) < 2 := by omega
    have hc := (hN.cell (130 + a * 2 + s)).trans (rcs_get G _ (by omega))
    go_enter Try.func19, Try.ntmps19
    go_wp2_with fail
    refine (may_ref _ _ _ _).mono ?_
    rintro e w1 ⟨rfl, rfl⟩
    rw [h]
    go_wp2_with fail
    go_ret
    exact ⟨rfl, bel_alloc hB _⟩
  · have h' : okM acc asset 0 = false := by simpa using h
    rw [if_neg h]
    go_enter Try.func19, Try.ntmps19
    go_wp2_with fail
    refine (may_ref _ _ _ _).mono ?_
    rintro e w1 ⟨rfl, rfl⟩
    rw [h']
    go_wp2_with fail
    go_ret
    exact ⟨rfl, bel_alloc hB _⟩
def rtakeE (G : Nat → Int) (acc asset n : Int) : Int := if okM acc asset n then (if G (rx acc asset) < n then 9 else 0) else 1
def rtakeN (G : Nat → Int) (acc asset n : Int) : Nat → Int := if okM acc asset n ∧ ¬ G (rx acc asset) < n then upd G (rx acc asset) (G (rx acc asset) - n) else G
/-- no number of the document's ledger is less than 0, nor more than 2^60. -/
def Bdr (G : Nat → Int) : Prop := ∀ k, k < 260 → 0 ≤ G k ∧ G k ≤ 1152921504606846976
theorem okM_n {acc asset n : Int} (h : okM acc asset n = true) : 0 ≤ n ∧ n ≤ 1152921504606846976 := by unfold okM at h; simp only [decide_eq_true_eq] at h; omega
set_option maxRecDepth 100000 in
set_option maxHeartbeats 4000000 in
theorem rtake_any (w : World) (G : Nat → Int) (hG : Bdr G) (acc asset n : Int) :
    Calls Try.prog 29 #[.agg (rcs G), .int .i64 acc, .int .i64 asset, .int .i64 n] w fun e w' => e = .returned (.tuple #[.agg (rcs (rtakeN G acc asset n)), .int .i64 (rtakeE G acc asset n)]) ∧ Below w.heap.size w w' := by
  have hB := bel_refl w
  have hN := Blk.new w (rcs G) 33
  by_cases h : okM acc asset n = true
  · obtain ⟨a, s, rfl, rfl, ha, hs, hx⟩ := okM_nat h
    have hn := okM_n h
    have h1 : (0 : Int) ≤ (a : Int) := by omega
    have h2 : (a : Int) < 65 := by omega
    have h3 : (0 : Int) ≤ (s : Int) := by omega
    have h4 : (s : Int) < 2 := by omega
    have k1 : a * 2 + s < 260 := by omega
    have b1 := hG (a * 2 + s) k1
    by_cases hl : G (rx a s) < n
    · rw [show rtakeE G a s n = 9 by unfold rtakeE; rw [if_pos h, if_pos hl], show rtakeN G a s n = G by unfold rtakeN; rw [if_neg (fun hh => hh.2 hl)]]
      rw [hx] at hl
      have e0 : decide (G (a * 2 + s) < n) = true := decide_eq_true hl
      clear hl hx b1
      have z33 := rzero
      go_enter Try.func29, Try.ntmps29
      go_wp2_with fail
      refine (may_ref _ _ _ _).mono ?_
      rintro e w1 ⟨rfl, rfl⟩
      rw [h]
      have X := hN.alloc (.cells (rcs fun _ => 0) 33)
      have R := Blk.new (w.alloc (.cells (rcs G) 33)) (rcs fun _ => 0) 33
      rw [show (w.alloc (.cells (rcs G) 33)).heap.size = w.heap.size + 1 by simp] at R
      have hB2 := bel_alloc (bel_alloc hB (.cells (rcs G) 33)) (.cells (rcs fun _ => 0) 33)
      obtain ⟨w2, hw2⟩ : ∃ w2, (w.alloc (.cells (rcs G) 33)).alloc (.cells (rcs fun _ => 0) 33) = w2 := ⟨_, rfl⟩
      rw [hw2] at X R hB2 ⊢
      clear hw2 hN z33
      have X_c := (X.cell (a * 2 + s)).trans (rcs_get G _ k1)
      go_upto_region 4 with fail
      go_wp2_with (first | (refine wpList_rload rfl _ rfl _ rfl _ X ?_) | (refine wpList_rstore rfl _ _ rfl _ _ rfl rfl _ R ?_; intro w3 hR3 hg3))
      have l3 := rload _ _ _ hR3
      exact bodyPost_ret (results_cell_tmp Try.results29 _ _ _ _ _ rfl l3) rfl ⟨rfl, bel_grown hg3 hB2 (fun j hj => by cases hj; omega)⟩
    · rw [show rtakeE G a s n = 0 by unfold rtakeE; rw [if_pos h, if_neg hl], show rtakeN G a s n = upd G (a * 2 + s) (G (a * 2 + s) - n) by unfold rtakeN; rw [if_pos ⟨h, hl⟩, hx]]
      rw [hx] at hl
      have e0 : decide (G (a * 2 + s) < n) = false := decide_eq_false hl
      have w5 : IntKind.i64.wrap (G (a * 2 + s) - n) = G (a * 2 + s) - n := IntWalk.i64_in _ (by omega)
      clear hl hx b1
      have z33 := rzero
      go_enter Try.func29, Try.ntmps29
      go_wp2_with fail
      refine (may_ref _ _ _ _).mono ?_
      rintro e w1 ⟨rfl, rfl⟩
      rw [h]
      have X := hN.alloc (.cells (rcs fun _ => 0) 33)
      have R := Blk.new (w.alloc (.cells (rcs G) 33)) (rcs fun _ => 0) 33
      rw [show (w.alloc (.cells (rcs G) 33)).heap.size = w.heap.size + 1 by simp] at R
      have hB2 := bel_alloc (bel_alloc hB (.cells (rcs G) 33)) (.cells (rcs fun _ => 0) 33)
      obtain ⟨w2, hw2⟩ : ∃ w2, (w.alloc (.cells (rcs G) 33)).alloc (.cells (rcs fun _ => 0) 33) = w2 := ⟨_, rfl⟩
      rw [hw2] at X R hB2 ⊢
      clear hw2 hN z33
      have X_c := (X.cell (a * 2 + s)).trans (rcs_get G _ k1)
      have X_f := X.free (a * 2 + s)
      go_upto_region 5 with fail
      refine wp_region_plan [(0, true), (1, true), (2, true), (3, true), (4, true), (5, true), (6, true), (7, true), (8, true), (9, true), (10, true), (11, true), (12, true), (13, false)] (fun w' => w'.cell? ⟨w.heap.size, a * 2 + s, none⟩ = some (.int .i64 (G (a * 2 + s))) ∧ w'.frozen? ⟨w.heap.size, a * 2 + s, none⟩ = false) (by kernel_rfl) (by kernel_rfl) (fun _ _ _ _ h => h) ?_ (fun hS => ?_)
      · go_simp
      iterate 13
        refine plan_light (o := ?_) (v := ?_) ?_ ?_ ?_ ?_
        rotate_left 2
        · simp only [List.getElem?_toArray, List.getElem?_cons_zero, List.getElem?_cons_succ]
          rfl
        · go_simp
        · intro w' hS
          go_simp
          try rfl
        simp only [Act.put, List.setIfInBounds_toArray, List.set_cons_zero, List.set_cons_succ]
      refine plan_sink (o := ?_) ?_ (by kernel_rfl) (fun K' hK => ?_)
      rotate_left
      · simp only [List.getElem?_toArray, List.getElem?_cons_zero, List.getElem?_cons_succ]
        rfl
      go_simp
      refine hK.out _ _ ?_
      clear hK K'
      refine plan_nil ?_
      have X5 := (rcs_set X (a * 2 + s) k1 (G (a * 2 + s) - n)).drew
      have R5 := (R.set_other ⟨w.heap.size, a * 2 + s, none⟩ (.int .i64 (G (a * 2 + s) - n)) (by show w.heap.size ≠ w.heap.size + 1; omega)).drew
      have hB5 := bel_drew (bel_set (a := ⟨w.heap.size, a * 2 + s, none⟩) hB2 (Nat.le_refl _) (.int .i64 (G (a * 2 + s) - n)))
      obtain ⟨w5', hw5⟩ : ∃ w5', (w2.setCell ⟨w.heap.size, a * 2 + s, none⟩ (.int .i64 (G (a * 2 + s) - n))).drew = w5' := ⟨_, rfl⟩
      rw [hw5] at X5 R5 hB5 ⊢
      clear hw5 hS
      go_wp2_with (first | (refine wpList_rload rfl _ rfl _ rfl _ X5 ?_) | (refine wpList_rstore rfl _ _ rfl _ _ rfl rfl _ R5 ?_; intro w3 hR3 hg3))
      have l3 := rload _ _ _ hR3
      exact bodyPost_ret (results_cell_tmp Try.results29 _ _ _ _ _ rfl l3) rfl ⟨rfl, bel_grown hg3 hB5 (fun j hj => by cases hj; omega)⟩
  · have h' : okM acc asset n = false := by simpa using h
    rw [show rtakeE G acc asset n = 1 by unfold rtakeE; rw [if_neg h], show rtakeN G acc asset n = G by unfold rtakeN; rw [if_neg (fun hh => h hh.1)]]
    have z33 := rzero
    go_enter Try.func29, Try.ntmps29
    go_wp2_with fail
    refine (may_ref _ _ _ _).mono ?_
    rintro e w1 ⟨rfl, rfl⟩
    rw [h']
    have X := hN.alloc (.cells (rcs fun _ => 0) 33)
    have R := Blk.new (w.alloc (.cells (rcs G) 33)) (rcs fun _ => 0) 33
    rw [show (w.alloc (.cells (rcs G) 33)).heap.size = w.heap.size + 1 by simp] at R
    have hB2 := bel_alloc (bel_alloc hB (.cells (rcs G) 33)) (.cells (rcs fun _ => 0) 33)
    obtain ⟨w2, hw2⟩ : ∃ w2, (w.alloc (.cells (rcs G) 33)).alloc (.cells (rcs fun _ => 0) 33) = w2 := ⟨_, rfl⟩
    rw [hw2] at X R hB2 ⊢
    clear hw2 hN z33
    go_upto_region 2 with fail
    go_wp2_with (first | (refine wpList_rload rfl _ rfl _ rfl _ X ?_) | (refine wpList_rstore rfl _ _ rfl _ _ rfl rfl _ R ?_; intro w3 hR3 hg3))
    have l3 := rload _ _ _ hR3
    exact bodyPost_ret (results_cell_tmp Try.results29 _ _ _ _ _ rfl l3) rfl ⟨rfl, bel_grown hg3 hB2 (fun j hj => by cases hj; omega)⟩
end Go.Proofs.Ythkmjfgffofaoaa
