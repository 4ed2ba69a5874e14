/-
  A block of numbers, and what each function of package ledger does with it: contracts, each walked once.
-/
import Derived.Test.YthkmjfgffofaoaaPlan
import Derived.Test.YthkmjfgffofaoaaBlk
import Derived.WalkKit
import Derived.WalkSpells
import Derived.WalkLawsBesides
import Derived.Handy
import Derived.Deep.QuietTactic
import Derived.BigQuiet
import Derived.Lib.Hide
import Derived.Deep.DeepCutAuto
namespace Go.Proofs.Ythkmjfgffofaoaa
open Go.RowKit
set_option linter.unusedSimpArgs false
set_option linter.unusedVariables false
/-- block b is a ledger: 65 accounts, each with two purses of two numbers (free, held), and two totals behind. -/
structure LAt (w : World) (b : Nat) (F : Nat → Int) : Prop where
  lt : b < w.heap.size
  cell : ∀ i, i < 262 → w.cell? ⟨b, i, none⟩ = some (.int .i64 (F i))
  free : ∀ i, w.frozen? ⟨b, i, none⟩ = false
theorem LAt.of_heap {w w' : World} {b : Nat} {F : Nat → Int} (h : LAt w b F) (hs : w.heap.size ≤ w'.heap.size) (hb : w'.heap[b]? = w.heap[b]?) : LAt w' b F :=
  ⟨Nat.lt_of_lt_of_le h.lt hs, fun i hi => by rw [World.cell?_of_block (w := w) hb]; exact h.cell i hi, fun i => by rw [World.frozen?_of_block (w := w) hb]; exact h.free i⟩
theorem LAt.call {w w' : World} {b : Nat} {F : Nat → Int} (h : LAt w b F) (hb : Below w.heap.size w w') : LAt w' b F := h.of_heap hb.size (hb.block b h.lt)
theorem LAt.grown {w w' : World} {b : Nat} {F : Nat → Int} {row : Option Nat} (h : LAt w b F) (hg : w.grownBy w' row) (hne : some b ≠ row) : LAt w' b F := h.of_heap hg.size (hg.block b h.lt hne)
theorem LAt.alloc {w : World} {b : Nat} {F : Nat → Int} (h : LAt w b F) (o : Obj) : LAt (w.alloc o) b F := h.of_heap (by simp) (Below.heap_alloc w o b h.lt)
theorem LAt.drew {w : World} {b : Nat} {F : Nat → Int} (h : LAt w b F) : LAt w.drew b F := h.of_heap (Nat.le_refl _) rfl
theorem LAt.drewN {w : World} {b : Nat} {F : Nat → Int} (h : LAt w b F) (k : Nat) : LAt (w.drewN k) b F := h.of_heap (Nat.le_refl _) rfl
def upd (s : Nat → Int) (k : Nat) (v : Int) : Nat → Int := fun i => if i = k then v else s i
theorem upd_at (s : Nat → Int) (k : Nat) (v : Int) : upd s k v k = v := by simp [upd]
theorem upd_ne (s : Nat → Int) (k j : Nat) (v : Int) (h : j ≠ k) : upd s k v j = s j := by simp [upd, h]
theorem LAt.set {w : World} {b : Nat} {F : Nat → Int} (h : LAt w b F) (k : Nat) (hk : k < 262) (v : Int) : LAt (w.setCell ⟨b, k, none⟩ (.int .i64 v)) b (upd F k v) := by
  have hl := h.lt
  have hb : w.heap[b]? = some (w.heap[b]) := by simp [hl]
  cases ho : w.heap[b] with
  | cells c t fr =>
    have hb' : (w.setCell ⟨b, k, none⟩ (.int .i64 v)).heap[b]? = some (.cells (c.setIfInBounds k (.int .i64 v)) t fr) := by
      simp [World.setCell, Array.getElem?_modify, hb, ho]
    have hc : ∀ i x, w.cell? ⟨b, i, none⟩ = some x → c[i]? = some x := fun i x hx => by simpa [World.cell?, hb, ho] using hx
    have hz : k < c.size := (Array.getElem?_eq_some_iff.1 (hc _ _ (h.cell k hk))).1
    refine ⟨by simp [World.setCell]; exact hl, fun i hi => ?_, fun i => ?_⟩
    · simp only [World.cell?, hb', Array.getElem?_setIfInBounds, upd]
      by_cases e : i = k
      · subst e; simp [hz]
      · have hne : ¬ (k = i) := fun h => e h.symm
        have := hc _ _ (h.cell i hi)
        simp [hne, e, this]
    · have := h.free i
      simp only [World.frozen?, hb, ho] at this
      simp only [World.frozen?, hb']
      exact this
  | _ =>
    all_goals
      have := h.cell 0 (by decide)
      simp [World.cell?, hb, ho] at this
theorem LAt.new (w : World) (t : TypeId) : LAt (w.alloc (.cells (Array.replicate 262 (.int .i64 0)) t)) w.heap.size (fun _ => 0) := by
  have B := Blk.new w (Array.replicate 262 (.int .i64 0)) t
  refine ⟨B.lt, fun i hi => ?_, B.free⟩
  rw [B.cell i]
  simp [Array.getElem?_replicate, hi]
theorem LAt.new' (w : World) (t : TypeId) (cs : Array Value) (h : cs = Array.replicate 262 (.int .i64 0)) : LAt (w.alloc (.cells cs t)) w.heap.size (fun _ => 0) := by subst h; exact LAt.new w t

/-! may, at -/
def okN (n : Int) : Bool := decide (0 ≤ n ∧ n ≤ 1152921504606846976)
theorem may_any (n : Int) (w : World) : Calls Try.prog 27 #[.int .i64 n] w fun e w' => e = .returned (.bool (okN n)) ∧ w = w' := by
  go_enter Try.func27, Try.ntmps27
  by_cases h1 : 0 ≤ n
  · by_cases h2 : n ≤ 1152921504606846976
    · go_wp2
      go_ret
      exact ⟨by simp [okN, h1, h2], rfl⟩
    · go_wp2
      go_ret
      exact ⟨by simp [okN]; omega, rfl⟩
  · go_wp2
    go_ret
    exact ⟨by simp [okN]; omega, rfl⟩
def okA (acc asset : Int) : Prop := 0 ≤ acc ∧ acc ≤ 64 ∧ 0 ≤ asset ∧ asset < 2
set_option maxRecDepth 100000 in
set_option maxHeartbeats 1000000 in
theorem at_in (w : World) (b : Nat) (F : Nat → Int) (h : LAt w b F) (a s : Nat) (ha : a ≤ 64) (hs : s < 2) :
    Calls Try.prog 26 #[.pointer (some ⟨b, 0, none⟩), .int .i64 a, .int .i64 s] w fun e w' => e = .returned (.pointer (some ⟨b, a * 4 + s * 2, none⟩)) ∧ w = w' := by
  have h1 : decide ((a : Int) < 0) = false := by simp
  have h2 : decide (64 < (a : Int)) = false := by simp; omega
  have h3 : decide ((s : Int) < 0) = false := by simp
  have h4 : decide (2 ≤ (s : Int)) = false := by simp; omega
  have h5 : (0 : Int) ≤ (a : Int) := by omega
  have h6 : (a : Int) < 65 := by omega
  have h7 : (0 : Int) ≤ (s : Int) := by omega
  have h8 : (s : Int) < 2 := by omega
  have hc := h.cell 0 (by decide)
  go_enter Try.func26, Try.ntmps26
  go_wp2
  go_ret
  exact ⟨rfl, rfl⟩
theorem new_any (w : World) : Calls Try.prog 10 #[] w fun e w' => e = .returned (.pointer (some ⟨w.heap.size, 0, none⟩)) ∧ LAt w' w.heap.size (fun _ => 0) ∧ Below w.heap.size w w' := by
  obtain ⟨Z, hZ, z54⟩ : ∃ Z, Z = Array.replicate 262 (Value.int .i64 0) ∧ ∀ w, Sem.run Try.prog (zeroValue 54) w = .ok (.agg Z) w := ⟨_, rfl, fun w => by kernel_rfl⟩
  go_enter Try.func10, Try.ntmps10
  go_wp2
  go_ret
  exact ⟨rfl, LAt.new' w _ _ (by kernel_rfl), bel_alloc (bel_refl _) _⟩

set_option maxHeartbeats 1000000 in
theorem at_out (w : World) (b : Nat) (acc asset : Int) (h : ¬ okA acc asset) :
    Calls Try.prog 26 #[.pointer (some ⟨b, 0, none⟩), .int .i64 acc, .int .i64 asset] w fun e w' => e = .returned (.pointer none) ∧ w = w' := by
  have hc : decide (acc < 0) = true ∨ (decide (acc < 0) = false ∧ decide (64 < acc) = true) ∨ (decide (acc < 0) = false ∧ decide (64 < acc) = false ∧ decide (asset < 0) = true) ∨
      (decide (acc < 0) = false ∧ decide (64 < acc) = false ∧ decide (asset < 0) = false ∧ decide (2 ≤ asset) = true) := by
    unfold okA at h
    simp only [decide_eq_true_eq, decide_eq_false_iff_not]
    omega
  clear h
  go_enter Try.func26, Try.ntmps26
  rcases hc with h1 | ⟨h1, h2⟩ | ⟨h1, h2, h3⟩ | ⟨h1, h2, h3, h4⟩
  all_goals
    go_wp2
    go_ret
    exact ⟨rfl, rfl⟩
set_option maxHeartbeats 1000000 in
theorem at_nil (w : World) (acc asset : Int) :
    Calls Try.prog 26 #[.pointer none, .int .i64 acc, .int .i64 asset] w fun e w' => e = .returned (.pointer none) ∧ w = w' := by
  go_enter Try.func26, Try.ntmps26
  go_wp2
  go_ret
  exact ⟨rfl, rfl⟩
def ix (acc asset : Int) : Nat := acc.toNat * 4 + asset.toNat * 2
def tx (asset : Int) : Nat := 260 + asset.toNat
def okD (acc asset n : Int) : Prop := okA acc asset ∧ 0 ≤ n ∧ n ≤ 1152921504606846976
instance (acc asset n : Int) : Decidable (okD acc asset n) := by unfold okD okA; exact inferInstance
def okT (acc dst asset n : Int) : Prop := okA acc asset ∧ okA dst asset ∧ 0 ≤ n ∧ n ≤ 1152921504606846976
instance (acc dst asset n : Int) : Decidable (okT acc dst asset n) := by unfold okT okA; exact inferInstance
/-- so much is moved from a place to a place: the answer, and what is there then. -/
def moveE (F : Nat → Int) (ok : Prop) [Decidable ok] (x : Nat) (n : Int) : Int := if ok then (if F x < n then 9 else 0) else 1
def moveN (F : Nat → Int) (ok : Prop) [Decidable ok] (x y : Nat) (n : Int) : Nat → Int := if ok ∧ ¬ F x < n then upd (upd F x (F x - n)) y (upd F x (F x - n) y + n) else F
def takeN (F : Nat → Int) (acc asset n : Int) : Nat → Int := if okD acc asset n ∧ ¬ F (ix acc asset) < n then upd (upd F (ix acc asset) (F (ix acc asset) - n)) (tx asset) (F (tx asset) - n) else F
def addE (F : Nat → Int) (acc asset n : Int) : Int := if okD acc asset n then (if 1152921504606846976 - F (tx asset) < n then 8 else 0) else 1
def addN (F : Nat → Int) (acc asset n : Int) : Nat → Int := if okD acc asset n ∧ ¬ 1152921504606846976 - F (tx asset) < n then upd (upd F (ix acc asset) (F (ix acc asset) + n)) (tx asset) (F (tx asset) + n) else F
/-- nothing is less than 0, nor more than 2^60. -/
def Bd (F : Nat → Int) : Prop := ∀ k, k < 262 → 0 ≤ F k ∧ F k ≤ 1152921504606846976
theorem okA_nat {acc asset : Int} (h : okA acc asset) : ∃ a s : Nat, acc = a ∧ asset = s ∧ a ≤ 64 ∧ s < 2 ∧ ix acc asset = a * 4 + s * 2 ∧ tx asset = 260 + s := by
  unfold okA at h
  exact ⟨acc.toNat, asset.toNat, by omega, by omega, by omega, by omega, rfl, rfl⟩
theorem okN_yes {n : Int} (h : 0 ≤ n ∧ n ≤ 1152921504606846976) : okN n = true := by simpa [okN] using h
theorem okN_no {n : Int} (h : ¬ (0 ≤ n ∧ n ≤ 1152921504606846976)) : okN n = false := by simp only [okN, decide_eq_false_iff_not]; exact h
end Go.Proofs.Ythkmjfgffofaoaa
