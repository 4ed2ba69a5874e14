/-
  The laws of layer 14 (timer): the walks, each by the contracts. For every input they return true.
-/
import Derived.Test.YtkgfikaojbfoiaaTimer
import Derived.Test.YtkgfikaojbfoiaaRow
import Derived.Test.YtkgfikaojbfoiaaOpen
namespace Go.Proofs.Ytkgfikaojbfoiaa
open Go.RowKit
set_option linter.unusedSimpArgs false
set_option linter.unusedVariables false

set_option maxHeartbeats 400000 in
theorem is_nil (w : World) (site : Int) : Calls Try.prog 25 #[.pointer none, .int .i64 site] w fun e w' => e = .returned (.bool false) ∧ w = w' := by
  go_enter Try.func25, Try.ntmps25
  go_wp2
  go_ret
  exact ⟨rfl, rfl⟩
set_option maxHeartbeats 400000 in
theorem heard_nil (w : World) (site : Int) : Calls Try.prog 14 #[.pointer none, .int .i64 site] w fun e w' => e = .returned (.tuple #[]) ∧ w = w' := by
  go_enter Try.func14, Try.ntmps14
  go_wp2_with fail
  refine (is_nil _ _).mono ?_
  rintro e w1 ⟨rfl, rfl⟩
  go_wp2
  go_end0
  exact ⟨rfl, rfl⟩
set_option maxHeartbeats 400000 in
theorem silent_nil (w : World) (site : Int) : Calls Try.prog 16 #[.pointer none, .int .i64 site] w fun e w' => e = .returned (.int .i64 0) ∧ w = w' := by
  go_enter Try.func16, Try.ntmps16
  go_wp2_with fail
  refine (is_nil _ _).mono ?_
  rintro e w1 ⟨rfl, rfl⟩
  go_wp2
  go_ret
  exact ⟨rfl, rfl⟩
set_option maxHeartbeats 400000 in
theorem tick_nil (w : World) : Calls Try.prog 12 #[.pointer none] w fun e w' => e = .returned (.tuple #[]) ∧ w = w' := by
  go_enter Try.func12, Try.ntmps12
  go_wp2
  go_returns
  exact ⟨rfl, rfl⟩
set_option maxHeartbeats 400000 in
theorem suspects_nil (w : World) : Calls Try.prog 19 #[.pointer none] w fun e w' => e = .returned (.slice none 0 0) ∧ w = w' := by
  go_enter Try.func19, Try.ntmps19
  go_wp2
  go_ret
  exact ⟨rfl, rfl⟩
set_option maxHeartbeats 400000 in
theorem leader_nil (w : World) : Calls Try.prog 21 #[.pointer none] w fun e w' => e = .returned (.int .i64 (-1)) ∧ w = w' := by
  go_enter Try.func21, Try.ntmps21
  go_wp2
  go_ret
  exact ⟨rfl, rfl⟩
theorem tickK_ge (me : Int) (s : Nat → Int) (n : Nat) (h : ∀ i, i < 7 → 0 ≤ s i) : ∀ i, i < 7 → 0 ≤ tickK me s n i := fun i hi => by
  have := h i hi
  unfold tickK
  split <;> omega
theorem upd_ge (s : Nat → Int) (k : Nat) (h : ∀ i, i < 7 → 0 ≤ s i) : ∀ i, i < 7 → 0 ≤ upd s k 0 i := fun i hi => by
  have := h i hi
  unfold upd
  split <;> omega
def aw3 : Nat → Int := tickK 1 (tickK 1 (tickK 1 (fun _ => 0) 3) 3) 3
theorem aw_facts : Hid (susp 2 (tickK 1 (tickK 1 (fun _ => 0) 3) 3) 3 = [] ∧ susp 2 (tickK 1 (tickK 1 (tickK 1 (fun _ => 0) 3) 3) 3) 3 = [0, 2] ∧ lead 2 (tickK 1 (tickK 1 (tickK 1 (fun _ => 0) 3) 3) 3) 3 = 1 ∧
    lead 2 (upd (tickK 1 (tickK 1 (tickK 1 (fun _ => 0) 3) 3) 3) 0 0) 3 = 0 ∧ silentF 3 (upd (tickK 1 (tickK 1 (tickK 1 (fun _ => 0) 3) 3) 3) 0 0) 2 = 3) := by
  refine ⟨?_, ?_, ?_, ?_, ?_⟩ <;> decide
set_option maxRecDepth 100000 in
set_option maxHeartbeats 4000000 in
theorem awake_any (w : World) : Calls Try.prog 9 #[] w fun e w' => e = .returned (.bool true) ∧ Below w.heap.size w w' := by
  have HF := aw_facts
  have z0 : Hid (∀ i, i < 7 → 0 ≤ (fun _ : Nat => (0 : Int)) i) := fun _ _ => Int.le_refl _
  go_enter Try.func9, Try.ntmps9
  go_wp2_with fail
  refine (new_ok _ 1 3 2 (by unfold okNew; omega)).mono ?_
  rintro e w1 ⟨rfl, hw, hb⟩
  have hB : Below w.heap.size w w1 := hb
  clear hb
  go_wp2_with fail
  refine (tick_any _ _ 1 2 3 _ hw (by omega) z0.out).mono ?_
  rintro e w2 ⟨rfl, hw2, hg⟩
  replace hB := bel_grown hg hB (fun k hk => by cases hk; exact Nat.le_refl _)
  clear hw hg
  go_wp2_with fail
  refine (tick_any _ _ 1 2 3 _ hw2 (by omega) (tickK_ge _ _ _ z0.out)).mono ?_
  rintro e w3 ⟨rfl, hw3, hg⟩
  replace hB := bel_grown hg hB (fun k hk => by cases hk; exact Nat.le_refl _)
  clear hw2 hg
  go_wp2_with fail
  refine (suspects_any _ _ 1 2 3 _ hw3 (by omega)).mono ?_
  rintro e w4 ⟨v, rfl, hown, hb⟩
  rw [HF.out.1] at hown
  obtain ⟨sa, ca, rfl, hra⟩ := own_open (xs := []) hown
  replace hB := bel_call hb hB
  replace hw3 := hw3.call hb
  clear hb hown
  go_wp2_with fail
  refine (tick_any _ _ 1 2 3 _ hw3 (by omega) (tickK_ge _ _ _ (tickK_ge _ _ _ z0.out))).mono ?_
  rintro e w5 ⟨rfl, hw5, hg⟩
  replace hB := bel_grown hg hB (fun k hk => by cases hk; exact Nat.le_refl _)
  clear hw3 hg
  go_wp2_with fail
  refine (suspects_any _ _ 1 2 3 _ hw5 (by omega)).mono ?_
  rintro e w6 ⟨v, rfl, hown, hb⟩
  rw [HF.out.2.1] at hown
  obtain ⟨sb, cb, rfl, hrb⟩ := own_open (xs := [0, 2]) hown
  replace hB := bel_call hb hB
  have hsz6 := hw5.lt
  replace hw5 := hw5.call hb
  clear hb hown
  go_wp2_with fail
  refine (leader_any _ _ 1 2 3 _ hw5 (by omega)).mono ?_
  rintro e w7 ⟨rfl, hb⟩
  rw [HF.out.2.2.1]
  replace hB := bel_call hb hB
  replace hw5 := hw5.call hb
  replace hrb := hrb.call hb
  clear hb
  go_wp2_with fail
  refine (heard_in _ _ 1 3 2 _ hw5 0 (by omega) (by omega)).mono ?_
  rintro e w8 ⟨rfl, hw8⟩
  have hx := hw5.set 0 (by omega) 0
  have hy : IntRow w8 w5.heap.size sb cb [0, 2] := by rw [← hw8]; exact hrb.of_heap (by simp [World.setCell]) (fun g h1 h2 => Below.heap_setCell _ _ _ _ (by simp; omega))
  rw [hw8] at hx
  have hB8 : Below w.heap.size w w8 := by rw [← hw8]; exact bel_set hB (Nat.le_refl _) _
  clear hrb hw5 hw8 hB
  obtain ⟨g, rfl, hg1, hg2, hg3⟩ := hy.cells (by simp)
  have c0 : w8.cell? ⟨g, 0, none⟩ = some (.int .i64 0) := hg3 0 (by simp)
  have c1 : w8.cell? ⟨g, 1, none⟩ = some (.int .i64 2) := hg3 1 (by simp)
  clear hg3 hy
  go_wp2_with fail
  refine (leader_any _ _ 1 2 3 _ hx (by omega)).mono ?_
  rintro e w9 ⟨rfl, hb⟩
  rw [HF.out.2.2.2.1]
  replace hB8 := bel_call hb hB8
  replace hx := hx.call hb
  clear hb
  go_wp2_with fail
  refine (silent_any _ _ 1 3 2 _ hx 2 (by omega)).mono ?_
  rintro e wa ⟨rfl, rfl⟩
  rw [HF.out.2.2.2.2]
  go_wp2
  go_ret
  exact ⟨rfl, hB8⟩

set_option maxHeartbeats 1000000 in
theorem nobody_walk (site : Int) (w : World) : Calls Try.prog 8 #[.int .i64 site] w fun e w' => e = .returned (.bool true) ∧ Below w.heap.size w w' := by
  go_enter Try.func8, Try.ntmps8
  go_wp2_with fail
  refine (awake_any _).mono ?_
  rintro e w1 ⟨rfl, hb⟩
  go_wp2_with (first
    | (go_at_call 14; refine (heard_nil _ _).mono ?_; rintro e w' ⟨rfl, rfl⟩)
    | (go_at_call 12; refine (tick_nil _).mono ?_; rintro e w' ⟨rfl, rfl⟩)
    | (go_at_call 19; refine (suspects_nil _).mono ?_; rintro e w' ⟨rfl, rfl⟩)
    | (go_at_call 21; refine (leader_nil _).mono ?_; rintro e w' ⟨rfl, rfl⟩)
    | (go_at_call 16; refine (silent_nil _ _).mono ?_; rintro e w' ⟨rfl, rfl⟩))
  go_ret
  exact ⟨rfl, hb⟩
end Go.Proofs.Ytkgfikaojbfoiaa
