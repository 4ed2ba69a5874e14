/-
  Contracts of queue's laws: awake, filled; the walk of QueueNobody.
-/
import Derived.Test.YtkebpibcoklglaaDel
import Derived.Test.YtkebpibcoklglaaOpen
namespace Go.Proofs.Ytkebpibcoklglaa
open Go.RowKit
set_option linter.unusedSimpArgs false
set_option linter.unusedVariables false
theorem bel_q {w0 w w' : World} {qb : Nat} {gq : Option Nat} {L : List (Int × Int)} (h : Below w0.heap.size w0 w) (q : QAt w qb gq L) (hq : w0.heap.size ≤ qb) (t : Turn w w' qb gq) : Below w0.heap.size w0 w' :=
  bel_turn h t hq (fun k hk => by have := q.lt.2 k hk; omega)
theorem aw_facts : Hid (putE [] 7 5 = 0 ∧ putN [] 7 5 = [(7, 5)] ∧ putE [(7, 5)] 8 3 = 0 ∧ putN [(7, 5)] 8 3 = [(7, 5), (8, 3)] ∧ cutB [(7, 5), (8, 3)] 7 2 = true ∧ cutN [(7, 5), (8, 3)] 7 2 = [(7, 2), (8, 3)] ∧ sumW (upto (itm [(7, 2), (8, 3)]) 2) = 5) :=
  Lib.hid ⟨by decide, by decide, by decide, by decide, by decide, by decide, by decide +kernel⟩
set_option maxHeartbeats 2000000 in
set_option maxRecDepth 100000 in
theorem awake_any (w : World) : Calls Try.prog 9 #[] w fun e w' => e = .returned (.bool true) ∧ Below w.heap.size w w' := by
  have hB := bel_refl w
  go_enter Try.func9, Try.ntmps9
  go_wp2_with fail
  refine (new_any _).mono ?_
  rintro e w1 ⟨rfl, hQ, hb⟩
  replace hB := bel_call hb hB
  obtain ⟨qb, hqb⟩ : ∃ qb, w.heap.size = qb := ⟨_, rfl⟩
  rw [hqb] at hQ ⊢
  have hq0 : w.heap.size ≤ qb := by omega
  clear hb hqb
  go_wp2_with fail
  refine (put_any _ qb none [] hQ (by decide) 7 5).mono ?_
  rw [aw_facts.out.1, aw_facts.out.2.1]
  rintro e w2 ⟨rfl, ⟨g2, hQ2, -⟩, ht, -⟩
  replace hB := bel_q hB hQ hq0 ht
  clear ht hQ
  go_wp2_with fail
  refine (put_any _ qb g2 [(7, 5)] hQ2 (by decide) 8 3).mono ?_
  rw [aw_facts.out.2.2.1, aw_facts.out.2.2.2.1]
  rintro e w3 ⟨rfl, ⟨g3, hQ3, -⟩, ht, -⟩
  replace hB := bel_q hB hQ2 hq0 ht
  clear ht hQ2
  go_wp2_with fail
  refine (cut_any _ qb g3 [(7, 5), (8, 3)] hQ3 (by decide) 7 2).mono ?_
  rw [aw_facts.out.2.2.2.2.1, aw_facts.out.2.2.2.2.2.1]
  rintro e w4 ⟨rfl, hQ4, ht, -⟩
  replace hB := bel_q hB hQ3 hq0 ht
  clear ht hQ3
  go_wp2_with fail
  refine (list_any _ _ [(7, 2), (8, 3)] hQ4.isQ (by decide)).mono ?_
  rintro e w5 ⟨v, rfl, hO, hb⟩
  replace hQ4 := hQ4.call hb
  replace hB := bel_call hb hB
  obtain ⟨g, cap, rfl⟩ := ownsRow_succ hO
  have hc := fun j hj => hO.cellAt j hj
  have c0 := hc 0 (by decide)
  have c1 := hc 1 (by decide)
  have c2 := hc 2 (by decide)
  simp [jcells] at c0 c1 c2
  have hn : (List.length [((7 : Int), (2 : Int)), (8, 3)]) = 2 := rfl
  rw [show (List.length [((8 : Int), (3 : Int))] + 1) = 2 from rfl]
  clear hb hc hO
  go_wp2_with fail
  refine (sum_any _ _ [(7, 2), (8, 3)] hQ4.isQ (by decide)).mono ?_
  rw [hn, aw_facts.out.2.2.2.2.2.2]
  rintro e w6 ⟨rfl, hb⟩
  replace hB := bel_call hb hB
  go_wp2_with fail
  go_ret
  exact ⟨rfl, hB⟩
theorem sum_nil (w : World) : Calls Try.prog 15 #[.pointer none] w fun e w' => e = .returned (.int .i64 0) ∧ Below w.heap.size w w' := sum_any w none [] (.inl ⟨rfl, rfl⟩) (by decide)
theorem list_nil (w : World) : Calls Try.prog 11 #[.pointer none] w fun e w' => ∃ sa cap, e = .returned (.slice sa 0 cap) ∧ Below w.heap.size w w' := by
  refine (list_any w none [] (.inl ⟨rfl, rfl⟩) (by decide)).mono ?_
  rintro e w' ⟨v, rfl, hO, hb⟩
  rcases hO.2 with ⟨rfl, _⟩ | ⟨g, cap, cur, rfl, _⟩
  · exact ⟨_, _, rfl, hb⟩
  · exact ⟨_, _, rfl, hb⟩
set_option maxHeartbeats 1000000 in
theorem nobody_walk (id qty : Int) (w : World) : Calls Try.prog 8 #[.int .i64 id, .int .i64 qty] w fun e w' => e = .returned (.bool true) ∧ Below w.heap.size w w' := by
  have hB := bel_refl w
  go_enter Try.func8, Try.ntmps8
  go_wp2_with fail
  refine (awake_any _).mono ?_
  rintro e w1 ⟨rfl, hb⟩
  replace hB := bel_call hb (by first | exact hB | exact bel_alloc hB _ | exact bel_alloc (bel_alloc hB _) _ | exact bel_alloc (bel_alloc (bel_alloc hB _) _) _ | exact bel_drew hB | exact bel_drew (bel_alloc hB _) | exact bel_drew (bel_alloc (bel_alloc hB _) _))
  clear hb
  go_wp2_with fail
  refine (drop_nil _ _).mono ?_
  rintro e w2 ⟨rfl, hb⟩
  replace hB := bel_call hb hB
  go_wp2_with fail
  refine (get_nil _ _).mono ?_
  rintro e w3 ⟨rfl, hb⟩
  replace hB := bel_call hb hB
  go_wp2_with fail
  refine (put_nil _ _ _).mono ?_
  rintro e w4 ⟨rfl, rfl⟩
  go_wp2_with fail
  refine (cut_nil _ _ _).mono ?_
  rintro e w5 ⟨rfl, hb⟩
  replace hB := bel_call hb hB
  go_wp2_with fail
  refine (len_nil _).mono ?_
  rintro e w6 ⟨rfl, rfl⟩
  go_wp2_with fail
  refine (sum_nil _).mono ?_
  rintro e w7 ⟨rfl, hb⟩
  replace hB := bel_call hb hB
  go_wp2_with fail
  refine (list_nil _).mono ?_
  rintro e w8 ⟨sa, cap, rfl, hb⟩
  replace hB := bel_call hb hB
  go_wp2_with fail
  go_ret
  exact ⟨rfl, hB⟩
end Go.Proofs.Ytkebpibcoklglaa
