/- The console's laws: part Xk. -/
import Derived.Test.YtpgegfdiceamaaaGreatDoorXe
namespace Go.Proofs.YtpgegfdiceamaaaGreatDoor
open Go.RowKit Cons

theorem two_below (w : World) (cs ds : Array Value) (S T : TypeId) : Below w.heap.size w ((w.alloc (.cells cs S)).alloc (.cells ds T)) :=
  ((Below.refl _ w).alloc (Nat.le_refl _) _).alloc (by simp) _

set_option maxHeartbeats 2000000 in
set_option maxRecDepth 100000 in
theorem same_refl (op fuel words stack : Int) (name text : ByteArray) (w : World) : Calls Tryz.prog 10 #[cmdA op fuel words stack name text, cmdA op fuel words stack name text] w (BoolPost true w) := by
  simp only [cmdA]
  go_enter Tryz.func10, Tryz.ntmps10
  go_wp2_with fail
  go_ret
  exact ⟨rfl, two_below _ _ _ _ _⟩

set_option maxHeartbeats 4000000 in
set_option maxRecDepth 100000 in
theorem same_not (op fuel words stack op' fuel' words' stack' : Int) (name text name' text' : ByteArray) (w : World) (h : ¬ (op = op' ∧ name = name' ∧ text = text' ∧ fuel = fuel' ∧ words = words' ∧ stack = stack')) :
    Calls Tryz.prog 10 #[cmdA op fuel words stack name text, cmdA op' fuel' words' stack' name' text'] w (BoolPost false w) := by
  have strne : ∀ a b : ByteArray, a ≠ b → (a.toList == b.toList) = false := fun a b hab => beq_eq_false_iff_ne.2 fun e => hab (by rw [ByteArray.toList_eq, ByteArray.toList_eq] at e; cases a; cases b; simpa using e)
  simp only [cmdA]
  by_cases h1 : op = op'
  · subst h1
    by_cases h2 : name = name'
    · subst h2
      by_cases h3 : text = text'
      · subst h3
        by_cases h4 : fuel = fuel'
        · subst h4
          by_cases h5 : words = words'
          · subst h5
            have h6 : (stack == stack') = false := beq_eq_false_iff_ne.2 fun e => h ⟨rfl, rfl, rfl, rfl, rfl, e⟩
            clear h strne
            go_enter Tryz.func10, Tryz.ntmps10
            go_wp2_with fail
            go_ret
            exact ⟨rfl, two_below _ _ _ _ _⟩
          · have h6 : (words == words') = false := beq_eq_false_iff_ne.2 h5
            clear h strne h5
            go_enter Tryz.func10, Tryz.ntmps10
            go_wp2_with fail
            go_ret
            exact ⟨rfl, two_below _ _ _ _ _⟩
        · have h6 : (fuel == fuel') = false := beq_eq_false_iff_ne.2 h4
          clear h strne h4
          go_enter Tryz.func10, Tryz.ntmps10
          go_wp2_with fail
          go_ret
          exact ⟨rfl, two_below _ _ _ _ _⟩
      · have h6 := strne _ _ h3
        clear h strne h3
        go_enter Tryz.func10, Tryz.ntmps10
        go_wp2_with fail
        go_ret
        exact ⟨rfl, two_below _ _ _ _ _⟩
    · have h6 := strne _ _ h2
      clear h strne h2
      go_enter Tryz.func10, Tryz.ntmps10
      go_wp2_with fail
      go_ret
      exact ⟨rfl, two_below _ _ _ _ _⟩
  · have h6 : (op == op') = false := beq_eq_false_iff_ne.2 h1
    clear h strne h1
    go_enter Tryz.func10, Tryz.ntmps10
    go_wp2_with fail
    go_ret
    exact ⟨rfl, two_below _ _ _ _ _⟩
end Go.Proofs.YtpgegfdiceamaaaGreatDoor
