/- The console's laws: part We. -/
import Derived.Test.YtpgegfdiceamaaaGreatDoorWr
namespace Go.Proofs.YtpgegfdiceamaaaGreatDoor
open Go.RowKit Cons

theorem cmd_neq_b (a b : Cmd) (w : World) : (binOp .neq 26 (.agg #[.int .i64 a.op, .string ⟨a.name.toArray⟩, .string ⟨a.text.toArray⟩, .int .i64 a.fuel, .int .i64 a.words, .int .i64 a.stack]) (.agg #[.int .i64 b.op, .string ⟨b.name.toArray⟩, .string ⟨b.text.toArray⟩, .int .i64 b.fuel, .int .i64 b.words, .int .i64 b.stack])).run Tryz.prog w = .ok (.bool (!decide (a = b))) w := by
  by_cases h : a = b
  · subst h
    have : (!decide (a = a)) = false := by simp
    rw [this]
    go_simp
  · have : (!decide (a = b)) = true := by simp [h]
    rw [this]
    go_simp
    intro h1 h2 h3 h4 h5 h6
    exact h (by cases a; cases b; simp_all)

theorem cmd_neq (c : Cmd) (op fuel words stack : Int) (name text : ByteArray) (r : Bool) (hr : (!decide (c = ⟨op, bl name, bl text, fuel, words, stack⟩)) = r) (w : World) :
    (binOp .neq 26 (.agg #[.int .i64 c.op, .string ⟨c.name.toArray⟩, .string ⟨c.text.toArray⟩, .int .i64 c.fuel, .int .i64 c.words, .int .i64 c.stack]) (.agg #[.int .i64 op, .string name, .string text, .int .i64 fuel, .int .i64 words, .int .i64 stack])).run Tryz.prog w = .ok (.bool r) w := by
  have := cmd_neq_b c ⟨op, bl name, bl text, fuel, words, stack⟩ w
  rw [← hr, ← this]
  have e1 : (⟨(bl name).toArray⟩ : ByteArray) = name := by simp [bl]
  have e2 : (⟨(bl text).toArray⟩ : ByteArray) = text := by simp [bl]
  simp only [e1, e2]
end Go.Proofs.YtpgegfdiceamaaaGreatDoor
