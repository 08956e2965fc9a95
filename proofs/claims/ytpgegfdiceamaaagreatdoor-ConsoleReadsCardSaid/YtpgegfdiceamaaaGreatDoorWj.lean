/- The console's laws: part Wj. -/
import Derived.Test.YtpgegfdiceamaaaGreatDoorWi2
namespace Go.Proofs.YtpgegfdiceamaaaGreatDoor
open Go.RowKit Cons

def I64 (n : Int) : Prop := -9223372036854775808 ≤ n ∧ n ≤ 9223372036854775807

theorem line_any (op fuel words stack : Int) (name text : ByteArray) (w : World) (hw : Laid w) (hn : name.size ≤ 40000) (ht : text.size ≤ 40000) (fo : I64 fuel) (wo : I64 words) (st : I64 stack) :
    Calls Tryz.prog 11 #[cmdA op fuel words stack name text] w (LinePost (lineOf ⟨op, bl name, bl text, fuel, words, stack⟩) w) := by
  by_cases h1 : op = 1
  · subst h1; exact line_write fuel words stack name text w hw hn ht
  by_cases h2 : op = 2
  · subst h2; exact line_delete fuel words stack name text w hw hn ht
  by_cases h3 : op = 3
  · subst h3; exact line_compile fuel words stack name text w hw hn ht
  by_cases h4 : op = 4
  · subst h4; exact line_load fuel words stack name text w hw hn ht wo st
  by_cases h5 : op = 5
  · subst h5; exact line_run fuel words stack name text w hw hn ht fo
  · exact line_other op fuel words stack name text w hw (beq_eq_false_iff_ne.2 h1) (beq_eq_false_iff_ne.2 h2) (beq_eq_false_iff_ne.2 h3) (beq_eq_false_iff_ne.2 h4) (beq_eq_false_iff_ne.2 h5)
end Go.Proofs.YtpgegfdiceamaaaGreatDoor
