/- Closed facts of a row. -/
import Derived.Test.YtpgegfdiceamaaaGreatDoorRows
import Derived.JoinedOf
namespace Go.Proofs.YtpgegfdiceamaaaGreatDoor
open Go
theorem b_named : Tryz.prog.funcNamed Rows.consoleBytesRow.func = some 6 := by kernel_rfl
theorem b_inst : Tryz.f6.isInstance Tryz.prog Rows.consoleBytesRow.origin Rows.consoleBytesRow.targs := of_decide_eq_true (by kernel_rfl)
theorem b_wrap : Tryz.f6.isWrapper Tryz.prog Rows.consoleBytesRow.wrapper Rows.consoleBytesRow.mainSum := by
  unfold Func.isWrapper
  first
    | (rw [if_pos (by decide +kernel)]; kernel_rfl)
    | (rw [if_neg (by decide +kernel)]; exact ⟨rfl, rfl⟩)
end Go.Proofs.YtpgegfdiceamaaaGreatDoor
