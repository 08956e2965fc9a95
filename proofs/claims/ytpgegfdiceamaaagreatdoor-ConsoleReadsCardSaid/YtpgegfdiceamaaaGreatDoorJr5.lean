/- Closed facts of a row. -/
import Derived.Test.YtpgegfdiceamaaaGreatDoorRows
import Derived.JoinedOf
namespace Go.Proofs.YtpgegfdiceamaaaGreatDoor
open Go
theorem r_named : Tryz.prog.funcNamed Rows.consoleReadsRow.func = some 3 := by kernel_rfl
theorem r_inst : Tryz.f3.isInstance Tryz.prog Rows.consoleReadsRow.origin Rows.consoleReadsRow.targs := of_decide_eq_true (by kernel_rfl)
theorem r_wrap : Tryz.f3.isWrapper Tryz.prog Rows.consoleReadsRow.wrapper Rows.consoleReadsRow.mainSum := by
  unfold Func.isWrapper
  first
    | (rw [if_pos (by decide +kernel)]; kernel_rfl)
    | (rw [if_neg (by decide +kernel)]; exact ⟨rfl, rfl⟩)
end Go.Proofs.YtpgegfdiceamaaaGreatDoor
