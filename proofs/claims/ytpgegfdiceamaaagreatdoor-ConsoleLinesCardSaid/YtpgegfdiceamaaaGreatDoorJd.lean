/- A closed fact: some map's keys are arrays. -/
import Derived.Test.YtpgegfdiceamaaaGreatDoorRows
import Derived.KernelRfl
namespace Go.Proofs.YtpgegfdiceamaaaGreatDoor
open Go
theorem plain_no : Tryz.prog.plainKeys = false := by
  unfold Program.plainKeys
  rw [List.all_eq_false]
  refine ⟨99, List.mem_range.2 (of_decide_eq_true (by kernel_rfl)), ?_⟩
  rw [Tryz.underlying99]
  simp only []
  rw [Tryz.underlying155]
  simp
theorem b_j22 : (Rows.consoleBytesRow.plainKeys == Tryz.prog.plainKeys) = true := by
  rw [plain_no]
  rfl
theorem k_j22 : (Rows.consoleBackRow.plainKeys == Tryz.prog.plainKeys) = true := by
  rw [plain_no]
  rfl
theorem r_j22 : (Rows.consoleReadsRow.plainKeys == Tryz.prog.plainKeys) = true := by
  rw [plain_no]
  rfl
theorem l_j22 : (Rows.consoleLinesRow.plainKeys == Tryz.prog.plainKeys) = true := by
  rw [plain_no]
  rfl
end Go.Proofs.YtpgegfdiceamaaaGreatDoor
