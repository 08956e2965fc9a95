/- The console's laws: part Xf. -/
import Derived.Test.YtpgegfdiceamaaaGreatDoorRows
import Derived.Test.YtpgegfdiceamaaaGreatDoorWn
import Derived.ProofKit
import Derived.OpenShut
import Derived.LaidMore
import Derived.Lay
import Derived.Stop.Joined
import Derived.Stop.LaidErr
import Derived.Lib.LaidTab
namespace Go.Proofs.YtpgegfdiceamaaaGreatDoor
open Go.ChangeShapes Go.WideShapes Go.ChangeAt Go.RowKit
open Go.ChangeMaps (open_string shut_string)

theorem own : ownKnob Tryz.prog.godebug = none := by kernel_rfl
theorem gE : Tryz.prog.globalNamed "strconv.ErrSyntax" = some 2 := by kernel_rfl
theorem gET : (Tryz.prog.globals[2]?).map (·.type) = some 72 := by kernel_rfl
theorem gP : Tryz.prog.globalNamed "internal/strconv.uint64pow10" = some 0 := by kernel_rfl
theorem gPT : (Tryz.prog.globals[0]?).map (·.type) = some 201 := by kernel_rfl
theorem cells400 : Tryz.prog.cellsOf 400 = 1 := by kernel_rfl
theorem cells9 : Tryz.prog.cellsOf 9 = 1 := by kernel_rfl
theorem cells86 : Tryz.prog.cellsOf 86 = 1 := by kernel_rfl
theorem cells201 : Tryz.prog.cellsOf 201 = 20 := by kernel_rfl
theorem starErr : "*" ++ "errors.errorString" = "*errors.errorString" := by decide
theorem rowErr (u : TypeId) (h : Tryz.prog.typeName? 3 u = some "*errors.errorString") : u = 398 :=
  typeName_ptr_named (nm := "errors.errorString") (by rw [starErr]; kernel_rfl) (by kernel_rfl) (by decide) u (by rw [starErr]; exact h)

theorem powTab : (Rows.laid_internal_strconv_uint64pow10 : DataW Unit) = Lib.tabData .u64 Lib.pow10Tab := by kernel_rfl

def laidL : List (String × DataW Unit) := Rows.consoleBytesRow.laid

theorem of_laid {W : World} (h : laidMetH Tryz.prog laidL W) : Laid W := by
  rw [MakeChecks.laidMetH_plain _ _ _ (by kernel_rfl)] at h
  obtain ⟨a0, s0, hv0, _, _, _⟩ := laid_sentinel (show laidMet Tryz.prog (("strconv.ErrSyntax", .iface "*errors.errorString" (.ptr (.agg [.lit (.string [105, 110, 118, 97, 108, 105, 100, 32, 115, 121, 110, 116, 97, 120])]))) :: laidL.tail) W from h) gE gET Tryz.underlying72 rowErr Tryz.underlying398 Tryz.underlying400 rfl rfl Tryz.underlying9 cells400 cells9
  have h3 := h.tail.tail
  rw [powTab] at h3
  have ht := Lib.tabIs_of_head (k := .u64) (zs := Lib.pow10Tab) gP gPT Tryz.underlying201 Tryz.underlying86 cells86 cells201 h3
  refine ⟨⟨_, _, hv0⟩, ht, ?_⟩
  unfold World.var? at hv0
  rw [gE] at hv0
  simp only [Option.bind_some] at hv0
  rcases Nat.lt_or_ge 2 W.heap.size with h' | h'
  · exact h'
  · simp [Array.getElem?_eq_none h'] at hv0
end Go.Proofs.YtpgegfdiceamaaaGreatDoor
