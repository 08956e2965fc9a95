/- THE CARD of ConsoleLines. -/
import Derived.Test.YtpgegfdiceamaaaGreatDoorCards
import Derived.Test.YtpgegfdiceamaaaGreatDoorYd
import Derived.Test.YtpgegfdiceamaaaGreatDoorXml
import Derived.Test.YtpgegfdiceamaaaGreatDoorJl6
import Derived.Test.YtpgegfdiceamaaaGreatDoorJe
import Derived.Test.YtpgegfdiceamaaaGreatDoorJf
namespace Go.Proofs.YtpgegfdiceamaaaGreatDoor
open Go
theorem consoleLines_row_tie : Rows.consoleLinesRow.laidByTextAt .later Tryz.pinned [.sentinel, .sentinel, .data, .data, .data, .data, .listed, .pinned, .data, .pinned] true :=
  OpenClaim.laidByTextAt_pinned rfl rfl tie rfl rfl rfl rfl (fun y hy _e => by
    simp only [Rows.consoleLinesRow, List.zip_cons_cons, List.zip_nil_right, List.mem_cons, List.mem_nil_iff, or_false] at hy
    rcases hy with rfl | rfl | rfl | rfl | rfl | rfl | rfl | rfl | rfl | rfl
    · cases _e
    · cases _e
    · cases _e
    · cases _e
    · cases _e
    · cases _e
    · cases _e
    · exact ⟨pin_laid_unicode_utf8_first, by kernel_rfl⟩
    · cases _e
    · exact ⟨pin_laid_unicode_CaseRanges, by kernel_rfl⟩) fits1

theorem lines_card : Rows.ConsoleLinesCardSaid :=
  Claim7.holds_tied_plain_at .later [] [.sentinel, .sentinel, .data, .data, .data, .data, .listed, .pinned, .data, .pinned] true (true, "6f8dc262c007ab9449760b7b96ab71612de9c99420d6719daf872c8b8ac488ee") true
    lines_holds (fun _ h => by cases h) l_wft (fun _ h => by cases h) consoleLines_row_tie rfl ⟨rfl, rfl⟩ main_is rfl
    (fun f fn hf hfn => by
      obtain rfl : f = 4 := Option.some.inj (l_named.symm.trans hf) |>.symm
      obtain rfl : fn = Tryz.f4 := (Option.some.inj (Tryz.func4.symm.trans hfn)).symm
      exact ⟨looks_on, fun j t ht => by
        rw [Tryz.params4] at ht
        have hm : t ∈ [26] := by simpa using Array.mem_of_getElem? ht
        have hm2 : t ∈ [9, 26] := by simp at hm ⊢; exact Or.inr hm
        exact (show Tryz.prog.wantsStandIn t = false by simpa using List.all_eq_true.1 wants_none t hm2)⟩)
    l_goes
end Go.Proofs.YtpgegfdiceamaaaGreatDoor
