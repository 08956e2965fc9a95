/- The lifted law of ConsoleBack. -/
import Derived.Test.YtpgegfdiceamaaaGreatDoorXn
import Derived.Test.YtpgegfdiceamaaaGreatDoorXh
import Derived.Test.YtpgegfdiceamaaaGreatDoorXi
import Derived.Test.YtpgegfdiceamaaaGreatDoorJc
namespace Go.Proofs.YtpgegfdiceamaaaGreatDoor
open Go.ChangeShapes Go.WideShapes Go.ChangeAt Go.RowKit
open Go.ChangeMaps (open_string shut_string)

theorem back_law (op fuel words stack : Int) (name text s : ByteArray) (w : World) (hw : Laid w) (fo : I64 fuel) (wo : I64 words) (st : I64 stack) :
    Calls Tryz.prog 5 #[cmdA op fuel words stack name text, .string s] w (BoolPost true w) := by
  by_cases h : 40000 < name.size ∨ 40000 < text.size ∨ 40000 < s.size
  · exact back_long op fuel words stack name text s w hw h
  · exact back_short op fuel words stack name text s w hw (by omega) (by omega) (by omega) fo wo st

theorem readable26 : Tryz.prog.readableRec 26 = true := by kernel_rfl
theorem row26 : 26 < Tryz.prog.types.size := of_decide_eq_true (by kernel_rfl)

set_option maxRecDepth 100000 in
theorem back_lifted (os : Os) (started : os.Started) (H : Type) (enc : TypeId × Value → H) :
    ReturnsInHanded {} Tryz.checked os 5 .any (fun w args => (Rows.consoleBackSpec.pre enc Tryz.prog Tryz.f5 [] false w args ∧ laidMetH Tryz.prog laidL w) ∧ sizedMet enc Tryz.prog Tryz.f5 (OpenSpec.ofChange Rows.consoleBackSpec) false w args)
      (Rows.consoleBackSpec.post enc Tryz.prog Tryz.f5 false true false false) := by
  refine returnsInHanded_of_change_and (C := Tryz.checked) (X := fun w _ => laidMetH Tryz.prog laidL w) (fun _ _ _ hh h => h.of_heap hh) own started (by kernel_rfl) Tryz.func5
    (ChangeSpec.witness_shaped (enc := enc) (C := Tryz.checked) (os := os) (X := fun w _ => laidMetH Tryz.prog laidL w) false (World.laidAll Tryz.prog os laidL) #[cmdA 0 0 0 0 ⟨#[]⟩ ⟨#[]⟩, .string ⟨#[]⟩] 8 (World.laidAll_os _ _ _)
      (wit_shaped os _) (by kernel_rfl) (by kernel_rfl) (by kernel_rfl) (wit_met os _)) ?_
  intro W base args ds gs before hval0 hW hc _ hL _
  have hval : ∀ (j : Nat) t v, Tryz.f5.params[j]? = some t → args[j]? = some v → Value.okWide Tryz.prog W .any base t v := hval0
  have hW' := hW
  obtain ⟨p, q, hA0, hV, rfl, _, _⟩ := hW
  have hA : DataW.TrodAll enc Tryz.prog W 0 (fun _ => true) true Tryz.f5.params.toList args.toList ds p := hA0
  rw [Tryz.params5] at hA hval
  obtain ⟨v0, v1, d0, d1, p0, p1, rfl, rfl, rfl, h0, h1⟩ := trodAll_two hA
  obtain ⟨rfl, rfl⟩ := trodVars_none hV
  obtain ⟨op, fuel, words, stack, name, text, rfl, _, fo, wo, st, rfl⟩ := open_cmd (hval 0 26 v0 rfl rfl) h0
  obtain ⟨s, rfl, rfl, rfl, hs⟩ := open_string Tryz.underlying9 (hval 1 9 v1 rfl rfl) h1
  have hl := of_laid hL
  simp only [List.append_nil] at hW'
  refine (back_law op fuel words stack name text s W hl fo wo st).mono fun e W' ⟨he, hb⟩ => ?_
  subst he
  have h0' := Below.trod laid_out readable26 row26 h0 hb (fun _ hx => by cases hx)
  exact ⟨_, rfl, [d0, .lit (.string s.data.toList)], [], [], [], [], [], hW', trodAll_mk1 (shut_bool Tryz.underlying4 _), trodAll_mk2 h0' (shut_string Tryz.underlying9 hs), rfl, hb.frame _, fun h => by cases h⟩
end Go.Proofs.YtpgegfdiceamaaaGreatDoor
