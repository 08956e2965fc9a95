/- The lifted law of ConsoleLines. -/
import Derived.Test.YtpgegfdiceamaaaGreatDoorRows
import Derived.Test.YtpgegfdiceamaaaGreatDoorSz
import Derived.ProofKit
import Derived.OpenShut
import Derived.Test.YtpgegfdiceamaaaGreatDoorXh
import Derived.Test.YtpgegfdiceamaaaGreatDoorXi
import Derived.Test.YtpgegfdiceamaaaGreatDoorJc
namespace Go.Proofs.YtpgegfdiceamaaaGreatDoor
section
open Go.ChangeShapes Go.WideShapes Go.ChangeAt Go.RowKit Cons

theorem cells26 : Tryz.prog.cellsOf 26 = 6 := by kernel_rfl
theorem cells24 : Tryz.prog.cellsOf 24 = 2 := by kernel_rfl
theorem cells3 : Tryz.prog.cellsOf 3 = 1 := by kernel_rfl
theorem cellsS : Tryz.prog.cellsOf 9 = 1 := by kernel_rfl

theorem i64_wf {n : Int} (h : (Lit.int .i64 n).wf = true) : I64 n := bounds_i64 h

section
variable {H : Type} {enc : TypeId × Value → H}

set_option maxRecDepth 100000 in
theorem open_room {W : World} {base n : Nat} {sp : Nat → Bool} {hd : Bool} {cs : List Value} {y : DataW H × List MemPlace} (h : DataW.trod enc Tryz.prog W base sp hd n 24 cs = some y) :
    ∃ words stack, cs = [.int .i64 words, .int .i64 stack] ∧ I64 words ∧ I64 stack ∧ y.2 = [] := by
  obtain ⟨y0, y1, m, rfl, hl, h0, h1⟩ := trod_struct2 Tryz.underlying24 h
  rw [cells24] at hl
  match cs, hl with
  | [c0, c1], _ =>
    have h0' : DataW.trod enc Tryz.prog W base sp hd m 3 [c0] = some y0 := h0
    have h1' : DataW.trod enc Tryz.prog W base sp hd m 3 [c1] = some y1 := h1
    obtain ⟨k0, e0, rfl, w0⟩ := DataW.trod_int Tryz.underlying3 h0'
    obtain ⟨k1, e1, rfl, w1⟩ := DataW.trod_int Tryz.underlying3 h1'
    cases e0; cases e1
    exact ⟨k0, k1, rfl, i64_wf w0, i64_wf w1, rfl⟩

set_option maxRecDepth 100000 in
theorem open_cmd {W : World} {r : Reach} {b0 base : Nat} {sp : Nat → Bool} {hd : Bool} {v : Value} {d : DataW H} {p : List MemPlace} (hval : Value.okWide Tryz.prog W r b0 26 v) (h : DataW.Trod enc Tryz.prog W base sp hd 26 v d p) :
    ∃ op fuel words stack name text, v = cmdA op fuel words stack name text ∧ I64 op ∧ I64 fuel ∧ I64 words ∧ I64 stack ∧ p = [] := by
  obtain ⟨⟨cs⟩, rfl, hsz⟩ := okWide_struct Tryz.underlying26 hval
  rw [cells26] at hsz
  obtain ⟨n, hf⟩ := h
  obtain ⟨xs, m, _, hx, hl, hlen, hel⟩ := DataW.trod_struct Tryz.underlying26 hf
  simp only [Prod.mk.injEq] at hx
  obtain ⟨_, hp⟩ := hx
  have hz : cs.length = 6 := by simpa using hsz
  match cs, hz with
  | [c0, c1, c2, c3, c4, c5], _ =>
    match xs, hlen with
    | [x0, x1, x2, x3, x4], _ =>
      have h0 : DataW.trod enc Tryz.prog W base sp hd m 3 [c0] = some x0 := hel 0 _ rfl
      have h1 : DataW.trod enc Tryz.prog W base sp hd m 9 [c1] = some x1 := hel 1 _ rfl
      have h2 : DataW.trod enc Tryz.prog W base sp hd m 9 [c2] = some x2 := hel 2 _ rfl
      have h3 : DataW.trod enc Tryz.prog W base sp hd m 3 [c3] = some x3 := hel 3 _ rfl
      have h4 : DataW.trod enc Tryz.prog W base sp hd m 24 [c4, c5] = some x4 := hel 4 _ rfl
      obtain ⟨k0, e0, rfl, w0⟩ := DataW.trod_int Tryz.underlying3 h0
      obtain ⟨s1, e1, rfl, z1⟩ := DataW.trod_string Tryz.underlying9 h1
      obtain ⟨s2, e2, rfl, z2⟩ := DataW.trod_string Tryz.underlying9 h2
      obtain ⟨k3, e3, rfl, w3⟩ := DataW.trod_int Tryz.underlying3 h3
      obtain ⟨k4, k5, e4, w4, w5, z4⟩ := open_room h4
      cases e0; cases e1; cases e2; cases e3; cases e4
      refine ⟨k0, k3, k4, k5, s1, s2, rfl, i64_wf w0, i64_wf w3, w4, w5, ?_⟩
      rw [hp]
      simp [z4]
end
end
open Go.ChangeShapes Go.WideShapes Go.ChangeAt Go.RowKit
open Go.ChangeMaps (open_string shut_string)

theorem readable26 : Tryz.prog.readableRec 26 = true := by kernel_rfl
theorem row26 : 26 < Tryz.prog.types.size := of_decide_eq_true (by kernel_rfl)

set_option maxRecDepth 100000 in
theorem lines_lifted (os : Os) (started : os.Started) (H : Type) (enc : TypeId × Value → H) :
    ReturnsInHanded {} Tryz.checked os 4 .any (fun w args => (Rows.consoleLinesSpec.pre enc Tryz.prog Tryz.f4 [] false w args ∧ laidMetH Tryz.prog laidL w) ∧ sizedMet enc Tryz.prog Tryz.f4 (OpenSpec.ofChange Rows.consoleLinesSpec) false w args)
      (Rows.consoleLinesSpec.post enc Tryz.prog Tryz.f4 false true false false) := by
  refine returnsInHanded_of_change_and (C := Tryz.checked) (X := fun w _ => laidMetH Tryz.prog laidL w) (fun _ _ _ hh h => h.of_heap hh) own started (by kernel_rfl) Tryz.func4
    (ChangeSpec.witness_shaped (enc := enc) (C := Tryz.checked) (os := os) (X := fun w _ => laidMetH Tryz.prog laidL w) false (World.laidAll Tryz.prog os laidL) #[cmdA 0 0 0 0 ⟨#[]⟩ ⟨#[]⟩] 8 (World.laidAll_os _ _ _)
      (wit_shaped os _) (by kernel_rfl) (by kernel_rfl) (by kernel_rfl) (wit_met os _)) ?_
  intro W base args ds gs before hval0 hW hc _ hL _
  have hval : ∀ (j : Nat) t v, Tryz.f4.params[j]? = some t → args[j]? = some v → Value.okWide Tryz.prog W .any base t v := hval0
  have hW' := hW
  obtain ⟨p, q, hA0, hV, rfl, _, _⟩ := hW
  have hA : DataW.TrodAll enc Tryz.prog W 0 (fun _ => true) true Tryz.f4.params.toList args.toList ds p := hA0
  rw [Tryz.params4] at hA hval
  obtain ⟨v0, d0, rfl, rfl, h0⟩ := trodAll_one hA
  obtain ⟨rfl, rfl⟩ := trodVars_none hV
  obtain ⟨op, fuel, words, stack, name, text, rfl, _, fo, wo, st, rfl⟩ := open_cmd (hval 0 26 v0 rfl rfl) h0
  have hl := of_laid hL
  simp only [List.append_nil] at hW'
  refine (lines_law op fuel words stack name text W hl fo wo st).mono fun e W' ⟨he, hb⟩ => ?_
  subst he
  have h0' := Below.trod laid_out readable26 row26 h0 hb (fun _ hx => by cases hx)
  exact ⟨_, rfl, [d0], [], [], [], [], [], hW', trodAll_mk1 (shut_bool Tryz.underlying4 _), trodAll_mk1 h0', rfl, hb.frame _, fun h => by cases h⟩
end Go.Proofs.YtpgegfdiceamaaaGreatDoor
