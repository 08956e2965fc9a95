/- The console's laws: part Xe. -/
import Derived.Test.YtpgegfdiceamaaaGreatDoorXd
namespace Go.Proofs.YtpgegfdiceamaaaGreatDoor
open Go.RowKit Cons

theorem i0z : I64 0 := ⟨by omega, by omega⟩
theorem i7z : I64 7 := ⟨by omega, by omega⟩
def vA (s : ByteArray) : Array Value := #[.int .i64 1, .string ⟨#[65, 46, 77, 111, 100]⟩, .string s, .int .i64 0, .int .i64 0, .int .i64 0]
def vR (s : ByteArray) : Array Value := #[.int .i64 5, .string ⟨#[]⟩, .string s, .int .i64 7, .int .i64 0, .int .i64 0]

theorem sv_of (s : ByteArray) : sv (bl s) = .string s := by simp [sv, bl]

theorem law_w (s : ByteArray) (hs : s.size ≤ 3000) : ∃ l : B, lineOf ⟨1, bl ⟨#[65, 46, 77, 111, 100]⟩, bl s, 0, 0, 0⟩ = some l ∧ parseV (parseB l) = .tuple #[.agg (vA s), .int .i64 0] ∧ (ba l).size ≤ 1000000 ∧ ((ba l).size : Int) = 12 + max 1 (2 * (s.size : Int)) := by
  have h := Cons.write_AMod (bl s)
  have hl := h.2
  rw [bl_size] at hl
  refine ⟨_, h.1, ?_, by rw [ba_size]; omega, by rw [ba_size, hl]; omega⟩
  rw [lineOf_parse h.1]
  simp only [parseV, cmdV, Option.getD_some, Option.isSome_some, if_true, sv_of]
  rfl

theorem law_r (s : ByteArray) (hs : s.size ≤ 3000) : ∃ l : B, lineOf ⟨5, bl ⟨#[]⟩, bl s, 7, 0, 0⟩ = some l ∧ parseV (parseB l) = .tuple #[.agg (vR s), .int .i64 0] ∧ (ba l).size ≤ 1000000 := by
  have h := Cons.run_7 (bl s)
  refine ⟨_, h, ?_, ?_⟩
  · rw [lineOf_parse h]
    simp only [parseV, cmdV, Option.getD_some, Option.isSome_some, if_true, sv_of]
    rfl
  · have e7 : intB 7 = [55] := by rw [show (7 : Int) = ((7 : Nat) : Int) from rfl, intB_nat, natB, if_pos (by decide)]; rfl
    rw [ba_size]
    simp [lineB, e7, hexB_length, sRun, bl_size]
    omega

theorem cbA {w' : World} {b : Nat} {s : ByteArray} (h : w'.heap[b]? = some (.cells (vA s) 26 (0, 0))) :
    w'.cell? ⟨b, 2, none⟩ = some (.string s) ∧ w'.cell? ⟨b, 1, none⟩ = some (.string ⟨#[65, 46, 77, 111, 100]⟩) := by
  refine ⟨?_, ?_⟩ <;> (rw [Lib.cell_of_heap h]; rfl)
theorem cbR {w' : World} {b : Nat} {s : ByteArray} (h : w'.heap[b]? = some (.cells (vR s) 26 (0, 0))) :
    w'.cell? ⟨b, 2, none⟩ = some (.string s) ∧ w'.cell? ⟨b, 3, none⟩ = some (.int .i64 7) := by
  refine ⟨?_, ?_⟩ <;> (rw [Lib.cell_of_heap h]; rfl)

set_option maxHeartbeats 4000000 in
set_option maxRecDepth 100000 in
theorem bytes_law (s : ByteArray) (w : World) (hw : Laid w) : Calls Tryz.prog 6 #[.string s] w (BoolPost true w) := by
  have Hw := Lib.hid hw
  clear hw
  by_cases hs : 3000 < s.size
  · have e1 : decide ((3000 : Int) < s.size) = true := decide_eq_true (by omega)
    go_enter Tryz.func6, Tryz.ntmps6
    go_wp2_with fail
    refine (wakes_any w Hw.out).mono ?_
    rintro e w1 ⟨rfl, hb⟩
    have Hb := Lib.hid hb
    clear hb
    go_wp2
    go_ret
    exact ⟨rfl, Hb.out⟩
  · have e1 : decide ((3000 : Int) < s.size) = false := decide_eq_false (by omega)
    have hs3 : s.size ≤ 3000 := by omega
    obtain ⟨l1, h1, p1, z1, n1⟩ := law_w s hs3
    obtain ⟨l2, h2, p2, z2⟩ := law_r s hs3
    have H1 := Lib.hid h1
    have H2 := Lib.hid h2
    have P1 := Lib.hid p1
    have P2 := Lib.hid p2
    have Z1 := Lib.hid z1
    have Z2 := Lib.hid z2
    have N1 := Lib.hid n1
    have Hs3 := Lib.hid hs3
    clear h1 h2 p1 p2 z1 z2 n1 hs3 hs
    go_enter Tryz.func6, Tryz.ntmps6
    go_wp2_with fail
    refine (line_any 1 0 0 0 ⟨#[65, 46, 77, 111, 100]⟩ s w Hw.out (by decide) (Nat.le_trans Hs3.out (by decide)) i0z i0z i0z).mono ?_
    rintro e w1 ⟨rfl, hb1⟩
    rw [H1.out]
    simp only [LineV, Option.getD_some, Option.isSome_some, if_true, show sv l1 = .string (ba l1) from rfl]
    have Hb1 := Lib.hid hb1
    clear hb1
    go_wp2_with fail
    refine (line_any 5 7 0 0 ⟨#[]⟩ s w1 (Hw.out.of_below Hb1.out) (by decide) (Nat.le_trans Hs3.out (by decide)) i7z i0z i0z).mono ?_
    rintro e w2 ⟨rfl, hb2⟩
    rw [H2.out]
    simp only [LineV, Option.getD_some, Option.isSome_some, if_true, show sv l2 = .string (ba l2) from rfl]
    have Hb2 := Lib.hid (Hb1.out.trans (hb2.mono Hb1.out.size))
    clear hb2
    go_wp2_with fail
    refine (parse_any (ba l1) w2 Z1.out (Hw.out.of_below Hb2.out)).mono ?_
    rintro e w3 ⟨rfl, hb3⟩
    rw [bl_ba, P1.out]
    simp only [vA]
    have Hb3 := Lib.hid (Hb2.out.trans (hb3.mono Hb2.out.size))
    clear hb3
    go_wp2_with fail
    have k3 := Kp.first w3 (vA s) 26
    have hb4 : Below w.heap.size w (w3.alloc (.cells (vA s) 26)) := Hb3.out.trans (k3.2.mono Hb3.out.size)
    refine (parse_any (ba l2) (w3.alloc (.cells (vA s) 26)) Z2.out (Hw.out.of_below hb4)).mono ?_
    rintro e w4 ⟨rfl, hb5⟩
    rw [bl_ba, P2.out]
    simp only [vR]
    have k4 := Kp.first w4 (vR s) 26
    have kA := cbA (cb_below (cb_below k3.1 hb5) k4.2)
    have kR := cbR k4.1
    have Hb6 := Lib.hid (hb4.trans ((hb5.mono hb4.size).trans (k4.2.mono (Nat.le_trans hb4.size hb5.size))))
    clear hb4 hb5 k3 k4
    simp only [vR] at kA kR
    obtain ⟨a2, a1⟩ := kA
    obtain ⟨r2, r3⟩ := kR
    have m1 : IntKind.i64.wrap (2 * (s.size : Int)) = 2 * (s.size : Int) := IntWalk.i64_in _ (by have := Hs3.out; omega)
    have m2 : IntKind.i64.wrap (12 + max 1 (2 * (s.size : Int))) = 12 + max 1 (2 * (s.size : Int)) := IntWalk.i64_in _ (by have := Hs3.out; omega)
    go_wp2_with fail
    refine (wakes_any _ (Hw.out.of_below Hb6.out)).mono ?_
    rintro e w7 ⟨rfl, hb7⟩
    have Hb7 := Lib.hid (Hb6.out.trans (hb7.mono Hb6.out.size))
    clear hb7
    go_wp2
    go_ret
    exact ⟨rfl, Hb7.out⟩
end Go.Proofs.YtpgegfdiceamaaaGreatDoor
