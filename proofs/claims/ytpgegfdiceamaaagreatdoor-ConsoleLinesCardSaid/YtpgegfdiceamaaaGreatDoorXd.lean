/- The console's laws: part Xd. -/
import Derived.Test.YtpgegfdiceamaaaGreatDoorXc
namespace Go.Proofs.YtpgegfdiceamaaaGreatDoor
open Go.RowKit Cons

def line3 : B := [108, 111, 97, 100, 32, 65, 32, 51, 48, 48, 32, 54, 52]
theorem parse3 : parseB line3 = some ⟨4, [65], [], 0, 300, 64⟩ := by decide +kernel
def a0B : B := [101, 114, 114, 111, 114, 32, 50, 53, 48, 32, 97, 116, 32, 48]
def a2B : B := [101, 114, 114, 111, 114, 32, 54, 48, 32, 97, 116, 32, 48]
theorem int0 : intB 0 = [48] := by rw [show (0 : Int) = ((0 : Nat) : Int) from rfl, intB_nat]; rw [natB]; rfl
theorem int250 : intB 250 = [50, 53, 48] := by
  rw [show (250 : Int) = ((250 : Nat) : Int) from rfl, intB_nat]
  rw [natB, if_neg (by decide), show 250 / 10 = 25 from rfl, natB, if_neg (by decide), show 25 / 10 = 2 from rfl, natB, if_pos (by decide)]; rfl
theorem int60 : intB 60 = [54, 48] := by
  rw [show (60 : Int) = ((60 : Nat) : Int) from rfl, intB_nat]
  rw [natB, if_neg (by decide), show 60 / 10 = 6 from rfl, natB, if_pos (by decide)]; rfl
theorem fail250 : failedB 250 0 = a0B := by simp only [failedB, int0, int250]; rfl
theorem fail60 : failedB 60 0 = a2B := by simp only [failedB, int0, int60]; rfl

def BoolPost (b : Bool) (w : World) (e : Ending) (w' : World) : Prop := e = .returned (.bool b) ∧ Below w.heap.size w w'

/-- the answers, by place -/
def ansAt (i : Nat) : ByteArray := ba (answers.getD i [])

theorem kp3 {w w' : World} {a b c : Value} (h : w'.heap[w.heap.size]? = some (.cells #[a, b, c] 9 (0, 0))) :
    w'.cell? ⟨w.heap.size, 0, none⟩ = some a ∧ w'.cell? ⟨w.heap.size, 1, none⟩ = some b ∧ w'.cell? ⟨w.heap.size, 2, none⟩ = some c := by
  refine ⟨?_, ?_, ?_⟩ <;> (rw [Lib.cell_of_heap h]; rfl)

theorem wake_ends (w1 w2 : World) (g : Nat) (hb2 : Below w1.heap.size w1 w2) (hg : g < w1.heap.size)
    (hcell : ∀ (i : Nat) (x : B), answers[i]? = some x → w1.cell? ⟨g, i, none⟩ = some (.string (ba x))) :
    (∀ i, i < 3 → ((w2.alloc (.cells #[.int .i64 4, .string ⟨#[65]⟩, .string ⟨#[]⟩, .int .i64 0, .int .i64 300, .int .i64 64] 26)).alloc (.cells #[.string ⟨#[101, 114, 114, 111, 114, 32, 50, 53, 48, 32, 97, 116, 32, 48]⟩, .string ⟨#[111, 107]⟩, .string ⟨#[101, 114, 114, 111, 114, 32, 54, 48, 32, 97, 116, 32, 48]⟩] 9)).cell? ⟨g, i, none⟩ = some (.string (ansAt i))) ∧
    (∀ i, i < 3 → ((w2.alloc (.cells #[.int .i64 4, .string ⟨#[65]⟩, .string ⟨#[]⟩, .int .i64 0, .int .i64 300, .int .i64 64] 26)).alloc (.cells #[.string ⟨#[101, 114, 114, 111, 114, 32, 50, 53, 48, 32, 97, 116, 32, 48]⟩, .string ⟨#[111, 107]⟩, .string ⟨#[101, 114, 114, 111, 114, 32, 54, 48, 32, 97, 116, 32, 48]⟩] 9)).cell? ⟨w2.heap.size + 1, i, none⟩ = some (.string (ansAt i))) ∧
    ((w2.alloc (.cells #[.int .i64 4, .string ⟨#[65]⟩, .string ⟨#[]⟩, .int .i64 0, .int .i64 300, .int .i64 64] 26)).alloc (.cells #[.string ⟨#[101, 114, 114, 111, 114, 32, 50, 53, 48, 32, 97, 116, 32, 48]⟩, .string ⟨#[111, 107]⟩, .string ⟨#[101, 114, 114, 111, 114, 32, 54, 48, 32, 97, 116, 32, 48]⟩] 9)).heap[w2.heap.size]? = some (.cells #[.int .i64 4, .string ⟨#[65]⟩, .string ⟨#[]⟩, .int .i64 0, .int .i64 300, .int .i64 64] 26 (0, 0)) ∧
    Below w1.heap.size w1 ((w2.alloc (.cells #[.int .i64 4, .string ⟨#[65]⟩, .string ⟨#[]⟩, .int .i64 0, .int .i64 300, .int .i64 64] 26)).alloc (.cells #[.string ⟨#[101, 114, 114, 111, 114, 32, 50, 53, 48, 32, 97, 116, 32, 48]⟩, .string ⟨#[111, 107]⟩, .string ⟨#[101, 114, 114, 111, 114, 32, 54, 48, 32, 97, 116, 32, 48]⟩] 9)) := by
  have k1 := Kp.first w2 #[.int .i64 4, .string ⟨#[65]⟩, .string ⟨#[]⟩, .int .i64 0, .int .i64 300, .int .i64 64] 26
  have k2 := Kp.first (w2.alloc (.cells #[.int .i64 4, .string ⟨#[65]⟩, .string ⟨#[]⟩, .int .i64 0, .int .i64 300, .int .i64 64] 26)) #[.string ⟨#[101, 114, 114, 111, 114, 32, 50, 53, 48, 32, 97, 116, 32, 48]⟩, .string ⟨#[111, 107]⟩, .string ⟨#[101, 114, 114, 111, 114, 32, 54, 48, 32, 97, 116, 32, 48]⟩] 9
  have hs : (w2.alloc (.cells #[.int .i64 4, .string ⟨#[65]⟩, .string ⟨#[]⟩, .int .i64 0, .int .i64 300, .int .i64 64] 26)).heap.size = w2.heap.size + 1 := by simp
  have hB : Below w1.heap.size w1 _ := hb2.trans ((k1.2.mono hb2.size).trans (k2.2.mono (Nat.le_trans hb2.size (by omega))))
  have c3 := kp3 k2.1
  rw [hs] at c3
  have e0 : ansAt 0 = ⟨#[101, 114, 114, 111, 114, 32, 50, 53, 48, 32, 97, 116, 32, 48]⟩ := by simp only [ansAt, answers, fail250]; rfl
  have e1 : ansAt 1 = ⟨#[111, 107]⟩ := rfl
  have e2 : ansAt 2 = ⟨#[101, 114, 114, 111, 114, 32, 54, 48, 32, 97, 116, 32, 48]⟩ := by simp only [ansAt, answers, fail60]; rfl
  refine ⟨fun i hi => ?_, fun i hi => ?_, cb_below k1.1 k2.2, hB⟩
  · rw [hB.cell (p := ⟨g, i, none⟩) hg]
    rcases (by omega : i = 0 ∨ i = 1 ∨ i = 2) with rfl | rfl | rfl <;> exact hcell _ _ rfl
  · rcases (by omega : i = 0 ∨ i = 1 ∨ i = 2) with rfl | rfl | rfl
    · rw [e0]; exact c3.1
    · rw [e1]; exact c3.2.1
    · rw [e2]; exact c3.2.2

theorem cb4 {w' : World} {b : Nat} (h : w'.heap[b]? = some (.cells #[.int .i64 4, .string ⟨#[65]⟩, .string ⟨#[]⟩, .int .i64 0, .int .i64 300, .int .i64 64] 26 (0, 0))) :
    w'.cell? ⟨b, 1, none⟩ = some (.string ⟨#[65]⟩) ∧ w'.cell? ⟨b, 4, none⟩ = some (.int .i64 300) := by
  refine ⟨?_, ?_⟩ <;> (rw [Lib.cell_of_heap h]; rfl)

theorem Drawn.below {w0 w w' : World} {base : Nat} (h : Drawn w w') (hb : Below base w0 w) : Below base w0 w' := by
  obtain ⟨k, rfl⟩ := h; exact ⟨hb.os, hb.tape, hb.output, hb.size, hb.block⟩

set_option maxHeartbeats 4000000 in
set_option maxRecDepth 100000 in
theorem wakes_any (w : World) (hw : Laid w) : Calls Tryz.prog 7 #[] w (BoolPost true w) := by
  have Hw := Lib.hid hw
  clear hw
  go_enter Tryz.func7, Tryz.ntmps7
  go_wp2_with fail
  have hk := Kp.first w #[.string ⟨#[114, 117, 110, 32, 53, 32, 45]⟩, .string ⟨#[119, 114, 105, 116, 101, 32, 65, 46, 77, 111, 100, 32, 48, 48]⟩, .string ⟨#[119, 104, 97, 116]⟩] 9
  have hl : Lines w.heap.size (w.alloc (.cells #[.string ⟨#[114, 117, 110, 32, 53, 32, 45]⟩, .string ⟨#[119, 114, 105, 116, 101, 32, 65, 46, 77, 111, 100, 32, 48, 48]⟩, .string ⟨#[119, 104, 97, 116]⟩] 9)) :=
    ⟨(kp3 hk.1).1, (kp3 hk.1).2.1, (kp3 hk.1).2.2, by simp⟩
  have hb0 : Below w.heap.size w (w.alloc (.cells #[.string ⟨#[114, 117, 110, 32, 53, 32, 45]⟩, .string ⟨#[119, 114, 105, 116, 101, 32, 65, 46, 77, 111, 100, 32, 48, 48]⟩, .string ⟨#[119, 104, 97, 116]⟩] 9)) := hk.2
  refine (run_lines w.heap.size _ (Hw.out.of_below hb0) hl).mono ?_
  rintro e w1 ⟨v, rfl, hb1, hrow⟩
  have hb : Below w.heap.size w w1 := hb0.trans (hb1.mono hb0.size)
  obtain ⟨g, cap, rfl, hg, hcell⟩ := row_open hrow (by decide)
  have Hcell := Lib.hid hcell
  have Hb := Lib.hid hb
  have Hg := Lib.hid hg
  clear hk hl hb0 hb1 hrow hcell hb hg
  simp only [show answers.length = 3 from rfl]
  go_wp2_with fail
  refine (parse_any ⟨#[108, 111, 97, 100, 32, 65, 32, 51, 48, 48, 32, 54, 52]⟩ _ (by decide) (Hw.out.of_below Hb.out)).mono ?_
  rintro e w2 ⟨rfl, hb2⟩
  rw [show bl ⟨#[108, 111, 97, 100, 32, 65, 32, 51, 48, 48, 32, 54, 52]⟩ = line3 from rfl, parse3]
  simp only [parseV, cmdV, Option.getD_some, Option.isSome_some, sv, if_true]
  have Hb2 := Lib.hid hb2
  clear hb2
  go_wp2_with fail
  obtain ⟨ga, gb, hblk, hb3⟩ := wake_ends w1 w2 g Hb2.out Hg.out Hcell.out
  have Hblk := Lib.hid hblk
  have Hb3 := Lib.hid (Hb.out.trans (hb3.mono Hb.out.size))
  refine (texts_same g (w2.heap.size + 1) 3 cap 3 ansAt _ (by decide) ga gb).mono ?_
  rintro e w3 ⟨rfl, hd⟩
  have c1 : w3.cell? ⟨w2.heap.size, 1, none⟩ = some (.string ⟨#[65]⟩) := by rw [hd.cell]; exact (cb4 Hblk.out).1
  have c4 : w3.cell? ⟨w2.heap.size, 4, none⟩ = some (.int .i64 300) := by rw [hd.cell]; exact (cb4 Hblk.out).2
  have Hb4 := Lib.hid (hd.below Hb3.out)
  clear ga gb hblk hb3 Hblk hd
  go_wp2_with fail
  go_ret
  exact ⟨rfl, Hb4.out⟩
end Go.Proofs.YtpgegfdiceamaaaGreatDoor
