/- The console's laws: part Xb2. -/
import Derived.Test.YtpgegfdiceamaaaGreatDoorXa
import Derived.Deep.AppendLies
namespace Go.Proofs.YtpgegfdiceamaaaGreatDoor
open Go.RowKit Cons

def line0 : B := [114, 117, 110, 32, 53, 32, 45]
def line1 : B := [119, 114, 105, 116, 101, 32, 65, 46, 77, 111, 100, 32, 48, 48]
def line2 : B := [119, 104, 97, 116]
theorem parse0 : parseB line0 = some ⟨5, [], [], 5, 0, 0⟩ := by decide +kernel
theorem parse1 : parseB line1 = some ⟨1, [65, 46, 77, 111, 100], [0], 0, 0, 0⟩ := by decide +kernel
theorem parse2 : parseB line2 = none := by decide +kernel
def answers : List B := [failedB 250 0, [111, 107], failedB 60 0]

theorem row_besides {w w' : World} {base s n : Nat} {v : Value} {xs : List Value} (h : w.ownsRow base 9 1 v n xs) (hs : s < base) (hb : Besides w.heap.size s w w') : w'.ownsRow base 9 1 v n xs := by
  refine ⟨h.1, ?_⟩
  rcases h.2 with h2 | ⟨g, cap, cur, hv, hg, hblk, rest⟩
  · exact .inl h2
  · exact .inr ⟨g, cap, cur, hv, hg, by rw [hb.block g (Array.getElem?_eq_some_iff.1 hblk).1 (by omega)]; exact hblk, rest⟩

theorem row_below {w w' : World} {base n : Nat} {v : Value} {xs : List Value} (h : w.ownsRow base 9 1 v n xs) (hb : Below w.heap.size w w') : w'.ownsRow base 9 1 v n xs := by
  refine ⟨h.1, ?_⟩
  rcases h.2 with h2 | ⟨g, cap, cur, hv, hg, hblk, rest⟩
  · exact .inl h2
  · exact .inr ⟨g, cap, cur, hv, hg, by rw [hb.block g (Array.getElem?_eq_some_iff.1 hblk).1]; exact hblk, rest⟩

/-- the lines as they came in -/
structure Lines (g : Nat) (w : World) : Prop where
  a0 : w.cell? ⟨g, 0, none⟩ = some (.string (ba line0))
  a1 : w.cell? ⟨g, 1, none⟩ = some (.string (ba line1))
  a2 : w.cell? ⟨g, 2, none⟩ = some (.string (ba line2))
  lt : g < w.heap.size

def RunRel (w : World) (i out : Value) (wr : World) : Prop :=
  ∃ k : Nat, i = .int .i64 k ∧ k ≤ 3 ∧ Below w.heap.size w wr ∧ TxtRow (w.heap.size + 2) wr out (answers.take k) ∧ w.heap.size + 2 ≤ wr.heap.size ∧
    (k < 2 → wr.heap[w.heap.size]? = some (.cells #[.map none] 101 (0, 0)) ∧ wr.heap[w.heap.size + 1]? = some (.cells (farmC w.heap.size) 84 (0, 0)))

theorem run_start (w : World) : RunRel w (.int .i64 0) (.slice none 0 0) ((w.alloc (.cells #[.map none] 101)).alloc (.cells (farmC w.heap.size) 84)) := by
  refine ⟨0, rfl, by omega, ((Below.refl _ w).alloc (Nat.le_refl _) _).alloc (by simp) _, ⟨rfl, .inl ⟨rfl, rfl⟩⟩, by simp, fun _ => ⟨?_, ?_⟩⟩
  · rw [Below.heap_alloc _ _ _ (by simp)]; exact (Kp.first w #[.map none] 101).1
  · have := (Kp.first (w.alloc (.cells #[.map none] 101)) (farmC w.heap.size) 84).1
    simpa using this

theorem do_run5 (f s : Nat) (w : World) (hf : w.heap[f]? = some (.cells (farmC s) 84 (0, 0))) :
    Calls Tryz.prog 28 #[.pointer (some ⟨f, 0, none⟩), .agg #[.int .i64 5, .string ⟨#[]⟩, .string ⟨#[]⟩, .int .i64 5, .int .i64 0, .int .i64 0]] w fun e w' => e = .returned (ansV 250 0) ∧ Below w.heap.size w w' := do_run f s 5 0 0 ⟨#[]⟩ ⟨#[]⟩ w hf

theorem do_write1 (f s : Nat) (w : World) (hf : w.heap[f]? = some (.cells (farmC s) 84 (0, 0))) (hs : w.heap[s]? = some (.cells #[.map none] 101 (0, 0))) :
    Calls Tryz.prog 28 #[.pointer (some ⟨f, 0, none⟩), .agg #[.int .i64 1, .string ⟨#[65, 46, 77, 111, 100]⟩, .string ⟨#[0]⟩, .int .i64 0, .int .i64 0, .int .i64 0]] w fun e w' => e = .returned (ansV 0 0) ∧ Besides w.heap.size s w w' := do_write f s 0 0 0 ⟨#[0]⟩ w (by decide) hf hs

theorem cb0 {w' : World} {b : Nat} (h : w'.heap[b]? = some (.cells #[.int .i64 5, .string ⟨#[]⟩, .string ⟨#[]⟩, .int .i64 5, .int .i64 0, .int .i64 0] 26 (0, 0))) :
    w'.cell? ⟨b, 0, none⟩ = some (.int .i64 5) ∧ w'.cell? ⟨b, 1, none⟩ = some (.string ⟨#[]⟩) ∧ w'.cell? ⟨b, 2, none⟩ = some (.string ⟨#[]⟩) ∧ w'.cell? ⟨b, 3, none⟩ = some (.int .i64 5) ∧ w'.cell? ⟨b, 4, none⟩ = some (.int .i64 0) ∧ w'.cell? ⟨b, 5, none⟩ = some (.int .i64 0) := by
  refine ⟨?_, ?_, ?_, ?_, ?_, ?_⟩ <;> (rw [Lib.cell_of_heap h]; rfl)

theorem wb26 {w w' : World} {cs : Array Value} {T : TypeId} (hb : Below (w.alloc (.cells cs T)).drew.heap.size (w.alloc (.cells cs T)).drew w') : Below w.heap.size w w' := (blk_after hb).2.1

theorem cb_grown {w w' : World} {b : Nat} {o M : Obj} {row : Option Nat} (h : w.heap[b]? = some o) (hg : (w.alloc M).grownBy w' row) (hne : ∀ k, row = some k → k ≠ b) : w'.heap[b]? = some o := by
  have hlt := (Array.getElem?_eq_some_iff.1 h).1
  rw [hg.block b (by simp; omega) (fun e => hne b e.symm rfl), Below.heap_alloc _ _ _ hlt]; exact h

theorem cbG {w' : World} {b : Nat} {x0 x1 x2 x3 x4 x5 : Value} (h : w'.heap[b]? = some (.cells #[x0, x1, x2, x3, x4, x5] 26 (0, 0))) :
    w'.cell? ⟨b, 0, none⟩ = some x0 ∧ w'.cell? ⟨b, 1, none⟩ = some x1 ∧ w'.cell? ⟨b, 2, none⟩ = some x2 ∧ w'.cell? ⟨b, 3, none⟩ = some x3 ∧ w'.cell? ⟨b, 4, none⟩ = some x4 ∧ w'.cell? ⟨b, 5, none⟩ = some x5 := by
  refine ⟨?_, ?_, ?_, ?_, ?_, ?_⟩ <;> (rw [Lib.cell_of_heap h]; rfl)

theorem cb_besides {w w' : World} {b s : Nat} {o : Obj} (h : w.heap[b]? = some o) (hb : Besides w.heap.size s w w') (hs : b ≠ s) : w'.heap[b]? = some o := by
  rw [hb.block b (Array.getElem?_eq_some_iff.1 h).1 hs]; exact h

theorem below_of_besides {w wr w' : World} (h : Below w.heap.size w wr) (hb : Besides wr.heap.size w.heap.size wr w') : Below w.heap.size w w' :=
  h.trans ⟨hb.os, hb.tape, hb.output, hb.size, fun k hk => hb.block k (Nat.lt_of_lt_of_le hk h.size) (by omega)⟩

theorem cb_below {w w' : World} {b : Nat} {o : Obj} (h : w.heap[b]? = some o) (hb : Below w.heap.size w w') : w'.heap[b]? = some o := by
  rw [hb.block b (Array.getElem?_eq_some_iff.1 h).1]; exact h

def RunPost (w : World) (e : Ending) (w' : World) : Prop := ∃ v, e = .returned (.tuple #[v, .int .i64 0]) ∧ Below w.heap.size w w' ∧ TxtRow (w.heap.size + 2) w' v answers

theorem wb26' {w w' : World} {cs : Array Value} {T : TypeId} (hb : Below (w.alloc (.cells cs T)).heap.size (w.alloc (.cells cs T)) w') : Below w.heap.size w w' := (blk_after0 hb).2.1

theorem run_next2 {w wr w3 w4 : World} {v v' : Value} (hb : Below w.heap.size w wr) (hr3 : w3.ownsRow (w.heap.size + 2) 9 1 v 2 [sv (failedB 250 0), sv [111, 107]]) (hbr : Below wr.heap.size wr w3) (hz3 : w.heap.size + 2 ≤ w3.heap.size)
    (hg : (w3.alloc (.cells #[.string (ba (failedB 60 0))] 9)).grownBy w4 v.ownBlock) (ho : w4.ownsRow (w.heap.size + 2) 9 1 v' (2 + 1) ([sv (failedB 250 0), sv [111, 107]] ++ [.string (ba (failedB 60 0))])) :
    RunRel w (.int .i64 3) v' w4 := by
  obtain ⟨q1, q2⟩ := grown_keeps hr3 hz3 hg (by omega) (hb.trans (hbr.mono hb.size))
  exact ⟨3, rfl, by omega, q2, ho, Nat.le_trans hz3 q1.size, fun h => by omega⟩

theorem bs26 {s : Nat} {w w' : World} {cs : Array Value} {T : TypeId} (hb : Besides (w.alloc (.cells cs T)).drew.heap.size s (w.alloc (.cells cs T)).drew w') : Besides w.heap.size s w w' :=
  (Besides.of s (below_blk' w cs T)).trans (hb.mono (by simp))

theorem run_next0 {w wr w1 w2 w3 w4 : World} {v : Value} {gg cap : Nat} {cs : Array Value} (hb : Below w.heap.size w wr) (_hrow : TxtRow (w.heap.size + 2) wr v (answers.take 0)) (hr3 : w3.ownsRow (w.heap.size + 2) 9 1 v 0 []) (hbr : Besides wr.heap.size w.heap.size wr w3) (hz3 : w.heap.size + 2 ≤ w3.heap.size)
    (hg : (w3.alloc (.cells #[.string (ba (failedB 250 0))] 9)).grownBy w4 v.ownBlock) (ho : w4.ownsRow (w.heap.size + 2) 9 1 (.slice (some ⟨gg, 0, none⟩) (0 + 1) cap) (0 + 1) ([] ++ [.string (ba (failedB 250 0))]))
    (hsb : wr.heap[w.heap.size]? = some (.cells #[.map none] 101 (0, 0))) (hfb : wr.heap[w.heap.size + 1]? = some (.cells (farmC w.heap.size) 84 (0, 0))) (h1 : Below wr.heap.size wr w1) (h2 : Below (w1.alloc (.cells cs 26)).drew.heap.size (w1.alloc (.cells cs 26)).drew w2) (h3 : Below w2.heap.size w2 w3) :
    RunRel w (.int .i64 1) (.slice (some ⟨gg, 0, none⟩) 1 cap) w4 := by
  obtain ⟨q1, q2⟩ := grown_keeps hr3 hz3 hg (by omega) (below_of_besides hb hbr)
  refine ⟨1, rfl, by omega, q2, ho, Nat.le_trans hz3 q1.size, fun _ => ⟨?_, ?_⟩⟩
  · exact (q1.block _ (by omega)).trans (cb_below (cb_below (cb_below hsb h1) (wb26 h2)) h3)
  · exact (q1.block _ (by omega)).trans (cb_below (cb_below (cb_below hfb h1) (wb26 h2)) h3)

theorem run_next1 {w wr w3 w4 : World} {v : Value} {gg cap : Nat} (hb : Below w.heap.size w wr) (_hrow : TxtRow (w.heap.size + 2) wr v (answers.take 1)) (hr3 : w3.ownsRow (w.heap.size + 2) 9 1 v 1 [sv (failedB 250 0)]) (hbr : Besides wr.heap.size w.heap.size wr w3) (hz3 : w.heap.size + 2 ≤ w3.heap.size)
    (hg : (w3.alloc (.cells #[.string ⟨#[111, 107]⟩] 9)).grownBy w4 v.ownBlock) (ho : w4.ownsRow (w.heap.size + 2) 9 1 (.slice (some ⟨gg, 0, none⟩) (1 + 1) cap) (1 + 1) ([sv (failedB 250 0)] ++ [.string ⟨#[111, 107]⟩])) :
    RunRel w (.int .i64 2) (.slice (some ⟨gg, 0, none⟩) 2 cap) w4 := by
  obtain ⟨q1, q2⟩ := grown_keeps hr3 hz3 hg (by omega) (below_of_besides hb hbr)
  exact ⟨2, rfl, by omega, q2, ho, Nat.le_trans hz3 q1.size, fun h => by omega⟩

set_option maxHeartbeats 4000000 in
set_option maxRecDepth 100000 in
theorem run_lines (g : Nat) (w : World) (hw : Laid w) (hl : Lines g w) :
    Calls Tryz.prog 13 #[.slice (some ⟨g, 0, none⟩) 3 3] w (RunPost w) := by
  obtain ⟨i0, hi, hz0, hz1, hz2'⟩ := info_parts info9
  have Hw := Lib.hid hw
  have Hl := Lib.hid hl
  clear hw hl
  go_enter Tryz.func13, Tryz.ntmps13
  go_wp2_with fail
  refine (farmNew w).mono ?_
  rintro e w1 ⟨rfl, rfl⟩
  go_wp2_with fail
  go_loopw [16, 5] (fun i out wr => RunRel w i out wr) (fun i _ _ => 3 - (intOf i).toNat)
  case atStart =>
    exact run_start w
  case round =>
    obtain ⟨k, rfl, hk, hb, hrow, hz, hst⟩ := hrel
    have hlt := Hl.out.lt
    have Hb := Lib.hid hb
    have Hrow := Lib.hid hrow
    have hwr := Hw.out.of_below hb
    have Hwr := Lib.hid hwr
    have a0 : wr.cell? ⟨g, 0, none⟩ = some (.string (ba line0)) := by rw [hb.cell (p := ⟨g, 0, none⟩) hlt]; exact Hl.out.a0
    have a1 : wr.cell? ⟨g, 1, none⟩ = some (.string (ba line1)) := by rw [hb.cell (p := ⟨g, 1, none⟩) hlt]; exact Hl.out.a1
    have a2 : wr.cell? ⟨g, 2, none⟩ = some (.string (ba line2)) := by rw [hb.cell (p := ⟨g, 2, none⟩) hlt]; exact Hl.out.a2
    clear hb hrow hwr
    rcases (by omega : k = 0 ∨ k = 1 ∨ k = 2 ∨ k = 3) with rfl | rfl | rfl | rfl
    · obtain ⟨hsb, hfb⟩ := hst (by omega)
      have Hsb := Lib.hid hsb
      have Hfb := Lib.hid hfb
      clear hst hsb hfb a1 a2 hk
      go_wp2_with fail
      refine (parse_any (ba line0) _ (by decide) Hwr.out).mono ?_
      rintro e w1 ⟨rfl, hb1⟩
      rw [bl_ba, parse0]
      simp only [parseV, cmdV, Option.getD_some, Option.isSome_some, sv, if_true]
      have hzw := hb1.size
      have Hb1 := Lib.hid hb1
      clear hb1
      go_wp2_with fail
      have h0 := (Kp.first w1 #[.int .i64 5, .string ⟨#[]⟩, .string ⟨#[]⟩, .int .i64 5, .int .i64 0, .int .i64 0] 26).drew.1
      have H0 := Lib.hid h0
      clear h0
      go_region_held3 (fun w' => w'.cell? ⟨w1.heap.size, 0, none⟩ = some (.int .i64 5) ∧ w'.cell? ⟨w1.heap.size, 1, none⟩ = some (.string ⟨#[]⟩) ∧ w'.cell? ⟨w1.heap.size, 2, none⟩ = some (.string ⟨#[]⟩) ∧ w'.cell? ⟨w1.heap.size, 3, none⟩ = some (.int .i64 5) ∧ w'.cell? ⟨w1.heap.size, 4, none⟩ = some (.int .i64 0) ∧ w'.cell? ⟨w1.heap.size, 5, none⟩ = some (.int .i64 0))
        (first | exact cbG H0.out | exact cbG Hx3.out | exact cbG Hx2.out | exact cbG (cb_below Hx3.out ((Below.refl _ w3).alloc (Nat.le_refl _) _)) | exact cbG Hx4.out)
        (first
          | (go_at_call 28; refine (do_run5 (w.heap.size + 1) w.heap.size _ ?hh).mono ?_
             case hh => exact cb_below (cb_below Hfb.out Hb1.out) (below_blk' _ _ _)
             rintro e w2 ⟨rfl, hb2⟩
             have Hx2 := Lib.hid (cb_below H0.out hb2)
             have Hbr := Lib.hid (Besides.of w.heap.size (Hb1.out.trans ((wb26 hb2).mono hzw)))
             have hz2 : w.heap.size + 2 ≤ w2.heap.size := by have := Hbr.out.size; omega
             have Hst := Lib.hid hb2
             clear hb2)
          | (go_at_call 27; refine (answer_250 5 _ ?hh).mono ?_; case hh => exact Hw.out.of_below (below_of_besides Hb.out Hbr.out)
             rintro e w3 ⟨rfl, hb3⟩
             have Hx3 := Lib.hid (cb_below Hx2.out hb3)
             have Hbr3 := Lib.hid (Hbr.out.trans (Besides.of w.heap.size (hb3.mono Hbr.out.size)))
             have Hr3 := Lib.hid (row_besides Hrow.out (by omega) Hbr3.out)
             have hz3 : w.heap.size + 2 ≤ w3.heap.size := Nat.le_trans hz2 hb3.size
             have Hb3 := Lib.hid hb3
             clear hb3)
          | (refine step_append_lies _ (by rfl) _ _ _ (by rfl) (w.heap.size + 2) 9 i0 _ 1 16 Tryz.underlying40 hi hz0 hz1 hz2' rfl (by omega) u5 0 [] (by rfl) (Hr3.out.alloc _) ⟨w3.heap.size, 0, none⟩ 1 1 [.string (ba (failedB 250 0))] (by rfl) (by rfl) (cell_one_new _ _ _) (by simp [Value.oneCell'])
              (by omega) (by unfold maxLen; omega) (by omega) (by simp; omega) (w3.heap.size + 1) (by simp) ?_; intro gg cap w4 hown4 hgrow hat hlt4
             have Hx4 := Lib.hid (cb_grown Hx3.out hgrow (fun k hk => by have := (Hrow.out.lt k hk).2; omega))
             have Hg4 := Lib.hid hgrow
             have Ho4 := Lib.hid hown4
             clear hgrow hown4))
      have hrel : RunRel w (.int .i64 1) (.slice (some ⟨gg, 0, none⟩) 1 cap) w4 := run_next0 Hb.out Hrow.out Hr3.out Hbr3.out hz3 Hg4.out Ho4.out Hsb.out Hfb.out Hb1.out Hst.out Hb3.out
      have Hrel := Lib.hid hrel
      clear hrel
      go_wp2
      go_roundw
      case rel => exact Hrel.out
      case measure => simp [intOf]
    · obtain ⟨hsb, hfb⟩ := hst (by omega)
      have Hsb := Lib.hid hsb
      have Hfb := Lib.hid hfb
      clear hst hsb hfb a0 a2 hk
      go_wp2_with fail
      refine (parse_any (ba line1) _ (by decide) Hwr.out).mono ?_
      rintro e w1 ⟨rfl, hb1⟩
      rw [bl_ba, parse1]
      simp only [parseV, cmdV, Option.getD_some, Option.isSome_some, sv, if_true]
      have hzw := hb1.size
      have Hb1 := Lib.hid hb1
      clear hb1
      go_wp2_with fail
      have h0 := (Kp.first w1 #[.int .i64 1, .string ⟨#[65, 46, 77, 111, 100]⟩, .string ⟨#[0]⟩, .int .i64 0, .int .i64 0, .int .i64 0] 26).drew.1
      have H0 := Lib.hid h0
      clear h0
      go_region_held3 (fun w' => w'.cell? ⟨w1.heap.size, 0, none⟩ = some (.int .i64 1) ∧ w'.cell? ⟨w1.heap.size, 1, none⟩ = some (.string ⟨#[65, 46, 77, 111, 100]⟩) ∧ w'.cell? ⟨w1.heap.size, 2, none⟩ = some (.string ⟨#[0]⟩) ∧ w'.cell? ⟨w1.heap.size, 3, none⟩ = some (.int .i64 0) ∧ w'.cell? ⟨w1.heap.size, 4, none⟩ = some (.int .i64 0) ∧ w'.cell? ⟨w1.heap.size, 5, none⟩ = some (.int .i64 0))
        (first | exact cbG H0.out | exact cbG Hx3.out | exact cbG Hx2.out | exact cbG (cb_below Hx3.out ((Below.refl _ w3).alloc (Nat.le_refl _) _)) | exact cbG Hx4.out)
        (first
          | (go_at_call 28; refine (do_write1 (w.heap.size + 1) w.heap.size _ ?hh ?hs).mono ?_
             case hh => exact cb_below (cb_below Hfb.out Hb1.out) (below_blk' _ _ _)
             case hs => exact cb_below (cb_below Hsb.out Hb1.out) (below_blk' _ _ _)
             rintro e w2 ⟨rfl, hb2⟩
             have Hx2 := Lib.hid (cb_besides H0.out hb2 (by have := Hb.out.size; omega))
             have Hbr := Lib.hid ((Besides.of w.heap.size Hb1.out).trans ((bs26 hb2).mono hzw))
             have hz2 : w.heap.size + 2 ≤ w2.heap.size := by have := Hbr.out.size; omega
             have Hst := Lib.hid hb2
             clear hb2)
          | (go_at_call 27; refine (answer_ok _).mono ?_
             rintro e w3 ⟨rfl, hb3⟩
             have Hx3 := Lib.hid (cb_below Hx2.out hb3)
             have Hbr3 := Lib.hid (Hbr.out.trans (Besides.of w.heap.size (hb3.mono Hbr.out.size)))
             have Hr3 := Lib.hid (row_besides Hrow.out (by omega) Hbr3.out)
             have hz3 : w.heap.size + 2 ≤ w3.heap.size := Nat.le_trans hz2 hb3.size
             have Hb3 := Lib.hid hb3
             clear hb3)
          | (refine step_append_lies _ (by rfl) _ _ _ (by rfl) (w.heap.size + 2) 9 i0 _ 1 16 Tryz.underlying40 hi hz0 hz1 hz2' rfl (by omega) u5 1 [sv (failedB 250 0)] (by rfl) (Hr3.out.alloc _) ⟨w3.heap.size, 0, none⟩ 1 1 [.string (⟨#[111, 107]⟩)] (by rfl) (by rfl) (cell_one_new _ _ _) (by simp [Value.oneCell'])
              (by omega) (by unfold maxLen; omega) (by omega) (by simp; omega) (w3.heap.size + 1) (by simp) ?_; intro gg cap w4 hown4 hgrow hat hlt4
             have Hx4 := Lib.hid (cb_grown Hx3.out hgrow (fun k hk => by have := (Hrow.out.lt k hk).2; omega))
             have Hg4 := Lib.hid hgrow
             have Ho4 := Lib.hid hown4
             clear hgrow hown4))
      have hrel : RunRel w (.int .i64 2) (.slice (some ⟨gg, 0, none⟩) 2 cap) w4 := run_next1 Hb.out Hrow.out Hr3.out Hbr3.out hz3 Hg4.out Ho4.out 
      have Hrel := Lib.hid hrel
      clear hrel
      go_wp2
      go_roundw
      case rel => exact Hrel.out
      case measure => simp [intOf]
    · clear hst a0 a1 hk
      go_wp2_with fail
      refine (parse_any (ba line2) _ (by decide) Hwr.out).mono ?_
      rintro e w1 ⟨rfl, hb1⟩
      rw [bl_ba, parse2]
      simp only [parseV, cmdV, zeroC, Option.getD_none, Option.isSome_none, sv, Bool.false_eq_true, if_false]
      have hzw := hb1.size
      have Hb1 := Lib.hid hb1
      clear hb1
      go_wp2_with fail
      refine (failed_any 60 0 i64_60 i64_0 _ ?hh).mono ?_
      case hh => exact (Hwr.out.of_below Hb1.out).of_below (below_blk _ _ _)
      rintro e w3 ⟨rfl, hb3⟩
      have Hb3 := Lib.hid (Hb1.out.trans ((wb26' hb3).mono hzw))
      have Hr3 := Lib.hid (row_below Hrow.out Hb3.out)
      have hz3 : w.heap.size + 2 ≤ w3.heap.size := Nat.le_trans hz Hb3.out.size
      clear hb3
      go_wp2_with (at_builtin; go_must (refine wpList_append_own _ rfl _ _ 40 rfl (w.heap.size + 2) 9 i0 (.string ⟨#[]⟩) 1 16 Tryz.underlying40 hi hz0 hz1 hz2' rfl (by decide) u5 2 [sv (failedB 250 0), sv [111, 107]] rfl (Hr3.out.alloc _) ⟨w3.heap.size, 0, none⟩ 1 1 [.string (ba (failedB 60 0))] rfl rfl ?c1 ?c2 ?c3 ?c4 ?c5 ?_))
      case c1 => exact cell_one_new _ _ _
      case c2 => intro u hu; rw [List.mem_singleton.1 hu]; rfl
      case c3 => unfold maxLen; omega
      case c4 => omega
      case c5 => simp; omega
      intro v' w4 hown4 hgrow _
      have Hrel := Lib.hid (run_next2 Hb.out Hr3.out Hb3.out hz3 hgrow hown4)
      clear hgrow hown4
      go_wp2
      go_roundw
      case rel => exact Hrel.out
      case measure => simp [intOf]
    · clear hst a0 a1 a2 hk
      go_wp2
      go_ret2
      exact ⟨_, rfl, Hb.out, Hrow.out⟩
end Go.Proofs.YtpgegfdiceamaaaGreatDoor
