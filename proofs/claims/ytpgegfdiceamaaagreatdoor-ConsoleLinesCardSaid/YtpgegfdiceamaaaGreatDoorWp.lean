/- The console's laws: part Wp. -/
import Derived.Test.YtpgegfdiceamaaaGreatDoorWm
import Derived.Test.YtpgegfdiceamaaaGreatDoorWw
import Derived.RegionTactic
import Derived.ChangeAlike
import Derived.BigRegion
namespace Go.Proofs.YtpgegfdiceamaaaGreatDoor
open Go.RowKit Cons

/-- a command's value -/
def cmdV (c : Cmd) : Value := .agg #[.int .i64 c.op, sv c.name, sv c.text, .int .i64 c.fuel, .int .i64 c.words, .int .i64 c.stack]

/-- a command, or that there is none -/
def PPost (o : Option Cmd) (w : World) (e : Ending) (w' : World) : Prop :=
  ∃ (c : Cmd) (ok : Bool), e = .returned (.tuple #[cmdV c, .bool ok]) ∧ o = (if ok then some c else none) ∧ Below w.heap.size w w'

theorem PPost.no {o : Option Cmd} {w w' : World} (c : Cmd) (ho : o = none) (hb : Below w.heap.size w w') : PPost o w (.returned (.tuple #[cmdV c, .bool false])) w' :=
  ⟨c, false, rfl, by rw [ho]; rfl, hb⟩

theorem PPost.yes {o : Option Cmd} {w w' : World} (c : Cmd) (ho : o = some c) (hb : Below w.heap.size w w') : PPost o w (.returned (.tuple #[cmdV c, .bool true])) w' :=
  ⟨c, true, rfl, by rw [ho]; rfl, hb⟩

theorem below_set {B : Nat} {w w1 : World} (h : Below B w w1) (j : Nat) (u : Value) : Below B w (w1.setCell ⟨B, j, none⟩ u) := h.setCell (p := ⟨B, j, none⟩) (Nat.le_refl _) u

set_option maxHeartbeats 1000000 in
set_option maxRecDepth 100000 in
theorem parsed_other (g n cap : Nat) (s0 : ByteArray) (w : World) (hn : 0 < n) (hg : g < w.heap.size) (h0 : w.cell? ⟨g, 0, none⟩ = some (.string s0))
    (h1 : (s0.toList == sWrite) = false) (h2 : (s0.toList == sDelete) = false) (h3 : (s0.toList == sCompile) = false) (h4 : (s0.toList == sLoad) = false) (h5 : (s0.toList == sRun) = false) :
    Calls Tryz.prog 15 #[.slice (some ⟨g, 0, none⟩) n cap] w fun e w' => e = .returned (.tuple #[cmdV zeroC, .bool false]) ∧ Below w.heap.size w w' := by
  unfold sWrite at h1; unfold sDelete at h2; unfold sCompile at h3; unfold sLoad at h4; unfold sRun at h5
  go_enter Tryz.func15, Tryz.ntmps15
  go_wp2
  all_goals exact bodyPost_ret (v := .tuple #[cmdV zeroC, .bool false]) (by simp [results, Tryz.results15, go_sem, cmdV, zeroC, sv]) rfl ⟨rfl, (Below.refl _ w).alloc (Nat.le_refl _) _⟩

/-- the words' row, after new blocks -/
theorem row_kept {w w1 : World} {g i : Nat} {s : ByteArray} (hg : g < w.heap.size) (h : w.cell? ⟨g, i, none⟩ = some (.string s)) (hb : Below w.heap.size w w1) : w1.cell? ⟨g, i, none⟩ = some (.string s) := by
  rw [hb.cell (p := ⟨g, i, none⟩) hg]; exact h

/-- the command's block, after a call that makes memory alone -/
theorem blk_after {w w1 : World} {cs : Array Value} {T : TypeId} (hb1 : Below (w.alloc (.cells cs T)).drew.heap.size (w.alloc (.cells cs T)).drew w1) :
    w1.heap[w.heap.size]? = some (.cells cs T (0, 0)) ∧ Below w.heap.size w w1 ∧ w.heap.size < w1.heap.size := by
  have e : (w.alloc (.cells cs T)).drew.heap.size = w.heap.size + 1 := by simp
  have hz := hb1.size
  rw [e] at hb1 hz
  refine ⟨?_, ?_, by omega⟩
  · rw [hb1.block _ (Nat.lt_succ_self _)]
    show (w.heap.push (.cells cs T (0, 0)))[w.heap.size]? = _
    simp
  · exact (((Below.refl _ w).alloc (Nat.le_refl _) (.cells cs T)).drew).trans (hb1.mono (Nat.le_succ _))

theorem set_blk {w : World} {b j : Nat} {cs : Array Value} {T : TypeId} {fz : Nat × Nat} (h : w.heap[b]? = some (.cells cs T fz)) (v : Value) :
    (w.setCell ⟨b, j, none⟩ v).heap[b]? = some (.cells (cs.setIfInBounds j v) T fz) := by
  simp [World.setCell, Array.getElem?_modify, h]

/-- a command's block: its six cells -/
structure CmdBlk (w : World) (b : Nat) (c : Cmd) : Prop where
  c0 : w.cell? ⟨b, 0, none⟩ = some (.int .i64 c.op)
  c1 : w.cell? ⟨b, 1, none⟩ = some (sv c.name)
  c2 : w.cell? ⟨b, 2, none⟩ = some (sv c.text)
  c3 : w.cell? ⟨b, 3, none⟩ = some (.int .i64 c.fuel)
  c4 : w.cell? ⟨b, 4, none⟩ = some (.int .i64 c.words)
  c5 : w.cell? ⟨b, 5, none⟩ = some (.int .i64 c.stack)
  f0 : w.frozen? ⟨b, 0, none⟩ = false
  f1 : w.frozen? ⟨b, 1, none⟩ = false
  f2 : w.frozen? ⟨b, 2, none⟩ = false
  f3 : w.frozen? ⟨b, 3, none⟩ = false
  f4 : w.frozen? ⟨b, 4, none⟩ = false
  f5 : w.frozen? ⟨b, 5, none⟩ = false

def cellsC (c : Cmd) : Array Value := #[.int .i64 c.op, sv c.name, sv c.text, .int .i64 c.fuel, .int .i64 c.words, .int .i64 c.stack]

theorem CmdBlk.of {w : World} {b : Nat} {c : Cmd} (h : w.heap[b]? = some (.cells (cellsC c) 26 (0, 0))) : CmdBlk w b c :=
  ⟨by rw [Lib.cell_of_heap h]; rfl, by rw [Lib.cell_of_heap h]; rfl, by rw [Lib.cell_of_heap h]; rfl, by rw [Lib.cell_of_heap h]; rfl, by rw [Lib.cell_of_heap h]; rfl, by rw [Lib.cell_of_heap h]; rfl,
   Lib.frozen_of_heap h 0, Lib.frozen_of_heap h 1, Lib.frozen_of_heap h 2, Lib.frozen_of_heap h 3, Lib.frozen_of_heap h 4, Lib.frozen_of_heap h 5⟩

def oWrite (s1 s2 : ByteArray) : Option Cmd := (bytesB (bl s2)).bind fun x => if nameB (bl s1) then some ⟨1, bl s1, x, 0, 0, 0⟩ else none

/-- behind the last call: the command is handed back as it stands in its block -/
theorem sv_nil : sv [] = .string ⟨#[]⟩ := rfl

set_option maxHeartbeats 2000000 in
set_option maxRecDepth 100000 in
theorem parsed_write (g cap : Nat) (s0 s1 s2 : ByteArray) (w : World) (hg : g < w.heap.size) (h0 : w.cell? ⟨g, 0, none⟩ = some (.string s0)) (h1 : w.cell? ⟨g, 1, none⟩ = some (.string s1)) (h2 : w.cell? ⟨g, 2, none⟩ = some (.string s2))
    (hs1 : s1.size ≤ 1000000) (hs2 : s2.size ≤ 1000000) (e0 : (s0.toList == [119, 114, 105, 116, 101]) = true) :
    Calls Tryz.prog 15 #[.slice (some ⟨g, 0, none⟩) 3 cap] w (PPost (oWrite s1 s2) w) := by
  go_enter Tryz.func15, Tryz.ntmps15
  go_wp2_with fail
  go_region
  go_wp2_with fail
  refine (bytes_any s2 _ hs2).mono ?_
  rintro e w1 ⟨rfl, hb1⟩
  obtain ⟨hblk, hb, hz⟩ := blk_after hb1
  have r1 := row_kept hg h1 hb
  have hblk' : w1.heap[w.heap.size]? = some (.cells (cellsC ⟨1, bl s1, [], 0, 0, 0⟩) 26 (0, 0)) := by rw [hblk]; simp [cellsC, sv, bl]
  obtain ⟨c0, c1, c2, c3, c4, c5, f0, f1, f2, f3, f4, f5⟩ := CmdBlk.of hblk'
  simp only [sv_bl, sv_nil] at c1 c2
  have Hb := Lib.hid hb
  have Hblk := Lib.hid hblk'
  clear hblk hblk' hb hb1 h0 h1 h2
  cases hx : bytesB (bl s2) with
  | none =>
    have Ho := Lib.hid (show oWrite s1 s2 = none by unfold oWrite; rw [hx]; rfl)
    clear hx
    simp only [optT, Option.getD_none, Option.isSome_none, sv]
    go_wp2
    refine bodyPost_ret (v := .tuple #[cmdV ⟨1, bl s1, [], 0, 0, 0⟩, .bool false]) (by simp [results, Tryz.results15, go_sem, cmdV, sv, bl, *]) rfl (PPost.no _ Ho.out ?_)
    (repeat refine below_set ?_ _ _); exact Hb.out
  | some x =>
    have Hx := Lib.hid hx
    clear hx
    simp only [optT, Option.getD_some, Option.isSome_some, sv]
    go_wp2_with fail
    refine (storeName_any s1 _ hs1).mono ?_
    rintro e w2 ⟨rfl, hw2⟩
    have hblk2 : w2.heap[w.heap.size]? = some (.cells (cellsC ⟨1, bl s1, x, 0, 0, 0⟩) 26 (0, 0)) := by
      rw [← hw2, set_blk (set_blk Hblk.out _) _]; simp [cellsC, sv, bl]
    have hb2 : Below w.heap.size w w2 := by
      rw [← hw2]; exact below_set (below_set Hb.out _ _) _ _
    clear hw2 c0 c1 c2 c3 c4 c5 f0 f1 f2 f3 f4 f5
    obtain ⟨c0, c1, c2, c3, c4, c5, f0, f1, f2, f3, f4, f5⟩ := CmdBlk.of hblk2
    have Hb2 := Lib.hid hb2
    clear hblk2 hb2
    simp only [sv_bl] at c1
    simp only [sv] at c2
    cases hn : nameB (bl s1) with
    | false =>
      have Ho := Lib.hid (show oWrite s1 s2 = none by unfold oWrite; rw [Hx.out, Option.bind_some, hn]; rfl)
      clear hn
      go_wp2
      refine bodyPost_ret (v := .tuple #[cmdV ⟨1, bl s1, x, 0, 0, 0⟩, .bool false]) (by simp [results, Tryz.results15, go_sem, cmdV, sv, bl, *]) rfl (PPost.no _ Ho.out ?_)
      (repeat refine below_set ?_ _ _); exact Hb2.out
    | true =>
      have Ho := Lib.hid (show oWrite s1 s2 = some ⟨1, bl s1, x, 0, 0, 0⟩ by unfold oWrite; rw [Hx.out, Option.bind_some, hn]; rfl)
      clear hn
      go_wp2
      refine bodyPost_ret (v := .tuple #[cmdV ⟨1, bl s1, x, 0, 0, 0⟩, .bool true]) (by simp [results, Tryz.results15, go_sem, cmdV, sv, bl, *]) rfl (PPost.yes _ Ho.out ?_)
      (repeat refine below_set ?_ _ _); exact Hb2.out
end Go.Proofs.YtpgegfdiceamaaaGreatDoor
