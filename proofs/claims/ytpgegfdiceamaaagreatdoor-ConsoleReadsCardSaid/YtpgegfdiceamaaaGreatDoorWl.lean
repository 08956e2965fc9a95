/- The console's laws: part Wl. -/
import Derived.Test.YtpgegfdiceamaaaGreatDoorWq
namespace Go.Proofs.YtpgegfdiceamaaaGreatDoor
open Go.RowKit Cons

def oLoad (s1 s2 s3 : ByteArray) : Option Cmd := (numberB (bl s2)).bind fun x => (numberB (bl s3)).bind fun y => if nameB (bl s1) then some ⟨4, bl s1, [], 0, x, y⟩ else none

theorem Laid.of_below {w w' : World} (h : Laid w) (hb : Below w.heap.size w w') : Laid w' := h.below hb h.room

/-- the command's block, after a store in it and a call -/
theorem blk_after2 {w w1 w3 : World} {b j : Nat} {c c' : Cmd} {v : Value} (hblk : w1.heap[b]? = some (.cells (cellsC c) 26 (0, 0))) (hc : (cellsC c).setIfInBounds j v = cellsC c') (hb : Below b w w1)
    (hb3 : Below (w1.setCell ⟨b, j, none⟩ v).heap.size (w1.setCell ⟨b, j, none⟩ v) w3) : w3.heap[b]? = some (.cells (cellsC c') 26 (0, 0)) ∧ Below b w w3 ∧ b < w3.heap.size := by
  have hlt : b < w1.heap.size := (Array.getElem?_eq_some_iff.1 hblk).1
  have e : (w1.setCell ⟨b, j, none⟩ v).heap.size = w1.heap.size := by simp
  have hz := hb3.size
  rw [e] at hb3 hz
  refine ⟨?_, (below_set hb j v).trans (hb3.mono (Nat.le_of_lt hlt)), by omega⟩
  rw [hb3.block b hlt, set_blk hblk v, hc]

theorem num_open (o : Option Nat) : ∃ (a : Nat) (p : Bool), optN o = .tuple #[.int .i64 (a : Int), .bool p] ∧ Hid (o = if p then some a else none) := by
  cases o with
  | none => exact ⟨0, false, rfl, Lib.hid rfl⟩
  | some n => exact ⟨n, true, rfl, Lib.hid rfl⟩

theorem bytes_open (o : Option B) : ∃ (x : B) (p : Bool), optT o = .tuple #[.string ⟨x.toArray⟩, .bool p] ∧ Hid (o = if p then some x else none) := by
  cases o with
  | none => exact ⟨[], false, rfl, Lib.hid rfl⟩
  | some n => exact ⟨n, true, rfl, Lib.hid rfl⟩

set_option maxHeartbeats 4000000 in
set_option maxRecDepth 100000 in
theorem parsed_load (g cap : Nat) (s0 s1 s2 s3 : ByteArray) (w : World) (hw : Laid w) (hg : g < w.heap.size) (h0 : w.cell? ⟨g, 0, none⟩ = some (.string s0)) (h1 : w.cell? ⟨g, 1, none⟩ = some (.string s1)) (h2 : w.cell? ⟨g, 2, none⟩ = some (.string s2)) (h3 : w.cell? ⟨g, 3, none⟩ = some (.string s3))
    (hs1 : s1.size ≤ 1000000) (hs2 : s2.size ≤ 1000000) (hs3 : s3.size ≤ 1000000) (e1 : (s0.toList == [119, 114, 105, 116, 101]) = false) (e2 : (s0.toList == [100, 101, 108, 101, 116, 101]) = false) (e3 : (s0.toList == [99, 111, 109, 112, 105, 108, 101]) = false) (e0 : (s0.toList == [108, 111, 97, 100]) = true) :
    Calls Tryz.prog 15 #[.slice (some ⟨g, 0, none⟩) 4 cap] w (PPost (oLoad s1 s2 s3) w) := by
  have Hw := Lib.hid hw
  clear hw
  go_enter Tryz.func15, Tryz.ntmps15
  go_wp2_with fail
  go_region
  go_wp2_with fail
  refine (number_any s2 _ hs2 (Hw.out.of_below (below_blk' _ _ _))).mono ?_
  rintro e w1 ⟨rfl, hb1⟩
  obtain ⟨hblk, hb, hz⟩ := blk_after hb1
  have r1 := row_kept hg h1 hb
  have r3 := row_kept hg h3 hb
  have H1 := Lib.hid h1
  have hblk' : w1.heap[w.heap.size]? = some (.cells (cellsC ⟨4, bl s1, [], 0, 0, 0⟩) 26 (0, 0)) := by rw [hblk]; simp [cellsC, sv, bl]
  obtain ⟨c0, c1, c2, c3, c4, c5, f0, f1, f2, f3, f4, f5⟩ := CmdBlk.of hblk'
  simp only [sv_bl, sv_nil] at c1 c2
  have Hb := Lib.hid hb
  have Hblk := Lib.hid hblk'
  clear hblk hblk' hb hb1 h0 h1 h2 h3
  obtain ⟨x, p, ep, Hp⟩ := num_open (numberB (bl s2))
  rw [ep]
  clear ep
  go_wp2_with fail
  refine (number_any s3 _ hs3 (Hw.out.of_below (below_set Hb.out _ _))).mono ?_
  rintro e w3 ⟨rfl, hb3⟩
  obtain ⟨hblk3, hb3, hz3⟩ := blk_after2 (c' := ⟨4, bl s1, [], 0, x, 0⟩) Hblk.out rfl Hb.out hb3
  obtain ⟨y, q, eq, Hq⟩ := num_open (numberB (bl s3))
  rw [eq]
  have r1' := row_kept hg H1.out hb3
  clear eq c0 c1 c2 c3 c4 c5 f0 f1 f2 f3 f4 f5
  obtain ⟨c0, c1, c2, c3, c4, c5, f0, f1, f2, f3, f4, f5⟩ := CmdBlk.of hblk3
  simp only [sv_bl, sv_nil] at c1 c2
  have Hb3 := Lib.hid hb3
  have Hblk3 := Lib.hid hblk3
  clear hblk3 hb3
  cases p with
  | false =>
    have Ho := Lib.hid (show oLoad s1 s2 s3 = none by unfold oLoad; rw [Hp.out]; rfl)
    go_wp2
    refine bodyPost_ret (v := .tuple #[cmdV ⟨4, bl s1, [], 0, x, y⟩, .bool false]) (by simp [results, Tryz.results15, go_sem, cmdV, sv, bl, *]) rfl (PPost.no _ Ho.out ?_)
    (repeat refine below_set ?_ _ _); exact Hb3.out
  | true =>
    cases q with
    | false =>
      have Ho := Lib.hid (show oLoad s1 s2 s3 = none by unfold oLoad; rw [Hp.out, Hq.out]; rfl)
      go_wp2
      refine bodyPost_ret (v := .tuple #[cmdV ⟨4, bl s1, [], 0, x, y⟩, .bool false]) (by simp [results, Tryz.results15, go_sem, cmdV, sv, bl, *]) rfl (PPost.no _ Ho.out ?_)
      (repeat refine below_set ?_ _ _); exact Hb3.out
    | true =>
      go_wp2_with fail
      refine (storeName_any s1 _ hs1).mono ?_
      rintro e w2 ⟨rfl, hw2⟩
      have hblk2 : w2.heap[w.heap.size]? = some (.cells (cellsC ⟨4, bl s1, [], 0, x, y⟩) 26 (0, 0)) := by
        rw [← hw2, set_blk (set_blk Hblk3.out _) _]; simp [cellsC, sv, bl]
      have hb2 : Below w.heap.size w w2 := by
        rw [← hw2]; exact below_set (below_set Hb3.out _ _) _ _
      clear hw2 c0 c1 c2 c3 c4 c5 f0 f1 f2 f3 f4 f5
      obtain ⟨c0, c1, c2, c3, c4, c5, f0, f1, f2, f3, f4, f5⟩ := CmdBlk.of hblk2
      simp only [sv_bl, sv_nil] at c1 c2
      have Hb2 := Lib.hid hb2
      clear hblk2 hb2
      cases hn : nameB (bl s1) with
      | false =>
        have Ho := Lib.hid (show oLoad s1 s2 s3 = none by unfold oLoad; rw [Hp.out, Hq.out]; simp [hn])
        clear hn
        go_wp2
        refine bodyPost_ret (v := .tuple #[cmdV ⟨4, bl s1, [], 0, x, y⟩, .bool false]) (by simp [results, Tryz.results15, go_sem, cmdV, sv, bl, *]) rfl (PPost.no _ Ho.out ?_)
        (repeat refine below_set ?_ _ _); exact Hb2.out
      | true =>
        have Ho := Lib.hid (show oLoad s1 s2 s3 = some ⟨4, bl s1, [], 0, x, y⟩ by unfold oLoad; rw [Hp.out, Hq.out]; simp [hn])
        clear hn
        go_wp2
        refine bodyPost_ret (v := .tuple #[cmdV ⟨4, bl s1, [], 0, x, y⟩, .bool true]) (by simp [results, Tryz.results15, go_sem, cmdV, sv, bl, *]) rfl (PPost.yes _ Ho.out ?_)
        (repeat refine below_set ?_ _ _); exact Hb2.out

theorem blk_after0 {w w1 : World} {cs : Array Value} {T : TypeId} (hb1 : Below (w.alloc (.cells cs T)).heap.size (w.alloc (.cells cs T)) w1) :
    w1.heap[w.heap.size]? = some (.cells cs T (0, 0)) ∧ Below w.heap.size w w1 ∧ w.heap.size < w1.heap.size :=
  blk_after (w := w) (w1 := w1) (cs := cs) (T := T) ⟨hb1.os, hb1.tape, hb1.output, hb1.size, hb1.block⟩

def oRun (s1 s2 : ByteArray) : Option Cmd := (numberB (bl s1)).bind fun f => (bytesB (bl s2)).bind fun x => some ⟨5, [], x, f, 0, 0⟩

set_option maxHeartbeats 4000000 in
set_option maxRecDepth 100000 in
theorem parsed_run (g cap : Nat) (s0 s1 s2 : ByteArray) (w : World) (hw : Laid w) (hg : g < w.heap.size) (h0 : w.cell? ⟨g, 0, none⟩ = some (.string s0)) (h1 : w.cell? ⟨g, 1, none⟩ = some (.string s1)) (h2 : w.cell? ⟨g, 2, none⟩ = some (.string s2))
    (hs1 : s1.size ≤ 1000000) (hs2 : s2.size ≤ 1000000) (e1 : (s0.toList == [119, 114, 105, 116, 101]) = false) (e2 : (s0.toList == [100, 101, 108, 101, 116, 101]) = false) (e3 : (s0.toList == [99, 111, 109, 112, 105, 108, 101]) = false) (e4 : (s0.toList == [108, 111, 97, 100]) = false) (e0 : (s0.toList == [114, 117, 110]) = true) :
    Calls Tryz.prog 15 #[.slice (some ⟨g, 0, none⟩) 3 cap] w (PPost (oRun s1 s2) w) := by
  have Hw := Lib.hid hw
  clear hw
  go_enter Tryz.func15, Tryz.ntmps15
  go_wp2_with fail
  refine (number_any s1 _ hs1 (Hw.out.of_below (below_blk _ _ _))).mono ?_
  rintro e w1 ⟨rfl, hb1⟩
  obtain ⟨hblk, hb, hz⟩ := blk_after0 hb1
  have r2 := row_kept hg h2 hb
  have hblk' : w1.heap[w.heap.size]? = some (.cells (cellsC ⟨5, [], [], 0, 0, 0⟩) 26 (0, 0)) := by rw [hblk]; simp [cellsC, sv]
  obtain ⟨c0, c1, c2, c3, c4, c5, f0, f1, f2, f3, f4, f5⟩ := CmdBlk.of hblk'
  simp only [sv_nil] at c1 c2
  have Hb := Lib.hid hb
  have Hblk := Lib.hid hblk'
  clear hblk hblk' hb hb1 h0 h1 h2
  obtain ⟨x, p, ep, Hp⟩ := num_open (numberB (bl s1))
  rw [ep]
  clear ep
  go_wp2_with fail
  refine (bytes_any s2 _ hs2).mono ?_
  rintro e w3 ⟨rfl, hb3⟩
  obtain ⟨hblk3, hb3, hz3⟩ := blk_after2 (c' := ⟨5, [], [], x, 0, 0⟩) Hblk.out rfl Hb.out hb3
  obtain ⟨y, q, eq, Hq⟩ := bytes_open (bytesB (bl s2))
  rw [eq]
  clear eq c0 c1 c2 c3 c4 c5 f0 f1 f2 f3 f4 f5
  obtain ⟨c0, c1, c2, c3, c4, c5, f0, f1, f2, f3, f4, f5⟩ := CmdBlk.of hblk3
  simp only [sv_nil] at c1 c2
  have Hb3 := Lib.hid hb3
  have Hblk3 := Lib.hid hblk3
  clear hblk3 hb3
  cases p with
  | false =>
    have Ho := Lib.hid (show oRun s1 s2 = none by unfold oRun; rw [Hp.out]; rfl)
    go_wp2
    refine bodyPost_ret (v := .tuple #[cmdV ⟨5, [], y, x, 0, 0⟩, .bool false]) (by simp [results, Tryz.results15, go_sem, cmdV, sv, *]) rfl (PPost.no _ Ho.out ?_)
    (repeat refine below_set ?_ _ _); exact Hb3.out
  | true =>
    cases q with
    | false =>
      have Ho := Lib.hid (show oRun s1 s2 = none by unfold oRun; rw [Hp.out, Hq.out]; rfl)
      go_wp2
      refine bodyPost_ret (v := .tuple #[cmdV ⟨5, [], y, x, 0, 0⟩, .bool false]) (by simp [results, Tryz.results15, go_sem, cmdV, sv, *]) rfl (PPost.no _ Ho.out ?_)
      (repeat refine below_set ?_ _ _); exact Hb3.out
    | true =>
      have Ho := Lib.hid (show oRun s1 s2 = some ⟨5, [], y, x, 0, 0⟩ by unfold oRun; rw [Hp.out, Hq.out]; rfl)
      go_wp2
      refine bodyPost_ret (v := .tuple #[cmdV ⟨5, [], y, x, 0, 0⟩, .bool true]) (by simp [results, Tryz.results15, go_sem, cmdV, sv, *]) rfl (PPost.yes _ Ho.out ?_)
      (repeat refine below_set ?_ _ _); exact Hb3.out
end Go.Proofs.YtpgegfdiceamaaaGreatDoor
