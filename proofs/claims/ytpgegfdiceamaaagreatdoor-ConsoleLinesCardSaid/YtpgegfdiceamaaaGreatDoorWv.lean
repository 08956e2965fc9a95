/- The console's laws: part Wv. -/
import Derived.Test.YtpgegfdiceamaaaGreatDoorWu
namespace Go.Proofs.YtpgegfdiceamaaaGreatDoor
open Go.RowKit Cons

def farmC (s : Nat) : Array Value := #[.pointer (some ⟨s, 0, none⟩), .slice none 0 0, .int .i64 0, .slice none 0 0, .bool false]

/-- what stands in farm.write -/
structure Wr (w : World) (s : Nat) (A : Array Value) (w' : World) : Prop where
  cmd : w'.heap[w.heap.size]? = some (.cells A 26 (0, 0))
  ans : w'.heap[w.heap.size + 1]? = some (.cells ansZ 63 (0, 0))
  bes : Besides w.heap.size s w w'

theorem Wr.first (w : World) (s : Nat) (A : Array Value) : Wr w s A ((w.alloc (.cells A 26)).alloc (.cells ansZ 63)) := by
  refine ⟨?_, ?_, Besides.of s (((Below.refl _ w).alloc (Nat.le_refl _) _).alloc (by simp) _)⟩
  · rw [Below.heap_alloc _ _ _ (by simp)]; exact (Kp.first w A 26).1
  · have := (Kp.first (w.alloc (.cells A 26)) ansZ 63).1
    simpa using this

theorem Wr.drew {w w' : World} {s : Nat} {A : Array Value} (h : Wr w s A w') : Wr w s A w'.drew := ⟨h.cmd, h.ans, h.bes.trans (Besides.of s (Below.refl _ w').drew)⟩

theorem Wr.size {w w' : World} {s : Nat} {A : Array Value} (h : Wr w s A w') : w.heap.size + 1 < w'.heap.size := (Array.getElem?_eq_some_iff.1 h.ans).1

theorem Besides.mono {B B' s : Nat} {w w' : World} (h : Besides B s w w') (hB : B' ≤ B) : Besides B' s w w' := ⟨h.os, h.tape, h.output, h.size, fun k hk hn => h.block k (Nat.lt_of_lt_of_le hk hB) hn⟩

theorem Wr.besides {w w1 w2 : World} {s : Nat} {A : Array Value} (h : Wr w s A w1) (hs : s < w.heap.size) (hb : Besides w1.heap.size s w1 w2) : Wr w s A w2 := by
  have hz := h.size
  exact ⟨by rw [hb.block _ (by omega) (by omega)]; exact h.cmd, by rw [hb.block _ hz (by omega)]; exact h.ans, h.bes.trans (hb.mono (by omega))⟩

theorem besides_set1 {s : Nat} {w w1 : World} (h : Besides w.heap.size s w w1) (j : Nat) (u : Value) : Besides w.heap.size s w (w1.setCell ⟨w.heap.size + 1, j, none⟩ u) :=
  h.trans (Besides.of s ((Below.refl w.heap.size w1).setCell (p := ⟨w.heap.size + 1, j, none⟩) (Nat.le_succ _) u))

set_option maxHeartbeats 8000000 in
set_option maxRecDepth 100000 in
theorem write_AMod (f s : Nat) (op fuel words stack : Int) (text : ByteArray) (w : World) (ht : text.size ≤ 100) (hf : w.heap[f]? = some (.cells (farmC s) 84 (0, 0))) (hs : w.heap[s]? = some (.cells #[.map none] 101 (0, 0))) :
    Calls Tryz.prog 43 #[.pointer (some ⟨f, 0, none⟩), cmdA op fuel words stack ⟨#[65, 46, 77, 111, 100]⟩ text] w fun e w' => e = .returned (ansV 0 0) ∧ Besides w.heap.size s w w' := by
  have hlf := (Array.getElem?_eq_some_iff.1 hf).1
  have hls := (Array.getElem?_eq_some_iff.1 hs).1
  have c0 : w.cell? ⟨f, 0, none⟩ = some (.pointer (some ⟨s, 0, none⟩)) := by rw [Lib.cell_of_heap hf]; rfl
  have Hs := Lib.hid hs
  clear hf hs
  simp only [cmdA]
  go_enter Tryz.func43, Tryz.ntmps43
  go_wp2_with fail
  go_region_with (first
    | (go_at_call 60; refine (put_AMod s text _ ht ?hh).mono ?_; case hh => exact farm_cell Hs.out ((((Below.refl _ w).alloc (Nat.le_refl _) _).alloc (by simp) _).drew)
       rintro e w1 ⟨rfl, hb1⟩
       have hW1 := Lib.hid (((Wr.first w s #[.int .i64 op, .string ⟨#[65, 46, 77, 111, 100]⟩, .string text, .int .i64 fuel, .int .i64 words, .int .i64 stack]).drew).besides hls hb1)
       clear hb1)
    | (go_at_call 48; refine (refused_any 0 0 _).mono ?_
       rintro e w2 ⟨rfl, hb2⟩
       have hW2 := hW1.out.besides hls (Besides.of s hb2)
       have hz2 := hW2.size
       obtain ⟨c0', c1', c2', c3', c4', c5', c6', c7', c8', f0', f1', f2', f3', f4', f5', f6', f7', f8'⟩ := AnsBlk.of hW2.ans
       have Hb2 := Lib.hid hW2.bes
       clear hW2 hb2
       simp only [ansV]))
  all_goals
    go_wp2
    refine bodyPost_ret (v := ansV 0 0) (by simp [results, Tryz.results43, go_sem, ansV, *]) rfl ⟨rfl, ?_⟩
    (repeat refine besides_set1 ?_ _ _); exact Hb2.out
end Go.Proofs.YtpgegfdiceamaaaGreatDoor
