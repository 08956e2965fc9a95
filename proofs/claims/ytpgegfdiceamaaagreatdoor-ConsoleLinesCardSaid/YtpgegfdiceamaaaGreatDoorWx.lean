/- The console's laws: part Wx. -/
import Derived.Test.YtpgegfdiceamaaaGreatDoorWv
namespace Go.Proofs.YtpgegfdiceamaaaGreatDoor
open Go.RowKit Cons

theorem three_besides (w : World) (A : Obj) (cs : Array Value) (T : TypeId) (M : Obj) {s : Nat} (hs : s < w.heap.size) {w1 : World} (hb : Besides (((w.alloc A).alloc (.cells cs T)).alloc M).heap.size s (((w.alloc A).alloc (.cells cs T)).alloc M) w1) :
    w1.heap[w.heap.size + 1]? = some (.cells cs T (0, 0)) ∧ Besides w.heap.size s w w1 ∧ w.heap.size + 1 < w1.heap.size := by
  have e : (((w.alloc A).alloc (.cells cs T)).alloc M).heap.size = w.heap.size + 1 + 1 + 1 := by simp
  have hz := hb.size
  rw [e] at hb hz
  refine ⟨?_, ?_, by omega⟩
  · rw [hb.block _ (by omega) (by omega), Below.heap_alloc _ _ _ (by simp)]
    have := (Kp.first (w.alloc A) cs T).1
    simpa using this
  · exact (Besides.of s (three_below w A (.cells cs T) M)).trans (hb.mono (by omega))

set_option maxHeartbeats 1000000 in
set_option maxRecDepth 100000 in
theorem do_write (f s : Nat) (fuel words stack : Int) (text : ByteArray) (w : World) (ht : text.size ≤ 100) (hf : w.heap[f]? = some (.cells (farmC s) 84 (0, 0))) (hs : w.heap[s]? = some (.cells #[.map none] 101 (0, 0))) :
    Calls Tryz.prog 28 #[.pointer (some ⟨f, 0, none⟩), cmdA 1 fuel words stack ⟨#[65, 46, 77, 111, 100]⟩ text] w fun e w' => e = .returned (ansV 0 0) ∧ Besides w.heap.size s w w' := by
  have hmm := @run_makeMap Tryz.prog
  have i1 := fun A C => ins w A C #[] 0 1 (.func (Fn.func 43) #[] #[]) rfl
  have i2 := fun A C => ins w A C #[{ key := .int .i64 1, val := .func (Fn.func 43) #[] #[], born := 0 }] 1 2 (.func (Fn.func 44) #[] #[]) rfl
  have i3 := fun A C => ins w A C #[{ key := .int .i64 1, val := .func (Fn.func 43) #[] #[], born := 0 }, { key := .int .i64 2, val := .func (Fn.func 44) #[] #[], born := 1 }] 2 3 (.func (Fn.func 45) #[] #[]) rfl
  have i4 := fun A C => ins w A C #[{ key := .int .i64 1, val := .func (Fn.func 43) #[] #[], born := 0 }, { key := .int .i64 2, val := .func (Fn.func 44) #[] #[], born := 1 }, { key := .int .i64 3, val := .func (Fn.func 45) #[] #[], born := 2 }] 3 4 (.func (Fn.func 46) #[] #[]) rfl
  have i5 := fun A C => ins w A C #[{ key := .int .i64 1, val := .func (Fn.func 43) #[] #[], born := 0 }, { key := .int .i64 2, val := .func (Fn.func 44) #[] #[], born := 1 }, { key := .int .i64 3, val := .func (Fn.func 45) #[] #[], born := 2 }, { key := .int .i64 4, val := .func (Fn.func 46) #[] #[], born := 3 }] 4 5 (.func (Fn.func 47) #[] #[]) rfl
  have l1 := fun A C => look w A C #[{ key := .int .i64 1, val := .func (Fn.func 43) #[] #[], born := 0 }, { key := .int .i64 2, val := .func (Fn.func 44) #[] #[], born := 1 }, { key := .int .i64 3, val := .func (Fn.func 45) #[] #[], born := 2 }, { key := .int .i64 4, val := .func (Fn.func 46) #[] #[], born := 3 }, { key := .int .i64 5, val := .func (Fn.func 47) #[] #[], born := 4 }] 5 1 0 (.func (Fn.func 43) #[] #[]) rfl
  simp only [List.push_toArray, List.cons_append, List.nil_append] at i1 i2 i3 i4 i5
  simp only [cmdA]
  have hls := (Array.getElem?_eq_some_iff.1 hs).1
  have Hf := Lib.hid hf
  have Hs := Lib.hid hs
  clear hf hs
  go_enter Tryz.func28, Tryz.ntmps28
  go_wp2_with fail
  refine (write_AMod f s 1 fuel words stack text _ ht ?h1 ?h2).mono ?_
  case h1 => exact farm_cell Hf.out (three_below w _ _ _)
  case h2 => exact farm_cell Hs.out (three_below w _ _ _)
  rintro e w1 ⟨rfl, hb1⟩
  obtain ⟨hk1, hb, hz⟩ := three_besides w _ ansZ 63 _ hls hb1
  obtain ⟨c0, c1, c2, c3, c4, c5, c6, c7, c8, f0, f1, f2, f3, f4, f5, f6, f7, f8⟩ := AnsBlk.of hk1
  have Hb := Lib.hid hb
  clear hk1 hb hb1 i1 i2 i3 i4 i5 l1 hmm
  simp only [ansV]
  go_wp2
  refine bodyPost_ret (v := ansV 0 0) (by simp [results, Tryz.results28, go_sem, ansV, *]) rfl ⟨rfl, ?_⟩
  (repeat refine besides_set1 ?_ _ _); exact Hb.out
end Go.Proofs.YtpgegfdiceamaaaGreatDoor
