/- The console's laws: part Wf. -/
import Derived.Test.YtpgegfdiceamaaaGreatDoorWj
import Derived.MapKept
namespace Go.Proofs.YtpgegfdiceamaaaGreatDoor
open Go.RowKit Cons

theorem under92 : Tryz.prog.underlying 92 = some (.map 3 90) := Tryz.underlying92

theorem set_last (h : Array Obj) (a b : Obj) : (h.push a).setIfInBounds h.size b = h.push b := by
  apply Array.ext_getElem?
  intro i
  rw [Array.getElem?_setIfInBounds, Array.getElem?_push, Array.getElem?_push]
  by_cases e : h.size = i
  · subst e; simp
  · have e' : ¬ i = h.size := fun q => e q.symm
    simp [e, e']

theorem set_last2 {h : Array Obj} {n : Nat} (hn : n = h.size) (a b : Obj) : (h.push a).setIfInBounds n b = h.push b := by subst hn; exact set_last h a b

theorem ins (w : World) (A C : Obj) (es : Array MapEntry) (c : Nat) (k : Int) (v : Value) (hf : Instr.findNow (.int .i64) (.int .i64 k) es.toList 0 = some none) :
    (Instr.mapUpdate 92 (.map (some (w.heap.size + 1 + 1))) (.int .i64 k) v).run Tryz.prog (((w.alloc A).alloc C).alloc (.map es c)) = .ok () (((w.alloc A).alloc C).alloc (.map (es.push { key := .int .i64 k, val := v, born := c }) (c + 1))) := by
  have hb : (((w.alloc A).alloc C).alloc (.map es c)).heap[w.heap.size + 1 + 1]? = some (.map es c) := by
    show (((w.heap.push _).push _).push (Obj.map es c))[w.heap.size + 1 + 1]? = _
    rw [Array.getElem?_push, if_pos (by simp)]
  have hc : (Instr.checkKey false 10000 3 (.int .i64 k)).run Tryz.prog (((w.alloc A).alloc C).alloc (.map es c)) = .ok () (((w.alloc A).alloc C).alloc (.map es c)) := MapKept.run_checkKey (k := .int .i64 k) Tryz.underlying3 (by simp [MapKept.IsKey]) false 9999
  simp [Instr.mapUpdate, run_underlying under92, MapKept.run_getObj_map hb, hc, MapKept.run_findKey Tryz.underlying3 hf, MapKept.run_setObj_map _ hb, Result.andThen]
  exact congrArg (fun hp => ({ (w.alloc A).alloc C with heap := hp } : World)) (set_last2 (by simp) (Obj.map es c) _)

theorem look (w : World) (A C : Obj) (es : Array MapEntry) (c : Nat) (k : Int) (i : Nat) (v : Value) (hf : Instr.findNow (.int .i64) (.int .i64 k) es.toList 0 = some (some (i, v))) :
    (Instr.lookup 92 (.map (some (w.heap.size + 1 + 1))) (.int .i64 k) true).run Tryz.prog (((w.alloc A).alloc C).alloc (.map es c)) = .ok (.tuple #[v, .bool true]) (((w.alloc A).alloc C).alloc (.map es c)) := by
  have hb : (((w.alloc A).alloc C).alloc (.map es c)).heap[w.heap.size + 1 + 1]? = some (.map es c) := by
    show (((w.heap.push _).push _).push (Obj.map es c))[w.heap.size + 1 + 1]? = _
    rw [Array.getElem?_push, if_pos (by simp)]
  have hc : ∀ b, (Instr.checkKey b 10000 3 (.int .i64 k)).run Tryz.prog (((w.alloc A).alloc C).alloc (.map es c)) = .ok () (((w.alloc A).alloc C).alloc (.map es c)) := fun b => MapKept.run_checkKey (k := .int .i64 k) Tryz.underlying3 (by simp [MapKept.IsKey]) b 9999
  simp [Instr.lookup, run_underlying under92, MapKept.run_getObj_map hb, hc, MapKept.run_findKey Tryz.underlying3 hf, Result.andThen]

/-- an answer that is a fault -/
def ansV (code at_ : Int) : Value := .agg #[.int .i64 code, .int .i64 at_, .int .u32 0, .slice none 0 0, .int .i64 0, .int .i64 0, .string ⟨#[]⟩, .int .i64 0, .int .i64 0]

set_option maxHeartbeats 1000000 in
set_option maxRecDepth 100000 in
theorem refused_any (code at_ : Int) (w : World) : Calls Tryz.prog 48 #[.int .i64 code, .int .i64 at_] w fun e w' => e = .returned (ansV code at_) ∧ Below w.heap.size w w' := by
  go_enter Tryz.func48, Tryz.ntmps48
  go_wp2
  refine bodyPost_ret (v := ansV code at_) (by simp [results, Tryz.results48, go_sem, ansV]) rfl ⟨rfl, ?_⟩
  exact below_blk _ _ _

/-- an answer's block, before anything is stored there -/
structure AnsBlk (w : World) (b : Nat) : Prop where
  c0 : w.cell? ⟨b, 0, none⟩ = some (.int .i64 0)
  c1 : w.cell? ⟨b, 1, none⟩ = some (.int .i64 0)
  c2 : w.cell? ⟨b, 2, none⟩ = some (.int .u32 0)
  c3 : w.cell? ⟨b, 3, none⟩ = some (.slice none 0 0)
  c4 : w.cell? ⟨b, 4, none⟩ = some (.int .i64 0)
  c5 : w.cell? ⟨b, 5, none⟩ = some (.int .i64 0)
  c6 : w.cell? ⟨b, 6, none⟩ = some (.string ⟨#[]⟩)
  c7 : w.cell? ⟨b, 7, none⟩ = some (.int .i64 0)
  c8 : w.cell? ⟨b, 8, none⟩ = some (.int .i64 0)
  f0 : w.frozen? ⟨b, 0, none⟩ = false
  f1 : w.frozen? ⟨b, 1, none⟩ = false
  f2 : w.frozen? ⟨b, 2, none⟩ = false
  f3 : w.frozen? ⟨b, 3, none⟩ = false
  f4 : w.frozen? ⟨b, 4, none⟩ = false
  f5 : w.frozen? ⟨b, 5, none⟩ = false
  f6 : w.frozen? ⟨b, 6, none⟩ = false
  f7 : w.frozen? ⟨b, 7, none⟩ = false
  f8 : w.frozen? ⟨b, 8, none⟩ = false

def ansZ : Array Value := #[.int .i64 0, .int .i64 0, .int .u32 0, .slice none 0 0, .int .i64 0, .int .i64 0, .string ⟨#[]⟩, .int .i64 0, .int .i64 0]

theorem AnsBlk.of {w : World} {b : Nat} (h : w.heap[b]? = some (.cells ansZ 63 (0, 0))) : AnsBlk w b :=
  ⟨by rw [Lib.cell_of_heap h]; rfl, by rw [Lib.cell_of_heap h]; rfl, by rw [Lib.cell_of_heap h]; rfl, by rw [Lib.cell_of_heap h]; rfl, by rw [Lib.cell_of_heap h]; rfl, by rw [Lib.cell_of_heap h]; rfl, by rw [Lib.cell_of_heap h]; rfl, by rw [Lib.cell_of_heap h]; rfl, by rw [Lib.cell_of_heap h]; rfl, Lib.frozen_of_heap h 0, Lib.frozen_of_heap h 1, Lib.frozen_of_heap h 2, Lib.frozen_of_heap h 3, Lib.frozen_of_heap h 4, Lib.frozen_of_heap h 5, Lib.frozen_of_heap h 6, Lib.frozen_of_heap h 7, Lib.frozen_of_heap h 8⟩

theorem below_set1 {w w1 : World} (h : Below w.heap.size w w1) (j : Nat) (u : Value) : Below w.heap.size w (w1.setCell ⟨w.heap.size + 1, j, none⟩ u) := h.setCell (p := ⟨w.heap.size + 1, j, none⟩) (Nat.le_succ _) u

theorem three_below (w : World) (A C M : Obj) : Below w.heap.size w (((w.alloc A).alloc C).alloc M) := (((Below.refl _ w).alloc (Nat.le_refl _) _).alloc (by simp) _).alloc (by simp; omega) _

theorem three_blk (w : World) (A : Obj) (cs : Array Value) (T : TypeId) (M : Obj) {w1 : World} (hb : Below (((w.alloc A).alloc (.cells cs T)).alloc M).heap.size (((w.alloc A).alloc (.cells cs T)).alloc M) w1) :
    w1.heap[w.heap.size + 1]? = some (.cells cs T (0, 0)) ∧ Below w.heap.size w w1 ∧ w.heap.size + 1 < w1.heap.size := by
  have e : (((w.alloc A).alloc (.cells cs T)).alloc M).heap.size = w.heap.size + 1 + 1 + 1 := by simp
  have hz := hb.size
  rw [e] at hb hz
  refine ⟨?_, ?_, by omega⟩
  · rw [hb.block _ (by omega), Below.heap_alloc _ _ _ (by simp)]
    have := (Kp.first (w.alloc A) cs T).1
    simpa using this
  · have h0 : Below w.heap.size w (((w.alloc A).alloc (.cells cs T)).alloc M) := (((Below.refl _ w).alloc (Nat.le_refl _) _).alloc (by simp) _).alloc (by simp; omega) _
    exact h0.trans (hb.mono (by omega))

theorem farm_cell {w w' : World} {f : Nat} {cs : Array Value} {T : TypeId} (h : w.heap[f]? = some (.cells cs T (0, 0))) (hb : Below w.heap.size w w') : w'.heap[f]? = some (.cells cs T (0, 0)) := by
  rw [hb.block f (Array.getElem?_eq_some_iff.1 h).1]; exact h

set_option maxHeartbeats 1000000 in
set_option maxRecDepth 100000 in
theorem farmRun_not (f : Nat) (fuel words stack op : Int) (name text : ByteArray) (w : World) (hlt : f < w.heap.size) (h4 : w.cell? ⟨f, 4, none⟩ = some (.bool false)) :
    Calls Tryz.prog 47 #[.pointer (some ⟨f, 0, none⟩), cmdA op fuel words stack name text] w fun e w' => e = .returned (ansV 250 0) ∧ Below w.heap.size w w' := by
  simp only [cmdA]
  go_enter Tryz.func47, Tryz.ntmps47
  go_wp2_with fail
  refine (refused_any 250 0 _).mono ?_
  rintro e w1 ⟨rfl, hb1⟩
  have hk := (Kp.first (w.alloc (.cells #[.int .i64 op, .string name, .string text, .int .i64 fuel, .int .i64 words, .int .i64 stack] 26)) ansZ 63).after hb1
  have hb := (below_blk w #[.int .i64 op, .string name, .string text, .int .i64 fuel, .int .i64 words, .int .i64 stack] 26).trans (hk.2.mono (by simp))
  have hk1 : w1.heap[w.heap.size + 1]? = some (.cells ansZ 63 (0, 0)) := by simpa using hk.1
  obtain ⟨c0, c1, c2, c3, c4, c5, c6, c7, c8, f0, f1, f2, f3, f4, f5, f6, f7, f8⟩ := AnsBlk.of hk1
  have hz : w.heap.size + 1 < w1.heap.size := (Array.getElem?_eq_some_iff.1 hk1).1
  have Hb := Lib.hid hb
  clear hk hk1 hb hb1
  simp only [ansV]
  go_wp2
  refine bodyPost_ret (v := ansV 250 0) (by simp [results, Tryz.results47, go_sem, ansV, *]) rfl ⟨rfl, ?_⟩
  (repeat refine below_set1 ?_ _ _); exact Hb.out

set_option maxHeartbeats 1000000 in
set_option maxRecDepth 100000 in
theorem do_run (f s : Nat) (fuel words stack : Int) (name text : ByteArray) (w : World) (hf : w.heap[f]? = some (.cells #[.pointer (some ⟨s, 0, none⟩), .slice none 0 0, .int .i64 0, .slice none 0 0, .bool false] 84 (0, 0))) :
    Calls Tryz.prog 28 #[.pointer (some ⟨f, 0, none⟩), cmdA 5 fuel words stack name text] w fun e w' => e = .returned (ansV 250 0) ∧ Below w.heap.size w w' := by
  have hmm := @run_makeMap Tryz.prog
  have i1 := fun A C => ins w A C #[] 0 1 (.func (Fn.func 43) #[] #[]) rfl
  have i2 := fun A C => ins w A C #[{ key := .int .i64 1, val := .func (Fn.func 43) #[] #[], born := 0 }] 1 2 (.func (Fn.func 44) #[] #[]) rfl
  have i3 := fun A C => ins w A C #[{ key := .int .i64 1, val := .func (Fn.func 43) #[] #[], born := 0 }, { key := .int .i64 2, val := .func (Fn.func 44) #[] #[], born := 1 }] 2 3 (.func (Fn.func 45) #[] #[]) rfl
  have i4 := fun A C => ins w A C #[{ key := .int .i64 1, val := .func (Fn.func 43) #[] #[], born := 0 }, { key := .int .i64 2, val := .func (Fn.func 44) #[] #[], born := 1 }, { key := .int .i64 3, val := .func (Fn.func 45) #[] #[], born := 2 }] 3 4 (.func (Fn.func 46) #[] #[]) rfl
  have i5 := fun A C => ins w A C #[{ key := .int .i64 1, val := .func (Fn.func 43) #[] #[], born := 0 }, { key := .int .i64 2, val := .func (Fn.func 44) #[] #[], born := 1 }, { key := .int .i64 3, val := .func (Fn.func 45) #[] #[], born := 2 }, { key := .int .i64 4, val := .func (Fn.func 46) #[] #[], born := 3 }] 4 5 (.func (Fn.func 47) #[] #[]) rfl
  have l5 := fun A C => look w A C #[{ key := .int .i64 1, val := .func (Fn.func 43) #[] #[], born := 0 }, { key := .int .i64 2, val := .func (Fn.func 44) #[] #[], born := 1 }, { key := .int .i64 3, val := .func (Fn.func 45) #[] #[], born := 2 }, { key := .int .i64 4, val := .func (Fn.func 46) #[] #[], born := 3 }, { key := .int .i64 5, val := .func (Fn.func 47) #[] #[], born := 4 }] 5 5 4 (.func (Fn.func 47) #[] #[]) rfl
  simp only [List.push_toArray, List.cons_append, List.nil_append] at i1 i2 i3 i4 i5
  simp only [cmdA]
  have hlt := (Array.getElem?_eq_some_iff.1 hf).1
  have h4 : w.cell? ⟨f, 4, none⟩ = some (.bool false) := by rw [Lib.cell_of_heap hf]; rfl
  clear hf
  go_enter Tryz.func28, Tryz.ntmps28
  go_wp2_with fail
  refine (farmRun_not f fuel words stack 5 name text _ ?h1 ?h2).mono ?_
  case h1 => simp; omega
  case h2 => rw [(three_below w _ _ _).cell (p := ⟨f, 4, none⟩) hlt]; exact h4
  rintro e w1 ⟨rfl, hb1⟩
  obtain ⟨hk1, hb, hz⟩ := three_blk w _ ansZ 63 _ hb1
  obtain ⟨c0, c1, c2, c3, c4, c5, c6, c7, c8, f0, f1, f2, f3, f4, f5, f6, f7, f8⟩ := AnsBlk.of hk1
  have Hb := Lib.hid hb
  clear hk1 hb hb1 i1 i2 i3 i4 i5 l5 hmm
  simp only [ansV]
  go_wp2
  refine bodyPost_ret (v := ansV 250 0) (by simp [results, Tryz.results28, go_sem, ansV, *]) rfl ⟨rfl, ?_⟩
  (repeat refine below_set1 ?_ _ _); exact Hb.out
end Go.Proofs.YtpgegfdiceamaaaGreatDoor
