/- The console's laws: part Wu. -/
import Derived.Test.YtpgegfdiceamaaaGreatDoorWg
namespace Go.Proofs.YtpgegfdiceamaaaGreatDoor
open Go.RowKit Cons

/-- all blocks below B but s stand -/
structure Besides (B s : Nat) (w w' : World) : Prop where
  os : w'.os = w.os
  tape : w'.tape = w.tape
  output : w'.output = w.output
  size : w.heap.size ≤ w'.heap.size
  block : ∀ k, k < B → k ≠ s → w'.heap[k]? = w.heap[k]?

theorem Besides.of {B : Nat} (s : Nat) {w w' : World} (h : Below B w w') : Besides B s w w' := ⟨h.os, h.tape, h.output, h.size, fun k hk _ => h.block k hk⟩
theorem Besides.trans {B s : Nat} {a b c : World} (h : Besides B s a b) (k : Besides B s b c) : Besides B s a c :=
  ⟨k.os.trans h.os, k.tape.trans h.tape, k.output.trans h.output, Nat.le_trans h.size k.size, fun i hi hn => (k.block i hi hn).trans (h.block i hi hn)⟩
theorem Besides.setS {B s : Nat} {a w : World} (h : Besides B s a w) (j : Nat) (u : Value) : Besides B s a (w.setCell ⟨s, j, none⟩ u) :=
  ⟨h.os, h.tape, h.output, by simpa using h.size, fun k hk hn => by rw [Below.heap_setCell _ _ _ _ hn]; exact h.block k hk hn⟩

theorem key_ok (W : World) : (Instr.checkKey false 10000 155 (.agg keyA)).run Tryz.prog W = .ok () W := by kernel_rfl
theorem under99 : Tryz.prog.underlying 99 = some (.map 155 9) := Tryz.underlying99

theorem ins_key (W : World) (r : Nat) (v : Value) (hb : W.heap[r]? = some (.map #[] 0)) :
    (Instr.mapUpdate 99 (.map (some r)) (.agg keyA) v).run Tryz.prog W = .ok () { W with heap := W.heap.setIfInBounds r (.map #[{ key := .agg keyA, val := v, born := 0 }] 1) } := by
  have hf : Instr.findNow (.array 24 5) (.agg keyA) ([] : List MapEntry) 0 = some none := rfl
  simp [Instr.mapUpdate, run_underlying under99, MapKept.run_getObj_map hb, key_ok, MapKept.run_findKey Tryz.underlying155 hf, MapKept.run_setObj_map _ hb, Result.andThen]

theorem look_nil_key (W : World) : (Instr.lookup 99 (.map none) (.agg keyA) true).run Tryz.prog W = .ok (.tuple #[.string ⟨#[]⟩, .bool false]) W := by kernel_rfl

theorem still_lookup {P : Program} {ops : Array Oper} {o : Oper} {rest : List Oper} {a : Act} {w : World} {Q : Act → Prop} (hgd : o.guard = none) (ty : TypeId) (x k : Operand) (b : Bool) (ho : o.op = .lookup ty x k b)
    (X K V : Value) (hx : a.eval x = X) (hk : a.eval k = K) (hrun : (Instr.lookup ty X K b).run P w = .ok V w)
    (h : wpStill P ops w Q rest (a.put o.dst V)) : wpStill P ops w Q (o :: rest) a := by
  refine wpStill_step (fun K hK => ?_)
  have hw : Region.wanted o (yielded ops a.tmps) = true := by simp [Region.wanted, hgd]
  rw [if_pos hw]
  unfold Oper.still execOp
  simp only [ho, hx, hk, Sem.run_bind, Sem.run_pure, Result.andThen_ok, hrun]
  exact ⟨rfl, hK _ h⟩

theorem setRow_other {w : World} {g k : Nat} {cs : Array Value} (h : k ≠ g) : (w.setRow g cs).heap[k]? = w.heap[k]? := by
  simp [World.setRow, Array.getElem?_modify, show ¬ g = k from fun e => h e.symm]

theorem key_block {w1 : World} {s : Nat} (hs : w1.heap[s]? = some (.cells #[.map none] 101 (0, 0))) :
    ((w1.alloc (.cells keyZ 155)).setRow w1.heap.size keyA).heap[w1.heap.size]? = some (.cells keyA 155 (0, 0)) ∧
    ((w1.alloc (.cells keyZ 155)).setRow w1.heap.size keyA).heap[s]? = some (.cells #[.map none] 101 (0, 0)) ∧
    Below w1.heap.size w1 ((w1.alloc (.cells keyZ 155)).setRow w1.heap.size keyA) := by
  have hlt := (Array.getElem?_eq_some_iff.1 hs).1
  refine ⟨setRow_blk (Kp.first w1 keyZ 155).1, ?_, setRow_below (below_blk _ _ _)⟩
  rw [setRow_other (by omega), Below.heap_alloc _ _ _ hlt]; exact hs

theorem put_world {B s k : Nat} {w w2 : World} (hB : B ≤ w2.heap.size) (hb : Below B w w2) (hs : w2.heap[s]? = some (.cells #[.map none] 101 (0, 0))) (hk : w2.heap[k]? = some (.cells keyA 155 (0, 0))) (hks : k ≠ s) :
    ∃ X, X = ((w2.setCell ⟨s, 0, none⟩ (.map (some w2.heap.size))).alloc (.map #[] 0)).drew ∧ X.heap[k]? = some (.cells keyA 155 (0, 0)) ∧ X.cell? ⟨s, 0, none⟩ = some (.map (some w2.heap.size)) ∧ X.heap[w2.heap.size]? = some (.map #[] 0) ∧ Besides B s w X := by
  have hlk := (Array.getElem?_eq_some_iff.1 hk).1
  have hls := (Array.getElem?_eq_some_iff.1 hs).1
  have e : (w2.setCell ⟨s, 0, none⟩ (.map (some w2.heap.size))).heap.size = w2.heap.size := by simp
  have hs2 : (w2.setCell ⟨s, 0, none⟩ (.map (some w2.heap.size))).heap[s]? = some (.cells #[.map (some w2.heap.size)] 101 (0, 0)) := by rw [set_blk hs]; rfl
  refine ⟨_, rfl, ?_, ?_, ?_, ?_⟩
  · show ((w2.setCell ⟨s, 0, none⟩ (.map (some w2.heap.size))).alloc (.map #[] 0)).heap[k]? = _
    rw [Below.heap_alloc _ _ _ (by rw [e]; exact hlk), Below.heap_setCell _ _ _ _ (by exact hks)]; exact hk
  · have h2 : ((w2.setCell ⟨s, 0, none⟩ (.map (some w2.heap.size))).alloc (.map #[] 0)).drew.heap[s]? = some (.cells #[.map (some w2.heap.size)] 101 (0, 0)) := by
      show ((w2.setCell ⟨s, 0, none⟩ (.map (some w2.heap.size))).alloc (.map #[] 0)).heap[s]? = _
      rw [Below.heap_alloc _ _ _ (by rw [e]; exact hls)]; exact hs2
    rw [Lib.cell_of_heap h2]; rfl
  · show ((w2.setCell ⟨s, 0, none⟩ (.map (some w2.heap.size))).heap.push (Obj.map #[] 0))[w2.heap.size]? = _
    rw [Array.getElem?_push, if_pos (by rw [e])]
  · have h1 := (Besides.of s hb).setS 0 (.map (some w2.heap.size))
    exact h1.trans (Besides.of s (((Below.refl B _).alloc (by rw [e]; exact hB) _).drew))

theorem put_last {B s r : Nat} {w X : World} {o : Obj} (hB : B ≤ r) (h : Besides B s w X) : Besides B s w { X with heap := X.heap.setIfInBounds r o } :=
  ⟨h.os, h.tape, h.output, by simpa using h.size, fun k hk hn => by
    rw [← h.block k hk hn]
    show (X.heap.setIfInBounds r o)[k]? = _
    rw [Array.getElem?_setIfInBounds, if_neg (by omega)]⟩

theorem wpList_mapUpdate_run {P : Program} {ops : Array Oper} {o : Oper} {rest : List Oper} {a : Act} {w w' : World} {Q : Exit → Act → World → Prop} (hgd : o.guard = none) (ty : TypeId) (x k v : Operand) (ho : o.op = .mapUpdate ty x k v)
    (X K V : Value) (hx : a.eval x = X) (hk : a.eval k = K) (hv : a.eval v = V) (hrun : (Instr.mapUpdate ty X K V).run P w = .ok () w')
    (h : wpList P ops Q rest (a.put o.dst undef) w') : wpList P ops Q (o :: rest) a w := by
  refine wpList_plain hgd fun K hK => ?_
  unfold Oper.wp execOp
  simp only [ho, hx, hk, hv, Sem.run_bind, Sem.run_pure, Result.andThen_ok, hrun]
  exact hK _ _ h

set_option maxHeartbeats 2000000 in
set_option maxRecDepth 100000 in
theorem put_AMod (s : Nat) (text : ByteArray) (w : World) (ht : text.size ≤ 100) (hs : w.heap[s]? = some (.cells #[.map none] 101 (0, 0))) :
    Calls Tryz.prog 60 #[.pointer (some ⟨s, 0, none⟩), .string ⟨#[65, 46, 77, 111, 100]⟩, .string text] w fun e w' => e = .returned (.int .i64 0) ∧ Besides w.heap.size s w w' := by
  have hmm := @run_makeMap Tryz.prog
  have hlt := (Array.getElem?_eq_some_iff.1 hs).1
  have Hs := Lib.hid hs
  clear hs
  go_enter Tryz.func60, Tryz.ntmps60
  go_wp2_with fail
  refine (of_AMod _).mono ?_
  rintro e w1 ⟨rfl, hb1⟩
  have Hs1 := Lib.hid (farm_cell Hs.out hb1)
  have Hb1 := Lib.hid hb1
  have hz1 := hb1.size
  clear hb1
  go_wp2_with (refine wpList_store_row rfl 155 _ _ rfl w1.heap.size rfl 155 keyZ keyA rfl (Kp.first w1 keyZ 155).1 (by kernel_rfl) rfl (by kernel_rfl) ?_)
  obtain ⟨hk2, hs2, hb2⟩ := key_block Hs1.out
  simp only [keyZ] at hk2 hs2 hb2
  revert hk2 hs2 hb2
  generalize ((w1.alloc (.cells #[.int .u8 0, .int .u8 0, .int .u8 0, .int .u8 0, .int .u8 0, .int .u8 0, .int .u8 0, .int .u8 0, .int .u8 0, .int .u8 0, .int .u8 0, .int .u8 0, .int .u8 0, .int .u8 0, .int .u8 0, .int .u8 0, .int .u8 0, .int .u8 0, .int .u8 0, .int .u8 0, .int .u8 0, .int .u8 0, .int .u8 0, .int .u8 0] 155)).setRow w1.heap.size keyA) = w2
  intro hk2 hs2 hb2
  have c2 : w2.cell? ⟨s, 0, none⟩ = some (.map none) := by rw [Lib.cell_of_heap hs2]; rfl
  have f2 : w2.frozen? ⟨s, 0, none⟩ = false := Lib.frozen_of_heap hs2 0
  have hs2lt : s < w2.heap.size := (Array.getElem?_eq_some_iff.1 hs2).1
  have Hk2 := Lib.hid hk2
  have Hs2 := Lib.hid hs2
  have Hb2 := Lib.hid (Hb1.out.trans (hb2.mono hz1))
  have hz2 : w1.heap.size < w2.heap.size := (Array.getElem?_eq_some_iff.1 hk2).1
  clear hk2 hs2 hb2
  refine wp_region_still_lit (by kernel_rfl) (by kernel_rfl) ?_
  change wpStill _ _ w2.drew _ _ _
  still_step
  still_step
  still_step
  still_step
  refine still_load_row rfl 155 _ rfl w1.heap.size rfl 155 keyA (0, 0) _ Hk2.out Tryz.underlying155 rfl (by kernel_rfl) ?_
  refine still_lookup rfl 99 _ _ true rfl (.map none) (.agg keyA) _ rfl rfl (look_nil_key _) ?_
  repeat still_step
  refine wpStill_nil ?_
  change Exit.then _ _ _ _ w2.drew
  have hnil := fun wx => @run_eql_map_nil Tryz.prog wx 99 155 9 none Tryz.underlying99
  go_wp2_with fail
  obtain ⟨X, hX, hk3, hc3, hm3, hbs⟩ := put_world (Nat.le_trans hz1 (Nat.le_of_lt hz2)) Hb2.out Hs2.out Hk2.out (by omega)
  rw [← hX]
  have Hk3 := Lib.hid hk3
  have Hm3 := Lib.hid hm3
  have Hbs := Lib.hid hbs
  clear hX hk3 hm3 hbs c2 f2 hnil hmm
  refine wp_region_still_tail 6 (by kernel_rfl) (by kernel_rfl) ?_
  simp only [List.take_succ_cons, List.take_zero, List.drop_succ_cons, List.drop_zero]
  change wpStill _ _ X.drew _ _ _
  still_step
  still_step
  still_step
  still_step
  refine still_load_row rfl 155 _ rfl w1.heap.size rfl 155 keyA (0, 0) _ Hk3.out Tryz.underlying155 rfl (by kernel_rfl) ?_
  still_step
  refine wpStill_nil ?_
  change wpList _ _ _ _ _ X.drew
  refine wpList_mapUpdate_run rfl 99 _ _ _ rfl (.map (some w2.heap.size)) (.agg keyA) (.string text) rfl rfl rfl (ins_key X.drew w2.heap.size (.string text) Hm3.out) ?_
  have Hl := Lib.hid (put_last (r := w2.heap.size) (o := .map #[{ key := .agg keyA, val := .string text, born := 0 }] 1) (Nat.le_trans hz1 (Nat.le_of_lt hz2)) (show Besides w.heap.size s w X.drew from Hbs.out.trans (Besides.of s ((Below.refl _ X).drew))))
  generalize ({ X.drew with heap := X.drew.heap.setIfInBounds w2.heap.size (.map #[{ key := .agg keyA, val := .string text, born := 0 }] 1) } : World) = W4 at Hl
  go_wp2
  go_ret
  exact ⟨rfl, Hl.out⟩
end Go.Proofs.YtpgegfdiceamaaaGreatDoor
