/- The console's laws: part Wg. -/
import Derived.Test.YtpgegfdiceamaaaGreatDoorWf
import Derived.Lib.BufferWrite
import Derived.Deep.RegionWith
import Derived.StillTailTactics
import Derived.Laws.Rows
import Derived.Laws.Tables
namespace Go.Proofs.YtpgegfdiceamaaaGreatDoor
open Go.RowKit Cons

def keyZ : Array Value := #[.int .u8 0, .int .u8 0, .int .u8 0, .int .u8 0, .int .u8 0, .int .u8 0, .int .u8 0, .int .u8 0, .int .u8 0, .int .u8 0, .int .u8 0, .int .u8 0, .int .u8 0, .int .u8 0, .int .u8 0, .int .u8 0, .int .u8 0, .int .u8 0, .int .u8 0, .int .u8 0, .int .u8 0, .int .u8 0, .int .u8 0, .int .u8 0]
def keyA : Array Value := #[.int .u8 65, .int .u8 46, .int .u8 77, .int .u8 111, .int .u8 100, .int .u8 0, .int .u8 0, .int .u8 0, .int .u8 0, .int .u8 0, .int .u8 0, .int .u8 0, .int .u8 0, .int .u8 0, .int .u8 0, .int .u8 0, .int .u8 0, .int .u8 0, .int .u8 0, .int .u8 0, .int .u8 0, .int .u8 0, .int .u8 0, .int .u8 0]

theorem modify_last {h : Array Obj} {n : Nat} (hn : n = h.size) (a b : Array Value) (T : TypeId) : (h.push (.cells a T (0, 0))).modify n (fun | .cells _ e f => .cells b e f | o => o) = h.push (.cells b T (0, 0)) := by
  subst hn
  apply Array.ext_getElem?
  intro i
  rw [Array.getElem?_modify, Array.getElem?_push, Array.getElem?_push]
  by_cases e : h.size = i
  · subst e; simp
  · have e' : ¬ i = h.size := fun q => e q.symm
    simp [e, e']

theorem copy_key (w : World) (A : Obj) : (Builtin.copy_ #[65, 9] 3 #[.slice (some ⟨w.heap.size + 1, 0, none⟩) 24 24, .string ⟨#[65, 46, 77, 111, 100]⟩]).run Tryz.prog ((w.alloc A).alloc (.cells keyZ 155)) = .ok (.int .i64 5) ((w.alloc A).alloc (.cells keyA 155)) := by
  have hg : ((w.alloc A).alloc (.cells keyZ 155)).heap[w.heap.size + 1]? = some (.cells keyZ 155 (0, 0)) := by
    have := (Kp.first (w.alloc A) keyZ 155).1
    simpa using this
  rw [Lib.run_copy_row_string ((w.alloc A).alloc (.cells keyZ 155)) 65 9 3 5 (w.heap.size + 1) 0 24 24 ⟨#[65, 46, 77, 111, 100]⟩ keyZ 155 Tryz.underlying65 (by kernel_rfl) hg (by decide) (by decide)]
  have e : ((w.alloc A).alloc (.cells keyZ 155)).setRow (w.heap.size + 1) (keyZ.toList.take 0 ++ Lib.byteCells (⟨#[65, 46, 77, 111, 100]⟩ : ByteArray).data.toList ++ keyZ.toList.drop (0 + (⟨#[65, 46, 77, 111, 100]⟩ : ByteArray).size)).toArray = (w.alloc A).alloc (.cells keyA 155) := by
    unfold World.setRow
    exact congrArg (fun hp => ({ w.alloc A with heap := hp } : World)) (modify_last (by simp) keyZ _ 155)
  rw [e]; rfl

theorem copy_key2 (w : World) : ∃ W, (∀ _u : Unit, (Builtin.copy_ #[65, 9] 3 #[.slice (some ⟨w.heap.size + 1, 0, none⟩) 24 24, .string ⟨#[65, 46, 77, 111, 100]⟩]).run Tryz.prog ((w.alloc (.cells keyZ 155)).alloc (.cells keyZ 155)) = .ok (.int .i64 5) W) ∧
    W.heap[w.heap.size]? = some (.cells keyZ 155 (0, 0)) ∧ W.heap[w.heap.size + 1]? = some (.cells keyA 155 (0, 0)) ∧ Below w.heap.size w W := by
  refine ⟨_, fun _ => copy_key w _, ?_, ?_, ?_⟩
  · rw [Below.heap_alloc _ _ _ (by simp)]; exact (Kp.first w keyZ 155).1
  · have := (Kp.first (w.alloc (.cells keyZ 155)) keyA 155).1
    simpa using this
  · exact ((Below.refl _ w).alloc (Nat.le_refl _) _).alloc (by simp) _

theorem still_load_row {P : Program} {ops : Array Oper} {o : Oper} {rest : List Oper} {a : Act} {w : World} {Q : Act → Prop} (hgd : o.guard = none) (ty : TypeId) (x : Operand) (ho : o.op = .load ty x)
    (g : Nat) (hx : a.eval x = .pointer (some ⟨g, 0, none⟩)) (t : TypeId) (cs : Array Value) (fr : Nat × Nat) (d : TypeDesc) (hg : w.heap[g]? = some (.cells cs t fr))
    (hu : P.underlying ty = some d) (hd : (match d with | .struct _ | .array _ _ => true | _ => false) = true) (hi : (P.info? ty).map (·.size) = some cs.size)
    (h : wpStill P ops w Q rest (a.put o.dst (.agg cs))) : wpStill P ops w Q (o :: rest) a := by
  refine wpStill_step (fun K hK => ?_)
  have hw : Region.wanted o (yielded ops a.tmps) = true := by simp [Region.wanted, hgd]
  rw [if_pos hw]
  unfold Oper.still execOp
  simp only [ho, hx, Instr.loadAt, Instr.sureAddr, Sem.run_bind, Sem.run_pure, Result.andThen_ok, run_loadVar_row w g t ty cs fr d hg hu hd hi]
  exact ⟨rfl, hK _ h⟩

theorem wpList_store_row {P : Program} {ops : Array Oper} {o : Oper} {rest : List Oper} {a : Act} {w : World} {Q : Exit → Act → World → Prop} (hgd : o.guard = none) (ty : TypeId) (x y : Operand) (ho : o.op = .store ty x y)
    (g : Nat) (hx : a.eval x = .pointer (some ⟨g, 0, none⟩)) (t : TypeId) (old cs : Array Value) (hy : a.eval y = .agg cs) (hg : w.heap[g]? = some (.cells old t (0, 0))) (hi : (P.info? ty).map (·.size) = some cs.size) (hos : old.size = cs.size) (h1 : cs.all (·.oneCell') = true)
    (h : wpList P ops Q rest (a.put o.dst undef) (w.setRow g cs)) : wpList P ops Q (o :: rest) a w := by
  refine wpList_plain hgd fun K hK => ?_
  unfold Oper.wp execOp
  simp only [ho, hx, hy, Instr.storeAt, Instr.sureAddr, Sem.run_bind, Sem.run_pure, Result.andThen_ok, run_storeVar_row w g t ty old cs hg hi hos h1]
  exact hK _ _ h

theorem results_cell_tmp {P : Program} {fn : Func} {p q : Tmp} {ty : TypeId} (h : fn.results = #[.cell p ty, .tmp q]) (tmps : Array Value) (w : World) (g : Nat) (t : TypeId) (cs : Array Value) (fr : Nat × Nat) (d : TypeDesc)
    (hp : tmps.getD p undef = .pointer (some ⟨g, 0, none⟩)) (hg : w.heap[g]? = some (.cells cs t fr))
    (hu : P.underlying ty = some d) (hd : (match d with | .struct _ | .array _ _ => true | _ => false) = true) (hi : (P.info? ty).map (·.size) = some cs.size) :
    (results fn tmps).run P w = .ok (.tuple #[.agg cs, tmps.getD q undef]) w := by
  have hp' : tmps[p]?.getD undef = .pointer (some ⟨g, 0, none⟩) := by simpa using hp
  simp [results, h, hp', asAddr, run_loadVar_row w g t ty cs fr d hg hu hd hi]

theorem setRow_blk {w : World} {g : Nat} {old cs : Array Value} {t : TypeId} (hg : w.heap[g]? = some (.cells old t (0, 0))) : (w.setRow g cs).heap[g]? = some (.cells cs t (0, 0)) := by
  simp [World.setRow, Array.getElem?_modify, hg]

theorem setRow_below {w w1 : World} {cs : Array Value} (h : Below w.heap.size w w1) : Below w.heap.size w (w1.setRow w.heap.size cs) := by
  refine ⟨h.os, h.tape, h.output, ?_, fun k hk => ?_⟩
  · simpa [World.setRow] using h.size
  · rw [← h.block k hk]
    simp [World.setRow, Array.getElem?_modify, show ¬ w.heap.size = k by omega]

set_option maxHeartbeats 1000000 in
set_option maxRecDepth 100000 in
theorem of_AMod (w : World) : Calls Tryz.prog 81 #[.string ⟨#[65, 46, 77, 111, 100]⟩] w fun e w' => e = .returned (.tuple #[.agg keyA, .bool true]) ∧ Below w.heap.size w w' := by
  obtain ⟨W, hcp, hb0, hb1, hb⟩ := copy_key2 w
  simp only [keyZ] at hcp
  have Hb := Lib.hid hb
  have Hb0 := Lib.hid hb0
  have Hb1 := Lib.hid hb1
  have hn : nameB (bl ⟨#[65, 46, 77, 111, 100]⟩) = true := by decide +kernel
  have Hn := Lib.hid hn
  clear hn hb hb0 hb1
  go_enter Tryz.func81, Tryz.ntmps81
  go_wp2_with fail
  rw [hcp ()]
  simp only [Result.andThen]
  rw [Oper.upon_value]
  clear hcp
  go_wp2_with fail
  refine wp_region_still_tail 3 (by kernel_rfl) (by kernel_rfl) ?_
  simp only [List.take_succ_cons, List.take_zero, List.drop_succ_cons, List.drop_zero]
  change wpStill _ _ W.drew _ _ _
  refine still_load_row rfl 155 _ rfl (w.heap.size + 1) rfl 155 keyA (0, 0) _ Hb1.out Tryz.underlying155 rfl (by kernel_rfl) ?_
  still_step
  still_call ((storeName_any ⟨#[65, 46, 77, 111, 100]⟩ _ (by decide)).mono fun _ _ ⟨he, hw⟩ => ⟨by rw [he, Hn.out], hw.symm⟩)
  refine wpStill_nil ?_
  change wpList _ _ _ _ _ W.drew
  refine wpList_store_row rfl 155 _ _ rfl w.heap.size rfl 155 keyZ keyA rfl Hb0.out (by kernel_rfl) rfl (by kernel_rfl) ?_
  have Hf := Lib.hid (setRow_blk (cs := keyA) (show W.drew.heap[w.heap.size]? = some (.cells keyZ 155 (0, 0)) from Hb0.out))
  have Hbf := Lib.hid (setRow_below (cs := keyA) (show Below w.heap.size w W.drew from Hb.out.drew))
  generalize W.drew.setRow w.heap.size keyA = W3 at Hf Hbf
  go_wp2
  exact bodyPost_ret (results_cell_tmp Tryz.results81 _ _ w.heap.size 155 keyA (0, 0) _ rfl Hf.out Tryz.underlying155 rfl (by kernel_rfl)) rfl ⟨rfl, Hbf.out⟩
end Go.Proofs.YtpgegfdiceamaaaGreatDoor
