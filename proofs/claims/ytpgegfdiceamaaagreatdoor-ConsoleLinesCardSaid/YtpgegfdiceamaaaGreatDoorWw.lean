/- The console's laws: part Ww. -/
import Derived.Test.YtpgegfdiceamaaaGreatDoorProg
import Derived.Test.YtpgegfdiceamaaaGreatDoorDec
import Derived.WalkKit
import Derived.WalkSpells
import Derived.WalkLawsBesides
import Derived.OwnWalk
import Derived.Lib.OthersKept
import Derived.Outline
import Derived.Lib.Hide
import Derived.Deep.DeepMust
namespace Go.Proofs.YtpgegfdiceamaaaGreatDoor
open Go.RowKit Cons

theorem info9 : (Tryz.prog.info? 9).map (fun i => (i.zero, i.size, i.bytes)) = some (some (.string ⟨#[]⟩), 1, 16) := by kernel_rfl

/-- a row of texts that lies in new memory: its value, and its texts -/
def TxtRow (base : Nat) (w : World) (v : Value) (l : List B) : Prop := w.ownsRow base 9 1 v l.length (l.map sv)


/-- what words has gathered -/
def WordsRel (s : ByteArray) (w : World) (out fr : Value) (wr : World) : Prop :=
  ∃ (pos f : Nat) (l : List B), fr = .int .i64 f ∧ f ≤ pos ∧ pos ≤ s.size ∧ wr.heap[w.heap.size]? = some (.stringIter s pos) ∧ Below w.heap.size w wr ∧
    TxtRow (w.heap.size + 1) wr out l ∧ l.length ≤ f ∧ l ++ splitB ((bl s).drop f) = splitB (bl s) ∧ (∀ j, f ≤ j → j < pos → (bl s)[j]? ≠ some 32)

def WordsPost (s : ByteArray) (w : World) (e : Ending) (w' : World) : Prop :=
  ∃ v, e = .returned v ∧ Below w.heap.size w w' ∧ TxtRow (w.heap.size + 1) w' v (splitB (bl s))

theorem iter_alive {w wr : World} {s : ByteArray} {pos : Nat} (hit : wr.heap[w.heap.size]? = some (.stringIter s pos)) : w.heap.size < wr.heap.size := (Array.getElem?_eq_some_iff.1 hit).1

theorem width_pos (s : ByteArray) (pos : Nat) (h : pos < s.size) : 1 ≤ (Utf8.decode s pos).2 := by
  by_cases hd : (Utf8.decode s pos).1 = 32
  · rw [(decode_blank s pos h hd).2]; exact Nat.le_refl _
  · exact (decode_other s pos h hd).1

/-- what 'next' does where a rune is at hand -/
theorem next_at {out : Value} (s : ByteArray) (w wr : World) (pos f : Nat) (l : List B) (hp : pos < s.size) (hit : wr.heap[w.heap.size]? = some (.stringIter s pos)) (hb : Below w.heap.size w wr)
    (hrow : TxtRow (w.heap.size + 1) wr out l) (hno : ∀ j, f ≤ j → j < pos → (bl s)[j]? ≠ some 32) :
    ∃ (w2 : World) (k : Nat) (r : Int), (∀ ty, (Instr.next (.pointer (some ⟨w.heap.size, 0, none⟩)) true ty).run Tryz.prog wr = .ok (.tuple #[.bool true, .int .i64 pos, .int .i32 r]) w2) ∧
      1 ≤ k ∧ pos + k ≤ s.size ∧ w2.heap[w.heap.size]? = some (.stringIter s (pos + k)) ∧ Below w.heap.size w w2 ∧ TxtRow (w.heap.size + 1) w2 out l ∧ w.heap.size < w2.heap.size ∧
      ((r = 32 ∧ k = 1 ∧ (bl s)[pos]? = some 32) ∨ ((r == 32) = false ∧ ∀ j, f ≤ j → j < pos + k → (bl s)[j]? ≠ some 32)) := by
  refine ⟨wr.iterAt w.heap.size s (pos + (Utf8.decode s pos).2), (Utf8.decode s pos).2, (Utf8.decode s pos).1, fun ty => Lib.run_next_any_at wr w.heap.size s pos ty hit hp, width_pos s pos hp, ?_,
    Lib.iterAt_heap wr w.heap.size s pos _ hit, Lib.below_iterAt hb (Nat.le_refl _) s _, ownsRow_iterAt hrow (Nat.lt_succ_self _) s _, ?_, ?_⟩
  · by_cases hd : (Utf8.decode s pos).1 = 32
    · rw [(decode_blank s pos hp hd).2]; omega
    · exact (decode_other s pos hp hd).2.1
  · rw [Lib.iterAt_size]; exact iter_alive hit
  · by_cases hd : (Utf8.decode s pos).1 = 32
    · obtain ⟨h1, h2⟩ := decode_blank s pos hp hd
      exact .inl ⟨by rw [hd]; rfl, h2, by rw [bl_get s pos hp, h1]⟩
    · obtain ⟨h1, h2, h3⟩ := decode_other s pos hp hd
      refine .inr ⟨by rw [beq_eq_false_iff_ne]; omega, fun j h4 h5 => ?_⟩
      rcases Nat.lt_or_ge j pos with h6 | h6
      · exact hno j h4 h6
      · have h7 : j < s.size := by omega
        rw [bl_get s j h7]
        intro he
        exact h3 j h6 h5 h7 (Option.some.inj he)

theorem row_block {w : World} {base e size n : Nat} {v : Value} {xs : List Value} (h : w.ownsRow base e size v n xs) : ∀ k, v.ownBlock = some k → base ≤ k := by
  rcases h.2 with ⟨rfl, _⟩ | ⟨g, cap, cur, rfl, hg, _⟩
  · intro k hk; cases hk
  · intro k hk; cases hk; exact hg

/-- what an append to such a row leaves of what lay there -/
theorem grown_keeps {w w2 w3 : World} {o : Obj} {v : Value} {n : Nat} {xs : List Value} {base : Nat} (hrow : w2.ownsRow base 9 1 v n xs) (hb : base ≤ w2.heap.size) (hg : (w2.alloc o).grownBy w3 v.ownBlock) (h0 : w.heap.size ≤ base) (hbw : Below w.heap.size w w2) :
    Below base w2 w3 ∧ Below w.heap.size w w3 := by
  have h1 : Below base w2 w3 := Below.grown ((Below.refl base w2).alloc hb o) hg (by simp; omega) (row_block hrow)
  exact ⟨h1, hbw.trans (h1.mono h0)⟩

theorem rel_blank {s : ByteArray} {w w3 : World} {v' : Value} {pos f : Nat} {l : List B} (hfp : f ≤ pos) (hk : pos + 1 ≤ s.size) (hit : w3.heap[w.heap.size]? = some (.stringIter s (pos + 1))) (hb : Below w.heap.size w w3)
    (hrow : w3.ownsRow (w.heap.size + 1) 9 1 v' (l.length + 1) (l.map sv ++ [.string (s.extract f pos)])) (hll : l.length ≤ f) (hsp : l ++ splitB ((bl s).drop f) = splitB (bl s))
    (hno : ∀ j, f ≤ j → j < pos → (bl s)[j]? ≠ some 32) (h32 : (bl s)[pos]? = some 32) :
    WordsRel s w v' (.int .i64 ((pos : Int) + 1)) w3 := by
  refine ⟨pos + 1, pos + 1, l ++ [bl (s.extract f pos)], by push_cast; rfl, Nat.le_refl _, hk, hit, hb, ?_, by simp; omega, ?_, fun j h1 h2 => by omega⟩
  · unfold TxtRow
    rw [List.length_append, List.map_append, List.map_singleton, sv_bl]
    exact hrow
  · rw [← hsp, bl_extract, split_word (bl s) f pos hfp (by rw [bl_size]; omega) hno h32]
    simp

theorem words_end {s : ByteArray} {pos f : Nat} {l : List B} (hp : s.size ≤ pos) (hsp : l ++ splitB ((bl s).drop f) = splitB (bl s)) (hno : ∀ j, f ≤ j → j < pos → (bl s)[j]? ≠ some 32) :
    l ++ [bl (s.extract f s.size)] = splitB (bl s) := by
  rw [← hsp, bl_extract, split_last (bl s) f (fun j h1 h2 => hno j h1 (by rw [bl_size] at h2; omega))]
  rw [List.take_of_length_le (by rw [List.length_drop, bl_size]; exact Nat.le_refl _)]

set_option maxHeartbeats 1000000 in
set_option maxRecDepth 1000000 in
theorem words_any (s : ByteArray) (w : World) (hs : s.size ≤ 1000000) :
    Calls Tryz.prog 16 #[.string s] w (WordsPost s w) := by
  obtain ⟨i0, hi, hz0, hz1, hz2⟩ := info_parts info9
  go_enter Tryz.func16, Tryz.ntmps16
  go_wp2
  go_loopw [3, 4] (fun out fr wr => WordsRel s w out fr wr) (fun _ _ wr => s.size - wr.iterPos w.heap.size)
  case atStart =>
    refine ⟨0, 0, [], rfl, Nat.le_refl _, Nat.zero_le _, ?_, (Below.refl _ w).alloc (Nat.le_refl _) _, ⟨rfl, .inl ⟨rfl, rfl⟩⟩, Nat.le_refl _, by simp, fun j h1 h2 => by omega⟩
    have := World.iter_heap w s 0
    simpa using this
  case round =>
    obtain ⟨pos, f, l, rfl, hfp, hps, hit, hb, hrow, hll, hsp, hno⟩ := hrel
    have hsz := iter_alive hit
    by_cases hp : pos < s.size
    · obtain ⟨w2, k, r, hnx, hk1, hk2, hit2, hb2, hrow2, hsz2, hr⟩ := next_at s w wr pos f l hp hit hb hrow hno
      have Hm := Lib.hid (iterPos_of hit)
      have Hit2 := Lib.hid hit2
      have Hno := Lib.hid hno
      clear hit hit2 hb hrow hno
      rcases hr with ⟨rfl, rfl, h32⟩ | ⟨hr, hno⟩
      · have Hw := Lib.hid hsp
        have H32 := Lib.hid h32
        clear hsp h32
        go_wp2_with (at_builtin; go_must (refine wpList_append_own _ rfl _ _ 40 rfl (w.heap.size + 1) 9 i0 (.string ⟨#[]⟩) 1 16 Tryz.underlying40 hi hz0 hz1 hz2 rfl (by decide) _ _ _ rfl (hrow2.alloc _) ⟨w2.heap.size, 0, none⟩ 1 1 [.string (s.extract f pos)] rfl rfl ?c1 ?c2 ?c3 ?c4 ?c5 ?_))
        case c1 => exact cell_one_new _ _ _
        case c2 => intro u hu; rw [List.mem_singleton.1 hu]; rfl
        case c3 => unfold maxLen; omega
        case c4 => omega
        case c5 => simp; omega
        intro v' w3 hrow3 hg _
        obtain ⟨q1, q2⟩ := grown_keeps hrow2 (by omega) hg (Nat.le_succ _) hb2
        have q3 : w3.heap[w.heap.size]? = some (.stringIter s (pos + 1)) := (q1.block _ (Nat.lt_succ_self _)).trans Hit2.out
        have hrel := rel_blank hfp hk2 q3 q2 hrow3 hll Hw.out Hno.out H32.out
        have hm := iterPos_of q3
        have Hrel := Lib.hid hrel
        have Hmm := Lib.hid hm
        clear hrel hm q3 hg hrow3 hrow2 hnx
        go_wp2
        go_roundw
        case rel => exact Hrel.out
        case measure => rw [Hmm.out, Hm.out]; omega
      · go_wp2
        have hm := iterPos_of Hit2.out
        exact ⟨⟨pos + k, f, l, rfl, by omega, hk2, Hit2.out, hb2, hrow2, hll, hsp, hno⟩, by rw [hm, Hm.out]; omega⟩
    · have hnx : ∀ ty, (Instr.next (.pointer (some ⟨w.heap.size, 0, none⟩)) true ty).run Tryz.prog wr = _ := fun ty => Lib.run_next_end_at wr w.heap.size s pos ty hit hp
      have hend := words_end (by omega) hsp hno
      have Hw := Lib.hid hend
      clear hit hsp hno hend
      go_wp2_with (at_builtin; go_must (refine wpList_append_own _ rfl _ _ 40 rfl (w.heap.size + 1) 9 i0 (.string ⟨#[]⟩) 1 16 Tryz.underlying40 hi hz0 hz1 hz2 rfl (by decide) _ _ _ rfl (hrow.alloc _) ⟨wr.heap.size, 0, none⟩ 1 1 [.string (s.extract f s.size)] rfl rfl ?c1 ?c2 ?c3 ?c4 ?c5 ?_))
      case c1 => exact cell_one_new _ _ _
      case c2 => intro u hu; rw [List.mem_singleton.1 hu]; rfl
      case c3 => unfold maxLen; omega
      case c4 => omega
      case c5 => simp; omega
      intro v' w3 hrow3 hg _
      obtain ⟨_, q2⟩ := grown_keeps hrow (by omega) hg (Nat.le_succ _) hb
      have hfin : WordsPost s w (.returned v') w3 := by
        refine ⟨v', rfl, q2, ?_⟩
        unfold TxtRow
        rw [← Hw.out, List.length_append, List.map_append, List.map_singleton, sv_bl]
        exact hrow3
      have Hf := Lib.hid hfin
      clear hfin hrow3 hg q2 hrow hnx
      go_wp2
      go_ret
      exact Hf.out
end Go.Proofs.YtpgegfdiceamaaaGreatDoor
