/- The console's laws: part Wh. -/
import Derived.Test.YtpgegfdiceamaaaGreatDoorWb
import Derived.Test.YtpgegfdiceamaaaGreatDoorShelf
namespace Go.Proofs.YtpgegfdiceamaaaGreatDoor
open Go.RowKit Cons

theorem byte_cells_snoc (l : B) (c : UInt8) : Lib.byteCells l ++ [.int .u8 c.toNat] = Lib.byteCells (l ++ [c]) := by rw [Lib.byteCells_append]; rfl

/-- the digits -/
def digits : ByteArray := ⟨#[48, 49, 50, 51, 52, 53, 54, 55, 56, 57, 97, 98, 99, 100, 101, 102]⟩

theorem dig_nat (n : Nat) (h : n < 16) (w : World) : (Instr.index 9 (.string digits) (.int .u8 (n : Int))).run Tryz.prog w = .ok (.int .u8 ((hexD n).toNat : Int)) w := by
  rcases (by omega : n = 0 ∨ n = 1 ∨ n = 2 ∨ n = 3 ∨ n = 4 ∨ n = 5 ∨ n = 6 ∨ n = 7 ∨ n = 8 ∨ n = 9 ∨ n = 10 ∨ n = 11 ∨ n = 12 ∨ n = 13 ∨ n = 14 ∨ n = 15) with rfl | rfl | rfl | rfl | rfl | rfl | rfl | rfl | rfl | rfl | rfl | rfl | rfl | rfl | rfl | rfl <;> kernel_rfl

theorem dig_run (x : Int) (n : Nat) (hx : x = n) (h : n < 16) (w : World) : (Instr.index 9 (.string ⟨#[48, 49, 50, 51, 52, 53, 54, 55, 56, 57, 97, 98, 99, 100, 101, 102]⟩) (.int .u8 x)).run Tryz.prog w = .ok (.int .u8 ((hexD n).toNat : Int)) w := by
  subst hx; exact dig_nat n h w

def HexRel (s : ByteArray) (w : World) (i : Value) (wr : World) : Prop :=
  ∃ k : Nat, i = .int .i64 k ∧ k ≤ s.size ∧ Lib.IsBuilder 70 5 w.heap.size w.heap.size (Lib.byteCells (((bl s).take k).flatMap pairOf)) wr ∧ Below w.heap.size w wr

def TextPost (l : B) (w : World) (e : Ending) (w' : World) : Prop := e = .returned (sv l) ∧ Below w.heap.size w w'

theorem take_snoc' (s : ByteArray) (k : Nat) (h : k < s.size) : (bl s).take (k + 1) = (bl s).take k ++ [s[k]] := by
  rw [List.take_add_one, bl_get s k h]; rfl

theorem flat_len (l : B) : (l.flatMap pairOf).length = 2 * l.length := by
  induction l with
  | nil => rfl
  | cons c r ih => rw [List.flatMap_cons, List.length_append, ih]; simp [pairOf]; omega

theorem hex_round {s : ByteArray} {k : Nat} (h : k < s.size) :
    Lib.byteCells (((bl s).take k).flatMap pairOf) ++ [.int .u8 ((hexD (s[k].toNat / 16)).toNat : Int)] ++ [.int .u8 ((hexD (s[k].toNat % 16)).toNat : Int)] = Lib.byteCells (((bl s).take (k + 1)).flatMap pairOf) := by
  rw [take_snoc' s k h, List.flatMap_append, byte_cells_snoc, byte_cells_snoc]
  simp [pairOf]

theorem hex_room {s : ByteArray} {k : Nat} (h : k ≤ s.size) (hs : s.size ≤ 1000000) : (Lib.byteCells (((bl s).take k).flatMap pairOf)).length + 2 ≤ 100000000 := by
  rw [Lib.byteCells_length, flat_len, List.length_take]; omega

set_option maxHeartbeats 1000000 in
set_option maxRecDepth 100000 in
theorem hexed_full (s : ByteArray) (w : World) (hs : s.size ≤ 1000000) (h0 : 0 < s.size) :
    Calls Tryz.prog 21 #[.string s] w (TextPost (hexB (bl s)) w) := by
  have hne : s.toList.isEmpty = false := by rw [ByteArray.toList_eq]; exact List.isEmpty_eq_false_iff.2 (by intro h; have := bl_size s; rw [bl, h] at this; simp at this; omega)
  go_enter Tryz.func21, Tryz.ntmps21
  go_wp2
  go_loopw [9] (fun i wr => HexRel s w i wr) (fun i _ => s.size - (intOf i).toNat)
  case atStart => exact ⟨0, rfl, Nat.zero_le _, Lib.fresh_isBuilder 70 5 w, (Below.refl _ w).alloc (Nat.le_refl _) _⟩
  case round =>
    obtain ⟨k, rfl, hk, hB, hb⟩ := hrel
    have hz := hb.size
    by_cases hlt : k < s.size
    · have hc := s[k].toNat_lt
      have d1 := dig_run ((s[k].toNat : Int) / 16) (s[k].toNat / 16) (by omega) (by omega)
      have d2 := dig_run ((s[k].toNat : Int) % 16) (s[k].toNat % 16) (by omega) (by omega)
      have hr := hex_room hk hs
      go_wp2_with fail
      refine (writeByte_any w.heap.size w.heap.size _ ((hexD (s[k].toNat / 16)).toNat : Int) _ hB (by omega) hz).mono ?_
      rintro e w1 ⟨rfl, hB1, hb1⟩
      have hz1 := hb1.size
      go_wp2_with fail
      refine (writeByte_any w.heap.size w.heap.size _ ((hexD (s[k].toNat % 16)).toNat : Int) _ hB1 (by simp at hr ⊢; omega) (by omega)).mono ?_
      rintro e w2 ⟨rfl, hB2, hb2⟩
      have hrel : HexRel s w (.int .i64 ((k : Int) + 1)) w2 := ⟨k + 1, by push_cast; rfl, hlt, by rw [← hex_round hlt]; exact hB2, (hb.trans hb1).trans hb2⟩
      have Hrel := Lib.hid hrel
      clear hrel hB1 hB2 hB d1 d2
      go_wp2
      go_roundw
      case rel => exact Hrel.out
      case measure => simp [intOf]; omega
    · obtain rfl : k = s.size := by omega
      have e1 : ((bl s).take s.size) = bl s := List.take_of_length_le (by rw [bl_size]; exact Nat.le_refl _)
      have e2 : hexB (bl s) = (bl s).flatMap pairOf := by
        unfold hexB; rw [if_neg]; intro h; have := bl_size s; rw [h] at this; simp at this; omega
      rw [e1, ← e2] at hB
      go_wp2_with fail
      refine (Tryz.Builder_String_any w.heap.size w.heap.size _ _ hB hz).mono ?_
      rintro e w1 ⟨rfl, hb1⟩
      have hfin : TextPost (hexB (bl s)) w (.returned (sv (hexB (bl s)))) w1 := ⟨rfl, hb.trans hb1⟩
      have Hf := Lib.hid hfin
      clear hfin hB e1 e2
      go_wp2
      go_ret
      exact Hf.out

set_option maxHeartbeats 400000 in
theorem hexed_empty (s : ByteArray) (w : World) (h0 : s.size = 0) : Calls Tryz.prog 21 #[.string s] w (TextPost (hexB (bl s)) w) := by
  have e0 : bl s = [] := List.length_eq_zero_iff.1 (by rw [bl_size, h0])
  have hne : s.toList.isEmpty = true := by rw [ByteArray.toList_eq]; show (bl s).isEmpty = true; rw [e0]; rfl
  rw [e0]
  go_enter Tryz.func21, Tryz.ntmps21
  go_wp2
  go_ret
  exact ⟨rfl, Below.refl _ _⟩

theorem hexed_any (s : ByteArray) (w : World) (hs : s.size ≤ 1000000) : Calls Tryz.prog 21 #[.string s] w (TextPost (hexB (bl s)) w) := by
  rcases Nat.eq_zero_or_pos s.size with h | h
  · exact hexed_empty s w h
  · exact hexed_full s w hs h
end Go.Proofs.YtpgegfdiceamaaaGreatDoor
