/- The console's laws: part Wy. -/
import Derived.Test.YtpgegfdiceamaaaGreatDoorWh
import Derived.Deep.QuietTactic
import Derived.BigQuiet
import Derived.IntWalk
namespace Go.Proofs.YtpgegfdiceamaaaGreatDoor
open Go.RowKit Cons

/-- where a digit stands among the digits -/
theorem index_dig : ∀ n : Fin 256, Lib.indexByte digits.data.toList (UInt8.ofNat n.1) = ((hexV (UInt8.ofNat n.1)).map (fun x : Nat => (x : Int))).getD (-1) := by
  decide +kernel

def digIx (c : UInt8) : Int := ((hexV c).map (fun x : Nat => (x : Int))).getD (-1)

theorem index_byte (c : UInt8) : Lib.indexByte digits.data.toList c = digIx c := by
  have := index_dig ⟨c.toNat, c.toNat_lt⟩
  simpa [digIx] using this

theorem indexByte_dig (c : UInt8) (w : World) :
    Calls Tryz.prog 49 #[.string ⟨#[48, 49, 50, 51, 52, 53, 54, 55, 56, 57, 97, 98, 99, 100, 101, 102]⟩, .int .u8 c.toNat] w fun e w' => e = .returned (.int .i64 (digIx c)) ∧ w' = w := by
  refine (Tryz.strings_IndexByte digits c.toNat w).mono ?_
  rintro e w' ⟨rfl, rfl⟩
  refine ⟨?_, rfl⟩
  rw [← index_byte]
  congr 2
  simp

/-- an answer that is a text, or none -/
def optT (o : Option B) : Value := .tuple #[sv (o.getD []), .bool o.isSome]

def OptPost (o : Option B) (w : World) (e : Ending) (w' : World) : Prop := e = .returned (optT o) ∧ Below w.heap.size w w'

def BytesRel (s : ByteArray) (w : World) (i : Value) (wr : World) : Prop :=
  ∃ (k : Nat) (l : B), i = .int .i64 k ∧ k ≤ s.size ∧ k % 2 = 0 ∧ l.length ≤ k ∧ Lib.IsBuilder 70 5 w.heap.size w.heap.size (Lib.byteCells l) wr ∧ Below w.heap.size w wr ∧ pairsB (bl s) = (pairsB ((bl s).drop k)).map (l ++ ·)

theorem digIx_cases (c : UInt8) : (hexV c = none ∧ digIx c = -1) ∨ ∃ a, hexV c = some a ∧ digIx c = (a : Nat) ∧ a < 16 := by
  unfold digIx
  cases h : hexV c with
  | none => exact .inl ⟨rfl, rfl⟩
  | some a => exact .inr ⟨a, rfl, rfl, (hexD_hexV h).2⟩

theorem below_drawn {B : Nat} {a w : World} (h : Below B a w) (n : Nat) : Below B a (w.drewN n) := h.trans ⟨rfl, rfl, rfl, Nat.le_refl _, fun _ _ => rfl⟩

theorem or_fin : ∀ x y : Fin 16, bits BinOp.or IntKind.u8 (((x.1 : Nat) : Int) * 16) ((y.1 : Nat) : Int) = ((16 * x.1 + y.1 : Nat) : Int) := by decide +kernel

theorem or_nibbles {x y : Int} {a b : Nat} (hx : x = a) (hy : y = b) (ha : a < 16) (hb : b < 16) : bits BinOp.or IntKind.u8 (x * 16) y = ((UInt8.ofNat (16 * a + b)).toNat : Int) := by
  subst hx; subst hy
  rw [or_fin ⟨a, ha⟩ ⟨b, hb⟩, u8_ofNat _ (by omega)]

theorem drop2 (s : ByteArray) (k : Nat) (h : k + 1 < s.size) : (bl s).drop k = s[k] :: s[k + 1] :: (bl s).drop (k + 2) := by
  have h1 : k < (bl s).length := by rw [bl_size]; omega
  have h2 : k + 1 < (bl s).length := by rw [bl_size]; omega
  rw [List.drop_eq_getElem_cons h1, List.drop_eq_getElem_cons h2]
  have e1 := bl_get s k (by omega)
  have e2 := bl_get s (k + 1) h
  rw [List.getElem?_eq_getElem h1] at e1
  rw [List.getElem?_eq_getElem h2] at e2
  rw [Option.some.inj e1, Option.some.inj e2]

theorem pairs_none1 {s : ByteArray} {k : Nat} {l : B} (h : k + 1 < s.size) (hp : pairsB (bl s) = (pairsB ((bl s).drop k)).map (l ++ ·)) (ha : hexV s[k] = none ∨ hexV s[k + 1] = none) : pairsB (bl s) = none := by
  rw [hp, drop2 s k h]
  simp only [pairsB]
  rcases ha with ha | ha
  · rw [ha]; simp
  · rw [ha]; cases hexV s[k] <;> simp

theorem pairs_some {s : ByteArray} {k : Nat} {l : B} {a b : Nat} (h : k + 1 < s.size) (hp : pairsB (bl s) = (pairsB ((bl s).drop k)).map (l ++ ·)) (ha : hexV s[k] = some a) (hb : hexV s[k + 1] = some b) :
    pairsB (bl s) = (pairsB ((bl s).drop (k + 2))).map ((l ++ [UInt8.ofNat (16 * a + b)]) ++ ·) := by
  rw [hp, drop2 s k h]
  simp only [pairsB]
  rw [ha, hb]
  cases pairsB ((bl s).drop (k + 2)) <;> simp

theorem bytesB_of {s : ByteArray} (h0 : 0 < s.size) (h45 : bl s ≠ [45]) : bytesB (bl s) = pairsB (bl s) := by
  unfold bytesB
  rw [if_neg h45, if_neg]
  intro h; have := bl_size s; rw [h] at this; simp at this; omega

set_option maxHeartbeats 2000000 in
set_option maxRecDepth 100000 in
theorem bytes_even (s : ByteArray) (w : World) (hs : s.size ≤ 1000000) (h0 : 0 < s.size) (hev : s.size % 2 = 0) (h45 : bl s ≠ [45]) :
    Calls Tryz.prog 29 #[.string s] w (OptPost (bytesB (bl s)) w) := by
  have hne : s.toList.isEmpty = false := by rw [ByteArray.toList_eq]; exact List.isEmpty_eq_false_iff.2 (by intro h; have := bl_size s; rw [bl, h] at this; simp at this; omega)
  have hn45 : (s.toList == [45]) = false := by rw [ByteArray.toList_eq]; exact beq_eq_false_iff_ne.2 h45
  have hev' : (s.size : Int) % 2 = 0 := by omega
  rw [bytesB_of h0 h45]
  clear h45
  go_enter Tryz.func29, Tryz.ntmps29
  go_wp2
  clear hev' hne hn45
  go_loopw [5] (fun i wr => BytesRel s w i wr) (fun i _ => s.size - (intOf i).toNat)
  case atStart => exact ⟨0, [], rfl, Nat.zero_le _, rfl, Nat.zero_le _, Lib.fresh_isBuilder 70 5 w, (Below.refl _ w).alloc (Nat.le_refl _) _, by cases h : pairsB (bl s) <;> simp [h]⟩
  case round =>
    obtain ⟨k, l, rfl, hk, hk2, hl, hB, hb, hp⟩ := hrel
    have hz := hb.size
    have Hp := Lib.hid hp
    have Hk2 := Lib.hid hk2
    have Hev := Lib.hid hev
    clear hp hk2 hev
    by_cases hlt : k < s.size
    · have hlt1 : k + 1 < s.size := by have := Hk2.out; have := Hev.out; omega
      have i0 : (k : Int) < s.size := by omega
      have i1 : (k : Int) + 1 < s.size := by omega
      have i2 : IntKind.i64.wrap ((k : Int) + 1) = (k : Int) + 1 := IntWalk.i64_in _ (by omega)
      have i3 : ((k : Int) + 1).toNat = k + 1 := by omega
      have i4 : 0 ≤ (k : Int) + 1 := by omega
      by_cases hx : digIx s[k] < 0
      · have hno : hexV s[k] = none := by
          rcases digIx_cases s[k] with ⟨h, _⟩ | ⟨a, _, h, h2⟩
          · exact h
          · omega
        have hpn := pairs_none1 hlt1 Hp.out (.inl hno)
        have Hpn := Lib.hid hpn
        clear hpn hno
        go_wp2_with fail
        go_quiet (exact Calls.quiet_of_same (indexByte_dig _ _))
        go_wp2_with fail
        go_ret2
        exact ⟨by rw [Hpn.out]; rfl, below_drawn hb _⟩
      · by_cases hy : digIx s[k + 1] < 0
        · have hno : hexV s[k + 1] = none := by
            rcases digIx_cases s[k + 1] with ⟨h, _⟩ | ⟨a, _, h, h2⟩
            · exact h
            · omega
          have hpn := pairs_none1 hlt1 Hp.out (.inr hno)
          have Hpn := Lib.hid hpn
          clear hpn hno
          go_wp2_with fail
          go_quiet (exact Calls.quiet_of_same (indexByte_dig _ _))
          go_wp2_with fail
          go_ret2
          exact ⟨by rw [Hpn.out]; rfl, below_drawn hb _⟩
        · obtain ⟨a, hva, hxa, ha16⟩ : ∃ a, hexV s[k] = some a ∧ digIx s[k] = (a : Nat) ∧ a < 16 := by
            rcases digIx_cases s[k] with ⟨_, h⟩ | h
            · omega
            · exact h
          obtain ⟨b, hvb, hyb, hb16⟩ : ∃ b, hexV s[k + 1] = some b ∧ digIx s[k + 1] = (b : Nat) ∧ b < 16 := by
            rcases digIx_cases s[k + 1] with ⟨_, h⟩ | h
            · omega
            · exact h
          have Hor := Lib.hid (or_nibbles hxa hyb ha16 hb16)
          have Hps := Lib.hid (pairs_some hlt1 Hp.out hva hvb)
          have hx0 : 0 ≤ digIx s[k] := by omega
          have hy0 : 0 ≤ digIx s[k + 1] := by omega
          have hx1 : digIx s[k] ≤ 15 := by omega
          have hy1 : digIx s[k + 1] ≤ 15 := by omega
          have hlen : (Lib.byteCells l).length + 1 ≤ 100000000 := by rw [Lib.byteCells_length]; omega
          clear hx hy hva hvb hxa hyb
          go_wp2_with fail
          go_quiet (exact Calls.quiet_of_same (indexByte_dig _ _))
          go_wp2_with fail
          rw [Hor.out]
          refine (writeByte_any w.heap.size w.heap.size _ ((UInt8.ofNat (16 * a + b)).toNat : Int) _ (show Lib.IsBuilder 70 5 w.heap.size w.heap.size (Lib.byteCells l) (wr.drewN nq) from hB) hlen (by simpa using hz)).mono ?_
          rintro e w2 ⟨rfl, hB2, hb2⟩
          have hrel : BytesRel s w (.int .i64 ((k : Int) + 2)) w2 := ⟨k + 2, l ++ [UInt8.ofNat (16 * a + b)], by push_cast; rfl, by omega, by have := Hk2.out; omega, by simp; omega, by rw [← byte_cells_snoc]; exact hB2, (below_drawn hb _).trans hb2, Hps.out⟩
          have Hrel := Lib.hid hrel
          clear hrel hB2 hB hb2
          go_wp2
          go_roundw
          case rel => exact Hrel.out
          case measure => simp [intOf]; omega
    · obtain rfl : k = s.size := by omega
      have hp2 := Hp.out
      rw [List.drop_of_length_le (by rw [bl_size]; exact Nat.le_refl _)] at hp2
      simp only [pairsB, Option.map_some, List.append_nil] at hp2
      have Hp2 := Lib.hid hp2
      clear hp2
      go_wp2_with fail
      refine (Tryz.Builder_String_any w.heap.size w.heap.size _ _ hB hz).mono ?_
      rintro e w1 ⟨rfl, hb1⟩
      have Hf := Lib.hid (hb.trans hb1)
      go_wp2
      go_ret2
      exact ⟨by rw [Hp2.out]; rfl, Hf.out⟩

set_option maxHeartbeats 400000 in
theorem bytes_dash (s : ByteArray) (w : World) (h45 : bl s = [45]) : Calls Tryz.prog 29 #[.string s] w (OptPost (bytesB (bl s)) w) := by
  have hn45 : (s.toList == [45]) = true := by rw [ByteArray.toList_eq]; exact beq_iff_eq.2 h45
  have e : bytesB (bl s) = some [] := by rw [h45]; rfl
  have He := Lib.hid e
  clear e h45
  go_enter Tryz.func29, Tryz.ntmps29
  go_wp2
  go_ret2
  exact ⟨by rw [He.out]; rfl, Below.refl _ _⟩

set_option maxHeartbeats 400000 in
theorem bytes_empty (s : ByteArray) (w : World) (h0 : s.size = 0) : Calls Tryz.prog 29 #[.string s] w (OptPost (bytesB (bl s)) w) := by
  have e0 : bl s = [] := List.length_eq_zero_iff.1 (by rw [bl_size, h0])
  have hne : s.toList.isEmpty = true := by rw [ByteArray.toList_eq]; show (bl s).isEmpty = true; rw [e0]; rfl
  have hn45 : (s.toList == [45]) = false := by rw [ByteArray.toList_eq]; show (bl s == [45]) = false; rw [e0]; rfl
  have e : bytesB (bl s) = none := by rw [e0]; rfl
  have He := Lib.hid e
  clear e e0 h0
  go_enter Tryz.func29, Tryz.ntmps29
  go_wp2
  go_ret2
  exact ⟨by rw [He.out]; rfl, Below.refl _ _⟩

theorem pairs_odd : ∀ l : B, l.length % 2 = 1 → pairsB l = none
  | [], h => by simp at h
  | [_], _ => rfl
  | a :: b :: r, h => by
    have := pairs_odd r (by simp at h; omega)
    simp only [pairsB, this]
    cases hexV a <;> cases hexV b <;> rfl

set_option maxHeartbeats 400000 in
theorem bytes_odd (s : ByteArray) (w : World) (hs : s.size ≤ 1000000) (ho : s.size % 2 = 1) (h45 : bl s ≠ [45]) : Calls Tryz.prog 29 #[.string s] w (OptPost (bytesB (bl s)) w) := by
  have hne : s.toList.isEmpty = false := by rw [ByteArray.toList_eq]; exact List.isEmpty_eq_false_iff.2 (by intro h; have := bl_size s; rw [bl, h] at this; simp at this; omega)
  have hn45 : (s.toList == [45]) = false := by rw [ByteArray.toList_eq]; exact beq_eq_false_iff_ne.2 h45
  have ho' : (s.size : Int) % 2 = 1 := by omega
  have e : bytesB (bl s) = none := by rw [bytesB_of (by omega) h45]; exact pairs_odd _ (by rw [bl_size]; exact ho)
  have He := Lib.hid e
  clear e h45
  go_enter Tryz.func29, Tryz.ntmps29
  go_wp2
  go_ret2
  exact ⟨by rw [He.out]; rfl, Below.refl _ _⟩

theorem bytes_any (s : ByteArray) (w : World) (hs : s.size ≤ 1000000) : Calls Tryz.prog 29 #[.string s] w (OptPost (bytesB (bl s)) w) := by
  by_cases h45 : bl s = [45]
  · exact bytes_dash s w h45
  · rcases Nat.eq_zero_or_pos s.size with h | h
    · exact bytes_empty s w h
    · rcases Nat.mod_two_eq_zero_or_one s.size with h2 | h2
      · exact bytes_even s w hs h h2 h45
      · exact bytes_odd s w hs h2 h45
end Go.Proofs.YtpgegfdiceamaaaGreatDoor
