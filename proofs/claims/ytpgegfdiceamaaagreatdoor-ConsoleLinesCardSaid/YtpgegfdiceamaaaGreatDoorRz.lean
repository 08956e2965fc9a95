/- The reference's Parse, by its parts; ConsoleReads walked: true. -/
import Derived.Test.YtpgegfdiceamaaaGreatDoorXl
import Derived.Laws.IdiomStrings
namespace Go.Proofs.YtpgegfdiceamaaaGreatDoor
open Go.RowKit Cons

set_option maxHeartbeats 400000 in
theorem refLetter_any (c : Int) (w : World) :
    Calls Tryz.prog 33 #[.int .u8 c] w fun e w' => e = .returned (.bool (ltr c)) ∧ w = w' := by
  go_enter Tryz.func33, Tryz.ntmps33
  go_wp2
  all_goals (go_ret; exact ⟨ret_bool (by unfold ltr; rw [Bool.eq_iff_iff]; simp; omega), rfl⟩)

set_option maxHeartbeats 1000000 in
set_option maxRecDepth 100000 in
theorem refName_loop (s : ByteArray) (w : World) (h0 : 0 < s.size) (h24 : s.size ≤ 24) (hl : ltr (s[0].toNat : Int) = true) (hd : (bl s).all nameC = nameB (bl s)) :
    Calls Tryz.prog 20 #[.string s] w fun e w' => e = .returned (.bool (nameB (bl s))) ∧ w = w' := by
  have Hd := Lib.hid hd
  have h24f : decide ((24 : Int) < s.size) = false := decide_eq_false (by omega)
  have h0' : decide ((s.size : Int) < 1) = false := decide_eq_false (by omega)
  clear hd
  go_enter Tryz.func20, Tryz.ntmps20
  go_wp2_with (go_at_call 33; refine (refLetter_any _ _).mono ?_; rintro e w' ⟨rfl, rfl⟩)
  go_loop [3] (fun i => NameRel s i) (fun i => s.size - (intOf i).toNat)
  case atStart => exact ⟨0, rfl, Nat.zero_le _, rfl⟩
  case round =>
    obtain ⟨k, rfl, hk, ha⟩ := hrel
    have Ha := Lib.hid ha
    clear ha h0' h24f
    by_cases hlt : k < s.size
    · cases hl2 : ltr (s[k].toNat : Int) with
      | true =>
        have Hn := Lib.hid (name_round hlt Ha.out (nameC_of (.inl hl2)))
        go_wp2_with (go_at_call 33; refine (refLetter_any _ _).mono ?_; rintro e w' ⟨rfl, rfl⟩)
        exact ⟨Hn.out, by simp [intOf]; omega⟩
      | false =>
        by_cases h48 : 48 ≤ (s[k].toNat : Int)
        · by_cases h57 : (s[k].toNat : Int) ≤ 57
          · have Hn := Lib.hid (name_round hlt Ha.out (nameC_of (.inr (.inl ⟨h48, h57⟩))))
            go_wp2_with (go_at_call 33; refine (refLetter_any _ _).mono ?_; rintro e w' ⟨rfl, rfl⟩)
            exact ⟨Hn.out, by simp [intOf]; omega⟩
          · have h46 : ((s[k].toNat : Int) != 46) = true := by rw [bne_iff_ne]; omega
            have Hn := Lib.hid (name_stop hlt (nameC_not hl2 (.inr (by omega)) h46))
            go_wp2_with (go_at_call 33; refine (refLetter_any _ _).mono ?_; rintro e w' ⟨rfl, rfl⟩)
            go_ret
            exact ⟨ret_bool (by rw [← Hd.out, Hn.out]), rfl⟩
        · cases h46 : ((s[k].toNat : Int) != 46) with
          | true =>
            have Hn := Lib.hid (name_stop hlt (nameC_not hl2 (.inl (by omega)) h46))
            go_wp2_with (go_at_call 33; refine (refLetter_any _ _).mono ?_; rintro e w' ⟨rfl, rfl⟩)
            go_ret
            exact ⟨ret_bool (by rw [← Hd.out, Hn.out]), rfl⟩
          | false =>
            have Hn := Lib.hid (name_round hlt Ha.out (nameC_of (.inr (.inr (by simpa using h46)))))
            go_wp2_with (go_at_call 33; refine (refLetter_any _ _).mono ?_; rintro e w' ⟨rfl, rfl⟩)
            exact ⟨Hn.out, by simp [intOf]; omega⟩
    · obtain rfl : k = s.size := by omega
      have h2 := Ha.out
      rw [List.take_of_length_le (by rw [bl_size]; exact Nat.le_refl _)] at h2
      have H2 := Lib.hid h2
      clear h2
      go_wp2
      go_ret
      exact ⟨ret_bool (by rw [← Hd.out, H2.out]), rfl⟩

set_option maxHeartbeats 1000000 in
set_option maxRecDepth 100000 in
theorem refName_long (s : ByteArray) (w : World) (hs : s.size ≤ 1000000) (h : 24 < s.size) :
    Calls Tryz.prog 20 #[.string s] w fun e w' => e = .returned (.bool (nameB (bl s))) ∧ w = w' := by
  have hn : nameB (bl s) = false := by unfold nameB; rw [bl_size]; have : decide (s.size ≤ 24) = false := by simp; omega
                                       rw [this]; simp
  have Hn := Lib.hid hn
  have h0' : decide ((s.size : Int) < 1) = false := decide_eq_false (by omega)
  clear hn
  go_enter Tryz.func20, Tryz.ntmps20
  go_wp2
  go_ret
  exact ⟨ret_bool Hn.out.symm, rfl⟩

set_option maxHeartbeats 1000000 in
set_option maxRecDepth 100000 in
theorem refName_empty (s : ByteArray) (w : World) (h : s.size = 0) :
    Calls Tryz.prog 20 #[.string s] w fun e w' => e = .returned (.bool (nameB (bl s))) ∧ w = w' := by
  have hn : nameB (bl s) = false := by unfold nameB; rw [bl_size, h]; rfl
  have Hn := Lib.hid hn
  have h0' : decide ((s.size : Int) < 1) = true := decide_eq_true (by omega)
  clear hn
  go_enter Tryz.func20, Tryz.ntmps20
  go_wp2
  go_ret
  exact ⟨ret_bool Hn.out.symm, rfl⟩

set_option maxHeartbeats 1000000 in
set_option maxRecDepth 100000 in
theorem refName_first (s : ByteArray) (w : World) (h0 : 0 < s.size) (h24 : s.size ≤ 24) (hl : ltr (s[0].toNat : Int) = false) :
    Calls Tryz.prog 20 #[.string s] w fun e w' => e = .returned (.bool (nameB (bl s))) ∧ w = w' := by
  have hn : nameB (bl s) = false := by rw [nameB_first h0 h24, hl]; rfl
  have Hn := Lib.hid hn
  have h0' : decide ((s.size : Int) < 1) = false := decide_eq_false (by omega)
  clear hn
  go_enter Tryz.func20, Tryz.ntmps20
  go_wp2_with (go_at_call 33; refine (refLetter_any _ _).mono ?_; rintro e w' ⟨rfl, rfl⟩)
  go_ret
  exact ⟨ret_bool Hn.out.symm, rfl⟩

theorem refName_any (s : ByteArray) (w : World) (hs : s.size ≤ 1000000) :
    Calls Tryz.prog 20 #[.string s] w fun e w' => e = .returned (.bool (nameB (bl s))) ∧ w = w' := by
  rcases Nat.eq_zero_or_pos s.size with h | h
  · exact refName_empty s w h
  · by_cases h24 : s.size ≤ 24
    · cases hl : ltr (s[0].toNat : Int) with
      | true => exact refName_loop s w h h24 hl (by rw [nameB_first h h24, hl]; simp)
      | false => exact refName_first s w h h24 hl
    · exact refName_long s w hs (by omega)
end Go.Proofs.YtpgegfdiceamaaaGreatDoor

namespace Go.Proofs.YtpgegfdiceamaaaGreatDoor
open Go.RowKit Cons

set_option maxHeartbeats 1000000 in
theorem refDigit_any (c : UInt8) (w : World) : Calls Tryz.prog 32 #[.int .u8 c.toNat] w fun e w' => e = .returned (.int .i64 (digIx c)) ∧ w' = w := by
  have hc := c.toNat_lt
  by_cases h1 : 48 ≤ c.toNat ∧ c.toNat ≤ 57
  · obtain ⟨h1, h2⟩ := h1
    have e : digIx c = (c.toNat : Int) - 48 := by
      unfold digIx hexV; rw [if_pos ⟨h1, h2⟩]; simp; omega
    have i1 : decide ((48 : Int) ≤ c.toNat) = true := decide_eq_true (by omega)
    have i2 : decide ((c.toNat : Int) ≤ 57) = true := decide_eq_true (by omega)
    have i3 : IntKind.u8.wrap ((c.toNat : Int) - 48) = (c.toNat : Int) - 48 := IntWalk.u8_in _ (by omega)
    have i4 : IntKind.i64.wrap ((c.toNat : Int) - 48) = (c.toNat : Int) - 48 := IntWalk.i64_in _ (by omega)
    have He := Lib.hid e
    clear e hc h1 h2
    go_enter Tryz.func32, Tryz.ntmps32
    go_wp2
    go_ret
    exact ⟨by rw [He.out]; rfl, rfl⟩
  · by_cases h3 : 97 ≤ c.toNat ∧ c.toNat ≤ 102
    · obtain ⟨h3, h4⟩ := h3
      have e : digIx c = (c.toNat : Int) - 97 + 10 := by
        unfold digIx hexV; rw [if_neg h1, if_pos ⟨h3, h4⟩]; simp; omega
      have i1 : decide ((48 : Int) ≤ c.toNat) = true := decide_eq_true (by omega)
      have i2 : decide ((c.toNat : Int) ≤ 57) = false := decide_eq_false (by omega)
      have j1 : decide ((97 : Int) ≤ c.toNat) = true := decide_eq_true (by omega)
      have j2 : decide ((c.toNat : Int) ≤ 102) = true := decide_eq_true (by omega)
      have i3 : IntKind.u8.wrap ((c.toNat : Int) - 97) = (c.toNat : Int) - 97 := IntWalk.u8_in _ (by omega)
      have i4 : IntKind.i64.wrap ((c.toNat : Int) - 97) = (c.toNat : Int) - 97 := IntWalk.i64_in _ (by omega)
      have i5 : IntKind.i64.wrap ((c.toNat : Int) - 97 + 10) = (c.toNat : Int) - 97 + 10 := IntWalk.i64_in _ (by omega)
      have He := Lib.hid e
      clear e hc h1 h3 h4
      go_enter Tryz.func32, Tryz.ntmps32
      go_wp2
      go_ret
      exact ⟨by rw [He.out]; rfl, rfl⟩
    · have e : digIx c = -1 := by
        unfold digIx hexV; rw [if_neg h1, if_neg h3]; rfl
      have He := Lib.hid e
      clear e
      by_cases a1 : 48 ≤ c.toNat
      · have i1 : decide ((48 : Int) ≤ c.toNat) = true := decide_eq_true (by omega)
        have i2 : decide ((c.toNat : Int) ≤ 57) = false := decide_eq_false (by omega)
        by_cases a2 : 97 ≤ c.toNat
        · have j1 : decide ((97 : Int) ≤ c.toNat) = true := decide_eq_true (by omega)
          have j2 : decide ((c.toNat : Int) ≤ 102) = false := decide_eq_false (by omega)
          clear hc h1 h3 a1 a2
          go_enter Tryz.func32, Tryz.ntmps32
          go_wp2
          go_ret
          exact ⟨by rw [He.out]; rfl, rfl⟩
        · have j1 : decide ((97 : Int) ≤ c.toNat) = false := decide_eq_false (by omega)
          clear hc h1 h3 a1 a2
          go_enter Tryz.func32, Tryz.ntmps32
          go_wp2
          go_ret
          exact ⟨by rw [He.out]; rfl, rfl⟩
      · have i1 : decide ((48 : Int) ≤ c.toNat) = false := decide_eq_false (by omega)
        have j1 : decide ((97 : Int) ≤ c.toNat) = false := decide_eq_false (by omega)
        clear hc h1 h3 a1
        go_enter Tryz.func32, Tryz.ntmps32
        go_wp2
        go_ret
        exact ⟨by rw [He.out]; rfl, rfl⟩
end Go.Proofs.YtpgegfdiceamaaaGreatDoor

namespace Go.Proofs.YtpgegfdiceamaaaGreatDoor
open Go.RowKit Cons

def bv (b : UInt8) : Value := .int .u8 b.toNat

def RBRel (s : ByteArray) (w : World) (out i : Value) (wr : World) : Prop :=
  ∃ (k : Nat) (l : B), i = .int .i64 k ∧ k ≤ s.size ∧ 2 * l.length = k ∧ wr.ownsRow w.heap.size 5 1 out l.length (l.map bv) ∧ Below w.heap.size w wr ∧ pairsB (bl s) = (pairsB ((bl s).drop k)).map (l ++ ·)

theorem byte_row_open {base : Nat} {w : World} {v : Value} {l : B} (h : w.ownsRow base 5 1 v l.length (l.map bv)) (hl : l ≠ []) :
    ∃ g cap, v = .slice (some ⟨g, 0, none⟩) l.length cap ∧ (convert 65 9 (.slice (some ⟨g, 0, none⟩) l.length cap)).run Tryz.prog w = .ok (.string (ba l)) w := by
  obtain ⟨hlen, h2⟩ := h
  rcases h2 with ⟨_, h0⟩ | ⟨g, cap, cur, rfl, hg, hblk, hn, hm, hcur, htake⟩
  · exact absurd (List.length_eq_zero_iff.1 h0) hl
  · refine ⟨g, cap, rfl, run_convert_bytes_back w 65 9 5 ⟨g, 0, none⟩ cap l Tryz.underlying65 Tryz.underlying5 Tryz.underlying9 fun j hj => ?_⟩
    have e : (⟨g, 0, none⟩ : Addr).add j = ⟨g, j, none⟩ := by
      unfold Addr.add
      by_cases h0 : j = 0 <;> simp [h0]
    rw [e, Lib.cell_of_heap hblk]
    have e2 : (l.map bv)[j]? = some (bv l[j]) := by rw [List.getElem?_map, List.getElem?_eq_getElem hj]; rfl
    rw [← htake, List.getElem?_take, if_pos (by omega)] at e2
    rw [← Array.getElem?_toList]
    exact e2

theorem rb_start (s : ByteArray) (w : World) : RBRel s w (.slice none 0 0) (.int .i64 0) w :=
  ⟨0, [], rfl, Nat.zero_le _, rfl, ⟨rfl, .inl ⟨rfl, rfl⟩⟩, Below.refl _ _, by cases h : pairsB (bl s) <;> simp [h]⟩

theorem rb_next {s : ByteArray} {w w2 w3 : World} {o : Obj} {v v' x : Value} {k : Nat} {l : B} {c : UInt8} (_hk : k ≤ s.size) (hlt : k + 1 < s.size) (h2 : 2 * l.length = k) (hb : Below w.heap.size w w2)
    (hrow : w2.ownsRow w.heap.size 5 1 v l.length (l.map bv)) (hg : (w2.alloc o).grownBy w3 v.ownBlock) (hrow3 : w3.ownsRow w.heap.size 5 1 v' (l.length + 1) (l.map bv ++ [x])) (hx : x = bv c)
    (hp : pairsB (bl s) = (pairsB ((bl s).drop (k + 2))).map ((l ++ [c]) ++ ·)) : RBRel s w v' (.int .i64 ((k : Int) + 2)) w3 := by
  refine ⟨k + 2, l ++ [c], by push_cast; rfl, by omega, by simp; omega, ?_, ?_, hp⟩
  · rw [List.length_append, List.map_append, List.length_singleton, List.map_singleton, ← hx]
    exact hrow3
  · exact Below.grown (hb.alloc hb.size o) hg (by have := hb.size; simp; omega) (row_block hrow)

set_option maxHeartbeats 4000000 in
set_option maxRecDepth 1000000 in
theorem refBytes_even (s : ByteArray) (w : World) (hs : s.size ≤ 1000000) (h0 : 0 < s.size) (hev : s.size % 2 = 0) (h45 : bl s ≠ [45]) :
    Calls Tryz.prog 18 #[.string s] w (OptPost (bytesB (bl s)) w) := by
  obtain ⟨i0, hi, hz0, hz1, hz2⟩ := info_parts info5
  have hn45 : (s.toList == [45]) = false := by rw [ByteArray.toList_eq]; exact beq_eq_false_iff_ne.2 h45
  have hne : ((s.size : Int) == 0) = false := by rw [beq_eq_false_iff_ne]; omega
  have hev' : (s.size : Int) % 2 = 0 := by omega
  rw [bytesB_of h0 h45]
  clear h45
  go_enter Tryz.func18, Tryz.ntmps18
  go_wp2
  clear hev' hn45 hne
  go_loopw [4, 5] (fun out i wr => RBRel s w out i wr) (fun _ i _ => s.size - (intOf i).toNat)
  case atStart => exact rb_start s w
  case round =>
    obtain ⟨k, l, rfl, hk, hk2, hrow, hb, hp⟩ := hrel
    have hz := hb.size
    have Hp := Lib.hid hp
    have Hk2 := Lib.hid hk2
    have Hev := Lib.hid hev
    have Hrow := Lib.hid hrow
    have Hb := Lib.hid hb
    clear hp hk2 hev hrow hb
    by_cases hlt : k < s.size
    · have hlt1 : k + 1 < s.size := by have := Hk2.out; have := Hev.out; omega
      have j0 : (k : Int) < s.size := by omega
      have j1 : (k : Int) + 1 < s.size := by omega
      have j2 : IntKind.i64.wrap ((k : Int) + 1) = (k : Int) + 1 := IntWalk.i64_in _ (by omega)
      have j3 : ((k : Int) + 1).toNat = k + 1 := by omega
      have j4 : 0 ≤ (k : Int) + 1 := by omega
      by_cases hx : digIx s[k] < 0
      · have hno : hexV s[k] = none := by
          rcases digIx_cases s[k] with ⟨h, _⟩ | ⟨a, _, h, h2⟩
          · exact h
          · omega
        have Hpn := Lib.hid (pairs_none1 hlt1 Hp.out (.inl hno))
        clear hno
        go_wp2_with fail
        go_quiet (exact Calls.quiet_of_same (refDigit_any _ _))
        go_wp2_with fail
        go_ret2
        exact ⟨by rw [Hpn.out]; rfl, below_drawn Hb.out _⟩
      · by_cases hy : digIx s[k + 1] < 0
        · have hno : hexV s[k + 1] = none := by
            rcases digIx_cases s[k + 1] with ⟨h, _⟩ | ⟨a, _, h, h2⟩
            · exact h
            · omega
          have Hpn := Lib.hid (pairs_none1 hlt1 Hp.out (.inr hno))
          clear hno
          go_wp2_with fail
          go_quiet (exact Calls.quiet_of_same (refDigit_any _ _))
          go_wp2_with fail
          go_ret2
          exact ⟨by rw [Hpn.out]; rfl, below_drawn Hb.out _⟩
        · obtain ⟨a, hva, hxa, ha16⟩ : ∃ a, hexV s[k] = some a ∧ digIx s[k] = (a : Nat) ∧ a < 16 := by
            rcases digIx_cases s[k] with ⟨_, h⟩ | h
            · omega
            · exact h
          obtain ⟨b, hvb, hyb, hb16⟩ : ∃ b, hexV s[k + 1] = some b ∧ digIx s[k + 1] = (b : Nat) ∧ b < 16 := by
            rcases digIx_cases s[k + 1] with ⟨_, h⟩ | h
            · omega
            · exact h
          have Hps := Lib.hid (pairs_some hlt1 Hp.out hva hvb)
          have m1 : IntKind.i64.wrap (16 * digIx s[k]) = 16 * digIx s[k] := IntWalk.i64_in _ (by omega)
          have m2 : IntKind.i64.wrap (16 * digIx s[k] + digIx s[k + 1]) = 16 * digIx s[k] + digIx s[k + 1] := IntWalk.i64_in _ (by omega)
          have m3 : IntKind.u8.wrap (16 * digIx s[k] + digIx s[k + 1]) = 16 * digIx s[k] + digIx s[k + 1] := IntWalk.u8_in _ (by omega)
          have Hbv := Lib.hid (show (Value.int .u8 (16 * digIx s[k] + digIx s[k + 1])) = bv (UInt8.ofNat (16 * a + b)) by
            unfold bv; rw [u8_ofNat _ (by omega), hxa, hyb]; congr 1)
          have hx0 : decide (digIx s[k] < 0) = false := decide_eq_false hx
          have hy0 : decide (digIx s[k + 1] < 0) = false := decide_eq_false hy
          have Hl := Lib.hid (show l.length ≤ 1000000 by have := Hk2.out; omega)
          clear hx hy hva hvb hxa hyb
          go_wp2_with fail
          go_quiet (exact Calls.quiet_of_same (refDigit_any _ _))
          go_wp2_with (at_builtin; go_must (refine wpList_append_own _ rfl _ _ 65 rfl w.heap.size 5 i0 (.int .u8 0) 1 1 Tryz.underlying65 hi hz0 hz1 hz2 rfl (by decide) _ _ _ rfl ((show (wr.drewN nq).ownsRow w.heap.size 5 1 u4 l.length (l.map bv) from Hrow.out).alloc _) ⟨wr.heap.size, 0, none⟩ 1 1 [.int .u8 (16 * digIx s[k] + digIx s[k + 1])] rfl rfl ?c1 ?c2 ?c3 ?c4 ?c5 ?_))
          case c1 => exact cell_one_new _ _ _
          case c2 => intro u hu; rw [List.mem_singleton.1 hu]; rfl
          case c3 => have := Hl.out; unfold maxLen; omega
          case c4 => have := Hl.out; omega
          case c5 => show w.heap.size ≤ ((wr.drewN nq).alloc _).heap.size; simp; exact Nat.le_succ_of_le hz
          intro v' w3 hrow3 hg _
          have hrel := rb_next hk hlt1 Hk2.out (below_drawn Hb.out nq) (show (wr.drewN nq).ownsRow w.heap.size 5 1 u4 l.length (l.map bv) from Hrow.out) hg hrow3 Hbv.out Hps.out
          have Hrel := Lib.hid hrel
          clear hrel hg hrow3
          go_wp2
          go_roundw
          case rel => exact Hrel.out
          case measure => simp [intOf]; omega
    · obtain rfl : k = s.size := by omega
      have hp2 := Hp.out
      rw [List.drop_of_length_le (by rw [bl_size]; exact Nat.le_refl _)] at hp2
      simp only [pairsB, Option.map_some, List.append_nil] at hp2
      have hl0 : l ≠ [] := fun e => by have := Hk2.out; rw [e] at this; simp at this; omega
      obtain ⟨g, cap, rfl, hcv⟩ := byte_row_open Hrow.out hl0
      have Hp2 := Lib.hid hp2
      clear hp2 hl0
      go_wp2_with fail
      go_ret2
      exact ⟨by rw [Hp2.out]; rfl, Hb.out⟩
set_option maxHeartbeats 400000 in
theorem refBytes_dash (s : ByteArray) (w : World) (h45 : bl s = [45]) : Calls Tryz.prog 18 #[.string s] w (OptPost (bytesB (bl s)) w) := by
  have hn45 : (s.toList == [45]) = true := by rw [ByteArray.toList_eq]; exact beq_iff_eq.2 h45
  have e : bytesB (bl s) = some [] := by rw [h45]; rfl
  have He := Lib.hid e
  clear e h45
  go_enter Tryz.func18, Tryz.ntmps18
  go_wp2
  go_ret2
  exact ⟨by rw [He.out]; rfl, Below.refl _ _⟩

set_option maxHeartbeats 400000 in
theorem refBytes_empty (s : ByteArray) (w : World) (h0 : s.size = 0) : Calls Tryz.prog 18 #[.string s] w (OptPost (bytesB (bl s)) w) := by
  have e0 : bl s = [] := List.length_eq_zero_iff.1 (by rw [bl_size, h0])
  have hne : ((s.size : Int) == 0) = true := by rw [beq_iff_eq]; omega
  have hn45 : (s.toList == [45]) = false := by rw [ByteArray.toList_eq]; show (bl s == [45]) = false; rw [e0]; rfl
  have e : bytesB (bl s) = none := by rw [e0]; rfl
  have He := Lib.hid e
  clear e e0 h0
  go_enter Tryz.func18, Tryz.ntmps18
  go_wp2
  go_ret2
  exact ⟨by rw [He.out]; rfl, Below.refl _ _⟩

set_option maxHeartbeats 400000 in
theorem refBytes_odd (s : ByteArray) (w : World) (hs : s.size ≤ 1000000) (ho : s.size % 2 = 1) (h45 : bl s ≠ [45]) : Calls Tryz.prog 18 #[.string s] w (OptPost (bytesB (bl s)) w) := by
  have hne : ((s.size : Int) == 0) = false := by rw [beq_eq_false_iff_ne]; omega
  have hn45 : (s.toList == [45]) = false := by rw [ByteArray.toList_eq]; exact beq_eq_false_iff_ne.2 h45
  have ho' : (s.size : Int) % 2 = 1 := by omega
  have e : bytesB (bl s) = none := by rw [bytesB_of (by omega) h45]; exact pairs_odd _ (by rw [bl_size]; exact ho)
  have He := Lib.hid e
  clear e h45
  go_enter Tryz.func18, Tryz.ntmps18
  go_wp2
  go_ret2
  exact ⟨by rw [He.out]; rfl, Below.refl _ _⟩

theorem refBytes_any (s : ByteArray) (w : World) (hs : s.size ≤ 1000000) : Calls Tryz.prog 18 #[.string s] w (OptPost (bytesB (bl s)) w) := by
  by_cases h45 : bl s = [45]
  · exact refBytes_dash s w h45
  · rcases Nat.eq_zero_or_pos s.size with h | h
    · exact refBytes_empty s w h
    · rcases Nat.mod_two_eq_zero_or_one s.size with h2 | h2
      · exact refBytes_even s w hs h h2 h45
      · exact refBytes_odd s w hs h2 h45
end Go.Proofs.YtpgegfdiceamaaaGreatDoor

namespace Go.Proofs.YtpgegfdiceamaaaGreatDoor
open Go.RowKit Cons

def NRel (s : ByteArray) (n i : Value) : Prop :=
  ∃ k m : Nat, i = .int .i64 k ∧ n = .int .i64 m ∧ k ≤ s.size ∧ m = decB ((bl s).take k) ∧ ((bl s).take k).all digB = true

theorem num_next {s : ByteArray} {k m : Nat} (h : k < s.size) (hm : m = decB ((bl s).take k)) (ha : ((bl s).take k).all digB = true) (hd : digB s[k] = true) : NRel s (.int .i64 ((m : Int) * 10 + ((s[k].toNat : Int) - 48))) (.int .i64 ((k : Int) + 1)) := by
  have hd2 : 48 ≤ s[k].toNat ∧ s[k].toNat ≤ 57 := by simpa [digB] using hd
  refine ⟨k + 1, m * 10 + (s[k].toNat - 48), by push_cast; rfl, by push_cast; congr 1; omega, h, ?_, ?_⟩
  · rw [take_snoc' s k h, decB_snoc, hm]
  · rw [take_snoc' s k h, List.all_append, ha]; simp [hd]

theorem num_stop {s : ByteArray} {k : Nat} (h : k < s.size) (hd : digB s[k] = false) : numberB (bl s) = none := by
  unfold numberB
  rw [if_pos]
  refine .inr (.inr (.inr ?_))
  rw [List.all_eq_false]
  exact ⟨s[k], List.mem_of_getElem? (bl_get s k h), by simp [hd]⟩

theorem num_bound {s : ByteArray} {k m : Nat} (h9 : s.size ≤ 9) (h : k < s.size) (hm : m = decB ((bl s).take k)) (ha : ((bl s).take k).all digB = true) : m < 100000000 := by
  have := decB_lt _ ha
  have hl : ((bl s).take k).length ≤ 8 := by rw [List.length_take, bl_size]; omega
  have : 10 ^ ((bl s).take k).length ≤ 10 ^ 8 := Nat.pow_le_pow_right (by decide) hl
  omega

theorem num_end {s : ByteArray} {m : Nat} (h1 : 1 ≤ s.size) (h9 : s.size ≤ 9) (hz : 1 < s.size → (bl s).head? ≠ some 48) (hm : m = decB ((bl s).take s.size)) (ha : ((bl s).take s.size).all digB = true) : numberB (bl s) = some m := by
  rw [List.take_of_length_le (by rw [bl_size]; exact Nat.le_refl _)] at hm ha
  unfold numberB
  have hl := bl_size s
  rw [if_neg, hm]
  simp only [not_or, not_and]
  exact ⟨by omega, by omega, fun h => hz (by omega), by simp [ha]⟩

set_option maxHeartbeats 2000000 in
set_option maxRecDepth 100000 in
theorem refNumber_one (s : ByteArray) (w : World) (h1 : 1 ≤ s.size) (h9 : s.size ≤ 9) (hl : s.size ≤ 1) (hz : 1 < s.size → (bl s).head? ≠ some 48) :
    Calls Tryz.prog 19 #[.string s] w (NumPost (numberB (bl s)) w) := by
  have e1 : decide ((s.size : Int) < 1) = false := decide_eq_false (by omega)
  have e2 : decide ((9 : Int) < s.size) = false := decide_eq_false (by omega)
  have e3 : decide ((1 : Int) < s.size) = false := decide_eq_false (by omega)
  have Hz := Lib.hid hz
  clear hz
  go_enter Tryz.func19, Tryz.ntmps19
  go_wp2
  clear e1 e2 e3
  go_loop [4, 5] (fun n i => NRel s n i) (fun _ i => s.size - (intOf i).toNat)
  case atStart => exact ⟨0, 0, rfl, rfl, Nat.zero_le _, rfl, rfl⟩
  case round =>
    obtain ⟨k, m, rfl, rfl, hk, hm, ha⟩ := hrel
    have Hm := Lib.hid hm
    have Ha := Lib.hid ha
    clear hm ha
    by_cases hlt : k < s.size
    · have j0 : (k : Int) < s.size := by omega
      have Hb := Lib.hid (num_bound h9 hlt Hm.out Ha.out)
      have hc := s[k].toNat_lt
      by_cases h48 : 48 ≤ s[k].toNat
      · have i1 : decide ((s[k].toNat : Int) < 48) = false := decide_eq_false (by omega)
        by_cases h57 : s[k].toNat ≤ 57
        · have i2 : decide ((57 : Int) < s[k].toNat) = false := decide_eq_false (by omega)
          have Hn := Lib.hid (num_next hlt Hm.out Ha.out (by simp [digB]; omega))
          have i3 : IntKind.u8.wrap ((s[k].toNat : Int) - 48) = (s[k].toNat : Int) - 48 := IntWalk.u8_in _ (by omega)
          have i4 : IntKind.i64.wrap ((s[k].toNat : Int) - 48) = (s[k].toNat : Int) - 48 := IntWalk.i64_in _ (by omega)
          have i5 : IntKind.i64.wrap ((m : Int) * 10) = (m : Int) * 10 := IntWalk.i64_in _ (by have := Hb.out; omega)
          have i6 : IntKind.i64.wrap ((m : Int) * 10 + ((s[k].toNat : Int) - 48)) = (m : Int) * 10 + ((s[k].toNat : Int) - 48) := IntWalk.i64_in _ (by have := Hb.out; omega)
          clear h48 h57 hc
          go_wp2_with fail
          exact ⟨Hn.out, by simp [intOf]; omega⟩
        · have i2 : decide ((57 : Int) < s[k].toNat) = true := decide_eq_true (by omega)
          have Hn := Lib.hid (num_stop hlt (by simp [digB]; omega))
          clear h48 h57 hc
          go_wp2_with fail
          go_ret2
          exact ⟨by rw [Hn.out]; rfl, Below.refl _ _⟩
      · have i1 : decide ((s[k].toNat : Int) < 48) = true := decide_eq_true (by omega)
        have Hn := Lib.hid (num_stop hlt (by simp [digB]; omega))
        clear h48 hc
        go_wp2_with fail
        go_ret2
        exact ⟨by rw [Hn.out]; rfl, Below.refl _ _⟩
    · obtain rfl : k = s.size := by omega
      have Hn := Lib.hid (num_end h1 h9 Hz.out Hm.out Ha.out)
      go_wp2
      go_ret2
      exact ⟨by rw [Hn.out]; rfl, Below.refl _ _⟩

set_option maxHeartbeats 2000000 in
set_option maxRecDepth 100000 in
theorem refNumber_more (s : ByteArray) (w : World) (h1 : 1 ≤ s.size) (h9 : s.size ≤ 9) (hl : 1 < s.size) (h48 : s[0] ≠ 48) (hz : 1 < s.size → (bl s).head? ≠ some 48) :
    Calls Tryz.prog 19 #[.string s] w (NumPost (numberB (bl s)) w) := by
  have e1 : decide ((s.size : Int) < 1) = false := decide_eq_false (by omega)
  have e2 : decide ((9 : Int) < s.size) = false := decide_eq_false (by omega)
  have e3 : decide ((1 : Int) < s.size) = true := decide_eq_true (by omega)
  have e4 : ((s[0].toNat : Int) == 48) = false := beq_eq_false_iff_ne.2 (fun e => h48 (UInt8.toNat_inj.1 (show s[0].toNat = 48 by omega)))
  have Hz := Lib.hid hz
  clear hz
  go_enter Tryz.func19, Tryz.ntmps19
  go_wp2
  clear e1 e2 e3 e4
  go_loop [4, 5] (fun n i => NRel s n i) (fun _ i => s.size - (intOf i).toNat)
  case atStart => exact ⟨0, 0, rfl, rfl, Nat.zero_le _, rfl, rfl⟩
  case round =>
    obtain ⟨k, m, rfl, rfl, hk, hm, ha⟩ := hrel
    have Hm := Lib.hid hm
    have Ha := Lib.hid ha
    clear hm ha
    by_cases hlt : k < s.size
    · have j0 : (k : Int) < s.size := by omega
      have Hb := Lib.hid (num_bound h9 hlt Hm.out Ha.out)
      have hc := s[k].toNat_lt
      by_cases h48 : 48 ≤ s[k].toNat
      · have i1 : decide ((s[k].toNat : Int) < 48) = false := decide_eq_false (by omega)
        by_cases h57 : s[k].toNat ≤ 57
        · have i2 : decide ((57 : Int) < s[k].toNat) = false := decide_eq_false (by omega)
          have Hn := Lib.hid (num_next hlt Hm.out Ha.out (by simp [digB]; omega))
          have i3 : IntKind.u8.wrap ((s[k].toNat : Int) - 48) = (s[k].toNat : Int) - 48 := IntWalk.u8_in _ (by omega)
          have i4 : IntKind.i64.wrap ((s[k].toNat : Int) - 48) = (s[k].toNat : Int) - 48 := IntWalk.i64_in _ (by omega)
          have i5 : IntKind.i64.wrap ((m : Int) * 10) = (m : Int) * 10 := IntWalk.i64_in _ (by have := Hb.out; omega)
          have i6 : IntKind.i64.wrap ((m : Int) * 10 + ((s[k].toNat : Int) - 48)) = (m : Int) * 10 + ((s[k].toNat : Int) - 48) := IntWalk.i64_in _ (by have := Hb.out; omega)
          clear h48 h57 hc
          go_wp2_with fail
          exact ⟨Hn.out, by simp [intOf]; omega⟩
        · have i2 : decide ((57 : Int) < s[k].toNat) = true := decide_eq_true (by omega)
          have Hn := Lib.hid (num_stop hlt (by simp [digB]; omega))
          clear h48 h57 hc
          go_wp2_with fail
          go_ret2
          exact ⟨by rw [Hn.out]; rfl, Below.refl _ _⟩
      · have i1 : decide ((s[k].toNat : Int) < 48) = true := decide_eq_true (by omega)
        have Hn := Lib.hid (num_stop hlt (by simp [digB]; omega))
        clear h48 hc
        go_wp2_with fail
        go_ret2
        exact ⟨by rw [Hn.out]; rfl, Below.refl _ _⟩
    · obtain rfl : k = s.size := by omega
      have Hn := Lib.hid (num_end h1 h9 Hz.out Hm.out Ha.out)
      go_wp2
      go_ret2
      exact ⟨by rw [Hn.out]; rfl, Below.refl _ _⟩

set_option maxHeartbeats 1000000 in
set_option maxRecDepth 100000 in
theorem refNumber_none (s : ByteArray) (w : World) (h : s.size = 0) : Calls Tryz.prog 19 #[.string s] w (NumPost (numberB (bl s)) w) := by
  have hn : numberB (bl s) = none := by
    unfold numberB
    have hl := bl_size s
    rw [if_pos]
    exact .inl (by omega)
  have Hn := Lib.hid hn
  have e1 : decide ((s.size : Int) < 1) = true := decide_eq_true (by omega)
  clear hn
  go_enter Tryz.func19, Tryz.ntmps19
  go_wp2_with fail
  go_ret2
  exact ⟨by rw [Hn.out]; rfl, Below.refl _ _⟩

set_option maxHeartbeats 1000000 in
set_option maxRecDepth 100000 in
theorem refNumber_long (s : ByteArray) (w : World) (h9 : 9 < s.size) : Calls Tryz.prog 19 #[.string s] w (NumPost (numberB (bl s)) w) := by
  have hn : numberB (bl s) = none := by
    unfold numberB
    have hl := bl_size s
    rw [if_pos]
    exact .inr (.inl (by omega))
  have Hn := Lib.hid hn
  have e1 : decide ((s.size : Int) < 1) = false := decide_eq_false (by omega)
  have e2 : decide ((9 : Int) < s.size) = true := decide_eq_true (by omega)
  clear hn
  go_enter Tryz.func19, Tryz.ntmps19
  go_wp2_with fail
  go_ret2
  exact ⟨by rw [Hn.out]; rfl, Below.refl _ _⟩

set_option maxHeartbeats 1000000 in
set_option maxRecDepth 100000 in
theorem refNumber_nought (s : ByteArray) (w : World) (h9 : s.size ≤ 9) (h1 : 1 < s.size) (h48 : s[0] = 48) : Calls Tryz.prog 19 #[.string s] w (NumPost (numberB (bl s)) w) := by
  have hn : numberB (bl s) = none := by
    unfold numberB
    have hl := bl_size s
    rw [if_pos]
    refine .inr (.inr (.inl ⟨by omega, ?_⟩))
    have e := bl_get s 0 (by omega)
    rw [List.head?_eq_getElem?, e, h48]
  have Hn := Lib.hid hn
  have e1 : decide ((s.size : Int) < 1) = false := decide_eq_false (by omega)
  have e2 : decide ((9 : Int) < s.size) = false := decide_eq_false (by omega)
  have e3 : decide ((1 : Int) < s.size) = true := decide_eq_true (by omega)
  have e4 : ((s[0].toNat : Int) == 48) = true := by rw [h48]; rfl
  clear hn
  go_enter Tryz.func19, Tryz.ntmps19
  go_wp2_with fail
  go_ret2
  exact ⟨by rw [Hn.out]; rfl, Below.refl _ _⟩

theorem refNumber_any (s : ByteArray) (w : World) : Calls Tryz.prog 19 #[.string s] w (NumPost (numberB (bl s)) w) := by
  rcases Nat.eq_zero_or_pos s.size with h | h
  · exact refNumber_none s w h
  · by_cases h9 : 9 < s.size
    · exact refNumber_long s w h9
    · by_cases h1 : 1 < s.size
      · by_cases h48 : s[0] = 48
        · exact refNumber_nought s w (by omega) h1 h48
        · exact refNumber_more s w h (by omega) h1 h48 (fun _ => head_not h1 h48)
      · exact refNumber_one s w h (by omega) (by omega) (fun h2 => absurd h2 h1)
end Go.Proofs.YtpgegfdiceamaaaGreatDoor

namespace Go.Proofs.YtpgegfdiceamaaaGreatDoor
open Go.RowKit Cons

def CutRel (s : ByteArray) (w : World) (out fr i : Value) (wr : World) : Prop :=
  ∃ (k f : Nat) (l : List B), i = .int .i64 k ∧ fr = .int .i64 f ∧ f ≤ k ∧ k ≤ s.size + 1 ∧ Below w.heap.size w wr ∧ TxtRow w.heap.size wr out l ∧ l.length ≤ f ∧
    (k ≤ s.size → l ++ splitB ((bl s).drop f) = splitB (bl s) ∧ ∀ j, f ≤ j → j < k → (bl s)[j]? ≠ some 32) ∧ (k = s.size + 1 → l = splitB (bl s))

def CutPost (s : ByteArray) (w : World) (e : Ending) (w' : World) : Prop :=
  ∃ v, e = .returned v ∧ Below w.heap.size w w' ∧ TxtRow w.heap.size w' v (splitB (bl s))

theorem cut_start (s : ByteArray) (w : World) : CutRel s w (.slice none 0 0) (.int .i64 0) (.int .i64 0) w :=
  ⟨0, 0, [], rfl, rfl, Nat.le_refl _, Nat.zero_le _, Below.refl _ _, ⟨rfl, .inl ⟨rfl, rfl⟩⟩, Nat.le_refl _, fun _ => ⟨by simp, fun j h1 h2 => by omega⟩, fun h => by omega⟩

theorem cut_grown {w w2 w3 : World} {o : Obj} {v : Value} {n : Nat} {xs : List Value} (hb : Below w.heap.size w w2) (hrow : w2.ownsRow w.heap.size 9 1 v n xs) (hg : (w2.alloc o).grownBy w3 v.ownBlock) : Below w.heap.size w w3 :=
  Below.grown (hb.alloc hb.size o) hg (by have := hb.size; simp; omega) (row_block hrow)

theorem cut_row {w w3 : World} {v' : Value} {l : List B} {x : ByteArray} (h : w3.ownsRow w.heap.size 9 1 v' (l.length + 1) (l.map sv ++ [.string x])) : TxtRow w.heap.size w3 v' (l ++ [bl x]) := by
  unfold TxtRow
  rw [List.length_append, List.map_append, List.map_singleton, sv_bl]
  exact h

theorem cut_blank {s : ByteArray} {w w3 : World} {v' : Value} {k f : Nat} {l : List B} (hf : f ≤ k) (hk : k < s.size) (hb : Below w.heap.size w w3) (hrow : TxtRow w.heap.size w3 v' (l ++ [bl (s.extract f k)])) (hl : l.length ≤ f)
    (hs : k ≤ s.size → l ++ splitB ((bl s).drop f) = splitB (bl s) ∧ ∀ j, f ≤ j → j < k → (bl s)[j]? ≠ some 32) (h32 : s[k] = 32) : CutRel s w v' (.int .i64 ((k : Int) + 1)) (.int .i64 ((k : Int) + 1)) w3 := by
  obtain ⟨hsp, hno⟩ := hs (Nat.le_of_lt hk)
  have h32' : (bl s)[k]? = some 32 := by rw [bl_get s k hk, h32]
  refine ⟨k + 1, k + 1, _, by push_cast; rfl, by push_cast; rfl, Nat.le_refl _, by omega, hb, hrow, by simp; omega, fun _ => ⟨?_, fun j h1 h2 => by omega⟩, fun h => by omega⟩
  rw [← hsp, bl_extract, split_word (bl s) f k hf (by rw [bl_size]; omega) hno h32']
  simp

theorem cut_other {s : ByteArray} {w w3 : World} {v' : Value} {k f : Nat} {l : List B} (hf : f ≤ k) (hk : k < s.size) (hb : Below w.heap.size w w3) (hrow : TxtRow w.heap.size w3 v' l) (hl : l.length ≤ f)
    (hs : k ≤ s.size → l ++ splitB ((bl s).drop f) = splitB (bl s) ∧ ∀ j, f ≤ j → j < k → (bl s)[j]? ≠ some 32) (h32 : s[k] ≠ 32) : CutRel s w v' (.int .i64 f) (.int .i64 ((k : Int) + 1)) w3 := by
  obtain ⟨hsp, hno⟩ := hs (Nat.le_of_lt hk)
  refine ⟨k + 1, f, l, by push_cast; rfl, rfl, by omega, by omega, hb, hrow, hl, fun _ => ⟨hsp, fun j h1 h2 => ?_⟩, fun h => by omega⟩
  rcases Nat.lt_or_ge j k with h3 | h3
  · exact hno j h1 h3
  · obtain rfl : j = k := by omega
    rw [bl_get s j hk]
    exact fun e => h32 (Option.some.inj e)

theorem cut_last {s : ByteArray} {w w3 : World} {v' : Value} {f : Nat} {l : List B} (hf : f ≤ s.size) (hb : Below w.heap.size w w3) (hrow : TxtRow w.heap.size w3 v' (l ++ [bl (s.extract f s.size)])) (hl : l.length ≤ f)
    (hs : s.size ≤ s.size → l ++ splitB ((bl s).drop f) = splitB (bl s) ∧ ∀ j, f ≤ j → j < s.size → (bl s)[j]? ≠ some 32) : CutRel s w v' (.int .i64 ((s.size : Int) + 1)) (.int .i64 ((s.size : Int) + 1)) w3 := by
  obtain ⟨hsp, hno⟩ := hs (Nat.le_refl _)
  exact ⟨s.size + 1, s.size + 1, _, by push_cast; rfl, by push_cast; rfl, Nat.le_refl _, Nat.le_refl _, hb, hrow, by simp; omega, fun h => by omega, fun _ => words_end (Nat.le_refl _) hsp hno⟩

set_option maxHeartbeats 2000000 in
set_option maxRecDepth 1000000 in
theorem cut_any (s : ByteArray) (w : World) (hs : s.size ≤ 1000000) : Calls Tryz.prog 17 #[.string s] w (CutPost s w) := by
  obtain ⟨i0, hi, hz0, hz1, hz2⟩ := info_parts info9
  go_enter Tryz.func17, Tryz.ntmps17
  go_wp2
  go_loopw [3, 4, 5] (fun out fr i wr => CutRel s w out fr i wr) (fun _ _ i _ => s.size + 1 - (intOf i).toNat)
  case atStart => exact cut_start s w
  case round =>
    obtain ⟨k, f, l, rfl, rfl, hfk, hk, hb, hrow, hll, hsp, hfin⟩ := hrel
    have hz := hb.size
    have Hb := Lib.hid hb
    have Hrow := Lib.hid hrow
    have Hsp := Lib.hid hsp
    have Hfin := Lib.hid hfin
    clear hb hrow hsp hfin
    by_cases hlt : k < s.size
    · have j0 : decide ((k : Int) ≤ s.size) = true := decide_eq_true (by omega)
      have j1 : ((k : Int) == s.size) = false := beq_eq_false_iff_ne.2 (by omega)
      have j2 : (k : Int) < s.size := by omega
      by_cases h32 : s[k] = 32
      · have j3 : ((s[k].toNat : Int) == 32) = true := by rw [h32]; rfl
        go_wp2_with (at_builtin; go_must (refine wpList_append_own _ rfl _ _ 40 rfl w.heap.size 9 i0 (.string ⟨#[]⟩) 1 16 Tryz.underlying40 hi hz0 hz1 hz2 rfl (by decide) _ _ _ rfl (Hrow.out.alloc _) ⟨wr.heap.size, 0, none⟩ 1 1 [.string (s.extract f k)] rfl rfl ?c1 ?c2 ?c3 ?c4 ?c5 ?_))
        case c1 => exact cell_one_new _ _ _
        case c2 => intro u hu; rw [List.mem_singleton.1 hu]; rfl
        case c3 => unfold maxLen; omega
        case c4 => omega
        case c5 => simp; omega
        intro v' w3 hrow3 hg _
        have Hrel := Lib.hid (cut_blank hfk hlt (cut_grown Hb.out Hrow.out hg) (cut_row hrow3) hll Hsp.out h32)
        clear hg hrow3
        go_wp2
        go_roundw
        case rel => exact Hrel.out
        case measure => simp [intOf]; omega
      · have j3 : ((s[k].toNat : Int) == 32) = false := beq_eq_false_iff_ne.2 (fun e => h32 (UInt8.toNat_inj.1 (show s[k].toNat = 32 by omega)))
        have Hrel := Lib.hid (cut_other hfk hlt Hb.out Hrow.out hll Hsp.out h32)
        go_wp2
        exact ⟨Hrel.out, by simp [intOf]; omega⟩
    · by_cases he : k = s.size
      · subst he
        have j0 : decide ((s.size : Int) ≤ s.size) = true := decide_eq_true (by omega)
        have j1 : ((s.size : Int) == s.size) = true := beq_iff_eq.2 rfl
        go_wp2_with (at_builtin; go_must (refine wpList_append_own _ rfl _ _ 40 rfl w.heap.size 9 i0 (.string ⟨#[]⟩) 1 16 Tryz.underlying40 hi hz0 hz1 hz2 rfl (by decide) _ _ _ rfl (Hrow.out.alloc _) ⟨wr.heap.size, 0, none⟩ 1 1 [.string (s.extract f s.size)] rfl rfl ?c1 ?c2 ?c3 ?c4 ?c5 ?_))
        case c1 => exact cell_one_new _ _ _
        case c2 => intro u hu; rw [List.mem_singleton.1 hu]; rfl
        case c3 => unfold maxLen; omega
        case c4 => omega
        case c5 => simp; omega
        intro v' w3 hrow3 hg _
        have Hrel := Lib.hid (cut_last hfk (cut_grown Hb.out Hrow.out hg) (cut_row hrow3) hll Hsp.out)
        clear hg hrow3
        go_wp2
        go_roundw
        case rel => exact Hrel.out
        case measure => simp [intOf]
      · obtain rfl : k = s.size + 1 := by omega
        have j0 : decide (((s.size + 1 : Nat) : Int) ≤ s.size) = false := decide_eq_false (by omega)
        have hl := Hfin.out rfl
        subst hl
        go_wp2
        go_ret
        exact ⟨_, rfl, Hb.out, Hrow.out⟩
end Go.Proofs.YtpgegfdiceamaaaGreatDoor

namespace Go.Proofs.YtpgegfdiceamaaaGreatDoor
open Go.RowKit Cons

theorem alloc_two {w w1 : World} {cs : Array Value} {S : TypeId} (h : Below (w.alloc (.cells cs S)).heap.size (w.alloc (.cells cs S)) w1) :
    w1.heap[w.heap.size]? = some (.cells cs S (0, 0)) ∧ Below w.heap.size w w1 ∧ w.heap.size < w1.heap.size := by
  have hz : w.heap.size < (w.alloc (.cells cs S)).heap.size := by simp
  refine ⟨?_, ((Below.refl _ w).alloc (Nat.le_refl _) _).trans (h.mono (Nat.le_of_lt hz)), Nat.lt_of_lt_of_le hz h.size⟩
  rw [h.block _ hz]
  exact (Kp.first w cs S).1

theorem parse_post {s : ByteArray} {o : Option Cmd} {w w' : World} (h : parseB (bl s) = o) (hb : Below w.heap.size w w') : ParsePost (parseB (bl s)) w (.returned (parseV o)) w' := ⟨by rw [h], hb⟩

set_option maxHeartbeats 4000000 in
set_option maxRecDepth 100000 in
theorem refParse_write (s : ByteArray) (n t : B) (w : World) (hs : s.size ≤ 1000000) (hsp : splitB (bl s) = [sWrite, n, t]) (hn : (ba n).size ≤ 1000000) (ht : (ba t).size ≤ 1000000) :
    Calls Tryz.prog 9 #[.string s] w (ParsePost (parseB (bl s)) w) := by
  have Hsp := Lib.hid hsp
  clear hsp
  go_enter Tryz.func9, Tryz.ntmps9
  go_wp2_with fail
  refine (cut_any s _ hs).mono ?_
  rintro e w1 ⟨v, rfl, hb1, hrow⟩
  rw [Hsp.out] at hrow
  obtain ⟨g, cap, rfl, hg, hc⟩ := row_open hrow (by simp)
  have c0 := hc 0 _ rfl
  have c1 := hc 1 _ rfl
  have c2 := hc 2 _ rfl
  have e0 : ((ba sWrite).toList == [119, 114, 105, 116, 101]) = true := by rw [ba_toList]; rfl
  obtain ⟨hres, hb, hz⟩ := alloc_two hb1
  have Hb := Lib.hid hb
  have Hres := Lib.hid hres
  have Hn := Lib.hid hn
  have Ht := Lib.hid ht
  clear hb1 hrow hc hres hb hn ht
  simp only [List.length_cons, List.length_nil]
  go_wp2_with fail
  go_region
  go_wp2_with fail
  refine (refBytes_any (ba t) _ Ht.out).mono ?_
  rintro e w2 ⟨rfl, hb2⟩
  obtain ⟨hblk, hb', hz2⟩ := blk_after hb2
  have hres2 : w2.heap[w.heap.size]? = _ := cb_below Hres.out hb'
  have hblk' : w2.heap[w1.heap.size]? = some (.cells (cellsC ⟨1, n, [], 0, 0, 0⟩) 26 (0, 0)) := by rw [hblk]; rfl
  obtain ⟨k0, k1, k2, k3, k4, k5, f0, f1, f2, f3, f4, f5⟩ := CmdBlk.of hblk'
  obtain ⟨r0, r1, r2, r3, r4, r5, q0, q1, q2, q3, q4, q5⟩ := CmdBlk.of (c := zeroC) hres2
  have Hb2 := Lib.hid (Hb.out.trans (hb'.mono (Nat.le_of_lt hz)))
  have Hblk := Lib.hid hblk'
  have Hres2 := Lib.hid hres2
  clear hblk hblk' hb' hb2 c0 c1 c2 hres2
  cases hx : bytesB (bl (ba t)) with
  | none =>
    simp only [optT, Option.getD_none, Option.isSome_none, sv]
    have Hx := Lib.hid hx
    clear hx
    go_wp2_with fail
    have hpar : parseB (bl s) = none := by
      have h := Hx.out
      rw [bl_ba] at h
      unfold parseB
      rw [Hsp.out]
      simp [parseW, h]
    refine bodyPost_ret (v := parseV none) (by simp [results, Tryz.results9, go_sem, parseV, cmdV, zeroC, sv, *]) rfl (parse_post hpar ?_)
    repeat refine Below.setCell ?_ (by first | exact Nat.le_refl _ | exact Nat.le_of_lt hz) _
    exact Hb2.out
  | some x =>
    simp only [optT, Option.getD_some, Option.isSome_some, sv]
    have Hx := Lib.hid hx
    clear hx
    go_wp2_with fail
    refine (refName_any (ba n) _ Hn.out).mono ?_
    rintro e w3 ⟨rfl, hw3⟩
    have hblk3 : w3.heap[w1.heap.size]? = some (.cells (cellsC ⟨1, n, x, 0, 0, 0⟩) 26 (0, 0)) := by rw [← hw3, set_blk Hblk.out _]; simp [cellsC, sv]
    have hres3 : w3.heap[w.heap.size]? = some (.cells (cellsC zeroC) 26 (0, 0)) := by rw [← hw3, Below.heap_setCell _ _ _ _ (Nat.ne_of_lt hz)]; exact Hres2.out
    have hb3 : Below w.heap.size w w3 := by rw [← hw3]; exact Below.setCell Hb2.out (Nat.le_of_lt hz) _
    clear hw3 k0 k1 k2 k3 k4 k5 f0 f1 f2 f3 f4 f5 r0 r1 r2 r3 r4 r5 q0 q1 q2 q3 q4 q5
    obtain ⟨k0, k1, k2, k3, k4, k5, f0, f1, f2, f3, f4, f5⟩ := CmdBlk.of hblk3
    obtain ⟨r0, r1, r2, r3, r4, r5, q0, q1, q2, q3, q4, q5⟩ := CmdBlk.of (c := zeroC) hres3
    simp only [sv] at k1 k2 r1 r2
    have Hb3 := Lib.hid hb3
    clear hblk3 hres3 hb3
    cases hnm : nameB (bl (ba n)) with
    | false =>
      have Hnm := Lib.hid hnm
      clear hnm
      go_wp2_with fail
      have hpar : parseB (bl s) = none := by
        have h := Hx.out
        have h2 := Hnm.out
        rw [bl_ba] at h h2
        unfold parseB
        rw [Hsp.out]
        simp [parseW, h, h2]
      refine bodyPost_ret (v := parseV none) (by simp [results, Tryz.results9, go_sem, parseV, cmdV, zeroC, sv, *]) rfl (parse_post hpar ?_)
      repeat refine Below.setCell ?_ (by first | exact Nat.le_refl _ | exact Nat.le_of_lt hz) _
      exact Hb3.out
    | true =>
      have Hnm := Lib.hid hnm
      clear hnm
      go_wp2_with fail
      have hpar : parseB (bl s) = some ⟨1, n, x, 0, 0, 0⟩ := by
        have h := Hx.out
        have h2 := Hnm.out
        rw [bl_ba] at h h2
        unfold parseB
        rw [Hsp.out]
        simp [parseW, h, h2]
      refine bodyPost_ret (v := parseV (some ⟨1, n, x, 0, 0, 0⟩)) (by simp [results, Tryz.results9, go_sem, parseV, cmdV, zeroC, sv, *]) rfl (parse_post hpar ?_)
      repeat refine Below.setCell ?_ (by first | exact Nat.le_refl _ | exact Nat.le_of_lt hz) _
      exact Hb3.out
end Go.Proofs.YtpgegfdiceamaaaGreatDoor

namespace Go.Proofs.YtpgegfdiceamaaaGreatDoor
open Go.RowKit Cons

set_option maxHeartbeats 4000000 in
set_option maxRecDepth 100000 in
theorem refParse_delete (s : ByteArray) (n : B) (w : World) (hs : s.size ≤ 1000000) (hsp : splitB (bl s) = [sDelete, n]) (hn : (ba n).size ≤ 1000000) :
    Calls Tryz.prog 9 #[.string s] w (ParsePost (parseB (bl s)) w) := by
  have Hsp := Lib.hid hsp
  clear hsp
  go_enter Tryz.func9, Tryz.ntmps9
  go_wp2_with fail
  refine (cut_any s _ hs).mono ?_
  rintro e w1 ⟨v, rfl, hb1, hrow⟩
  rw [Hsp.out] at hrow
  obtain ⟨g, cap, rfl, hg, hc⟩ := row_open hrow (by simp)
  have c0 := hc 0 _ rfl
  have c1 := hc 1 _ rfl
  have e0 : ((ba sDelete).toList == [119, 114, 105, 116, 101]) = false := by rw [ba_toList]; rfl
  have e1 : ((ba sDelete).toList == [100, 101, 108, 101, 116, 101]) = true := by rw [ba_toList]; rfl
  obtain ⟨hres, hb, hz⟩ := alloc_two hb1
  have Hb := Lib.hid hb
  have Hres := Lib.hid hres
  have Hn := Lib.hid hn
  clear hb1 hrow hc hres hb hn
  simp only [List.length_cons, List.length_nil]
  go_wp2_with fail
  go_region
  go_wp2_with fail
  refine (refName_any (ba n) _ Hn.out).mono ?_
  rintro e w3 ⟨rfl, hw3⟩
  have hblk3 : w3.heap[w1.heap.size]? = some (.cells (cellsC ⟨2, n, [], 0, 0, 0⟩) 26 (0, 0)) := by rw [← hw3]; exact (Kp.first w1 _ 26).drew.1
  have hres3 : w3.heap[w.heap.size]? = some (.cells (cellsC zeroC) 26 (0, 0)) := by rw [← hw3]; exact cb_below Hres.out (below_blk' w1 _ 26)
  have hb3 : Below w.heap.size w w3 := by rw [← hw3]; exact Hb.out.trans ((below_blk' w1 _ 26).mono (Nat.le_of_lt hz))
  clear hw3 c0 c1
  obtain ⟨k0, k1, k2, k3, k4, k5, f0, f1, f2, f3, f4, f5⟩ := CmdBlk.of hblk3
  obtain ⟨r0, r1, r2, r3, r4, r5, q0, q1, q2, q3, q4, q5⟩ := CmdBlk.of (c := zeroC) hres3
  simp only [sv] at k1 k2 r1 r2
  have Hb3 := Lib.hid hb3
  clear hblk3 hres3 hb3
  cases hnm : nameB (bl (ba n)) with
  | false =>
    have Hnm := Lib.hid hnm
    clear hnm
    go_wp2_with fail
    have hpar : parseB (bl s) = none := by
      have h2 := Hnm.out
      rw [bl_ba] at h2
      unfold parseB
      rw [Hsp.out]
      simp [parseW, h2]
    refine bodyPost_ret (v := parseV none) (by simp [results, Tryz.results9, go_sem, parseV, cmdV, zeroC, sv, *]) rfl (parse_post hpar ?_)
    repeat refine Below.setCell ?_ (by first | exact Nat.le_refl _ | exact Nat.le_of_lt hz) _
    exact Hb3.out
  | true =>
    have Hnm := Lib.hid hnm
    clear hnm
    go_wp2_with fail
    have hpar : parseB (bl s) = some ⟨2, n, [], 0, 0, 0⟩ := by
      have h2 := Hnm.out
      rw [bl_ba] at h2
      unfold parseB
      rw [Hsp.out]
      simp [parseW, h2]
    refine bodyPost_ret (v := parseV (some ⟨2, n, [], 0, 0, 0⟩)) (by simp [results, Tryz.results9, go_sem, parseV, cmdV, zeroC, sv, *]) rfl (parse_post hpar ?_)
    repeat refine Below.setCell ?_ (by first | exact Nat.le_refl _ | exact Nat.le_of_lt hz) _
    exact Hb3.out

set_option maxHeartbeats 4000000 in
set_option maxRecDepth 100000 in
theorem refParse_compile (s : ByteArray) (n : B) (w : World) (hs : s.size ≤ 1000000) (hsp : splitB (bl s) = [sCompile, n]) (hn : (ba n).size ≤ 1000000) :
    Calls Tryz.prog 9 #[.string s] w (ParsePost (parseB (bl s)) w) := by
  have Hsp := Lib.hid hsp
  clear hsp
  go_enter Tryz.func9, Tryz.ntmps9
  go_wp2_with fail
  refine (cut_any s _ hs).mono ?_
  rintro e w1 ⟨v, rfl, hb1, hrow⟩
  rw [Hsp.out] at hrow
  obtain ⟨g, cap, rfl, hg, hc⟩ := row_open hrow (by simp)
  have c0 := hc 0 _ rfl
  have c1 := hc 1 _ rfl
  have e0 : ((ba sCompile).toList == [119, 114, 105, 116, 101]) = false := by rw [ba_toList]; rfl
  have e1 : ((ba sCompile).toList == [100, 101, 108, 101, 116, 101]) = false := by rw [ba_toList]; rfl
  have e2 : ((ba sCompile).toList == [99, 111, 109, 112, 105, 108, 101]) = true := by rw [ba_toList]; rfl
  obtain ⟨hres, hb, hz⟩ := alloc_two hb1
  have Hb := Lib.hid hb
  have Hres := Lib.hid hres
  have Hn := Lib.hid hn
  clear hb1 hrow hc hres hb hn
  simp only [List.length_cons, List.length_nil]
  go_wp2_with fail
  go_region
  go_wp2_with fail
  refine (refName_any (ba n) _ Hn.out).mono ?_
  rintro e w3 ⟨rfl, hw3⟩
  have hblk3 : w3.heap[w1.heap.size]? = some (.cells (cellsC ⟨3, n, [], 0, 0, 0⟩) 26 (0, 0)) := by rw [← hw3]; exact (Kp.first w1 _ 26).drew.1
  have hres3 : w3.heap[w.heap.size]? = some (.cells (cellsC zeroC) 26 (0, 0)) := by rw [← hw3]; exact cb_below Hres.out (below_blk' w1 _ 26)
  have hb3 : Below w.heap.size w w3 := by rw [← hw3]; exact Hb.out.trans ((below_blk' w1 _ 26).mono (Nat.le_of_lt hz))
  clear hw3 c0 c1
  obtain ⟨k0, k1, k2, k3, k4, k5, f0, f1, f2, f3, f4, f5⟩ := CmdBlk.of hblk3
  obtain ⟨r0, r1, r2, r3, r4, r5, q0, q1, q2, q3, q4, q5⟩ := CmdBlk.of (c := zeroC) hres3
  simp only [sv] at k1 k2 r1 r2
  have Hb3 := Lib.hid hb3
  clear hblk3 hres3 hb3
  cases hnm : nameB (bl (ba n)) with
  | false =>
    have Hnm := Lib.hid hnm
    clear hnm
    go_wp2_with fail
    have hpar : parseB (bl s) = none := by
      have h2 := Hnm.out
      rw [bl_ba] at h2
      unfold parseB
      rw [Hsp.out]
      simp [parseW, h2, show ¬ (sCompile = sDelete) by decide]
    refine bodyPost_ret (v := parseV none) (by simp [results, Tryz.results9, go_sem, parseV, cmdV, zeroC, sv, *]) rfl (parse_post hpar ?_)
    repeat refine Below.setCell ?_ (by first | exact Nat.le_refl _ | exact Nat.le_of_lt hz) _
    exact Hb3.out
  | true =>
    have Hnm := Lib.hid hnm
    clear hnm
    go_wp2_with fail
    have hpar : parseB (bl s) = some ⟨3, n, [], 0, 0, 0⟩ := by
      have h2 := Hnm.out
      rw [bl_ba] at h2
      unfold parseB
      rw [Hsp.out]
      simp [parseW, h2, show ¬ (sCompile = sDelete) by decide]
    refine bodyPost_ret (v := parseV (some ⟨3, n, [], 0, 0, 0⟩)) (by simp [results, Tryz.results9, go_sem, parseV, cmdV, zeroC, sv, *]) rfl (parse_post hpar ?_)
    repeat refine Below.setCell ?_ (by first | exact Nat.le_refl _ | exact Nat.le_of_lt hz) _
    exact Hb3.out

end Go.Proofs.YtpgegfdiceamaaaGreatDoor

namespace Go.Proofs.YtpgegfdiceamaaaGreatDoor
open Go.RowKit Cons

set_option maxHeartbeats 4000000 in
set_option maxRecDepth 100000 in
theorem refParse_load (s : ByteArray) (n a b : B) (w : World) (hs : s.size ≤ 1000000) (hsp : splitB (bl s) = [sLoad, n, a, b]) (hn : (ba n).size ≤ 1000000) :
    Calls Tryz.prog 9 #[.string s] w (ParsePost (parseB (bl s)) w) := by
  have Hsp := Lib.hid hsp
  clear hsp
  go_enter Tryz.func9, Tryz.ntmps9
  go_wp2_with fail
  refine (cut_any s _ hs).mono ?_
  rintro e w1 ⟨v, rfl, hb1, hrow⟩
  rw [Hsp.out] at hrow
  obtain ⟨g, cap, rfl, hg, hc⟩ := row_open hrow (by simp)
  have c0 := hc 0 _ rfl
  have c1 := hc 1 _ rfl
  have c2 := hc 2 _ rfl
  have c3 := hc 3 _ rfl
  have e0 : ((ba sLoad).toList == [119, 114, 105, 116, 101]) = false := by rw [ba_toList]; rfl
  have e1 : ((ba sLoad).toList == [100, 101, 108, 101, 116, 101]) = false := by rw [ba_toList]; rfl
  have e2 : ((ba sLoad).toList == [99, 111, 109, 112, 105, 108, 101]) = false := by rw [ba_toList]; rfl
  have e3 : ((ba sLoad).toList == [108, 111, 97, 100]) = true := by rw [ba_toList]; rfl
  obtain ⟨hres, hb, hz⟩ := alloc_two hb1
  have Hb := Lib.hid hb
  have Hres := Lib.hid hres
  have Hn := Lib.hid hn
  clear hb1 hrow hc hres hb hn
  simp only [List.length_cons, List.length_nil]
  go_wp2_with fail
  refine (refNumber_any (ba a) _).mono ?_
  rintro e w2 ⟨rfl, hb2⟩
  obtain ⟨hblk, hb', hz2⟩ := blk_after0 hb2
  have k1 := row_kept hg c1 hb'
  have k3 := row_kept hg c3 hb'
  have K1 := Lib.hid k1
  have Hb2 := Lib.hid hb'
  have Hblk := Lib.hid hblk
  clear c0 c1 c2 c3 hb2 hb' hblk k1
  obtain ⟨x, p, ep, Hp⟩ := num_open (numberB (bl (ba a)))
  rw [ep]
  clear ep
  go_wp2_with fail
  refine (refNumber_any (ba b) _).mono ?_
  rintro e w3 ⟨rfl, hb3⟩
  have hb3' := Hb2.out.trans (hb3.mono (Nat.le_of_lt hz2))
  have hz3 : w1.heap.size < w3.heap.size := Nat.lt_of_lt_of_le hz2 hb3.size
  have hblk3 : w3.heap[w1.heap.size]? = _ := cb_below Hblk.out hb3
  have hres3 : w3.heap[w.heap.size]? = _ := cb_below Hres.out hb3'
  have k1' := row_kept (Nat.lt_of_lt_of_le hg (Nat.le_of_lt hz2)) K1.out hb3
  obtain ⟨y, q, eq, Hq⟩ := num_open (numberB (bl (ba b)))
  rw [eq]
  clear eq k3
  have Hb3 := Lib.hid (Hb.out.trans (hb3'.mono (Nat.le_of_lt hz)))
  have Hblk3 := Lib.hid hblk3
  have Hres3 := Lib.hid hres3
  obtain ⟨r0, r1, r2, r3, r4, r5, q0, q1, q2, q3, q4, q5⟩ := CmdBlk.of (c := zeroC) hres3
  obtain ⟨z0, z1, z2, z3, z4, z5, y0, y1, y2, y3, y4, y5⟩ := CmdBlk.of (c := zeroC) hblk3
  simp only [zeroC, sv] at r0 r1 r2 r3 r4 r5 z0 z1 z2 z3 z4 z5
  clear hb3 hb3' hblk3 hres3
  cases p with
  | false =>
    go_wp2_with fail
    have hpar : parseB (bl s) = none := by
      have h1 := Hp.out
      have h2 := Hq.out
      rw [bl_ba] at h1 h2
      unfold parseB
      rw [Hsp.out]
      simp [parseW, h1]
    refine bodyPost_ret (v := parseV none) (by simp [results, Tryz.results9, go_sem, parseV, cmdV, zeroC, sv, *]) rfl (parse_post hpar ?_)
    iterate 6 refine below_set ?_ _ _
    iterate 6 refine Below.setCell (p := ⟨w1.heap.size, _, none⟩) ?_ (Nat.le_of_lt hz) _
    exact Hb3.out
  | true =>
    cases q with
    | false =>
      go_wp2_with fail
      have hpar : parseB (bl s) = none := by
        have h1 := Hp.out
        have h2 := Hq.out
        rw [bl_ba] at h1 h2
        unfold parseB
        rw [Hsp.out]
        simp [parseW, h1, h2]
      refine bodyPost_ret (v := parseV none) (by simp [results, Tryz.results9, go_sem, parseV, cmdV, zeroC, sv, *]) rfl (parse_post hpar ?_)
      iterate 6 refine below_set ?_ _ _
      iterate 6 refine Below.setCell (p := ⟨w1.heap.size, _, none⟩) ?_ (Nat.le_of_lt hz) _
      exact Hb3.out
    | true =>
      go_wp2_with fail
      refine (refName_any (ba n) _ Hn.out).mono ?_
      rintro e w4 ⟨rfl, hw4⟩
      have hblk4 : w4.heap[w1.heap.size]? = some (.cells (cellsC ⟨4, n, [], 0, x, y⟩) 26 (0, 0)) := by
        rw [← hw4, set_blk (set_blk (set_blk (set_blk (set_blk (set_blk Hblk3.out _) _) _) _) _) _]; simp [cellsC, sv, ba]
      have hres4 : w4.heap[w.heap.size]? = some (.cells (cellsC zeroC) 26 (0, 0)) := by
        rw [← hw4]
        iterate 6 rw [Below.heap_setCell _ _ _ _ (Nat.ne_of_lt hz)]
        exact Hres3.out
      have hb4 : Below w.heap.size w w4 := by
        rw [← hw4]
        iterate 6 refine Below.setCell (p := ⟨w1.heap.size, _, none⟩) ?_ (Nat.le_of_lt hz) _
        exact Hb3.out
      clear hw4 z0 z1 z2 z3 z4 z5 y0 y1 y2 y3 y4 y5 r0 r1 r2 r3 r4 r5 q0 q1 q2 q3 q4 q5 k1'
      obtain ⟨r0, r1, r2, r3, r4, r5, q0, q1, q2, q3, q4, q5⟩ := CmdBlk.of (c := zeroC) hres4
      obtain ⟨z0, z1, z2, z3, z4, z5, y0, y1, y2, y3, y4, y5⟩ := CmdBlk.of hblk4
      simp only [zeroC, sv] at r0 r1 r2 r3 r4 r5 z0 z1 z2 z3 z4 z5
      have Hb4 := Lib.hid hb4
      clear hblk4 hres4 hb4
      cases hnm : nameB (bl (ba n)) with
      | false =>
        have Hnm := Lib.hid hnm
        clear hnm
        go_wp2_with fail
        have hpar : parseB (bl s) = none := by
          have h1 := Hp.out
          have h2 := Hq.out
          have h3 := Hnm.out
          rw [bl_ba] at h1 h2 h3
          unfold parseB
          rw [Hsp.out]
          simp [parseW, h1, h2, h3]
        refine bodyPost_ret (v := parseV none) (by simp [results, Tryz.results9, go_sem, parseV, cmdV, zeroC, sv, *]) rfl (parse_post hpar ?_)
        iterate 6 refine below_set ?_ _ _
        exact Hb4.out
      | true =>
        have Hnm := Lib.hid hnm
        clear hnm
        go_wp2_with fail
        have hpar : parseB (bl s) = some ⟨4, n, [], 0, x, y⟩ := by
          have h1 := Hp.out
          have h2 := Hq.out
          have h3 := Hnm.out
          rw [bl_ba] at h1 h2 h3
          unfold parseB
          rw [Hsp.out]
          simp [parseW, h1, h2, h3]
        refine bodyPost_ret (v := parseV (some ⟨4, n, [], 0, x, y⟩)) (by simp [results, Tryz.results9, go_sem, parseV, cmdV, zeroC, sv, *]) rfl (parse_post hpar ?_)
        iterate 6 refine below_set ?_ _ _
        exact Hb4.out
end Go.Proofs.YtpgegfdiceamaaaGreatDoor

namespace Go.Proofs.YtpgegfdiceamaaaGreatDoor
open Go.RowKit Cons

set_option maxHeartbeats 4000000 in
set_option maxRecDepth 100000 in
theorem refParse_run (s : ByteArray) (a b : B) (w : World) (hs : s.size ≤ 1000000) (hsp : splitB (bl s) = [sRun, a, b]) (hn : (ba b).size ≤ 1000000) :
    Calls Tryz.prog 9 #[.string s] w (ParsePost (parseB (bl s)) w) := by
  have Hsp := Lib.hid hsp
  clear hsp
  go_enter Tryz.func9, Tryz.ntmps9
  go_wp2_with fail
  refine (cut_any s _ hs).mono ?_
  rintro e w1 ⟨v, rfl, hb1, hrow⟩
  rw [Hsp.out] at hrow
  obtain ⟨g, cap, rfl, hg, hc⟩ := row_open hrow (by simp)
  have c0 := hc 0 _ rfl
  have c1 := hc 1 _ rfl
  have c2 := hc 2 _ rfl
  have e0 : ((ba sRun).toList == [119, 114, 105, 116, 101]) = false := by rw [ba_toList]; rfl
  have e1 : ((ba sRun).toList == [100, 101, 108, 101, 116, 101]) = false := by rw [ba_toList]; rfl
  have e2 : ((ba sRun).toList == [99, 111, 109, 112, 105, 108, 101]) = false := by rw [ba_toList]; rfl
  have e3 : ((ba sRun).toList == [108, 111, 97, 100]) = false := by rw [ba_toList]; rfl
  have e4 : ((ba sRun).toList == [114, 117, 110]) = true := by rw [ba_toList]; rfl
  obtain ⟨hres, hb, hz⟩ := alloc_two hb1
  have Hb := Lib.hid hb
  have Hres := Lib.hid hres
  have Hn := Lib.hid hn
  clear hb1 hrow hc hres hb hn
  simp only [List.length_cons, List.length_nil]
  go_wp2_with fail
  refine (refNumber_any (ba a) _).mono ?_
  rintro e w2 ⟨rfl, hb2⟩
  obtain ⟨hblk, hb', hz2⟩ := blk_after0 hb2
  have k2 := row_kept hg c2 hb'
  have Hb2 := Lib.hid hb'
  have Hblk := Lib.hid hblk
  clear c0 c1 c2 hb2 hb' hblk
  obtain ⟨x, p, ep, Hp⟩ := num_open (numberB (bl (ba a)))
  rw [ep]
  clear ep
  go_wp2_with fail
  refine (refBytes_any (ba b) _ Hn.out).mono ?_
  rintro e w3 ⟨rfl, hb3⟩
  have hb3' := Hb2.out.trans (hb3.mono (Nat.le_of_lt hz2))
  have hz3 : w1.heap.size < w3.heap.size := Nat.lt_of_lt_of_le hz2 hb3.size
  have hblk3 : w3.heap[w1.heap.size]? = _ := cb_below Hblk.out hb3
  have hres3 : w3.heap[w.heap.size]? = _ := cb_below Hres.out hb3'
  obtain ⟨y, q, eq, Hq⟩ := bytes_open (bytesB (bl (ba b)))
  rw [eq]
  clear eq k2
  have Hb3 := Lib.hid (Hb.out.trans (hb3'.mono (Nat.le_of_lt hz)))
  obtain ⟨r0, r1, r2, r3, r4, r5, q0, q1, q2, q3, q4, q5⟩ := CmdBlk.of (c := zeroC) hres3
  obtain ⟨z0, z1, z2, z3, z4, z5, y0, y1, y2, y3, y4, y5⟩ := CmdBlk.of (c := zeroC) hblk3
  simp only [zeroC, sv] at r0 r1 r2 r3 r4 r5 z0 z1 z2 z3 z4 z5
  clear hb3 hb3' hblk3 hres3
  cases p with
  | false =>
    go_wp2_with fail
    have hpar : parseB (bl s) = none := by
      have h1 := Hp.out
      have h2 := Hq.out
      rw [bl_ba] at h1 h2
      unfold parseB
      rw [Hsp.out]
      simp [parseW, show ¬ (sRun = sWrite) by decide, h1]
    refine bodyPost_ret (v := parseV none) (by simp [results, Tryz.results9, go_sem, parseV, cmdV, zeroC, sv, *]) rfl (parse_post hpar ?_)
    iterate 6 refine below_set ?_ _ _
    iterate 6 refine Below.setCell (p := ⟨w1.heap.size, _, none⟩) ?_ (Nat.le_of_lt hz) _
    exact Hb3.out
  | true =>
    cases q with
    | false =>
      go_wp2_with fail
      have hpar : parseB (bl s) = none := by
        have h1 := Hp.out
        have h2 := Hq.out
        rw [bl_ba] at h1 h2
        unfold parseB
        rw [Hsp.out]
        simp [parseW, show ¬ (sRun = sWrite) by decide, h1, h2]
      refine bodyPost_ret (v := parseV none) (by simp [results, Tryz.results9, go_sem, parseV, cmdV, zeroC, sv, *]) rfl (parse_post hpar ?_)
      iterate 6 refine below_set ?_ _ _
      iterate 6 refine Below.setCell (p := ⟨w1.heap.size, _, none⟩) ?_ (Nat.le_of_lt hz) _
      exact Hb3.out
    | true =>
      go_wp2_with fail
      have hpar : parseB (bl s) = some ⟨5, [], y, x, 0, 0⟩ := by
        have h1 := Hp.out
        have h2 := Hq.out
        rw [bl_ba] at h1 h2
        unfold parseB
        rw [Hsp.out]
        simp [parseW, show ¬ (sRun = sWrite) by decide, h1, h2]
      refine bodyPost_ret (v := parseV (some ⟨5, [], y, x, 0, 0⟩)) (by simp [results, Tryz.results9, go_sem, parseV, cmdV, zeroC, sv, *]) rfl (parse_post hpar ?_)
      iterate 6 refine below_set ?_ _ _
      iterate 6 refine Below.setCell (p := ⟨w1.heap.size, _, none⟩) ?_ (Nat.le_of_lt hz) _
      exact Hb3.out
end Go.Proofs.YtpgegfdiceamaaaGreatDoor

namespace Go.Proofs.YtpgegfdiceamaaaGreatDoor
open Go.RowKit Cons

set_option maxHeartbeats 4000000 in
set_option maxRecDepth 100000 in
theorem refParse_no_write (s : ByteArray) (x0 : B) (r : List B) (w : World) (hs : s.size ≤ 1000000) (hsp : splitB (bl s) = x0 :: r) (hpar : parseB (bl s) = none) (w1 : x0 = sWrite) (h3 : (x0 :: r).length ≠ 3) :
    Calls Tryz.prog 9 #[.string s] w (ParsePost (parseB (bl s)) w) := by
  have Hsp := Lib.hid hsp
  have Hpar := Lib.hid hpar
  clear hsp hpar
  have e0 : ((ba x0).toList == [119, 114, 105, 116, 101]) = true := by rw [ba_toList, w1]; rfl
  have e1 : ((ba x0).toList == [100, 101, 108, 101, 116, 101]) = false := by rw [ba_toList, w1]; rfl
  have e2 : ((ba x0).toList == [99, 111, 109, 112, 105, 108, 101]) = false := by rw [ba_toList, w1]; rfl
  have e3 : ((ba x0).toList == [108, 111, 97, 100]) = false := by rw [ba_toList, w1]; rfl
  have e4 : ((ba x0).toList == [114, 117, 110]) = false := by rw [ba_toList, w1]; rfl
  obtain ⟨n, hn⟩ : ∃ n, (x0 :: r).length = n := ⟨_, rfl⟩
  have hn0 : 0 < n := by rw [← hn]; simp
  rw [hn] at h3
  have m3 := no3 h3
  have Hn := Lib.hid hn
  clear hn h3 w1
  go_enter Tryz.func9, Tryz.ntmps9
  go_wp2_with fail
  refine (cut_any s _ hs).mono ?_
  rintro e w1 ⟨v, rfl, hb1, hrow⟩
  rw [Hsp.out] at hrow
  obtain ⟨g, cap, rfl, hg, hc⟩ := row_open hrow (by simp)
  have c0 := hc 0 _ rfl
  rw [Hn.out]
  obtain ⟨hres, hb, hz⟩ := alloc_two hb1
  obtain ⟨r0, r1, r2, r3, r4, r5, q0, q1, q2, q3, q4, q5⟩ := CmdBlk.of (c := zeroC) hres
  have Hb := Lib.hid hb
  clear hb1 hrow hc hres hb
  go_wp2_with fail
  refine bodyPost_ret (v := parseV none) (by simp [results, Tryz.results9, go_sem, parseV, cmdV, zeroC, sv, *]) rfl (parse_post Hpar.out ?_)
  refine Below.alloc ?_ (by simp; exact Nat.le_of_lt hz) _
  iterate 6 refine below_set ?_ _ _
  exact Hb.out

set_option maxHeartbeats 4000000 in
set_option maxRecDepth 100000 in
theorem refParse_no_delete (s : ByteArray) (x0 : B) (r : List B) (w : World) (hs : s.size ≤ 1000000) (hsp : splitB (bl s) = x0 :: r) (hpar : parseB (bl s) = none) (w1 : x0 = sDelete) (h3 : (x0 :: r).length ≠ 2) :
    Calls Tryz.prog 9 #[.string s] w (ParsePost (parseB (bl s)) w) := by
  have Hsp := Lib.hid hsp
  have Hpar := Lib.hid hpar
  clear hsp hpar
  have e0 : ((ba x0).toList == [119, 114, 105, 116, 101]) = false := by rw [ba_toList, w1]; rfl
  have e1 : ((ba x0).toList == [100, 101, 108, 101, 116, 101]) = true := by rw [ba_toList, w1]; rfl
  have e2 : ((ba x0).toList == [99, 111, 109, 112, 105, 108, 101]) = false := by rw [ba_toList, w1]; rfl
  have e3 : ((ba x0).toList == [108, 111, 97, 100]) = false := by rw [ba_toList, w1]; rfl
  have e4 : ((ba x0).toList == [114, 117, 110]) = false := by rw [ba_toList, w1]; rfl
  obtain ⟨n, hn⟩ : ∃ n, (x0 :: r).length = n := ⟨_, rfl⟩
  have hn0 : 0 < n := by rw [← hn]; simp
  rw [hn] at h3
  have m3 := no2 h3
  have Hn := Lib.hid hn
  clear hn h3 w1
  go_enter Tryz.func9, Tryz.ntmps9
  go_wp2_with fail
  refine (cut_any s _ hs).mono ?_
  rintro e w1 ⟨v, rfl, hb1, hrow⟩
  rw [Hsp.out] at hrow
  obtain ⟨g, cap, rfl, hg, hc⟩ := row_open hrow (by simp)
  have c0 := hc 0 _ rfl
  rw [Hn.out]
  obtain ⟨hres, hb, hz⟩ := alloc_two hb1
  obtain ⟨r0, r1, r2, r3, r4, r5, q0, q1, q2, q3, q4, q5⟩ := CmdBlk.of (c := zeroC) hres
  have Hb := Lib.hid hb
  clear hb1 hrow hc hres hb
  go_wp2_with fail
  refine bodyPost_ret (v := parseV none) (by simp [results, Tryz.results9, go_sem, parseV, cmdV, zeroC, sv, *]) rfl (parse_post Hpar.out ?_)
  refine Below.alloc ?_ (by simp; exact Nat.le_of_lt hz) _
  iterate 6 refine below_set ?_ _ _
  exact Hb.out

set_option maxHeartbeats 4000000 in
set_option maxRecDepth 100000 in
theorem refParse_no_compile (s : ByteArray) (x0 : B) (r : List B) (w : World) (hs : s.size ≤ 1000000) (hsp : splitB (bl s) = x0 :: r) (hpar : parseB (bl s) = none) (w1 : x0 = sCompile) (h3 : (x0 :: r).length ≠ 2) :
    Calls Tryz.prog 9 #[.string s] w (ParsePost (parseB (bl s)) w) := by
  have Hsp := Lib.hid hsp
  have Hpar := Lib.hid hpar
  clear hsp hpar
  have e0 : ((ba x0).toList == [119, 114, 105, 116, 101]) = false := by rw [ba_toList, w1]; rfl
  have e1 : ((ba x0).toList == [100, 101, 108, 101, 116, 101]) = false := by rw [ba_toList, w1]; rfl
  have e2 : ((ba x0).toList == [99, 111, 109, 112, 105, 108, 101]) = true := by rw [ba_toList, w1]; rfl
  have e3 : ((ba x0).toList == [108, 111, 97, 100]) = false := by rw [ba_toList, w1]; rfl
  have e4 : ((ba x0).toList == [114, 117, 110]) = false := by rw [ba_toList, w1]; rfl
  obtain ⟨n, hn⟩ : ∃ n, (x0 :: r).length = n := ⟨_, rfl⟩
  have hn0 : 0 < n := by rw [← hn]; simp
  rw [hn] at h3
  have m3 := no2 h3
  have Hn := Lib.hid hn
  clear hn h3 w1
  go_enter Tryz.func9, Tryz.ntmps9
  go_wp2_with fail
  refine (cut_any s _ hs).mono ?_
  rintro e w1 ⟨v, rfl, hb1, hrow⟩
  rw [Hsp.out] at hrow
  obtain ⟨g, cap, rfl, hg, hc⟩ := row_open hrow (by simp)
  have c0 := hc 0 _ rfl
  rw [Hn.out]
  obtain ⟨hres, hb, hz⟩ := alloc_two hb1
  obtain ⟨r0, r1, r2, r3, r4, r5, q0, q1, q2, q3, q4, q5⟩ := CmdBlk.of (c := zeroC) hres
  have Hb := Lib.hid hb
  clear hb1 hrow hc hres hb
  go_wp2_with fail
  refine bodyPost_ret (v := parseV none) (by simp [results, Tryz.results9, go_sem, parseV, cmdV, zeroC, sv, *]) rfl (parse_post Hpar.out ?_)
  refine Below.alloc ?_ (by simp; exact Nat.le_of_lt hz) _
  iterate 6 refine below_set ?_ _ _
  exact Hb.out

set_option maxHeartbeats 4000000 in
set_option maxRecDepth 100000 in
theorem refParse_no_load (s : ByteArray) (x0 : B) (r : List B) (w : World) (hs : s.size ≤ 1000000) (hsp : splitB (bl s) = x0 :: r) (hpar : parseB (bl s) = none) (w1 : x0 = sLoad) (h3 : (x0 :: r).length ≠ 4) :
    Calls Tryz.prog 9 #[.string s] w (ParsePost (parseB (bl s)) w) := by
  have Hsp := Lib.hid hsp
  have Hpar := Lib.hid hpar
  clear hsp hpar
  have e0 : ((ba x0).toList == [119, 114, 105, 116, 101]) = false := by rw [ba_toList, w1]; rfl
  have e1 : ((ba x0).toList == [100, 101, 108, 101, 116, 101]) = false := by rw [ba_toList, w1]; rfl
  have e2 : ((ba x0).toList == [99, 111, 109, 112, 105, 108, 101]) = false := by rw [ba_toList, w1]; rfl
  have e3 : ((ba x0).toList == [108, 111, 97, 100]) = true := by rw [ba_toList, w1]; rfl
  have e4 : ((ba x0).toList == [114, 117, 110]) = false := by rw [ba_toList, w1]; rfl
  obtain ⟨n, hn⟩ : ∃ n, (x0 :: r).length = n := ⟨_, rfl⟩
  have hn0 : 0 < n := by rw [← hn]; simp
  rw [hn] at h3
  have m3 := no4 h3
  have Hn := Lib.hid hn
  clear hn h3 w1
  go_enter Tryz.func9, Tryz.ntmps9
  go_wp2_with fail
  refine (cut_any s _ hs).mono ?_
  rintro e w1 ⟨v, rfl, hb1, hrow⟩
  rw [Hsp.out] at hrow
  obtain ⟨g, cap, rfl, hg, hc⟩ := row_open hrow (by simp)
  have c0 := hc 0 _ rfl
  rw [Hn.out]
  obtain ⟨hres, hb, hz⟩ := alloc_two hb1
  obtain ⟨r0, r1, r2, r3, r4, r5, q0, q1, q2, q3, q4, q5⟩ := CmdBlk.of (c := zeroC) hres
  have Hb := Lib.hid hb
  clear hb1 hrow hc hres hb
  go_wp2_with fail
  refine bodyPost_ret (v := parseV none) (by simp [results, Tryz.results9, go_sem, parseV, cmdV, zeroC, sv, *]) rfl (parse_post Hpar.out ?_)
  refine Below.alloc ?_ (by simp; exact Nat.le_of_lt hz) _
  iterate 6 refine below_set ?_ _ _
  exact Hb.out

set_option maxHeartbeats 4000000 in
set_option maxRecDepth 100000 in
theorem refParse_no_run (s : ByteArray) (x0 : B) (r : List B) (w : World) (hs : s.size ≤ 1000000) (hsp : splitB (bl s) = x0 :: r) (hpar : parseB (bl s) = none) (w1 : x0 = sRun) (h3 : (x0 :: r).length ≠ 3) :
    Calls Tryz.prog 9 #[.string s] w (ParsePost (parseB (bl s)) w) := by
  have Hsp := Lib.hid hsp
  have Hpar := Lib.hid hpar
  clear hsp hpar
  have e0 : ((ba x0).toList == [119, 114, 105, 116, 101]) = false := by rw [ba_toList, w1]; rfl
  have e1 : ((ba x0).toList == [100, 101, 108, 101, 116, 101]) = false := by rw [ba_toList, w1]; rfl
  have e2 : ((ba x0).toList == [99, 111, 109, 112, 105, 108, 101]) = false := by rw [ba_toList, w1]; rfl
  have e3 : ((ba x0).toList == [108, 111, 97, 100]) = false := by rw [ba_toList, w1]; rfl
  have e4 : ((ba x0).toList == [114, 117, 110]) = true := by rw [ba_toList, w1]; rfl
  obtain ⟨n, hn⟩ : ∃ n, (x0 :: r).length = n := ⟨_, rfl⟩
  have hn0 : 0 < n := by rw [← hn]; simp
  rw [hn] at h3
  have m3 := no3 h3
  have Hn := Lib.hid hn
  clear hn h3 w1
  go_enter Tryz.func9, Tryz.ntmps9
  go_wp2_with fail
  refine (cut_any s _ hs).mono ?_
  rintro e w1 ⟨v, rfl, hb1, hrow⟩
  rw [Hsp.out] at hrow
  obtain ⟨g, cap, rfl, hg, hc⟩ := row_open hrow (by simp)
  have c0 := hc 0 _ rfl
  rw [Hn.out]
  obtain ⟨hres, hb, hz⟩ := alloc_two hb1
  obtain ⟨r0, r1, r2, r3, r4, r5, q0, q1, q2, q3, q4, q5⟩ := CmdBlk.of (c := zeroC) hres
  have Hb := Lib.hid hb
  clear hb1 hrow hc hres hb
  go_wp2_with fail
  refine bodyPost_ret (v := parseV none) (by simp [results, Tryz.results9, go_sem, parseV, cmdV, zeroC, sv, *]) rfl (parse_post Hpar.out ?_)
  refine Below.alloc ?_ (by simp; exact Nat.le_of_lt hz) _
  iterate 6 refine below_set ?_ _ _
  exact Hb.out

set_option maxHeartbeats 4000000 in
set_option maxRecDepth 100000 in
theorem refParse_no_other (s : ByteArray) (x0 : B) (r : List B) (w : World) (hs : s.size ≤ 1000000) (hsp : splitB (bl s) = x0 :: r) (hpar : parseB (bl s) = none) (n0 : x0 ≠ sWrite) (n1 : x0 ≠ sDelete) (n2 : x0 ≠ sCompile) (n3 : x0 ≠ sLoad) (n4 : x0 ≠ sRun) :
    Calls Tryz.prog 9 #[.string s] w (ParsePost (parseB (bl s)) w) := by
  have Hsp := Lib.hid hsp
  have Hpar := Lib.hid hpar
  clear hsp hpar
  have e0 : ((ba x0).toList == [119, 114, 105, 116, 101]) = false := by rw [ba_toList]; exact beq_eq_false_iff_ne.2 n0
  have e1 : ((ba x0).toList == [100, 101, 108, 101, 116, 101]) = false := by rw [ba_toList]; exact beq_eq_false_iff_ne.2 n1
  have e2 : ((ba x0).toList == [99, 111, 109, 112, 105, 108, 101]) = false := by rw [ba_toList]; exact beq_eq_false_iff_ne.2 n2
  have e3 : ((ba x0).toList == [108, 111, 97, 100]) = false := by rw [ba_toList]; exact beq_eq_false_iff_ne.2 n3
  have e4 : ((ba x0).toList == [114, 117, 110]) = false := by rw [ba_toList]; exact beq_eq_false_iff_ne.2 n4
  obtain ⟨n, hn⟩ : ∃ n, (x0 :: r).length = n := ⟨_, rfl⟩
  have hn0 : 0 < n := by rw [← hn]; simp
  have Hn := Lib.hid hn
  clear hn n0 n1 n2 n3 n4
  go_enter Tryz.func9, Tryz.ntmps9
  go_wp2_with fail
  refine (cut_any s _ hs).mono ?_
  rintro e w1 ⟨v, rfl, hb1, hrow⟩
  rw [Hsp.out] at hrow
  obtain ⟨g, cap, rfl, hg, hc⟩ := row_open hrow (by simp)
  have c0 := hc 0 _ rfl
  rw [Hn.out]
  obtain ⟨hres, hb, hz⟩ := alloc_two hb1
  obtain ⟨r0, r1, r2, r3, r4, r5, q0, q1, q2, q3, q4, q5⟩ := CmdBlk.of (c := zeroC) hres
  have Hb := Lib.hid hb
  clear hb1 hrow hc hres hb
  go_wp2_with fail
  refine bodyPost_ret (v := parseV none) (by simp [results, Tryz.results9, go_sem, parseV, cmdV, zeroC, sv, *]) rfl (parse_post Hpar.out ?_)
  refine Below.alloc ?_ (by simp; exact Nat.le_of_lt hz) _
  iterate 6 refine below_set ?_ _ _
  exact Hb.out

end Go.Proofs.YtpgegfdiceamaaaGreatDoor

namespace Go.Proofs.YtpgegfdiceamaaaGreatDoor
open Go.RowKit Cons

theorem refParse_any (s : ByteArray) (w : World) (hs : s.size ≤ 1000000) : Calls Tryz.prog 9 #[.string s] w (ParsePost (parseB (bl s)) w) := by
  have sz : ∀ x ∈ splitB (bl s), (ba x).size ≤ 1000000 := fun x hx => by rw [ba_size]; exact Nat.le_trans (split_len _ x hx) (by rw [bl_size]; exact hs)
  obtain ⟨x0, r, hsp⟩ : ∃ x0 r, splitB (bl s) = x0 :: r := by
    cases h : splitB (bl s) with
    | nil => exact absurd h (splitB_ne _)
    | cons a b => exact ⟨a, b, rfl⟩
  rw [hsp] at sz
  by_cases w1 : x0 = sWrite
  · by_cases h3 : (x0 :: r).length = 3
    · match r, h3 with
      | [a, b], _ => subst w1; exact refParse_write s a b w hs hsp (sz a (by simp)) (sz b (by simp))
    · refine refParse_no_write s x0 r w hs hsp ?_ w1 h3
      have e : parseW (x0 :: r) = none := by
        match r, h3 with
        | [], _ => rfl
        | [a], _ => simp [parseW, w1, sWrite, sDelete, sCompile]
        | [a, b], h3 => exact absurd rfl h3
        | [a, b, c], _ => simp [parseW, w1, sWrite, sLoad]
        | a :: b :: c :: d :: t, _ => rfl
      unfold parseB; rw [hsp, e]
  have n0 := w1
  clear w1
  by_cases w1 : x0 = sDelete
  · by_cases h3 : (x0 :: r).length = 2
    · match r, h3 with
      | [a], _ => subst w1; exact refParse_delete s a w hs hsp (sz a (by simp))
    · refine refParse_no_delete s x0 r w hs hsp ?_ w1 h3
      have e : parseW (x0 :: r) = none := by
        match r, h3 with
        | [], _ => rfl
        | [a], h3 => exact absurd rfl h3
        | [a, b], _ => simp [parseW, w1, sWrite, sDelete, sRun]
        | [a, b, c], _ => simp [parseW, w1, sDelete, sLoad]
        | a :: b :: c :: d :: t, _ => rfl
      unfold parseB; rw [hsp, e]
  have n1 := w1
  clear w1
  by_cases w1 : x0 = sCompile
  · by_cases h3 : (x0 :: r).length = 2
    · match r, h3 with
      | [a], _ => subst w1; exact refParse_compile s a w hs hsp (sz a (by simp))
    · refine refParse_no_compile s x0 r w hs hsp ?_ w1 h3
      have e : parseW (x0 :: r) = none := by
        match r, h3 with
        | [], _ => rfl
        | [a], h3 => exact absurd rfl h3
        | [a, b], _ => simp [parseW, w1, sWrite, sCompile, sRun]
        | [a, b, c], _ => simp [parseW, w1, sCompile, sLoad]
        | a :: b :: c :: d :: t, _ => rfl
      unfold parseB; rw [hsp, e]
  have n2 := w1
  clear w1
  by_cases w1 : x0 = sLoad
  · by_cases h3 : (x0 :: r).length = 4
    · match r, h3 with
      | [a, b, c], _ => subst w1; exact refParse_load s a b c w hs hsp (sz a (by simp))
    · refine refParse_no_load s x0 r w hs hsp ?_ w1 h3
      have e : parseW (x0 :: r) = none := by
        match r, h3 with
        | [], _ => rfl
        | [a], _ => simp [parseW, w1, sLoad, sDelete, sCompile]
        | [a, b], _ => simp [parseW, w1, sWrite, sLoad, sRun]
        | [a, b, c], h3 => exact absurd rfl h3
        | a :: b :: c :: d :: t, _ => rfl
      unfold parseB; rw [hsp, e]
  have n3 := w1
  clear w1
  by_cases w1 : x0 = sRun
  · by_cases h3 : (x0 :: r).length = 3
    · match r, h3 with
      | [a, b], _ => subst w1; exact refParse_run s a b w hs hsp (sz b (by simp))
    · refine refParse_no_run s x0 r w hs hsp ?_ w1 h3
      have e : parseW (x0 :: r) = none := by
        match r, h3 with
        | [], _ => rfl
        | [a], _ => simp [parseW, w1, sRun, sDelete, sCompile]
        | [a, b], h3 => exact absurd rfl h3
        | [a, b, c], _ => simp [parseW, w1, sRun, sLoad]
        | a :: b :: c :: d :: t, _ => rfl
      unfold parseB; rw [hsp, e]
  have n4 := w1
  clear w1
  refine refParse_no_other s x0 r w hs hsp ?_ n0 n1 n2 n3 n4
  have e : parseW (x0 :: r) = none := by
    match r with
    | [] => rfl
    | [a] => simp [parseW, n1, n2]
    | [a, b] => simp [parseW, n0, n4]
    | [a, b, c] => simp [parseW, n3]
    | a :: b :: c :: d :: t => rfl
  unfold parseB; rw [hsp, e]
end Go.Proofs.YtpgegfdiceamaaaGreatDoor

namespace Go.Proofs.YtpgegfdiceamaaaGreatDoor
open Go.RowKit Cons

theorem parseV_six (o : Option Cmd) : ∃ (op fuel words stack er : Int) (name text : ByteArray), parseV o = .tuple #[.agg #[.int .i64 op, .string name, .string text, .int .i64 fuel, .int .i64 words, .int .i64 stack], .int .i64 er] := by
  cases o with
  | none => exact ⟨0, 0, 0, 0, 60, ⟨#[]⟩, ⟨#[]⟩, rfl⟩
  | some k => obtain ⟨op, n, t, fu, wo, st⟩ := k; exact ⟨op, fu, wo, st, 0, ba n, ba t, rfl⟩

set_option maxHeartbeats 4000000 in
set_option maxRecDepth 100000 in
theorem reads_law (s : ByteArray) (w : World) (hw : Laid w) : Calls Tryz.prog 3 #[.string s] w (BoolPost true w) := by
  have Hw := Lib.hid hw
  clear hw
  by_cases hs : 40000 < s.size
  · have e1 : decide ((40000 : Int) < s.size) = true := decide_eq_true (by omega)
    go_enter Tryz.func3, Tryz.ntmps3
    go_wp2_with fail
    refine (wakes_any w Hw.out).mono ?_
    rintro e w1 ⟨rfl, hb⟩
    have Hb := Lib.hid hb
    clear hb
    go_wp2
    go_ret
    exact ⟨rfl, Hb.out⟩
  · have e1 : decide ((40000 : Int) < s.size) = false := decide_eq_false (by omega)
    have Hs := Lib.hid (show s.size ≤ 1000000 by omega)
    obtain ⟨op, fuel, words, stack, er, name, text, hv⟩ := parseV_six (parseB (bl s))
    have Hv := Lib.hid hv
    clear hv hs
    go_enter Tryz.func3, Tryz.ntmps3
    go_wp2_with fail
    refine (parse_any s w Hs.out Hw.out).mono ?_
    rintro e w1 ⟨rfl, hb1⟩
    rw [Hv.out]
    have Hb1 := Lib.hid hb1
    clear hb1
    go_wp2_with fail
    refine (refParse_any s _ Hs.out).mono ?_
    rintro e w2 ⟨rfl, hb2⟩
    rw [Hv.out]
    have hk2 : Kp w1 #[.int .i64 op, .string name, .string text, .int .i64 fuel, .int .i64 words, .int .i64 stack] 26 w2 := Kp.after (Kp.first w1 _ 26) hb2
    have hk3 : Kp w1 #[.int .i64 op, .string name, .string text, .int .i64 fuel, .int .i64 words, .int .i64 stack] 26 (w2.alloc (.cells #[.int .i64 op, .string name, .string text, .int .i64 fuel, .int .i64 words, .int .i64 stack] 26)) := Kp.after hk2 (below_blk _ _ _)
    obtain ⟨f0, f1, f2, f3, f4, f5⟩ := kp6 hk3
    have Hb3 := Lib.hid (Hb1.out.trans (hk3.2.mono Hb1.out.size))
    clear hk2 hk3 hb2
    go_wp2_with fail
    refine (same_refl op fuel words stack name text _).mono ?_
    rintro e w4 ⟨rfl, hb4⟩
    have Hb4 := Lib.hid (Hb3.out.trans (hb4.mono Hb3.out.size))
    clear hb4 f0 f1 f2 f3 f4 f5
    go_wp2_with fail
    refine (wakes_any w4 (Hw.out.of_below Hb4.out)).mono ?_
    rintro e w7 ⟨rfl, hb7⟩
    have Hb7 := Lib.hid (Hb4.out.trans (hb7.mono Hb4.out.size))
    clear hb7
    go_wp2
    go_ret
    exact ⟨rfl, Hb7.out⟩
end Go.Proofs.YtpgegfdiceamaaaGreatDoor
