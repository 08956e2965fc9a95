/- The reference's Line, by its parts; ConsoleLines walked: true. -/
import Derived.Test.YtpgegfdiceamaaaGreatDoorRz
import Derived.Lib.AppendStr
import Derived.Deep.RegionHeld3
import Derived.Deep.RegionHeld
import Derived.Test.YtpgegfdiceamaaaGreatDoorRz
namespace Go.Proofs.YtpgegfdiceamaaaGreatDoor
open Go.RowKit Cons

/-- a byte as a word in eight digits -/
def hexW (c : Nat) : B := [48, 48, 48, 48, 48, 48, hexD (c / 16), hexD (c % 16)]

def nibW (c k : Nat) : Nat := if k = 6 then c / 16 else if k = 7 then c % 16 else 0

theorem bits_fin : ∀ k : Fin 8, ∀ c : Fin 256, bits BinOp.and IntKind.u32 (((c.1 : Nat) : Int) / 2 ^ (4 * (7 - k.1))) 15 = ((nibW c.1 k.1 : Nat) : Int) := by decide +kernel

theorem nib_lt (c k : Nat) (hc : c < 256) : nibW c k < 16 := by unfold nibW; split; omega; split <;> omega

theorem hexW_snoc (c k : Nat) (hk : k < 8) : (hexW c).take (k + 1) = (hexW c).take k ++ [hexD (nibW c k)] := by
  rcases (by omega : k = 0 ∨ k = 1 ∨ k = 2 ∨ k = 3 ∨ k = 4 ∨ k = 5 ∨ k = 6 ∨ k = 7) with rfl | rfl | rfl | rfl | rfl | rfl | rfl | rfl <;> simp [hexW, nibW] <;> rfl

def HxRel (c : Nat) (w : World) (out i : Value) (wr : World) : Prop :=
  ∃ k : Nat, i = .int .i64 (7 - (k : Int)) ∧ k ≤ 8 ∧ wr.ownsRow w.heap.size 5 1 out k (((hexW c).take k).map bv) ∧ Below w.heap.size w wr

theorem hx_start (c : Nat) (w : World) : HxRel c w (.slice none 0 0) (.int .i64 7) w :=
  ⟨0, rfl, Nat.zero_le _, ⟨rfl, .inl ⟨rfl, rfl⟩⟩, Below.refl _ _⟩

theorem hx_next {c k : Nat} {w w2 w3 : World} {o : Obj} {v v' x : Value} (hk : k < 8) (hb : Below w.heap.size w w2) (hrow : w2.ownsRow w.heap.size 5 1 v k (((hexW c).take k).map bv)) (hg : (w2.alloc o).grownBy w3 v.ownBlock)
    (hrow3 : w3.ownsRow w.heap.size 5 1 v' (k + 1) (((hexW c).take k).map bv ++ [x])) (hx : x = bv (hexD (nibW c k))) : HxRel c w v' (.int .i64 (7 - (k : Int) - 1)) w3 := by
  refine ⟨k + 1, by push_cast; congr 1; omega, hk, ?_, ?_⟩
  · rw [hexW_snoc c k hk, List.map_append, List.map_singleton, ← hx]; exact hrow3
  · exact Below.grown (hb.alloc hb.size o) hg (by have := hb.size; simp; omega) (row_block hrow)

theorem dig_nat64 (n : Nat) (h : n < 16) (w : World) : (Instr.index 9 (.string digits) (.int .i64 (n : Int))).run Tryz.prog w = .ok (.int .u8 ((hexD n).toNat : Int)) w := by
  rcases (by omega : n = 0 ∨ n = 1 ∨ n = 2 ∨ n = 3 ∨ n = 4 ∨ n = 5 ∨ n = 6 ∨ n = 7 ∨ n = 8 ∨ n = 9 ∨ n = 10 ∨ n = 11 ∨ n = 12 ∨ n = 13 ∨ n = 14 ∨ n = 15) with rfl | rfl | rfl | rfl | rfl | rfl | rfl | rfl | rfl | rfl | rfl | rfl | rfl | rfl | rfl | rfl <;> kernel_rfl

set_option maxHeartbeats 4000000 in
set_option maxRecDepth 1000000 in
theorem hex_any (c : Nat) (w : World) (hc : c < 256) : Calls Tryz.prog 37 #[.int .u32 c] w (TextPost (hexW c) w) := by
  obtain ⟨i0, hi, hz0, hz1, hz2⟩ := info_parts info5
  go_enter Tryz.func37, Tryz.ntmps37
  go_wp2
  go_loopw [3, 4] (fun out i wr => HxRel c w out i wr) (fun _ i _ => (intOf i + 1).toNat)
  case atStart => exact hx_start c w
  case round =>
    obtain ⟨k, rfl, hk, hrow, hb⟩ := hrel
    have hz := hb.size
    have Hrow := Lib.hid hrow
    have Hb := Lib.hid hb
    clear hrow hb
    by_cases hlt : k < 8
    · have hn := nib_lt c k hc
      have e1 : bits BinOp.and IntKind.u32 ((c : Int) / 2 ^ (4 * (7 - k))) 15 = ((nibW c k : Nat) : Int) := bits_fin ⟨k, hlt⟩ ⟨c, hc⟩
      have e2 : wrap64 ((nibW c k : Nat) : Int) = ((nibW c k : Nat) : Int) := IntWalk.wrap64_in _ ⟨by omega, by omega⟩
      have e3 := fun w => dig_nat64 (nibW c k) hn w
      have e4 : decide ((0 : Int) ≤ 7 - (k : Int)) = true := decide_eq_true (by omega)
      simp only [digits] at e3
      go_wp2_with (at_builtin; go_must (refine wpList_append_own _ rfl _ _ 65 rfl w.heap.size 5 i0 (.int .u8 0) 1 1 Tryz.underlying65 hi hz0 hz1 hz2 rfl (by decide) _ _ _ rfl (Hrow.out.alloc _) ⟨wr.heap.size, 0, none⟩ 1 1 [.int .u8 ((hexD (nibW c k)).toNat : Int)] rfl rfl ?c1 ?c2 ?c3 ?c4 ?c5 ?_))
      case c1 => exact cell_one_new _ _ _
      case c2 => intro u hu; rw [List.mem_singleton.1 hu]; rfl
      case c3 => unfold maxLen; omega
      case c4 => omega
      case c5 => simp; omega
      intro v' w3 hrow3 hg _
      rw [← List.map_take] at hrow3
      have Hrel := Lib.hid (hx_next hlt Hb.out Hrow.out hg hrow3 rfl)
      clear hg hrow3 e3
      go_wp2
      go_roundw
      case rel => exact Hrel.out
      case measure => simp [intOf]; omega
    · obtain rfl : k = 8 := by omega
      have e4 : decide ((0 : Int) ≤ 7 - ((8 : Nat) : Int)) = false := by decide
      obtain ⟨g, cap, rfl, hcv⟩ := byte_row_open (l := hexW c) Hrow.out (by simp [hexW])
      go_wp2_with fail
      go_ret
      exact ⟨rfl, Hb.out⟩
end Go.Proofs.YtpgegfdiceamaaaGreatDoor

namespace Go.Proofs.YtpgegfdiceamaaaGreatDoor
open Go.RowKit Cons

theorem u9s : Tryz.prog.underlying 9 = some .string := Tryz.underlying9

def HaRel (s : ByteArray) (w : World) (out i : Value) (wr : World) : Prop :=
  ∃ k : Nat, i = .int .i64 k ∧ k ≤ s.size ∧ wr.ownsRow w.heap.size 5 1 out (2 * k) ((((bl s).take k).flatMap pairOf).map bv) ∧ Below w.heap.size w wr

theorem ha_start (s : ByteArray) (w : World) : HaRel s w (.slice none 0 0) (.int .i64 0) w :=
  ⟨0, rfl, Nat.zero_le _, ⟨rfl, .inl ⟨rfl, rfl⟩⟩, Below.refl _ _⟩

theorem ha_cells (c : Nat) : Lib.strCells ((ba (hexW c)).extract 6 (ba (hexW c)).size) = [bv (hexD (c / 16)), bv (hexD (c % 16))] := by
  have e : (ba (hexW c)).extract 6 (ba (hexW c)).size = ba [hexD (c / 16), hexD (c % 16)] := by
    have h : (ba (hexW c)).size = 8 := rfl
    rw [h]; rfl
  rw [e]; rfl

theorem ha_next {s : ByteArray} {w w2 w3 : World} {v v' : Value} {k : Nat} {xs : List Value} (hk : k < s.size) (hb : Below w.heap.size w w2) (hrow : w2.ownsRow w.heap.size 5 1 v (2 * k) ((((bl s).take k).flatMap pairOf).map bv)) (hg : w2.grownBy w3 v.ownBlock)
    (hrow3 : w3.ownsRow w.heap.size 5 1 v' (2 * k + 2) ((((bl s).take k).flatMap pairOf).map bv ++ xs)) (hx : xs = [bv (hexD (s[k].toNat / 16)), bv (hexD (s[k].toNat % 16))]) : HaRel s w v' (.int .i64 ((k : Int) + 1)) w3 := by
  refine ⟨k + 1, by push_cast; rfl, hk, ?_, ?_⟩
  · rw [take_snoc' s k hk, List.flatMap_append, List.map_append, show 2 * (k + 1) = 2 * k + 2 by omega]
    simpa [pairOf, hx] using hrow3
  · exact Below.grown hb hg hb.size (row_block hrow)

theorem own_below {w w' : World} {B e size n : Nat} {v : Value} {xs : List Value} (h : w.ownsRow B e size v n xs) (hb : Below w.heap.size w w') : w'.ownsRow B e size v n xs := by
  obtain ⟨hlen, h⟩ := h
  refine ⟨hlen, ?_⟩
  rcases h with h | ⟨g, cap, cur, rfl, hg, hblk, h⟩
  · exact .inl h
  · have hlt : g < w.heap.size := (Array.getElem?_eq_some_iff.1 hblk).1
    exact .inr ⟨g, cap, cur, rfl, hg, by rw [hb.block g hlt]; exact hblk, h⟩

set_option maxHeartbeats 4000000 in
set_option maxRecDepth 1000000 in
theorem hexa_full (s : ByteArray) (w : World) (hs : s.size ≤ 1000000) (h0 : 0 < s.size) : Calls Tryz.prog 23 #[.string s] w (TextPost (hexB (bl s)) w) := by
  have hne : s.toList.isEmpty = false := by rw [ByteArray.toList_eq]; exact List.isEmpty_eq_false_iff.2 (by intro h; have := bl_size s; rw [bl, h] at this; simp at this; omega)
  obtain ⟨i0, hi, hz0, hz1, hz2⟩ := info_parts info5
  go_enter Tryz.func23, Tryz.ntmps23
  go_wp2
  clear hne
  go_loopw [3, 4] (fun out i wr => HaRel s w out i wr) (fun _ i _ => s.size - (intOf i).toNat)
  case atStart => exact ha_start s w
  case round =>
    obtain ⟨k, rfl, hk, hrow, hb⟩ := hrel
    have hz := hb.size
    have Hrow := Lib.hid hrow
    have Hb := Lib.hid hb
    clear hrow hb
    by_cases hlt : k < s.size
    · have hc := s[k].toNat_lt
      go_wp2_with fail
      refine (hex_any s[k].toNat _ hc).mono ?_
      rintro e w1 ⟨rfl, hb1⟩
      obtain ⟨t, ht⟩ : ∃ t : ByteArray, t = ba (hexW s[k].toNat) := ⟨_, rfl⟩
      have ht8 : t.size = 8 := by rw [ht]; rfl
      have Hcells := Lib.hid (show Lib.strCells (t.extract 6 8) = [bv (hexD (s[k].toNat / 16)), bv (hexD (s[k].toNat % 16))] by rw [ht]; exact ha_cells _)
      have Hsz := Lib.hid (show (t.extract 6 8).size = 2 by rw [ht]; rfl)
      rw [show sv (hexW s[k].toNat) = .string t by rw [ht]; rfl]
      have hrow1 : w1.ownsRow w.heap.size 5 1 u3 (2 * k) ((((bl s).take k).flatMap pairOf).map bv) := own_below Hrow.out hb1
      have Hrow1 := Lib.hid hrow1
      have Hb1 := Lib.hid (Hb.out.trans (hb1.mono hz))
      have hz1' := Hb1.out.size
      clear ht hrow1 hb1
      go_wp2_with (at_builtin; go_must (refine Lib.wpList_append_own_string _ rfl _ _ 65 9 rfl w.heap.size 5 i0 Tryz.underlying65 Tryz.underlying9 hi hz0 hz1 hz2 u3 (2 * k) _ rfl Hrow1.out _ rfl ?c1 ?c2 ?c3 ?_))
      case c1 => have := Hsz.out; unfold maxLen; omega
      case c2 => have := Hsz.out; omega
      case c3 => exact hz1'
      intro v' w3 hrow3 hg _
      rw [Hcells.out] at hrow3
      have Hrel := Lib.hid (ha_next hlt Hb1.out Hrow1.out hg hrow3 rfl)
      clear hg hrow3 ht8
      go_wp2
      go_roundw
      case rel => exact Hrel.out
      case measure => simp [intOf]; omega
    · obtain rfl : k = s.size := by omega
      have h2 := Hrow.out
      rw [List.take_of_length_le (by rw [bl_size]; exact Nat.le_refl _)] at h2
      have hl : ((bl s).flatMap pairOf).length = 2 * s.size := by rw [flat_len, bl_size]
      rw [← hl] at h2
      obtain ⟨g, cap, rfl, hcv⟩ := byte_row_open h2 (by intro e; rw [e] at hl; simp at hl; omega)
      have Hx := Lib.hid (show hexB (bl s) = (bl s).flatMap pairOf by unfold hexB; rw [if_neg]; intro e; rw [e] at hl; simp at hl; omega)
      rw [hl] at hcv
      rw [hl]
      clear h2 hl
      go_wp2_with fail
      go_ret
      exact ⟨by rw [Hx.out]; rfl, Hb.out⟩

set_option maxHeartbeats 400000 in
theorem hexa_empty (s : ByteArray) (w : World) (h0 : s.size = 0) : Calls Tryz.prog 23 #[.string s] w (TextPost (hexB (bl s)) w) := by
  have e0 : bl s = [] := List.length_eq_zero_iff.1 (by rw [bl_size, h0])
  have hne : s.toList.isEmpty = true := by rw [ByteArray.toList_eq]; show (bl s).isEmpty = true; rw [e0]; rfl
  have Hx := Lib.hid (show hexB (bl s) = [45] by rw [e0]; rfl)
  clear e0 h0
  go_enter Tryz.func23, Tryz.ntmps23
  go_wp2
  go_ret
  exact ⟨by rw [Hx.out]; rfl, Below.refl _ _⟩

theorem hexa_any (s : ByteArray) (w : World) (hs : s.size ≤ 1000000) : Calls Tryz.prog 23 #[.string s] w fun e w' => e = .returned (.string (ba (hexB (bl s)))) ∧ Below w.heap.size w w' := by
  rcases Nat.eq_zero_or_pos s.size with h | h
  · exact hexa_empty s w h
  · exact hexa_full s w hs h
end Go.Proofs.YtpgegfdiceamaaaGreatDoor

namespace Go.Proofs.YtpgegfdiceamaaaGreatDoor
open Go.RowKit Cons

theorem conv_one (w : World) (g : Nat) (y : Int) (c : UInt8) (hy : y = c.toNat) (h : w.cell? ⟨g, 0, none⟩ = some (.int .u8 y)) : (convert 65 9 (.slice (some ⟨g, 0, none⟩) 1 1)).run Tryz.prog w = .ok (.string (ba [c])) w := by
  refine run_convert_bytes_back w 65 9 5 ⟨g, 0, none⟩ 1 [c] Tryz.underlying65 Tryz.underlying5 Tryz.underlying9 fun j hj => ?_
  have : j = 0 := by simp at hj; omega
  subst this
  rw [show (⟨g, 0, none⟩ : Addr).add 0 = ⟨g, 0, none⟩ from rfl, h, hy]; rfl

def DecPost (n : Nat) (w : World) (e : Ending) (w' : World) : Prop := e = .returned (.string (ba (natB n))) ∧ Below w.heap.size w w'

set_option maxHeartbeats 1000000 in
set_option maxRecDepth 100000 in
theorem dec_small (n : Nat) (x : Int) (w : World) (hx : x = n) (hn : n < 10) : Calls Tryz.prog 24 #[.int .i64 x] w (DecPost n w) := by
  have h0 : 0 ≤ x := by omega
  have h1 : x < 10 := by omega
  obtain ⟨c, hc⟩ : ∃ c, c = UInt8.ofNat (48 + n) := ⟨_, rfl⟩
  have hcv := fun w' g h => conv_one w' g (48 + x) c (by rw [hc, u8_ofNat _ (by omega)]; omega) h
  have He := Lib.hid (show natB n = [c] by rw [natB, if_pos hn, hc])
  clear hx hn hc
  go_enter Tryz.func24, Tryz.ntmps24
  go_wp2_with fail
  go_ret
  exact ⟨by rw [He.out]; rfl, (Below.refl _ _).alloc (Nat.le_refl _) _⟩

end Go.Proofs.YtpgegfdiceamaaaGreatDoor

namespace Go.Proofs.YtpgegfdiceamaaaGreatDoor
open Go.RowKit Cons

theorem bcell {W w1 : World} (hb : Below W.heap.size W w1) : (∀ b o, b < W.heap.size → w1.cell? ⟨b, o, none⟩ = W.cell? ⟨b, o, none⟩) :=
  fun b o h => hb.cell (p := ⟨b, o, none⟩) h

set_option maxHeartbeats 1000000 in
set_option maxRecDepth 100000 in
theorem dec_any (n : Nat) : ∀ (x : Int) (w : World), x = n → n < 9223372036854775808 → Calls Tryz.prog 24 #[.int .i64 x] w (DecPost n w) := by
  induction n using Nat.strongRecOn with
  | ind n ih =>
    intro x w hx hbig
    by_cases hn : n < 10
    · exact dec_small n x w hx hn
    · have h0 : 0 ≤ x := by omega
      have h1 : 10 ≤ x := by omega
      have hq : x / 10 = ((n / 10 : Nat) : Int) := by omega
      have hsz : (ba (natB (n / 10))).size ≤ 19 := by rw [ba_size]; exact (natB_spec (n / 10)).2.2.2.2.2 18 (by omega)
      obtain ⟨c, hc⟩ : ∃ c, c = UInt8.ofNat (48 + n % 10) := ⟨_, rfl⟩
      have hcv := fun w' g h => conv_one w' g (48 + x % 10) c (by rw [hc, u8_ofNat _ (by omega)]; omega) h
      have q1 := cat_run (ba (natB (n / 10))) (ba [c]) (by rw [ba_size [_]]; simp only [List.length_singleton]; omega)
      obtain ⟨p, hp⟩ : ∃ p, p = ba (natB (n / 10)) := ⟨_, rfl⟩
      rw [← hp] at q1
      have Ih := Lib.hid (show ∀ w : World, Calls Tryz.prog 24 #[.int .i64 (x / 10)] w (fun e w' => e = .returned (.string p) ∧ Below w.heap.size w w') from fun w => by rw [hp]; exact ih (n / 10) (by omega) (x / 10) w hq (by omega))
      have He := Lib.hid (show ba (natB n) = p ++ ba [c] by rw [hp, hc, natB, if_neg hn]; apply ByteArray.ext; simp [ba])
      have d1 : IntKind.i64.wrap (x.tdiv 10) = x / 10 := by rw [Int.tdiv_eq_ediv_of_nonneg h0]; exact IntWalk.i64_in _ (by omega)
      have d2 : x.tmod 10 = x % 10 := Int.tmod_eq_emod_of_nonneg h0
      have d3 : IntKind.i64.wrap (48 + x % 10) = 48 + x % 10 := IntWalk.i64_in _ (by omega)
      have d4 : IntKind.u8.wrap (48 + x % 10) = 48 + x % 10 := IntWalk.u8_in _ (by omega)
      clear hx hn ih hbig hq hsz hc hp
      go_enter Tryz.func24, Tryz.ntmps24
      go_wp2_with fail
      go_region_held (fun _ => True) (trivial) (first | (go_at_call 24; refine (Ih.out _).mono ?_; rintro e w' ⟨rfl, hb⟩; have hcl := bcell hb))
      all_goals
        go_wp2
        go_ret
        refine ⟨by rw [He.out]; rfl, ?_⟩
        first
          | exact Below.alloc (((Below.refl _ w).drew).trans hb) hb.size _
          | exact (below_blk' w _ 5).trans (hb.mono (below_blk' w _ 5).size)
end Go.Proofs.YtpgegfdiceamaaaGreatDoor

namespace Go.Proofs.YtpgegfdiceamaaaGreatDoor
open Go.RowKit Cons

theorem ba_bl (s : ByteArray) : ba (bl s) = s := by simp [ba, bl]

theorem decI (n : Int) (h : Hid (0 ≤ n ∧ n ≤ 9223372036854775807)) (w : World) : Calls Tryz.prog 24 #[.int .i64 n] w fun e w' => e = .returned (.string (ba (intB n))) ∧ Below w.heap.size w w' := by
  obtain ⟨h0, h1⟩ := h.out
  have e : intB n = natB n.toNat := by
    unfold intB
    rw [if_neg (by omega)]
    congr 1
    omega
  rw [e]
  exact dec_any n.toNat n w (by omega) (by omega)

theorem parse_nonneg {l : B} {k : Cmd} (h : parseB l = some k) : 0 ≤ k.fuel ∧ 0 ≤ k.words ∧ 0 ≤ k.stack := by
  unfold parseB parseW at h
  have z : (0 : Int) ≤ 0 := Int.le_refl 0
  have c : ∀ n : Nat, (0 : Int) ≤ (n : Int) := fun n => Int.natCast_nonneg n
  split at h
  · split at h
    · obtain ⟨x, hx, h⟩ := Option.bind_eq_some_iff.1 h
      split at h <;> cases h
      exact ⟨z, z, z⟩
    · split at h
      · obtain ⟨x, hx, h⟩ := Option.bind_eq_some_iff.1 h
        obtain ⟨y, hy, h⟩ := Option.bind_eq_some_iff.1 h
        cases h
        exact ⟨c _, z, z⟩
      · cases h
  · split at h
    · split at h <;> cases h
      exact ⟨z, z, z⟩
    · split at h
      · split at h <;> cases h
        exact ⟨z, z, z⟩
      · cases h
  · split at h
    · obtain ⟨x, hx, h⟩ := Option.bind_eq_some_iff.1 h
      obtain ⟨y, hy, h⟩ := Option.bind_eq_some_iff.1 h
      split at h <;> cases h
      exact ⟨z, c _, c _⟩
    · cases h
  · cases h

theorem lineOf_neg (c : Cmd) (h : c.fuel < 0 ∨ c.words < 0 ∨ c.stack < 0) : lineOf c = none := by
  unfold lineOf
  split
  · next hp =>
    have := parse_nonneg hp
    omega
  · rfl

set_option maxHeartbeats 4000000 in
set_option maxRecDepth 100000 in
theorem refLine_other (op fuel words stack : Int) (name text : ByteArray) (w : World) (h1 : (op == 1) = false) (h2 : (op == 2) = false) (h3 : (op == 3) = false) (h4 : (op == 4) = false) (h5 : (op == 5) = false) :
    Calls Tryz.prog 12 #[cmdA op fuel words stack name text] w (LinePost (lineOf ⟨op, bl name, bl text, fuel, words, stack⟩) w) := by
  simp only [cmdA]
  have hss : (⟨#[]⟩ : ByteArray).size ≤ 1000000 := by decide
  have hsb : bl ⟨#[]⟩ = lineB ⟨op, bl name, bl text, fuel, words, stack⟩ := by
    rw [beq_eq_false_iff_ne] at h1 h2 h3 h4 h5
    unfold lineB
    rw [if_neg h1, if_neg h2, if_neg h3, if_neg h4, if_neg h5]; rfl
  have Hsb := Lib.hid hsb
  clear hsb
  have hk : Kp w (csA op fuel words stack name text) 26 (w.alloc (.cells (csA op fuel words stack name text) 26)) := Kp.first w (csA op fuel words stack name text) 26
  go_enter Tryz.func12, Tryz.ntmps12
  go_wp2_with fail
  refine (refParse_any ⟨#[]⟩ _ hss).mono ?_
  rintro e w2 ⟨rfl, hb2⟩
  have hk2 := hk.after hb2
  have hz2 : w.heap.size < w2.heap.size := (Array.getElem?_eq_some_iff.1 hk2.1).1
  have k0 : w2.cell? ⟨w.heap.size, 0, none⟩ = some (.int .i64 op) := hk2.cell 0
  have k1 : w2.cell? ⟨w.heap.size, 1, none⟩ = some (.string name) := hk2.cell 1
  have k2 : w2.cell? ⟨w.heap.size, 2, none⟩ = some (.string text) := hk2.cell 2
  have k3 : w2.cell? ⟨w.heap.size, 3, none⟩ = some (.int .i64 fuel) := hk2.cell 3
  have k4 : w2.cell? ⟨w.heap.size, 4, none⟩ = some (.int .i64 words) := hk2.cell 4
  have k5 : w2.cell? ⟨w.heap.size, 5, none⟩ = some (.int .i64 stack) := hk2.cell 5
  have Hk2 := Lib.hid hk2
  clear hk hk2 hb2
  cases hp : parseB (bl ⟨#[]⟩) with
  | none =>
    have Ho := Lib.hid (show lineOf ⟨op, bl name, bl text, fuel, words, stack⟩ = none by unfold lineOf; rw [← Hsb.out, hp]; simp)
    clear hp
    simp only [parseV, cmdV, zeroC, Option.getD_none, Option.isSome_none, sv, Bool.false_eq_true, if_false]
    go_wp2
    go_ret2
    exact ⟨by rw [Ho.out]; rfl, Below.alloc Hk2.out.2 (Nat.le_of_lt hz2) _⟩
  | some c =>
    obtain ⟨op2, n2, t2, fu2, wo2, st2⟩ := c
    rw [parseV_ba]
    by_cases hc : (⟨op2, n2, t2, fu2, wo2, st2⟩ : Cmd) = ⟨op, bl name, bl text, fuel, words, stack⟩
    · have Ho := Lib.hid (show lineOf ⟨op, bl name, bl text, fuel, words, stack⟩ = some (bl ⟨#[]⟩) by unfold lineOf; rw [← Hsb.out, hp, hc, if_pos rfl])
      clear hp
      cases hc
      rw [ba_bl name, ba_bl text]
      go_wp2_with fail
      refine (same_refl op fuel words stack name text _).mono ?_
      rintro e w4 ⟨rfl, hb4⟩
      have Hb4 := Lib.hid (step_blk Hk2.out.2 hb4)
      clear hb4
      go_wp2
      go_ret2
      exact ⟨by rw [Ho.out]; simp [LineV, sv_bl], Hb4.out⟩
    · have Ho := Lib.hid (show lineOf ⟨op, bl name, bl text, fuel, words, stack⟩ = none by unfold lineOf; rw [← Hsb.out, hp, if_neg (fun h => hc (Option.some.inj h))])
      have Hc := Lib.hid (show ¬ (op2 = op ∧ ba n2 = name ∧ ba t2 = text ∧ fu2 = fuel ∧ wo2 = words ∧ st2 = stack) from fun h => hc (by rw [← h.2.1, ← h.2.2.1, bl_ba, bl_ba, h.1, h.2.2.2.1, h.2.2.2.2.1, h.2.2.2.2.2]))
      clear hp hc
      go_wp2_with fail
      refine (same_not op2 fu2 wo2 st2 op fuel words stack (ba n2) (ba t2) name text _ Hc.out).mono ?_
      rintro e w4 ⟨rfl, hb4⟩
      have Hb4 := Lib.hid (step_blk Hk2.out.2 hb4)
      clear hb4
      go_wp2
      go_ret2
      exact ⟨by rw [Ho.out]; rfl, Hb4.out⟩

set_option maxHeartbeats 4000000 in
set_option maxRecDepth 100000 in
theorem refLine_delete (fuel words stack : Int) (name text : ByteArray) (w : World) (hn : name.size ≤ 40000) (_ht : text.size ≤ 40000) :
    Calls Tryz.prog 12 #[cmdA 2 fuel words stack name text] w (LinePost (lineOf ⟨2, bl name, bl text, fuel, words, stack⟩) w) := by
  simp only [cmdA]
  have q1 := cat_run ⟨#[100, 101, 108, 101, 116, 101, 32]⟩ name (by rw [show (⟨#[100, 101, 108, 101, 116, 101, 32]⟩ : ByteArray).size = 7 from rfl]; omega)
  go_enter Tryz.func12, Tryz.ntmps12
  have hss : (⟨#[100, 101, 108, 101, 116, 101, 32]⟩ ++ name : ByteArray).size ≤ 1000000 := by rw [ByteArray.size_append, show (⟨#[100, 101, 108, 101, 116, 101, 32]⟩ : ByteArray).size = 7 from rfl]; omega
  have hsb : bl (⟨#[100, 101, 108, 101, 116, 101, 32]⟩ ++ name) = lineB ⟨2, bl name, bl text, fuel, words, stack⟩ := by rw [bl_app]; simp [lineB, bl, sDelete]
  generalize hs : (⟨#[100, 101, 108, 101, 116, 101, 32]⟩ ++ name : ByteArray) = s at q1 hss hsb
  clear hs
  have Hsb := Lib.hid hsb
  clear hsb
  have hk : Kp w (csA 2 fuel words stack name text) 26 (w.alloc (.cells (csA 2 fuel words stack name text) 26)) := Kp.first w (csA 2 fuel words stack name text) 26
  go_wp2_with fail
  refine (refParse_any s _ hss).mono ?_
  rintro e w2 ⟨rfl, hb2⟩
  have hk2 := hk.after hb2
  have hz2 : w.heap.size < w2.heap.size := (Array.getElem?_eq_some_iff.1 hk2.1).1
  have k0 : w2.cell? ⟨w.heap.size, 0, none⟩ = some (.int .i64 2) := hk2.cell 0
  have k1 : w2.cell? ⟨w.heap.size, 1, none⟩ = some (.string name) := hk2.cell 1
  have k2 : w2.cell? ⟨w.heap.size, 2, none⟩ = some (.string text) := hk2.cell 2
  have k3 : w2.cell? ⟨w.heap.size, 3, none⟩ = some (.int .i64 fuel) := hk2.cell 3
  have k4 : w2.cell? ⟨w.heap.size, 4, none⟩ = some (.int .i64 words) := hk2.cell 4
  have k5 : w2.cell? ⟨w.heap.size, 5, none⟩ = some (.int .i64 stack) := hk2.cell 5
  have Hk2 := Lib.hid hk2
  clear hk hk2 hb2
  cases hp : parseB (bl s) with
  | none =>
    have Ho := Lib.hid (show lineOf ⟨2, bl name, bl text, fuel, words, stack⟩ = none by unfold lineOf; rw [← Hsb.out, hp]; simp)
    clear hp
    simp only [parseV, cmdV, zeroC, Option.getD_none, Option.isSome_none, sv, Bool.false_eq_true, if_false]
    go_wp2
    go_ret2
    exact ⟨by rw [Ho.out]; rfl, Below.alloc Hk2.out.2 (Nat.le_of_lt hz2) _⟩
  | some c =>
    obtain ⟨op2, n2, t2, fu2, wo2, st2⟩ := c
    rw [parseV_ba]
    by_cases hc : (⟨op2, n2, t2, fu2, wo2, st2⟩ : Cmd) = ⟨2, bl name, bl text, fuel, words, stack⟩
    · have Ho := Lib.hid (show lineOf ⟨2, bl name, bl text, fuel, words, stack⟩ = some (bl s) by unfold lineOf; rw [← Hsb.out, hp, hc, if_pos rfl])
      clear hp
      cases hc
      rw [ba_bl name, ba_bl text]
      go_wp2_with fail
      refine (same_refl 2 fuel words stack name text _).mono ?_
      rintro e w4 ⟨rfl, hb4⟩
      have Hb4 := Lib.hid (step_blk Hk2.out.2 hb4)
      clear hb4
      go_wp2
      go_ret2
      exact ⟨by rw [Ho.out]; simp [LineV, sv_bl], Hb4.out⟩
    · have Ho := Lib.hid (show lineOf ⟨2, bl name, bl text, fuel, words, stack⟩ = none by unfold lineOf; rw [← Hsb.out, hp, if_neg (fun h => hc (Option.some.inj h))])
      have Hc := Lib.hid (show ¬ (op2 = 2 ∧ ba n2 = name ∧ ba t2 = text ∧ fu2 = fuel ∧ wo2 = words ∧ st2 = stack) from fun h => hc (by rw [← h.2.1, ← h.2.2.1, bl_ba, bl_ba, h.1, h.2.2.2.1, h.2.2.2.2.1, h.2.2.2.2.2]))
      clear hp hc
      go_wp2_with fail
      refine (same_not op2 fu2 wo2 st2 2 fuel words stack (ba n2) (ba t2) name text _ Hc.out).mono ?_
      rintro e w4 ⟨rfl, hb4⟩
      have Hb4 := Lib.hid (step_blk Hk2.out.2 hb4)
      clear hb4
      go_wp2
      go_ret2
      exact ⟨by rw [Ho.out]; rfl, Hb4.out⟩

set_option maxHeartbeats 4000000 in
set_option maxRecDepth 100000 in
theorem refLine_compile (fuel words stack : Int) (name text : ByteArray) (w : World) (hn : name.size ≤ 40000) (_ht : text.size ≤ 40000) :
    Calls Tryz.prog 12 #[cmdA 3 fuel words stack name text] w (LinePost (lineOf ⟨3, bl name, bl text, fuel, words, stack⟩) w) := by
  simp only [cmdA]
  have q1 := cat_run ⟨#[99, 111, 109, 112, 105, 108, 101, 32]⟩ name (by rw [show (⟨#[99, 111, 109, 112, 105, 108, 101, 32]⟩ : ByteArray).size = 8 from rfl]; omega)
  go_enter Tryz.func12, Tryz.ntmps12
  have hss : (⟨#[99, 111, 109, 112, 105, 108, 101, 32]⟩ ++ name : ByteArray).size ≤ 1000000 := by rw [ByteArray.size_append, show (⟨#[99, 111, 109, 112, 105, 108, 101, 32]⟩ : ByteArray).size = 8 from rfl]; omega
  have hsb : bl (⟨#[99, 111, 109, 112, 105, 108, 101, 32]⟩ ++ name) = lineB ⟨3, bl name, bl text, fuel, words, stack⟩ := by rw [bl_app]; simp [lineB, bl, sCompile]
  generalize hs : (⟨#[99, 111, 109, 112, 105, 108, 101, 32]⟩ ++ name : ByteArray) = s at q1 hss hsb
  clear hs
  have Hsb := Lib.hid hsb
  clear hsb
  have hk : Kp w (csA 3 fuel words stack name text) 26 (w.alloc (.cells (csA 3 fuel words stack name text) 26)) := Kp.first w (csA 3 fuel words stack name text) 26
  go_wp2_with fail
  refine (refParse_any s _ hss).mono ?_
  rintro e w2 ⟨rfl, hb2⟩
  have hk2 := hk.after hb2
  have hz2 : w.heap.size < w2.heap.size := (Array.getElem?_eq_some_iff.1 hk2.1).1
  have k0 : w2.cell? ⟨w.heap.size, 0, none⟩ = some (.int .i64 3) := hk2.cell 0
  have k1 : w2.cell? ⟨w.heap.size, 1, none⟩ = some (.string name) := hk2.cell 1
  have k2 : w2.cell? ⟨w.heap.size, 2, none⟩ = some (.string text) := hk2.cell 2
  have k3 : w2.cell? ⟨w.heap.size, 3, none⟩ = some (.int .i64 fuel) := hk2.cell 3
  have k4 : w2.cell? ⟨w.heap.size, 4, none⟩ = some (.int .i64 words) := hk2.cell 4
  have k5 : w2.cell? ⟨w.heap.size, 5, none⟩ = some (.int .i64 stack) := hk2.cell 5
  have Hk2 := Lib.hid hk2
  clear hk hk2 hb2
  cases hp : parseB (bl s) with
  | none =>
    have Ho := Lib.hid (show lineOf ⟨3, bl name, bl text, fuel, words, stack⟩ = none by unfold lineOf; rw [← Hsb.out, hp]; simp)
    clear hp
    simp only [parseV, cmdV, zeroC, Option.getD_none, Option.isSome_none, sv, Bool.false_eq_true, if_false]
    go_wp2
    go_ret2
    exact ⟨by rw [Ho.out]; rfl, Below.alloc Hk2.out.2 (Nat.le_of_lt hz2) _⟩
  | some c =>
    obtain ⟨op2, n2, t2, fu2, wo2, st2⟩ := c
    rw [parseV_ba]
    by_cases hc : (⟨op2, n2, t2, fu2, wo2, st2⟩ : Cmd) = ⟨3, bl name, bl text, fuel, words, stack⟩
    · have Ho := Lib.hid (show lineOf ⟨3, bl name, bl text, fuel, words, stack⟩ = some (bl s) by unfold lineOf; rw [← Hsb.out, hp, hc, if_pos rfl])
      clear hp
      cases hc
      rw [ba_bl name, ba_bl text]
      go_wp2_with fail
      refine (same_refl 3 fuel words stack name text _).mono ?_
      rintro e w4 ⟨rfl, hb4⟩
      have Hb4 := Lib.hid (step_blk Hk2.out.2 hb4)
      clear hb4
      go_wp2
      go_ret2
      exact ⟨by rw [Ho.out]; simp [LineV, sv_bl], Hb4.out⟩
    · have Ho := Lib.hid (show lineOf ⟨3, bl name, bl text, fuel, words, stack⟩ = none by unfold lineOf; rw [← Hsb.out, hp, if_neg (fun h => hc (Option.some.inj h))])
      have Hc := Lib.hid (show ¬ (op2 = 3 ∧ ba n2 = name ∧ ba t2 = text ∧ fu2 = fuel ∧ wo2 = words ∧ st2 = stack) from fun h => hc (by rw [← h.2.1, ← h.2.2.1, bl_ba, bl_ba, h.1, h.2.2.2.1, h.2.2.2.2.1, h.2.2.2.2.2]))
      clear hp hc
      go_wp2_with fail
      refine (same_not op2 fu2 wo2 st2 3 fuel words stack (ba n2) (ba t2) name text _ Hc.out).mono ?_
      rintro e w4 ⟨rfl, hb4⟩
      have Hb4 := Lib.hid (step_blk Hk2.out.2 hb4)
      clear hb4
      go_wp2
      go_ret2
      exact ⟨by rw [Ho.out]; rfl, Hb4.out⟩

set_option maxHeartbeats 4000000 in
set_option maxRecDepth 100000 in
theorem refLine_write (fuel words stack : Int) (name text : ByteArray) (w : World) (hn : name.size ≤ 40000) (ht : text.size ≤ 40000) :
    Calls Tryz.prog 12 #[cmdA 1 fuel words stack name text] w (LinePost (lineOf ⟨1, bl name, bl text, fuel, words, stack⟩) w) := by
  simp only [cmdA]
  have hx := hex_size text
  have q1 := cat_run (⟨#[119, 114, 105, 116, 101, 32]⟩) name (by rw [show (⟨#[119, 114, 105, 116, 101, 32]⟩ : ByteArray).size = 6 from rfl]; omega)
  have q2 := cat_run (⟨#[119, 114, 105, 116, 101, 32]⟩ ++ name) ⟨#[32]⟩ (by rw [ByteArray.size_append, show (⟨#[119, 114, 105, 116, 101, 32]⟩ : ByteArray).size = 6 from rfl, show (⟨#[32]⟩ : ByteArray).size = 1 from rfl]; omega)
  have q3 := cat_run (⟨#[119, 114, 105, 116, 101, 32]⟩ ++ name ++ ⟨#[32]⟩) (ba (hexB (bl text))) (by rw [ByteArray.size_append, ByteArray.size_append, show (⟨#[119, 114, 105, 116, 101, 32]⟩ : ByteArray).size = 6 from rfl, show (⟨#[32]⟩ : ByteArray).size = 1 from rfl]; omega)
  go_enter Tryz.func12, Tryz.ntmps12
  go_wp2_with fail
  go_region_held3 (fun w' => w'.cell? ⟨w.heap.size, 1, none⟩ = some (.string name) ∧ w'.cell? ⟨w.heap.size, 2, none⟩ = some (.string text) ∧ w'.cell? ⟨w.heap.size, 3, none⟩ = some (.int .i64 fuel) ∧ w'.cell? ⟨w.heap.size, 4, none⟩ = some (.int .i64 words) ∧ w'.cell? ⟨w.heap.size, 5, none⟩ = some (.int .i64 stack) ∧ Kp w (csA 1 fuel words stack name text) 26 w')
    (first | exact lineS (Kp.after (Kp.first _ _ _).drew (by assumption)) | exact lineS (Kp.after (Kp.after (Kp.first _ _ _).drew (by assumption)) (by assumption)) | exact lineS (Kp.first _ _ _).drew | exact lineS (Kp.first _ _ _)) (first | (go_at_call 23; refine (hexa_any _ _ (by omega)).mono ?_; rintro e w' ⟨rfl, hb⟩))
  clear q1 q2 q3
  have hk : Kp w (csA 1 fuel words stack name text) 26 w' := (Kp.first w (csA 1 fuel words stack name text) 26).drew.after hb
  clear hb
  obtain ⟨s, hs⟩ : ∃ s, s = (⟨#[119, 114, 105, 116, 101, 32]⟩ ++ name ++ ⟨#[32]⟩ ++ ba (hexB (bl text)) : ByteArray) := ⟨_, rfl⟩
  rw [← hs]
  have hss : s.size ≤ 1000000 := by rw [hs, ByteArray.size_append, ByteArray.size_append, ByteArray.size_append, show (⟨#[119, 114, 105, 116, 101, 32]⟩ : ByteArray).size = 6 from rfl, show (⟨#[32]⟩ : ByteArray).size = 1 from rfl]; omega
  have hsb : bl s = lineB ⟨1, bl name, bl text, fuel, words, stack⟩ := by rw [hs, bl_app, bl_app, bl_app]; simp [lineB, bl, ba, sWrite]
  have Hsb := Lib.hid hsb
  clear hs hsb
  go_wp2_with fail
  refine (refParse_any s _ hss).mono ?_
  rintro e w2 ⟨rfl, hb2⟩
  have hk2 := hk.after hb2
  have hz2 : w.heap.size < w2.heap.size := (Array.getElem?_eq_some_iff.1 hk2.1).1
  have k0 : w2.cell? ⟨w.heap.size, 0, none⟩ = some (.int .i64 1) := hk2.cell 0
  have k1 : w2.cell? ⟨w.heap.size, 1, none⟩ = some (.string name) := hk2.cell 1
  have k2 : w2.cell? ⟨w.heap.size, 2, none⟩ = some (.string text) := hk2.cell 2
  have k3 : w2.cell? ⟨w.heap.size, 3, none⟩ = some (.int .i64 fuel) := hk2.cell 3
  have k4 : w2.cell? ⟨w.heap.size, 4, none⟩ = some (.int .i64 words) := hk2.cell 4
  have k5 : w2.cell? ⟨w.heap.size, 5, none⟩ = some (.int .i64 stack) := hk2.cell 5
  have Hk2 := Lib.hid hk2
  clear hk hk2 hb2
  cases hp : parseB (bl s) with
  | none =>
    have Ho := Lib.hid (show lineOf ⟨1, bl name, bl text, fuel, words, stack⟩ = none by unfold lineOf; rw [← Hsb.out, hp]; simp)
    clear hp
    simp only [parseV, cmdV, zeroC, Option.getD_none, Option.isSome_none, sv, Bool.false_eq_true, if_false]
    go_wp2
    go_ret2
    exact ⟨by rw [Ho.out]; rfl, Below.alloc Hk2.out.2 (Nat.le_of_lt hz2) _⟩
  | some c =>
    obtain ⟨op2, n2, t2, fu2, wo2, st2⟩ := c
    rw [parseV_ba]
    by_cases hc : (⟨op2, n2, t2, fu2, wo2, st2⟩ : Cmd) = ⟨1, bl name, bl text, fuel, words, stack⟩
    · have Ho := Lib.hid (show lineOf ⟨1, bl name, bl text, fuel, words, stack⟩ = some (bl s) by unfold lineOf; rw [← Hsb.out, hp, hc, if_pos rfl])
      clear hp
      cases hc
      rw [ba_bl name, ba_bl text]
      go_wp2_with fail
      refine (same_refl 1 fuel words stack name text _).mono ?_
      rintro e w4 ⟨rfl, hb4⟩
      have Hb4 := Lib.hid (step_blk Hk2.out.2 hb4)
      clear hb4
      go_wp2
      go_ret2
      exact ⟨by rw [Ho.out]; simp [LineV, sv_bl], Hb4.out⟩
    · have Ho := Lib.hid (show lineOf ⟨1, bl name, bl text, fuel, words, stack⟩ = none by unfold lineOf; rw [← Hsb.out, hp, if_neg (fun h => hc (Option.some.inj h))])
      have Hc := Lib.hid (show ¬ (op2 = 1 ∧ ba n2 = name ∧ ba t2 = text ∧ fu2 = fuel ∧ wo2 = words ∧ st2 = stack) from fun h => hc (by rw [← h.2.1, ← h.2.2.1, bl_ba, bl_ba, h.1, h.2.2.2.1, h.2.2.2.2.1, h.2.2.2.2.2]))
      clear hp hc
      go_wp2_with fail
      refine (same_not op2 fu2 wo2 st2 1 fuel words stack (ba n2) (ba t2) name text _ Hc.out).mono ?_
      rintro e w4 ⟨rfl, hb4⟩
      have Hb4 := Lib.hid (step_blk Hk2.out.2 hb4)
      clear hb4
      go_wp2
      go_ret2
      exact ⟨by rw [Ho.out]; rfl, Hb4.out⟩

set_option maxHeartbeats 4000000 in
set_option maxRecDepth 100000 in
theorem refLine_load (fuel words stack : Int) (name text : ByteArray) (w : World) (hn : name.size ≤ 40000) (_ht : text.size ≤ 40000) (wo : I64 words) (st : I64 stack) (w0 : 0 ≤ words) (s0 : 0 ≤ stack) :
    Calls Tryz.prog 12 #[cmdA 4 fuel words stack name text] w (LinePost (lineOf ⟨4, bl name, bl text, fuel, words, stack⟩) w) := by
  simp only [cmdA]
  have hx1 := int_size words wo.1 wo.2
  have hx2 := int_size stack st.1 st.2
  have g1 : decide (words < 0) = false := decide_eq_false (by omega)
  have g2 : decide (stack < 0) = false := decide_eq_false (by omega)
  have Wo := Lib.hid (show 0 ≤ words ∧ words ≤ 9223372036854775807 from ⟨w0, wo.2⟩)
  have St := Lib.hid (show 0 ≤ stack ∧ stack ≤ 9223372036854775807 from ⟨s0, st.2⟩)
  clear wo st w0 s0
  have q1 := cat_run (⟨#[108, 111, 97, 100, 32]⟩) name (by rw [show (⟨#[108, 111, 97, 100, 32]⟩ : ByteArray).size = 5 from rfl]; omega)
  have q2 := cat_run (⟨#[108, 111, 97, 100, 32]⟩ ++ name) ⟨#[32]⟩ (by rw [ByteArray.size_append, show (⟨#[108, 111, 97, 100, 32]⟩ : ByteArray).size = 5 from rfl, show (⟨#[32]⟩ : ByteArray).size = 1 from rfl]; omega)
  have q3 := cat_run (⟨#[108, 111, 97, 100, 32]⟩ ++ name ++ ⟨#[32]⟩) (ba (intB words)) (by rw [ByteArray.size_append, ByteArray.size_append, show (⟨#[108, 111, 97, 100, 32]⟩ : ByteArray).size = 5 from rfl, show (⟨#[32]⟩ : ByteArray).size = 1 from rfl]; omega)
  have q4 := cat_run (⟨#[108, 111, 97, 100, 32]⟩ ++ name ++ ⟨#[32]⟩ ++ ba (intB words)) ⟨#[32]⟩ (by rw [ByteArray.size_append, ByteArray.size_append, ByteArray.size_append, show (⟨#[108, 111, 97, 100, 32]⟩ : ByteArray).size = 5 from rfl, show (⟨#[32]⟩ : ByteArray).size = 1 from rfl]; omega)
  have q5 := cat_run (⟨#[108, 111, 97, 100, 32]⟩ ++ name ++ ⟨#[32]⟩ ++ ba (intB words) ++ ⟨#[32]⟩) (ba (intB stack)) (by rw [ByteArray.size_append, ByteArray.size_append, ByteArray.size_append, ByteArray.size_append, show (⟨#[108, 111, 97, 100, 32]⟩ : ByteArray).size = 5 from rfl, show (⟨#[32]⟩ : ByteArray).size = 1 from rfl]; omega)
  go_enter Tryz.func12, Tryz.ntmps12
  go_wp2_with fail
  go_region_held3 (fun w' => w'.cell? ⟨w.heap.size, 1, none⟩ = some (.string name) ∧ w'.cell? ⟨w.heap.size, 2, none⟩ = some (.string text) ∧ w'.cell? ⟨w.heap.size, 3, none⟩ = some (.int .i64 fuel) ∧ w'.cell? ⟨w.heap.size, 4, none⟩ = some (.int .i64 words) ∧ w'.cell? ⟨w.heap.size, 5, none⟩ = some (.int .i64 stack) ∧ Kp w (csA 4 fuel words stack name text) 26 w')
    (first | exact lineS (Kp.after (Kp.first _ _ _).drew (by assumption)) | exact lineS (Kp.after (Kp.after (Kp.first _ _ _).drew (by assumption)) (by assumption)) | exact lineS (Kp.first _ _ _).drew | exact lineS (Kp.first _ _ _)) (first | (go_at_call 24; refine (decI _ (by assumption) _).mono ?_; rintro e w' ⟨rfl, hb⟩))
  clear q1 q2 q3 q4 q5
  have hk : Kp w (csA 4 fuel words stack name text) 26 w' := Kp.after (Kp.after (Kp.first w (csA 4 fuel words stack name text) 26).drew (by assumption)) (by assumption)
  obtain ⟨s, hs⟩ : ∃ s, s = (⟨#[108, 111, 97, 100, 32]⟩ ++ name ++ ⟨#[32]⟩ ++ ba (intB words) ++ ⟨#[32]⟩ ++ ba (intB stack) : ByteArray) := ⟨_, rfl⟩
  rw [← hs]
  have hss : s.size ≤ 1000000 := by rw [hs, ByteArray.size_append, ByteArray.size_append, ByteArray.size_append, ByteArray.size_append, ByteArray.size_append, show (⟨#[108, 111, 97, 100, 32]⟩ : ByteArray).size = 5 from rfl, show (⟨#[32]⟩ : ByteArray).size = 1 from rfl]; omega
  have hsb : bl s = lineB ⟨4, bl name, bl text, fuel, words, stack⟩ := by rw [hs, bl_app, bl_app, bl_app, bl_app, bl_app]; simp [lineB, bl, ba, sLoad]
  have Hsb := Lib.hid hsb
  clear hs hsb
  go_wp2_with fail
  refine (refParse_any s _ hss).mono ?_
  rintro e w2 ⟨rfl, hb2⟩
  have hk2 := hk.after hb2
  have hz2 : w.heap.size < w2.heap.size := (Array.getElem?_eq_some_iff.1 hk2.1).1
  have k0 : w2.cell? ⟨w.heap.size, 0, none⟩ = some (.int .i64 4) := hk2.cell 0
  have k1 : w2.cell? ⟨w.heap.size, 1, none⟩ = some (.string name) := hk2.cell 1
  have k2 : w2.cell? ⟨w.heap.size, 2, none⟩ = some (.string text) := hk2.cell 2
  have k3 : w2.cell? ⟨w.heap.size, 3, none⟩ = some (.int .i64 fuel) := hk2.cell 3
  have k4 : w2.cell? ⟨w.heap.size, 4, none⟩ = some (.int .i64 words) := hk2.cell 4
  have k5 : w2.cell? ⟨w.heap.size, 5, none⟩ = some (.int .i64 stack) := hk2.cell 5
  have Hk2 := Lib.hid hk2
  clear hk hk2 hb2
  cases hp : parseB (bl s) with
  | none =>
    have Ho := Lib.hid (show lineOf ⟨4, bl name, bl text, fuel, words, stack⟩ = none by unfold lineOf; rw [← Hsb.out, hp]; simp)
    clear hp
    simp only [parseV, cmdV, zeroC, Option.getD_none, Option.isSome_none, sv, Bool.false_eq_true, if_false]
    go_wp2
    go_ret2
    exact ⟨by rw [Ho.out]; rfl, Below.alloc Hk2.out.2 (Nat.le_of_lt hz2) _⟩
  | some c =>
    obtain ⟨op2, n2, t2, fu2, wo2, st2⟩ := c
    rw [parseV_ba]
    by_cases hc : (⟨op2, n2, t2, fu2, wo2, st2⟩ : Cmd) = ⟨4, bl name, bl text, fuel, words, stack⟩
    · have Ho := Lib.hid (show lineOf ⟨4, bl name, bl text, fuel, words, stack⟩ = some (bl s) by unfold lineOf; rw [← Hsb.out, hp, hc, if_pos rfl])
      clear hp
      cases hc
      rw [ba_bl name, ba_bl text]
      go_wp2_with fail
      refine (same_refl 4 fuel words stack name text _).mono ?_
      rintro e w4 ⟨rfl, hb4⟩
      have Hb4 := Lib.hid (step_blk Hk2.out.2 hb4)
      clear hb4
      go_wp2
      go_ret2
      exact ⟨by rw [Ho.out]; simp [LineV, sv_bl], Hb4.out⟩
    · have Ho := Lib.hid (show lineOf ⟨4, bl name, bl text, fuel, words, stack⟩ = none by unfold lineOf; rw [← Hsb.out, hp, if_neg (fun h => hc (Option.some.inj h))])
      have Hc := Lib.hid (show ¬ (op2 = 4 ∧ ba n2 = name ∧ ba t2 = text ∧ fu2 = fuel ∧ wo2 = words ∧ st2 = stack) from fun h => hc (by rw [← h.2.1, ← h.2.2.1, bl_ba, bl_ba, h.1, h.2.2.2.1, h.2.2.2.2.1, h.2.2.2.2.2]))
      clear hp hc
      go_wp2_with fail
      refine (same_not op2 fu2 wo2 st2 4 fuel words stack (ba n2) (ba t2) name text _ Hc.out).mono ?_
      rintro e w4 ⟨rfl, hb4⟩
      have Hb4 := Lib.hid (step_blk Hk2.out.2 hb4)
      clear hb4
      go_wp2
      go_ret2
      exact ⟨by rw [Ho.out]; rfl, Hb4.out⟩

set_option maxHeartbeats 4000000 in
set_option maxRecDepth 100000 in
theorem refLine_run (fuel words stack : Int) (name text : ByteArray) (w : World) (_hn : name.size ≤ 40000) (ht : text.size ≤ 40000) (fo : I64 fuel) (f0 : 0 ≤ fuel) :
    Calls Tryz.prog 12 #[cmdA 5 fuel words stack name text] w (LinePost (lineOf ⟨5, bl name, bl text, fuel, words, stack⟩) w) := by
  simp only [cmdA]
  have hx1 := int_size fuel fo.1 fo.2
  have hx := hex_size text
  have g1 : decide (fuel < 0) = false := decide_eq_false (by omega)
  have Fo := Lib.hid (show 0 ≤ fuel ∧ fuel ≤ 9223372036854775807 from ⟨f0, fo.2⟩)
  clear fo f0
  have q1 := cat_run (⟨#[114, 117, 110, 32]⟩) (ba (intB fuel)) (by rw [show (⟨#[114, 117, 110, 32]⟩ : ByteArray).size = 4 from rfl]; omega)
  have q2 := cat_run (⟨#[114, 117, 110, 32]⟩ ++ ba (intB fuel)) ⟨#[32]⟩ (by rw [ByteArray.size_append, show (⟨#[114, 117, 110, 32]⟩ : ByteArray).size = 4 from rfl, show (⟨#[32]⟩ : ByteArray).size = 1 from rfl]; omega)
  have q3 := cat_run (⟨#[114, 117, 110, 32]⟩ ++ ba (intB fuel) ++ ⟨#[32]⟩) (ba (hexB (bl text))) (by rw [ByteArray.size_append, ByteArray.size_append, show (⟨#[114, 117, 110, 32]⟩ : ByteArray).size = 4 from rfl, show (⟨#[32]⟩ : ByteArray).size = 1 from rfl]; omega)
  go_enter Tryz.func12, Tryz.ntmps12
  go_wp2_with fail
  go_region_held3 (fun w' => w'.cell? ⟨w.heap.size, 1, none⟩ = some (.string name) ∧ w'.cell? ⟨w.heap.size, 2, none⟩ = some (.string text) ∧ w'.cell? ⟨w.heap.size, 3, none⟩ = some (.int .i64 fuel) ∧ w'.cell? ⟨w.heap.size, 4, none⟩ = some (.int .i64 words) ∧ w'.cell? ⟨w.heap.size, 5, none⟩ = some (.int .i64 stack) ∧ Kp w (csA 5 fuel words stack name text) 26 w')
    (first | exact lineS (Kp.after (Kp.first _ _ _).drew (by assumption)) | exact lineS (Kp.after (Kp.after (Kp.first _ _ _).drew (by assumption)) (by assumption)) | exact lineS (Kp.first _ _ _).drew | exact lineS (Kp.first _ _ _)) (first | (go_at_call 24; refine (decI _ (by assumption) _).mono ?_; rintro e w' ⟨rfl, hb⟩) | (go_at_call 23; refine (hexa_any _ _ (by omega)).mono ?_; rintro e w' ⟨rfl, hb⟩))
  clear q1 q2 q3
  have hk : Kp w (csA 5 fuel words stack name text) 26 w' := Kp.after (Kp.after (Kp.first w (csA 5 fuel words stack name text) 26).drew (by assumption)) (by assumption)
  obtain ⟨s, hs⟩ : ∃ s, s = (⟨#[114, 117, 110, 32]⟩ ++ ba (intB fuel) ++ ⟨#[32]⟩ ++ ba (hexB (bl text)) : ByteArray) := ⟨_, rfl⟩
  rw [← hs]
  have hss : s.size ≤ 1000000 := by rw [hs, ByteArray.size_append, ByteArray.size_append, ByteArray.size_append, show (⟨#[114, 117, 110, 32]⟩ : ByteArray).size = 4 from rfl, show (⟨#[32]⟩ : ByteArray).size = 1 from rfl]; omega
  have hsb : bl s = lineB ⟨5, bl name, bl text, fuel, words, stack⟩ := by rw [hs, bl_app, bl_app, bl_app]; simp [lineB, bl, ba, sRun]
  have Hsb := Lib.hid hsb
  clear hs hsb
  go_wp2_with fail
  refine (refParse_any s _ hss).mono ?_
  rintro e w2 ⟨rfl, hb2⟩
  have hk2 := hk.after hb2
  have hz2 : w.heap.size < w2.heap.size := (Array.getElem?_eq_some_iff.1 hk2.1).1
  have k0 : w2.cell? ⟨w.heap.size, 0, none⟩ = some (.int .i64 5) := hk2.cell 0
  have k1 : w2.cell? ⟨w.heap.size, 1, none⟩ = some (.string name) := hk2.cell 1
  have k2 : w2.cell? ⟨w.heap.size, 2, none⟩ = some (.string text) := hk2.cell 2
  have k3 : w2.cell? ⟨w.heap.size, 3, none⟩ = some (.int .i64 fuel) := hk2.cell 3
  have k4 : w2.cell? ⟨w.heap.size, 4, none⟩ = some (.int .i64 words) := hk2.cell 4
  have k5 : w2.cell? ⟨w.heap.size, 5, none⟩ = some (.int .i64 stack) := hk2.cell 5
  have Hk2 := Lib.hid hk2
  clear hk hk2 hb2
  cases hp : parseB (bl s) with
  | none =>
    have Ho := Lib.hid (show lineOf ⟨5, bl name, bl text, fuel, words, stack⟩ = none by unfold lineOf; rw [← Hsb.out, hp]; simp)
    clear hp
    simp only [parseV, cmdV, zeroC, Option.getD_none, Option.isSome_none, sv, Bool.false_eq_true, if_false]
    go_wp2
    go_ret2
    exact ⟨by rw [Ho.out]; rfl, Below.alloc Hk2.out.2 (Nat.le_of_lt hz2) _⟩
  | some c =>
    obtain ⟨op2, n2, t2, fu2, wo2, st2⟩ := c
    rw [parseV_ba]
    by_cases hc : (⟨op2, n2, t2, fu2, wo2, st2⟩ : Cmd) = ⟨5, bl name, bl text, fuel, words, stack⟩
    · have Ho := Lib.hid (show lineOf ⟨5, bl name, bl text, fuel, words, stack⟩ = some (bl s) by unfold lineOf; rw [← Hsb.out, hp, hc, if_pos rfl])
      clear hp
      cases hc
      rw [ba_bl name, ba_bl text]
      go_wp2_with fail
      refine (same_refl 5 fuel words stack name text _).mono ?_
      rintro e w4 ⟨rfl, hb4⟩
      have Hb4 := Lib.hid (step_blk Hk2.out.2 hb4)
      clear hb4
      go_wp2
      go_ret2
      exact ⟨by rw [Ho.out]; simp [LineV, sv_bl], Hb4.out⟩
    · have Ho := Lib.hid (show lineOf ⟨5, bl name, bl text, fuel, words, stack⟩ = none by unfold lineOf; rw [← Hsb.out, hp, if_neg (fun h => hc (Option.some.inj h))])
      have Hc := Lib.hid (show ¬ (op2 = 5 ∧ ba n2 = name ∧ ba t2 = text ∧ fu2 = fuel ∧ wo2 = words ∧ st2 = stack) from fun h => hc (by rw [← h.2.1, ← h.2.2.1, bl_ba, bl_ba, h.1, h.2.2.2.1, h.2.2.2.2.1, h.2.2.2.2.2]))
      clear hp hc
      go_wp2_with fail
      refine (same_not op2 fu2 wo2 st2 5 fuel words stack (ba n2) (ba t2) name text _ Hc.out).mono ?_
      rintro e w4 ⟨rfl, hb4⟩
      have Hb4 := Lib.hid (step_blk Hk2.out.2 hb4)
      clear hb4
      go_wp2
      go_ret2
      exact ⟨by rw [Ho.out]; rfl, Hb4.out⟩

set_option maxHeartbeats 4000000 in
set_option maxRecDepth 100000 in
theorem refLine_load_negw (fuel words stack : Int) (name text : ByteArray) (w : World) (_hn : name.size ≤ 40000) (_ht : text.size ≤ 40000) (w0 : words < 0) :
    Calls Tryz.prog 12 #[cmdA 4 fuel words stack name text] w (LinePost (lineOf ⟨4, bl name, bl text, fuel, words, stack⟩) w) := by
  simp only [cmdA]
  have Ho := Lib.hid (show lineOf ⟨4, bl name, bl text, fuel, words, stack⟩ = none from lineOf_neg _ (by simp only; omega))
  have g1 : decide (words < 0) = true := decide_eq_true w0
  clear w0
  go_enter Tryz.func12, Tryz.ntmps12
  go_wp2_with fail
  go_ret2
  exact ⟨by rw [Ho.out]; rfl, below_blk _ _ _⟩

set_option maxHeartbeats 4000000 in
set_option maxRecDepth 100000 in
theorem refLine_load_negs (fuel words stack : Int) (name text : ByteArray) (w : World) (_hn : name.size ≤ 40000) (_ht : text.size ≤ 40000) (w0 : 0 ≤ words) (s0 : stack < 0) :
    Calls Tryz.prog 12 #[cmdA 4 fuel words stack name text] w (LinePost (lineOf ⟨4, bl name, bl text, fuel, words, stack⟩) w) := by
  simp only [cmdA]
  have Ho := Lib.hid (show lineOf ⟨4, bl name, bl text, fuel, words, stack⟩ = none from lineOf_neg _ (by simp only; omega))
  have g1 : decide (words < 0) = false := decide_eq_false (by omega)
  have g2 : decide (stack < 0) = true := decide_eq_true s0
  clear w0 s0
  go_enter Tryz.func12, Tryz.ntmps12
  go_wp2_with fail
  go_ret2
  exact ⟨by rw [Ho.out]; rfl, below_blk _ _ _⟩

set_option maxHeartbeats 4000000 in
set_option maxRecDepth 100000 in
theorem refLine_run_neg (fuel words stack : Int) (name text : ByteArray) (w : World) (_hn : name.size ≤ 40000) (_ht : text.size ≤ 40000) (f0 : fuel < 0) :
    Calls Tryz.prog 12 #[cmdA 5 fuel words stack name text] w (LinePost (lineOf ⟨5, bl name, bl text, fuel, words, stack⟩) w) := by
  simp only [cmdA]
  have Ho := Lib.hid (show lineOf ⟨5, bl name, bl text, fuel, words, stack⟩ = none from lineOf_neg _ (by simp only; omega))
  have g1 : decide (fuel < 0) = true := decide_eq_true f0
  clear f0
  go_enter Tryz.func12, Tryz.ntmps12
  go_wp2_with fail
  go_ret2
  exact ⟨by rw [Ho.out]; rfl, below_blk _ _ _⟩

theorem refLine_any (op fuel words stack : Int) (name text : ByteArray) (w : World) (hn : name.size ≤ 40000) (ht : text.size ≤ 40000) (fo : I64 fuel) (wo : I64 words) (st : I64 stack) :
    Calls Tryz.prog 12 #[cmdA op fuel words stack name text] w (LinePost (lineOf ⟨op, bl name, bl text, fuel, words, stack⟩) w) := by
  by_cases h1 : op = 1
  · subst h1; exact refLine_write fuel words stack name text w hn ht
  by_cases h2 : op = 2
  · subst h2; exact refLine_delete fuel words stack name text w hn ht
  by_cases h3 : op = 3
  · subst h3; exact refLine_compile fuel words stack name text w hn ht
  by_cases h4 : op = 4
  · subst h4
    by_cases w0 : words < 0
    · exact refLine_load_negw fuel words stack name text w hn ht w0
    · by_cases s0 : stack < 0
      · exact refLine_load_negs fuel words stack name text w hn ht (by omega) s0
      · exact refLine_load fuel words stack name text w hn ht wo st (by omega) (by omega)
  by_cases h5 : op = 5
  · subst h5
    by_cases f0 : fuel < 0
    · exact refLine_run_neg fuel words stack name text w hn ht f0
    · exact refLine_run fuel words stack name text w hn ht fo (by omega)
  · exact refLine_other op fuel words stack name text w (beq_eq_false_iff_ne.2 h1) (beq_eq_false_iff_ne.2 h2) (beq_eq_false_iff_ne.2 h3) (beq_eq_false_iff_ne.2 h4) (beq_eq_false_iff_ne.2 h5)
end Go.Proofs.YtpgegfdiceamaaaGreatDoor

namespace Go.Proofs.YtpgegfdiceamaaaGreatDoor
open Go.RowKit Cons

theorem lineV_two (o : Option B) : ∃ (t : ByteArray) (er : Int), LineV o = .tuple #[.string t, .int .i64 er] := by
  cases o with
  | none => exact ⟨⟨#[]⟩, 1, rfl⟩
  | some l => exact ⟨ba l, 0, rfl⟩

set_option maxHeartbeats 4000000 in
set_option maxRecDepth 100000 in
theorem lines_long (op fuel words stack : Int) (name text : ByteArray) (w : World) (hw : Laid w) (h : 40000 < name.size ∨ 40000 < text.size) :
    Calls Tryz.prog 4 #[cmdA op fuel words stack name text] w (BoolPost true w) := by
  have Hw := Lib.hid hw
  clear hw
  have hb0 : Below w.heap.size w (w.alloc (.cells #[.int .i64 op, .string name, .string text, .int .i64 fuel, .int .i64 words, .int .i64 stack] 26)) := below_blk _ _ _
  have Hb0 := Lib.hid hb0
  clear hb0
  simp only [cmdA]
  by_cases h1 : 40000 < name.size
  · have e1 : decide ((40000 : Int) < name.size) = true := decide_eq_true (by omega)
    clear h h1
    go_enter Tryz.func4, Tryz.ntmps4
    go_wp2_with fail
    refine (wakes_any _ (Hw.out.of_below Hb0.out)).mono ?_
    rintro e w1 ⟨rfl, hb⟩
    have Hb := Lib.hid (Hb0.out.trans (hb.mono Hb0.out.size))
    clear hb
    go_wp2
    go_ret
    exact ⟨rfl, Hb.out⟩
  · have e1 : decide ((40000 : Int) < name.size) = false := decide_eq_false (by omega)
    have e2 : decide ((40000 : Int) < text.size) = true := decide_eq_true (by omega)
    clear h h1
    go_enter Tryz.func4, Tryz.ntmps4
    go_wp2_with fail
    refine (wakes_any _ (Hw.out.of_below Hb0.out)).mono ?_
    rintro e w1 ⟨rfl, hb⟩
    have Hb := Lib.hid (Hb0.out.trans (hb.mono Hb0.out.size))
    clear hb
    go_wp2
    go_ret
    exact ⟨rfl, Hb.out⟩

set_option maxHeartbeats 4000000 in
set_option maxRecDepth 100000 in
theorem lines_short (op fuel words stack : Int) (name text : ByteArray) (w : World) (hw : Laid w) (hn : name.size ≤ 40000) (ht : text.size ≤ 40000) (fo : I64 fuel) (wo : I64 words) (st : I64 stack) :
    Calls Tryz.prog 4 #[cmdA op fuel words stack name text] w (BoolPost true w) := by
  have e1 : decide ((40000 : Int) < name.size) = false := decide_eq_false (by omega)
  have e2 : decide ((40000 : Int) < text.size) = false := decide_eq_false (by omega)
  obtain ⟨t, er, hv⟩ := lineV_two (lineOf ⟨op, bl name, bl text, fuel, words, stack⟩)
  have Hv := Lib.hid hv
  have hk0 := Kp.first w #[.int .i64 op, .string name, .string text, .int .i64 fuel, .int .i64 words, .int .i64 stack] 26
  have Hw := Lib.hid hw
  have Hk0 := Lib.hid hk0
  have Hn := Lib.hid hn
  have Ht := Lib.hid ht
  have Fo := Lib.hid fo
  have Wo := Lib.hid wo
  have St := Lib.hid st
  clear hw hk0 hn ht fo wo st hv
  simp only [cmdA]
  go_enter Tryz.func4, Tryz.ntmps4
  go_wp2_with fail
  refine (line_any op fuel words stack name text _ (Hw.out.of_below Hk0.out.2) Hn.out Ht.out Fo.out Wo.out St.out).mono ?_
  rintro e w1 ⟨rfl, hb1⟩
  rw [Hv.out]
  have hk1 := Kp.after Hk0.out hb1
  obtain ⟨f0, f1, f2, f3, f4, f5⟩ := kp6 hk1
  have Hk1 := Lib.hid hk1
  clear hb1 hk1
  go_wp2_with fail
  refine (refLine_any op fuel words stack name text w1 Hn.out Ht.out Fo.out Wo.out St.out).mono ?_
  rintro e w2 ⟨rfl, hb2⟩
  rw [Hv.out]
  have Hb2 := Lib.hid (Hk1.out.2.trans (hb2.mono Hk1.out.2.size))
  clear hb2 f0 f1 f2 f3 f4 f5
  go_wp2_with fail
  refine (wakes_any w2 (Hw.out.of_below Hb2.out)).mono ?_
  rintro e w7 ⟨rfl, hb7⟩
  have Hb7 := Lib.hid (Hb2.out.trans (hb7.mono Hb2.out.size))
  clear hb7
  go_wp2
  go_ret
  exact ⟨rfl, Hb7.out⟩

theorem lines_law (op fuel words stack : Int) (name text : ByteArray) (w : World) (hw : Laid w) (fo : I64 fuel) (wo : I64 words) (st : I64 stack) :
    Calls Tryz.prog 4 #[cmdA op fuel words stack name text] w (BoolPost true w) := by
  by_cases h : 40000 < name.size ∨ 40000 < text.size
  · exact lines_long op fuel words stack name text w hw h
  · exact lines_short op fuel words stack name text w hw (by omega) (by omega) fo wo st
end Go.Proofs.YtpgegfdiceamaaaGreatDoor
