/- The console's laws: part Wn. -/
import Derived.Test.YtpgegfdiceamaaaGreatDoorWy
import Derived.Lib.ParseIntB
import Derived.Lib.AtoiErrMem
namespace Go.Proofs.YtpgegfdiceamaaaGreatDoor
open Go.RowKit Cons

/-- what the walks lean on of the library's variables -/
structure Laid (w : World) : Prop where
  err : ∃ tp p, w.var? Tryz.prog "strconv.ErrSyntax" = some #[.iface tp p]
  tab : Lib.TabIs Tryz.prog w "internal/strconv.uint64pow10" .u64 Lib.pow10Tab
  room : 3 ≤ w.heap.size

theorem any_lt {o : Option Nat} {n : Nat} (h : o.any (fun g => decide (g < n)) = true) : ∃ g, o = some g ∧ g < n := by
  cases o with
  | none => cases h
  | some g => exact ⟨g, rfl, of_decide_eq_true h⟩

theorem gErr : ∃ g, Tryz.prog.globalNamed "strconv.ErrSyntax" = some g ∧ g < 3 := any_lt (by kernel_rfl)
theorem gTab : ∃ g, Tryz.prog.globalNamed "internal/strconv.uint64pow10" = some g ∧ g < 3 := any_lt (by kernel_rfl)

theorem Laid.below {B : Nat} {w w' : World} (h : Laid w) (hb : Below B w w') (hB : 3 ≤ B) : Laid w' := by
  obtain ⟨g1, hg1, hl1⟩ := gErr
  obtain ⟨g2, hg2, hl2⟩ := gTab
  obtain ⟨tp, p, hv⟩ := h.err
  exact ⟨⟨tp, p, var?_below hb hg1 (by omega) hv⟩, var?_below hb hg2 (by omega) h.tab, Nat.le_trans h.room hb.size⟩

theorem parseM_ok (l : B) : ∀ (acc : Nat) (n : Nat), acc < 10 ^ n → n + l.length ≤ 9 → l.all digB = true → Lib.parseUintM (2 ^ 32 - 1) acc l = .ok (l.foldl (fun n c => n * 10 + (c.toNat - 48)) acc) := by
  induction l with
  | nil => intro acc n _ _ _; rfl
  | cons c r ih =>
    intro acc n ha hn hd
    rw [List.length_cons] at hn
    have h8 : 10 ^ n ≤ 10 ^ 8 := Nat.pow_le_pow_right (by decide) (by omega)
    have hd' : (digB c && r.all digB) = true := hd
    rw [Bool.and_eq_true] at hd'
    have hc : 48 ≤ c.toNat ∧ c.toNat ≤ 57 := by simpa [digB] using hd'.1
    rw [Lib.parseUintM, if_pos hc, if_neg (by omega), if_neg (by omega), ih _ (n + 1) (by rw [Nat.pow_succ]; omega) (by omega) hd'.2]
    rfl

theorem parseM_bad (l : B) : ∀ (acc : Nat) (n : Nat), acc < 10 ^ n → n + l.length ≤ 9 → l.all digB = false → Lib.parseUintM (2 ^ 32 - 1) acc l = Lib.parseUintB 32 [] := by
  induction l with
  | nil => intro acc n _ _ h; cases h
  | cons c r ih =>
    intro acc n ha hn hd
    rw [List.length_cons] at hn
    have h8 : 10 ^ n ≤ 10 ^ 8 := Nat.pow_le_pow_right (by decide) (by omega)
    have hd' : (digB c && r.all digB) = false := hd
    rw [Lib.parseUintM]
    by_cases hc : 48 ≤ c.toNat ∧ c.toNat ≤ 57
    · have h1 : digB c = true := by simp [digB, hc]
      rw [h1, Bool.true_and] at hd'
      rw [if_pos hc, if_neg (by omega), if_neg (by omega), ih _ (n + 1) (by rw [Nat.pow_succ]; omega) (by omega) hd']
    · rw [if_neg hc]; rfl

/-- what ParseUint says of at most nine bytes -/
theorem parse_nine (l : B) (h : l.length ≤ 9) (hz : 1 < l.length → l.head? ≠ some 48) :
    (∃ n, numberB l = some n ∧ n < 1000000000 ∧ Lib.parseUintB 32 l = .ok n) ∨ (numberB l = none ∧ Lib.parseUintB 32 l = Lib.parseUintB 32 []) := by
  by_cases h0 : l = []
  · subst h0; exact .inr ⟨rfl, rfl⟩
  · have hl : l.length ≠ 0 := fun e => h0 (List.length_eq_zero_iff.1 e)
    cases ha : l.all digB with
    | true =>
      have hn : numberB l = some (decB l) := by
        unfold numberB; rw [if_neg]
        rw [ha]
        intro hh
        rcases hh with hh | hh | ⟨hh, hh'⟩ | hh
        · exact hl hh
        · omega
        · exact hz hh hh'
        · cases hh
      exact .inl ⟨decB l, hn, numberB_lt hn, by unfold Lib.parseUintB; rw [if_neg h0, parseM_ok l 0 0 (by decide) (by omega) ha]; rfl⟩
    | false =>
      refine .inr ⟨by unfold numberB; rw [if_pos (.inr (.inr (.inr ha)))], by rw [show Lib.parseUintB 32 l = if l = [] then Lib.parseUintB 32 [] else Lib.parseUintM (2 ^ 32 - 1) 0 l from rfl, if_neg h0, parseM_bad l 0 0 (by decide) (by omega) ha]⟩

def optN (o : Option Nat) : Value := .tuple #[.int .i64 ((o.getD 0 : Nat) : Int), .bool o.isSome]

def NumPost (o : Option Nat) (w : World) (e : Ending) (w' : World) : Prop := e = .returned (optN o) ∧ Below w.heap.size w w'

set_option maxHeartbeats 400000 in
theorem number_long (s : ByteArray) (w : World) (hs : s.size ≤ 1000000) (h9 : 9 < s.size) : Calls Tryz.prog 30 #[.string s] w (NumPost (numberB (bl s)) w) := by
  have e : numberB (bl s) = none := by unfold numberB; rw [if_pos (by rw [bl_size]; omega)]
  have He := Lib.hid e
  clear e
  go_enter Tryz.func30, Tryz.ntmps30
  go_wp2
  go_ret2
  exact ⟨by rw [He.out]; rfl, Below.refl _ _⟩

set_option maxHeartbeats 400000 in
theorem number_nought (s : ByteArray) (w : World) (h9 : s.size ≤ 9) (h1 : 1 < s.size) (h48 : s[0] = 48) : Calls Tryz.prog 30 #[.string s] w (NumPost (numberB (bl s)) w) := by
  have e : numberB (bl s) = none := by
    unfold numberB; rw [if_pos]
    refine .inr (.inr (.inl ⟨by rw [bl_size]; exact h1, ?_⟩))
    rw [List.head?_eq_getElem?, bl_get s 0 (by omega), h48]
  have He := Lib.hid e
  have h48' : ((s[0].toNat : Int) == 48) = true := by rw [h48]; rfl
  clear e h48
  go_enter Tryz.func30, Tryz.ntmps30
  go_wp2
  go_ret2
  exact ⟨by rw [He.out]; rfl, Below.refl _ _⟩

def UintOk (n : Nat) (w : World) (e : Ending) (w' : World) : Prop := e = .returned (.tuple #[.int .u64 n, .nilIface]) ∧ Below w.heap.size w w'
def UintNo (w : World) (e : Ending) (w' : World) : Prop := ∃ N, e = .returned (.tuple #[.int .u64 0, .iface 196 (.pointer (some ⟨N, 0, none⟩))]) ∧ Below w.heap.size w w'

theorem uint_ok (s : ByteArray) (n : Nat) (hs : s.size ≤ 9) (hp : Lib.parseUintB 32 (bl s) = .ok n) (w : World) : Calls Tryz.prog 50 #[.string s, .int .i64 10, .int .i64 32] w (UintOk n w) := by
  refine (Tryz.strconv_ParseUint_10_at32_ok s (by omega) n hp w).mono ?_
  rintro e w1 ⟨rfl, hw1⟩
  refine ⟨rfl, ?_⟩
  rcases hw1 with rfl | rfl
  · exact Below.refl _ _
  · exact Lib.bytesWorld_below _ _ _

theorem uint_no (s : ByteArray) (hs : s.size ≤ 9) (hp : Lib.parseUintB 32 (bl s) = Lib.parseUintB 32 []) (w : World) (hw : Laid w) : Calls Tryz.prog 50 #[.string s, .int .i64 10, .int .i64 32] w (UintNo w) := by
  obtain ⟨tp, p, hv⟩ := hw.err
  refine (Tryz.strconv_ParseUint_10_at32_syntax_var s (by omega) hp tp p w hv).mono ?_
  rintro e w1 ⟨N, rfl, _, _, hb⟩
  exact ⟨N, rfl, hb⟩

theorem head_not {s : ByteArray} (h1 : 1 < s.size) (h48 : s[0] ≠ 48) : (bl s).head? ≠ some 48 := by
  rw [List.head?_eq_getElem?, bl_get s 0 (by omega)]
  exact fun h => h48 (Option.some.inj h)

set_option maxHeartbeats 1000000 in
set_option maxRecDepth 100000 in
theorem number_short (s : ByteArray) (w : World) (h9 : s.size ≤ 1) (hw : Laid w) : Calls Tryz.prog 30 #[.string s] w (NumPost (numberB (bl s)) w) := by
  rcases parse_nine (bl s) (by rw [bl_size]; omega) (by rw [bl_size]; omega) with ⟨n, hn, hlt, hp⟩ | ⟨hn, hp⟩
  · have Hn := Lib.hid hn
    have hc := Lib.hid (uint_ok s n (by omega) hp)
    clear hn hp
    have h63 := Lib.hid (show IntKind.i64.wrap (n : Int) = (n : Int) from IntWalk.i64_in _ (by omega))
    clear hlt
    go_enter Tryz.func30, Tryz.ntmps30
    go_wp2_with fail
    refine (hc.out w).mono ?_
    rintro e w1 ⟨rfl, hb1⟩
    go_wp2_with fail
    have i2 := h63.out
    go_quiet (fail)
    clear i2
    go_wp2_with fail
    go_ret2
    exact ⟨by rw [Hn.out]; rfl, below_drawn hb1 _⟩
  · have Hn := Lib.hid hn
    have hc := uint_no s (by omega) hp w hw
    have Hc := Lib.hid hc
    clear hn hp hc hw
    go_enter Tryz.func30, Tryz.ntmps30
    go_wp2_with fail
    refine Hc.out.mono ?_
    rintro e w1 ⟨N, rfl, hb1⟩
    go_wp2_with fail
    go_quiet (fail)
    go_wp2_with fail
    go_ret2
    exact ⟨by rw [Hn.out]; rfl, below_drawn hb1 _⟩
set_option maxHeartbeats 1000000 in
set_option maxRecDepth 100000 in
theorem number_mid (s : ByteArray) (w : World) (h9 : s.size ≤ 9) (h1 : 1 < s.size) (h48 : s[0] ≠ 48) (hw : Laid w) : Calls Tryz.prog 30 #[.string s] w (NumPost (numberB (bl s)) w) := by
  have h48' : ((s[0].toNat : Int) == 48) = false := by
    rw [beq_eq_false_iff_ne]; intro h; exact h48 (UInt8.toNat_inj.1 (by have : (48 : UInt8).toNat = 48 := rfl; omega))
  rcases parse_nine (bl s) (by rw [bl_size]; omega) (fun _ => head_not h1 h48) with ⟨n, hn, hlt, hp⟩ | ⟨hn, hp⟩
  · have Hn := Lib.hid hn
    have hc := Lib.hid (uint_ok s n (by omega) hp)
    clear hn hp h48
    have h63 := Lib.hid (show IntKind.i64.wrap (n : Int) = (n : Int) from IntWalk.i64_in _ (by omega))
    clear hlt
    go_enter Tryz.func30, Tryz.ntmps30
    go_wp2_with fail
    refine (hc.out w).mono ?_
    rintro e w1 ⟨rfl, hb1⟩
    go_wp2_with fail
    have i2 := h63.out
    go_quiet (fail)
    clear i2
    go_wp2_with fail
    go_ret2
    exact ⟨by rw [Hn.out]; rfl, below_drawn hb1 _⟩
  · have Hn := Lib.hid hn
    have hc := uint_no s (by omega) hp w hw
    have Hc := Lib.hid hc
    clear hn hp hc hw h48
    go_enter Tryz.func30, Tryz.ntmps30
    go_wp2_with fail
    refine Hc.out.mono ?_
    rintro e w1 ⟨N, rfl, hb1⟩
    go_wp2_with fail
    go_quiet (fail)
    go_wp2_with fail
    go_ret2
    exact ⟨by rw [Hn.out]; rfl, below_drawn hb1 _⟩
theorem number_any (s : ByteArray) (w : World) (hs : s.size ≤ 1000000) (hw : Laid w) : Calls Tryz.prog 30 #[.string s] w (NumPost (numberB (bl s)) w) := by
  by_cases h9 : 9 < s.size
  · exact number_long s w hs h9
  · by_cases h1 : 1 < s.size
    · by_cases h48 : s[0] = 48
      · exact number_nought s w (by omega) h1 h48
      · exact number_mid s w (by omega) h1 h48 hw
    · exact number_short s w (by omega) hw
end Go.Proofs.YtpgegfdiceamaaaGreatDoor
