/- The console's laws: part Wm. -/
import Derived.Test.YtpgegfdiceamaaaGreatDoorWn
namespace Go.Proofs.YtpgegfdiceamaaaGreatDoor
open Go.RowKit Cons

def ltr (c : Int) : Bool := (decide (97 ≤ c) && decide (c ≤ 122)) || (decide (65 ≤ c) && decide (c ≤ 90))

theorem ret_bool {a b : Bool} (h : a = b) : Ending.returned (.bool a) = .returned (.bool b) := by rw [h]

set_option maxHeartbeats 400000 in
theorem letter_any (c : Int) (w : World) :
    Calls Tryz.prog 51 #[.int .u8 c] w fun e w' => e = .returned (.bool (ltr c)) ∧ w = w' := by
  go_enter Tryz.func51, Tryz.ntmps51
  go_wp2
  all_goals (go_ret; exact ⟨ret_bool (by unfold ltr; rw [Bool.eq_iff_iff]; simp; omega), rfl⟩)

theorem ltr_byte (c : UInt8) : ltr (c.toNat : Int) = letterB c := by
  unfold ltr letterB; rw [Bool.eq_iff_iff]; simp; omega

def NameRel (s : ByteArray) (i : Value) : Prop := ∃ k : Nat, i = .int .i64 k ∧ k ≤ s.size ∧ ((bl s).take k).all nameC = true

theorem nameC_of {c : UInt8} (h : ltr (c.toNat : Int) = true ∨ (48 ≤ (c.toNat : Int) ∧ (c.toNat : Int) ≤ 57) ∨ (c.toNat : Int) = 46) : nameC c = true := by
  unfold nameC
  rcases h with h | h | h
  · rw [ltr_byte] at h; rw [h]; rfl
  · have : digB c = true := by simp [digB]; omega
    rw [this]; simp
  · have : c.toNat = 46 := by omega
    simp [this]

theorem nameC_not {c : UInt8} (h : ltr (c.toNat : Int) = false) (h2 : (c.toNat : Int) < 48 ∨ 57 < (c.toNat : Int)) (h3 : ((c.toNat : Int) != 46) = true) : nameC c = false := by
  unfold nameC
  rw [ltr_byte] at h
  have h4 : digB c = false := by simp [digB]; omega
  have h5 : ¬ c.toNat = 46 := by simp at h3; omega
  rw [h, h4]; simp [h5]

theorem name_round {s : ByteArray} {k : Nat} (h : k < s.size) (ha : ((bl s).take k).all nameC = true) (hc : nameC s[k] = true) : NameRel s (.int .i64 ((k : Int) + 1)) :=
  ⟨k + 1, by push_cast; rfl, h, by rw [take_snoc' s k h, List.all_append, ha]; simp [hc]⟩

theorem name_stop {s : ByteArray} {k : Nat} (h : k < s.size) (hc : nameC s[k] = false) : (bl s).all nameC = false := by
  rw [List.all_eq_false]
  refine ⟨s[k], ?_, by simp [hc]⟩
  have := bl_get s k h
  exact List.mem_of_getElem? this

set_option maxHeartbeats 1000000 in
set_option maxRecDepth 100000 in
theorem storeName_loop (s : ByteArray) (w : World) (h0 : 0 < s.size) (h24 : s.size ≤ 24) (hl : ltr (s[0].toNat : Int) = true) (hd : (bl s).all nameC = nameB (bl s)) :
    Calls Tryz.prog 31 #[.string s] w fun e w' => e = .returned (.bool (nameB (bl s))) ∧ w = w' := by
  have Hd := Lib.hid hd
  have h0' : ((s.size : Int) == 0) = false := by rw [beq_eq_false_iff_ne]; omega
  clear hd
  go_enter Tryz.func31, Tryz.ntmps31
  go_wp2_with (go_at_call 51; refine (letter_any _ _).mono ?_; rintro e w' ⟨rfl, rfl⟩)
  go_loop [21] (fun i => NameRel s i) (fun i => s.size - (intOf i).toNat)
  case atStart => exact ⟨0, rfl, Nat.zero_le _, rfl⟩
  case round =>
    obtain ⟨k, rfl, hk, ha⟩ := hrel
    have Ha := Lib.hid ha
    clear ha h0'
    by_cases hlt : k < s.size
    · cases hl2 : ltr (s[k].toNat : Int) with
      | true =>
        have Hn := Lib.hid (name_round hlt Ha.out (nameC_of (.inl hl2)))
        go_wp2_with (go_at_call 51; refine (letter_any _ _).mono ?_; rintro e w' ⟨rfl, rfl⟩)
        exact ⟨Hn.out, by simp [intOf]; omega⟩
      | false =>
        by_cases h48 : 48 ≤ (s[k].toNat : Int)
        · by_cases h57 : (s[k].toNat : Int) ≤ 57
          · have Hn := Lib.hid (name_round hlt Ha.out (nameC_of (.inr (.inl ⟨h48, h57⟩))))
            go_wp2_with (go_at_call 51; refine (letter_any _ _).mono ?_; rintro e w' ⟨rfl, rfl⟩)
            exact ⟨Hn.out, by simp [intOf]; omega⟩
          · have h46 : ((s[k].toNat : Int) != 46) = true := by rw [bne_iff_ne]; omega
            have Hn := Lib.hid (name_stop hlt (nameC_not hl2 (.inr (by omega)) h46))
            go_wp2_with (go_at_call 51; refine (letter_any _ _).mono ?_; rintro e w' ⟨rfl, rfl⟩)
            go_ret
            exact ⟨ret_bool (by rw [← Hd.out, Hn.out]), rfl⟩
        · cases h46 : ((s[k].toNat : Int) != 46) with
          | true =>
            have Hn := Lib.hid (name_stop hlt (nameC_not hl2 (.inl (by omega)) h46))
            go_wp2_with (go_at_call 51; refine (letter_any _ _).mono ?_; rintro e w' ⟨rfl, rfl⟩)
            go_ret
            exact ⟨ret_bool (by rw [← Hd.out, Hn.out]), rfl⟩
          | false =>
            have Hn := Lib.hid (name_round hlt Ha.out (nameC_of (.inr (.inr (by simpa using h46)))))
            go_wp2_with (go_at_call 51; refine (letter_any _ _).mono ?_; rintro e w' ⟨rfl, rfl⟩)
            exact ⟨Hn.out, by simp [intOf]; omega⟩
    · obtain rfl : k = s.size := by omega
      have h2 := Ha.out
      rw [List.take_of_length_le (by rw [bl_size]; exact Nat.le_refl _)] at h2
      have H2 := Lib.hid h2
      clear h2
      go_wp2
      go_ret
      exact ⟨ret_bool (by rw [← Hd.out, H2.out]), rfl⟩

set_option maxHeartbeats 1000000 in
set_option maxRecDepth 100000 in
theorem storeName_long (s : ByteArray) (w : World) (hs : s.size ≤ 1000000) (h : 24 < s.size) :
    Calls Tryz.prog 31 #[.string s] w fun e w' => e = .returned (.bool (nameB (bl s))) ∧ w = w' := by
  have hn : nameB (bl s) = false := by unfold nameB; rw [bl_size]; have : decide (s.size ≤ 24) = false := by simp; omega
                                       rw [this]; simp
  have Hn := Lib.hid hn
  have h0' : ((s.size : Int) == 0) = false := by rw [beq_eq_false_iff_ne]; omega
  clear hn
  go_enter Tryz.func31, Tryz.ntmps31
  go_wp2
  go_ret
  exact ⟨ret_bool Hn.out.symm, rfl⟩

set_option maxHeartbeats 1000000 in
set_option maxRecDepth 100000 in
theorem storeName_empty (s : ByteArray) (w : World) (h : s.size = 0) :
    Calls Tryz.prog 31 #[.string s] w fun e w' => e = .returned (.bool (nameB (bl s))) ∧ w = w' := by
  have hn : nameB (bl s) = false := by unfold nameB; rw [bl_size, h]; rfl
  have Hn := Lib.hid hn
  have h0' : ((s.size : Int) == 0) = true := by rw [beq_iff_eq]; omega
  clear hn
  go_enter Tryz.func31, Tryz.ntmps31
  go_wp2
  go_ret
  exact ⟨ret_bool Hn.out.symm, rfl⟩

theorem nameB_first {s : ByteArray} (h0 : 0 < s.size) (h24 : s.size ≤ 24) : nameB (bl s) = (ltr (s[0].toNat : Int) && (bl s).all nameC) := by
  have e := bl_get s 0 h0
  have hl := bl_size s
  rw [ltr_byte]
  unfold nameB
  rw [hl]
  have e1 : decide (0 < s.size) = true := by simpa using h0
  have e2 : decide (s.size ≤ 24) = true := by simpa using h24
  rw [e1, e2]
  match hb : bl s, e with
  | c :: r, e =>
    rw [List.getElem?_cons_zero] at e
    rw [← Option.some.inj e]
    simp

set_option maxHeartbeats 1000000 in
set_option maxRecDepth 100000 in
theorem storeName_first (s : ByteArray) (w : World) (h0 : 0 < s.size) (h24 : s.size ≤ 24) (hl : ltr (s[0].toNat : Int) = false) :
    Calls Tryz.prog 31 #[.string s] w fun e w' => e = .returned (.bool (nameB (bl s))) ∧ w = w' := by
  have hn : nameB (bl s) = false := by rw [nameB_first h0 h24, hl]; rfl
  have Hn := Lib.hid hn
  have h0' : ((s.size : Int) == 0) = false := by rw [beq_eq_false_iff_ne]; omega
  clear hn
  go_enter Tryz.func31, Tryz.ntmps31
  go_wp2_with (go_at_call 51; refine (letter_any _ _).mono ?_; rintro e w' ⟨rfl, rfl⟩)
  go_ret
  exact ⟨ret_bool Hn.out.symm, rfl⟩

theorem storeName_any (s : ByteArray) (w : World) (hs : s.size ≤ 1000000) :
    Calls Tryz.prog 31 #[.string s] w fun e w' => e = .returned (.bool (nameB (bl s))) ∧ w = w' := by
  rcases Nat.eq_zero_or_pos s.size with h | h
  · exact storeName_empty s w h
  · by_cases h24 : s.size ≤ 24
    · cases hl : ltr (s[0].toNat : Int) with
      | true => exact storeName_loop s w h h24 hl (by rw [nameB_first h h24, hl]; simp)
      | false => exact storeName_first s w h h24 hl
    · exact storeName_long s w hs (by omega)
end Go.Proofs.YtpgegfdiceamaaaGreatDoor
