/- Plain facts on a string's runes against its bytes: a blank is a rune of its own, and no other rune has a blank among its bytes. -/
import Derived.Laws.RangeAny
import Derived.Test.YtpgegfdiceamaaaGreatDoorPlain
namespace Go.Proofs.YtpgegfdiceamaaaGreatDoor
open Cons

theorem get!_drop (s : ByteArray) (i : Nat) (h : i < s.size) : s.get! i = s[i] := by
  have h' : i < s.data.size := h
  show s.data[i]! = _
  rw [getElem!_pos s.data i h']; rfl

theorem decode_blank (s : ByteArray) (pos : Nat) (h : pos < s.size) : ((Utf8.decode s pos).1 = 32 → s[pos] = 32 ∧ (Utf8.decode s pos).2 = 1) := by
  intro hd
  by_cases ha : (s[pos]'h).toNat < 128
  · rw [decode_ascii s pos h ha] at hd ⊢
    refine ⟨?_, rfl⟩
    simp only at hd
    exact UInt8.toNat_inj.1 hd
  · have := (decode_high s pos h (by omega)).1
    omega

theorem decode_other (s : ByteArray) (pos : Nat) (h : pos < s.size) (hd : (Utf8.decode s pos).1 ≠ 32) :
    1 ≤ (Utf8.decode s pos).2 ∧ pos + (Utf8.decode s pos).2 ≤ s.size ∧ ∀ j, pos ≤ j → (hj : j < pos + (Utf8.decode s pos).2) → ∀ hs : j < s.size, s[j] ≠ 32 := by
  by_cases ha : (s[pos]'h).toNat < 128
  · rw [decode_ascii s pos h ha] at hd ⊢
    refine ⟨Nat.le_refl _, h, ?_⟩
    intro j h1 h2 hs he
    obtain rfl : j = pos := by simp only at h2; omega
    exact hd (by simp only; rw [he]; rfl)
  · have e0 := get!_drop s pos h
    have key : ∀ n c : Nat, 1 ≤ n → (∀ k, 1 ≤ k → k < n → pos + k < s.size ∧ (s.get! (pos + k)).toNat / 64 = 2) →
        1 ≤ (c, n).2 ∧ pos + (c, n).2 ≤ s.size ∧ ∀ j, pos ≤ j → (hj : j < pos + (c, n).2) → ∀ hs : j < s.size, s[j] ≠ 32 := by
      intro n c hn hk
      refine ⟨hn, ?_, ?_⟩
      · show pos + n ≤ s.size
        rcases Nat.lt_or_ge 1 n with h1 | h1
        · have := (hk (n - 1) (by omega) (by omega)).1
          omega
        · omega
      · intro j h1 h2 hs he
        have h2' : j < pos + n := h2
        rcases Nat.lt_or_ge pos j with h3 | h3
        · have := (hk (j - pos) (by omega) (by omega)).2
          rw [show pos + (j - pos) = j by omega, get!_drop s j hs, he] at this
          revert this; decide
        · obtain rfl : j = pos := by omega
          rw [he] at ha
          exact ha (by decide)
    unfold Utf8.decode
    simp only [Nat.add_zero, e0]
    have c1 : ∀ k, 1 ≤ k → k < 1 → pos + k < s.size ∧ (s.get! (pos + k)).toNat / 64 = 2 := fun k h1 h2 => by omega
    have cc : ∀ k, (decide (pos + k < s.size) && (s.get! (pos + k)).toNat / 64 == 2) = true → pos + k < s.size ∧ (s.get! (pos + k)).toNat / 64 = 2 := fun k h => by simpa using h
    split
    · exact key _ _ (by omega) c1
    · split
      · next _ h2 =>
        rw [Bool.and_eq_true] at h2
        split
        · exact key _ _ (by omega) (fun k h3 h4 => by obtain rfl : k = 1 := by omega
                                                      exact cc 1 h2.2)
        · exact key _ _ (by omega) c1
      · split
        · next _ _ h2 =>
          simp only [Bool.and_eq_true] at h2
          split
          · refine key _ _ (by omega) (fun k h3 h4 => ?_)
            rcases (by omega : k = 1 ∨ k = 2) with rfl | rfl
            · exact cc 1 (by simpa using h2.1.2)
            · exact cc 2 (by simpa using h2.2)
          · exact key _ _ (by omega) c1
        · split
          · next _ _ _ h2 =>
            simp only [Bool.and_eq_true] at h2
            split
            · refine key _ _ (by omega) (fun k h3 h4 => ?_)
              rcases (by omega : k = 1 ∨ k = 2 ∨ k = 3) with rfl | rfl | rfl
              · exact cc 1 (by simpa using h2.1.1.2)
              · exact cc 2 (by simpa using h2.1.2)
              · exact cc 3 (by simpa using h2.2)
            · exact key _ _ (by omega) c1
          · exact key _ _ (by omega) c1

/-- a string's bytes -/
def bl (s : ByteArray) : B := s.data.toList

theorem bl_size (s : ByteArray) : (bl s).length = s.size := by simp [bl]
theorem bl_get (s : ByteArray) (i : Nat) (h : i < s.size) : (bl s)[i]? = some s[i] := by
  have h' : i < s.data.size := h
  show s.data.toList[i]? = _
  rw [Array.getElem?_toList, Array.getElem?_eq_getElem h']; rfl
theorem bl_extract (s : ByteArray) (a b : Nat) : bl (s.extract a b) = ((bl s).drop a).take (b - a) := by
  simp [bl]

/-- how a split goes on from a place: no blank between 'f' and 'p' -/
theorem split_word (l : B) (f p : Nat) (hfp : f ≤ p) (hp : p < l.length) (hn : ∀ j, f ≤ j → j < p → l[j]? ≠ some 32) (h32 : l[p]? = some 32) :
    splitB (l.drop f) = (l.drop f).take (p - f) :: splitB (l.drop (p + 1)) := by
  have e : l.drop f = (l.drop f).take (p - f) ++ 32 :: l.drop (p + 1) := by
    have e1 : l.drop f = (l.drop f).take (p - f) ++ (l.drop f).drop (p - f) := (List.take_append_drop _ _).symm
    rw [List.drop_drop, show f + (p - f) = p by omega] at e1
    have e2 : l.drop p = 32 :: l.drop (p + 1) := by
      rw [List.drop_eq_getElem_cons hp]
      rw [List.getElem?_eq_getElem hp] at h32
      rw [Option.some.inj h32]
    rw [e2] at e1
    exact e1
  rw [e, splitB_app]
  · rw [← e]
  · intro c hc he
    subst he
    obtain ⟨i, hi, hic⟩ := List.mem_iff_getElem.1 hc
    have hi' : i < p - f := by rw [List.length_take] at hi; omega
    refine hn (f + i) (by omega) (by omega) ?_
    rw [← hic]
    simp

theorem split_last (l : B) (f : Nat) (hn : ∀ j, f ≤ j → j < l.length → l[j]? ≠ some 32) : splitB (l.drop f) = [l.drop f] := by
  apply splitB_free
  intro c hc he
  subst he
  obtain ⟨i, hi, hic⟩ := List.mem_iff_getElem.1 hc
  rw [List.length_drop] at hi
  refine hn (f + i) (by omega) (by omega) ?_
  rw [← hic]
  simp

/-- a text's value -/
def sv (l : B) : Value := .string ⟨l.toArray⟩

theorem sv_bl (s : ByteArray) : sv (bl s) = .string s := by simp [sv, bl]

end Go.Proofs.YtpgegfdiceamaaaGreatDoor
