/- The console's laws: part Xl. -/
import Derived.Test.YtpgegfdiceamaaaGreatDoorXk
namespace Go.Proofs.YtpgegfdiceamaaaGreatDoor
open Go.RowKit Cons

set_option maxHeartbeats 4000000 in
set_option maxRecDepth 100000 in
theorem back_long (op fuel words stack : Int) (name text s : ByteArray) (w : World) (hw : Laid w) (h : 40000 < name.size ∨ 40000 < text.size ∨ 40000 < s.size) :
    Calls Tryz.prog 5 #[cmdA op fuel words stack name text, .string s] w (BoolPost true w) := by
  have Hw := Lib.hid hw
  clear hw
  have hb0 : Below w.heap.size w (w.alloc (.cells #[.int .i64 op, .string name, .string text, .int .i64 fuel, .int .i64 words, .int .i64 stack] 26)) := below_blk _ _ _
  have Hb0 := Lib.hid hb0
  clear hb0
  simp only [cmdA]
  by_cases h1 : 40000 < name.size
  · have e1 : decide ((40000 : Int) < name.size) = true := decide_eq_true (by omega)
    clear h h1
    go_enter Tryz.func5, Tryz.ntmps5
    go_wp2_with fail
    refine (wakes_any _ (Hw.out.of_below Hb0.out)).mono ?_
    rintro e w1 ⟨rfl, hb⟩
    have Hb := Lib.hid (Hb0.out.trans (hb.mono Hb0.out.size))
    clear hb
    go_wp2
    go_ret
    exact ⟨rfl, Hb.out⟩
  · have e1 : decide ((40000 : Int) < name.size) = false := decide_eq_false (by omega)
    by_cases h2 : 40000 < text.size
    · have e2 : decide ((40000 : Int) < text.size) = true := decide_eq_true (by omega)
      clear h h1 h2
      go_enter Tryz.func5, Tryz.ntmps5
      go_wp2_with fail
      refine (wakes_any _ (Hw.out.of_below Hb0.out)).mono ?_
      rintro e w1 ⟨rfl, hb⟩
      have Hb := Lib.hid (Hb0.out.trans (hb.mono Hb0.out.size))
      clear hb
      go_wp2
      go_ret
      exact ⟨rfl, Hb.out⟩
    · have e2 : decide ((40000 : Int) < text.size) = false := decide_eq_false (by omega)
      have e3 : decide ((40000 : Int) < s.size) = true := decide_eq_true (by omega)
      clear h h1 h2
      go_enter Tryz.func5, Tryz.ntmps5
      go_wp2_with fail
      refine (wakes_any _ (Hw.out.of_below Hb0.out)).mono ?_
      rintro e w1 ⟨rfl, hb⟩
      have Hb := Lib.hid (Hb0.out.trans (hb.mono Hb0.out.size))
      clear hb
      go_wp2
      go_ret
      exact ⟨rfl, Hb.out⟩

theorem line_len (op fuel words stack : Int) (name text : ByteArray) (hn : name.size ≤ 40000) (ht : text.size ≤ 40000) (fo : I64 fuel) (wo : I64 words) (st : I64 stack) (l : B)
    (h : lineOf ⟨op, bl name, bl text, fuel, words, stack⟩ = some l) : (ba l).size ≤ 1000000 := by
  have e : l = lineB ⟨op, bl name, bl text, fuel, words, stack⟩ := by
    unfold lineOf at h
    split at h
    · cases h; rfl
    · cases h
  have x1 := int_size fuel fo.1 fo.2
  have x2 := int_size words wo.1 wo.2
  have x3 := int_size stack st.1 st.2
  rw [ba_size] at x1 x2 x3
  rw [ba_size, e]
  unfold lineB
  have hx : (hexB (bl text)).length ≤ 80001 := by rw [hexB_length, bl_size]; omega
  split
  · simp [sWrite, bl_size]; omega
  · split
    · simp [sDelete, bl_size]; omega
    · split
      · simp [sCompile, bl_size]; omega
      · split
        · simp [sLoad, bl_size]; omega
        · split
          · simp [sRun]; omega
          · simp

theorem parseV_some (op fuel words stack : Int) (name text : ByteArray) : parseV (some ⟨op, bl name, bl text, fuel, words, stack⟩) = .tuple #[.agg #[.int .i64 op, .string name, .string text, .int .i64 fuel, .int .i64 words, .int .i64 stack], .int .i64 0] := by
  simp only [parseV, cmdV, Option.getD_some, Option.isSome_some, if_true, sv_of]

theorem cb6 {w' : World} {b : Nat} {op fuel words stack : Int} {name text : ByteArray} (h : w'.heap[b]? = some (.cells #[.int .i64 op, .string name, .string text, .int .i64 fuel, .int .i64 words, .int .i64 stack] 26 (0, 0))) :
    w'.cell? ⟨b, 0, none⟩ = some (.int .i64 op) ∧ w'.cell? ⟨b, 1, none⟩ = some (.string name) ∧ w'.cell? ⟨b, 2, none⟩ = some (.string text) ∧ w'.cell? ⟨b, 3, none⟩ = some (.int .i64 fuel) ∧ w'.cell? ⟨b, 4, none⟩ = some (.int .i64 words) ∧ w'.cell? ⟨b, 5, none⟩ = some (.int .i64 stack) := by
  refine ⟨?_, ?_, ?_, ?_, ?_, ?_⟩ <;> (rw [Lib.cell_of_heap h]; rfl)

theorem kp6 {w w' : World} {op fuel words stack : Int} {name text : ByteArray} (h : Kp w #[.int .i64 op, .string name, .string text, .int .i64 fuel, .int .i64 words, .int .i64 stack] 26 w') :
    w'.cell? ⟨w.heap.size, 0, none⟩ = some (.int .i64 op) ∧ w'.cell? ⟨w.heap.size, 1, none⟩ = some (.string name) ∧ w'.cell? ⟨w.heap.size, 2, none⟩ = some (.string text) ∧ w'.cell? ⟨w.heap.size, 3, none⟩ = some (.int .i64 fuel) ∧ w'.cell? ⟨w.heap.size, 4, none⟩ = some (.int .i64 words) ∧ w'.cell? ⟨w.heap.size, 5, none⟩ = some (.int .i64 stack) :=
  cb6 h.1

theorem parse_small {l : B} {k : Cmd} (h : parseB l = some k) : k.name.length ≤ l.length ∧ k.text.length ≤ l.length ∧ I64 k.fuel ∧ I64 k.words ∧ I64 k.stack := by
  have hw := split_len l
  have hb : ∀ t x, bytesB t = some x → x.length ≤ t.length := fun t x hx => by
    have := hexB_bytesB hx
    have hl := hexB_length x
    rw [this] at hl
    omega
  have hi : ∀ t n, numberB t = some n → I64 ((n : Nat) : Int) := fun t n hn => by
    have := numberB_lt hn
    exact ⟨by omega, by omega⟩
  have z : I64 0 := i0z
  unfold parseB parseW at h
  split at h
  · next w n t hs =>
    rw [hs] at hw
    have ln := hw n (by simp)
    have lt := hw t (by simp)
    split at h
    · obtain ⟨x, hx, h⟩ := Option.bind_eq_some_iff.1 h
      split at h <;> cases h
      have := hb t x hx
      exact ⟨ln, by simp only; omega, z, z, z⟩
    · split at h
      · obtain ⟨x, hx, h⟩ := Option.bind_eq_some_iff.1 h
        obtain ⟨y, hy, h⟩ := Option.bind_eq_some_iff.1 h
        cases h
        have := hb t y hy
        exact ⟨by simp, by simp only; omega, hi _ _ hx, z, z⟩
      · cases h
  · next w n hs =>
    rw [hs] at hw
    have ln := hw n (by simp)
    split at h
    · split at h <;> cases h
      exact ⟨ln, by simp, z, z, z⟩
    · split at h
      · split at h <;> cases h
        exact ⟨ln, by simp, z, z, z⟩
      · cases h
  · next w n a b hs =>
    rw [hs] at hw
    have ln := hw n (by simp)
    split at h
    · obtain ⟨x, hx, h⟩ := Option.bind_eq_some_iff.1 h
      obtain ⟨y, hy, h⟩ := Option.bind_eq_some_iff.1 h
      split at h <;> cases h
      exact ⟨ln, by simp, z, hi _ _ hx, hi _ _ hy⟩
    · cases h
  · cases h

theorem parseV_ba (op fuel words stack : Int) (n t : B) : parseV (some ⟨op, n, t, fuel, words, stack⟩) = .tuple #[.agg #[.int .i64 op, .string (ba n), .string (ba t), .int .i64 fuel, .int .i64 words, .int .i64 stack], .int .i64 0] := rfl

theorem step_blk {w0 w w' : World} {cs : Array Value} {T : TypeId} (h : Below w0.heap.size w0 w) (hb : Below (w.alloc (.cells cs T)).heap.size (w.alloc (.cells cs T)) w') : Below w0.heap.size w0 w' :=
  h.trans (((Below.refl _ w).alloc (Nat.le_refl _) (.cells cs T) |>.mono h.size).trans (hb.mono (Nat.le_trans h.size (by simp))))

set_option maxHeartbeats 8000000 in
set_option maxRecDepth 100000 in
theorem back_short (op fuel words stack : Int) (name text s : ByteArray) (w : World) (hw : Laid w) (hn : name.size ≤ 40000) (ht : text.size ≤ 40000) (hs : s.size ≤ 40000) (fo : I64 fuel) (wo : I64 words) (st : I64 stack) :
    Calls Tryz.prog 5 #[cmdA op fuel words stack name text, .string s] w (BoolPost true w) := by
  have e1 : decide ((40000 : Int) < name.size) = false := decide_eq_false (by omega)
  have e2 : decide ((40000 : Int) < text.size) = false := decide_eq_false (by omega)
  have e3 : decide ((40000 : Int) < s.size) = false := decide_eq_false (by omega)
  have hk0 := Kp.first w #[.int .i64 op, .string name, .string text, .int .i64 fuel, .int .i64 words, .int .i64 stack] 26
  have Hw := Lib.hid hw
  have Hk0 := Lib.hid hk0
  have Hn := Lib.hid hn
  have Ht := Lib.hid ht
  have Hs := Lib.hid hs
  have Fo := Lib.hid fo
  have Wo := Lib.hid wo
  have St := Lib.hid st
  clear hw hk0 hn ht hs fo wo st
  simp only [cmdA]
  go_enter Tryz.func5, Tryz.ntmps5
  go_wp2_with fail
  refine (line_any op fuel words stack name text _ (Hw.out.of_below Hk0.out.2) Hn.out Ht.out Fo.out Wo.out St.out).mono ?_
  rintro e w1 ⟨rfl, hb1⟩
  have Hk1 := Lib.hid (Kp.after Hk0.out hb1)
  clear hb1
  cases hl : lineOf ⟨op, bl name, bl text, fuel, words, stack⟩ with
  | none =>
    simp only [LineV, Option.getD_none, Option.isSome_none, Bool.false_eq_true, if_false, show sv [] = .string ⟨#[]⟩ from rfl]
    have Hl := Lib.hid hl
    clear hl
    go_wp2_with fail
    refine (parse_any s w1 (Nat.le_trans Hs.out (by decide)) (Hw.out.of_below Hk1.out.2)).mono ?_
    rintro e w5 ⟨rfl, hb5⟩
    have Hb5 := Lib.hid (Hk1.out.2.trans (hb5.mono Hk1.out.2.size))
    clear hb5
    cases hq : parseB (bl s) with
    | none =>
      simp only [parseV, cmdV, zeroC, Option.getD_none, Option.isSome_none, sv, Bool.false_eq_true, if_false]
      clear hq
      go_wp2_with fail
      refine (same_refl 0 0 0 0 ⟨#[]⟩ ⟨#[]⟩ _).mono ?_
      rintro e w6 ⟨rfl, hb6⟩
      have Hb6 := Lib.hid (step_blk Hb5.out hb6)
      clear hb6
      go_wp2_with fail
      refine (wakes_any w6 (Hw.out.of_below Hb6.out)).mono ?_
      rintro e w7 ⟨rfl, hb7⟩
      have Hb7 := Lib.hid (Hb6.out.trans (hb7.mono Hb6.out.size))
      clear hb7
      go_wp2
      go_ret
      exact ⟨rfl, Hb7.out⟩
    | some k =>
      obtain ⟨op2, n2, t2, fu2, wo2, st2⟩ := k
      have hl2 := line_back hq
      obtain ⟨q1, q2, q3, q4, q5⟩ := parse_small hq
      rw [bl_size] at q1 q2
      have Hl2 := Lib.hid hl2
      have Q1 := Lib.hid (show (ba n2).size ≤ 40000 by rw [ba_size]; exact Nat.le_trans q1 Hs.out)
      have Q2 := Lib.hid (show (ba t2).size ≤ 40000 by rw [ba_size]; exact Nat.le_trans q2 Hs.out)
      have Q3 := Lib.hid q3
      have Q4 := Lib.hid q4
      have Q5 := Lib.hid q5
      clear hq hl2 q1 q2 q3 q4 q5
      rw [parseV_ba]
      go_wp2_with fail
      refine (line_any op2 fu2 wo2 st2 (ba n2) (ba t2) _ (Hw.out.of_below (step_blk Hb5.out (Below.refl _ _))) Q1.out Q2.out Q3.out Q4.out Q5.out).mono ?_
      rintro e w6 ⟨rfl, hb6⟩
      rw [bl_ba, bl_ba, Hl2.out]
      simp only [LineV, Option.getD_some, Option.isSome_some, if_true, sv_of]
      have Hb6 := Lib.hid (step_blk Hb5.out hb6)
      clear hb6
      go_wp2_with fail
      refine (wakes_any w6 (Hw.out.of_below Hb6.out)).mono ?_
      rintro e w7 ⟨rfl, hb7⟩
      have Hb7 := Lib.hid (Hb6.out.trans (hb7.mono Hb6.out.size))
      clear hb7
      go_wp2
      go_ret
      exact ⟨rfl, Hb7.out⟩
  | some l =>
    simp only [LineV, Option.getD_some, Option.isSome_some, if_true, show sv l = .string (ba l) from rfl]
    have hp := lineOf_parse hl
    have hz := line_len op fuel words stack name text Hn.out Ht.out Fo.out Wo.out St.out l hl
    have Hp := Lib.hid hp
    have Hz := Lib.hid hz
    clear hl hp hz
    go_wp2_with fail
    refine (parse_any (ba l) w1 Hz.out (Hw.out.of_below Hk1.out.2)).mono ?_
    rintro e w2 ⟨rfl, hb2⟩
    rw [bl_ba, Hp.out, parseV_some]
    have Hk2 := Lib.hid (Kp.after Hk1.out (hb2.mono (Nat.le_refl _)))
    clear hb2
    have hk3 : Kp w #[.int .i64 op, .string name, .string text, .int .i64 fuel, .int .i64 words, .int .i64 stack] 26 (w2.alloc (.cells #[.int .i64 op, .string name, .string text, .int .i64 fuel, .int .i64 words, .int .i64 stack] 26)) := Kp.after Hk2.out (below_blk _ _ _)
    obtain ⟨f0, f1, f2, f3, f4, f5⟩ := kp6 hk3
    have Hk3 := Lib.hid hk3
    clear hk3
    go_wp2_with fail
    refine (same_refl op fuel words stack name text _).mono ?_
    rintro e w4 ⟨rfl, hb4⟩
    have Hb4 := Lib.hid (Hk3.out.2.trans (hb4.mono Hk3.out.2.size))
    clear hb4 f0 f1 f2 f3 f4 f5
    go_wp2_with fail
    refine (parse_any s w4 (Nat.le_trans Hs.out (by decide)) (Hw.out.of_below Hb4.out)).mono ?_
    rintro e w5 ⟨rfl, hb5⟩
    have Hb5 := Lib.hid (Hb4.out.trans (hb5.mono Hb4.out.size))
    clear hb5
    cases hq : parseB (bl s) with
    | none =>
      simp only [parseV, cmdV, zeroC, Option.getD_none, Option.isSome_none, sv, Bool.false_eq_true, if_false]
      clear hq
      go_wp2_with fail
      refine (same_refl 0 0 0 0 ⟨#[]⟩ ⟨#[]⟩ _).mono ?_
      rintro e w6 ⟨rfl, hb6⟩
      have Hb6 := Lib.hid (step_blk Hb5.out hb6)
      clear hb6
      go_wp2_with fail
      refine (wakes_any w6 (Hw.out.of_below Hb6.out)).mono ?_
      rintro e w7 ⟨rfl, hb7⟩
      have Hb7 := Lib.hid (Hb6.out.trans (hb7.mono Hb6.out.size))
      clear hb7
      go_wp2
      go_ret
      exact ⟨rfl, Hb7.out⟩
    | some k =>
      obtain ⟨op2, n2, t2, fu2, wo2, st2⟩ := k
      have hl2 := line_back hq
      obtain ⟨q1, q2, q3, q4, q5⟩ := parse_small hq
      rw [bl_size] at q1 q2
      have Hl2 := Lib.hid hl2
      have Q1 := Lib.hid (show (ba n2).size ≤ 40000 by rw [ba_size]; exact Nat.le_trans q1 Hs.out)
      have Q2 := Lib.hid (show (ba t2).size ≤ 40000 by rw [ba_size]; exact Nat.le_trans q2 Hs.out)
      have Q3 := Lib.hid q3
      have Q4 := Lib.hid q4
      have Q5 := Lib.hid q5
      clear hq hl2 q1 q2 q3 q4 q5
      rw [parseV_ba]
      go_wp2_with fail
      refine (line_any op2 fu2 wo2 st2 (ba n2) (ba t2) _ (Hw.out.of_below (step_blk Hb5.out (Below.refl _ _))) Q1.out Q2.out Q3.out Q4.out Q5.out).mono ?_
      rintro e w6 ⟨rfl, hb6⟩
      rw [bl_ba, bl_ba, Hl2.out]
      simp only [LineV, Option.getD_some, Option.isSome_some, if_true, sv_of]
      have Hb6 := Lib.hid (step_blk Hb5.out hb6)
      clear hb6
      go_wp2_with fail
      refine (wakes_any w6 (Hw.out.of_below Hb6.out)).mono ?_
      rintro e w7 ⟨rfl, hb7⟩
      have Hb7 := Lib.hid (Hb6.out.trans (hb7.mono Hb6.out.size))
      clear hb7
      go_wp2
      go_ret
      exact ⟨rfl, Hb7.out⟩
end Go.Proofs.YtpgegfdiceamaaaGreatDoor
