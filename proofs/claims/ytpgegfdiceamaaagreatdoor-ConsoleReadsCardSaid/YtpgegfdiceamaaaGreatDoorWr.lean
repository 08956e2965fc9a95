/- The console's laws: part Wr. -/
import Derived.Test.YtpgegfdiceamaaaGreatDoorWl
namespace Go.Proofs.YtpgegfdiceamaaaGreatDoor
open Go.RowKit Cons

def ba (l : B) : ByteArray := ⟨l.toArray⟩
theorem bl_ba (l : B) : bl (ba l) = l := by simp [bl, ba]
theorem ba_size (l : B) : (ba l).size = l.length := by rw [← bl_size, bl_ba]
theorem ba_toList (l : B) : (ba l).toList = l := by rw [ByteArray.toList_eq]; exact bl_ba l

theorem row_open {base : Nat} {w : World} {v : Value} {l : List B} (h : TxtRow base w v l) (hl : l ≠ []) :
    ∃ g cap, v = .slice (some ⟨g, 0, none⟩) l.length cap ∧ g < w.heap.size ∧ ∀ i x, l[i]? = some x → w.cell? ⟨g, i, none⟩ = some (.string (ba x)) := by
  obtain ⟨hlen, h2⟩ := h
  rcases h2 with ⟨_, h0⟩ | ⟨g, cap, cur, rfl, hg, hblk, hn, hm, hcur, htake⟩
  · exact absurd (List.length_eq_zero_iff.1 h0) hl
  · refine ⟨g, cap, rfl, (Array.getElem?_eq_some_iff.1 hblk).1, fun i x hx => ?_⟩
    rw [Lib.cell_of_heap hblk]
    have hi : i < l.length := (List.getElem?_eq_some_iff.1 hx).1
    have e : (l.map sv)[i]? = some (sv x) := by rw [List.getElem?_map, hx]; rfl
    rw [← htake, List.getElem?_take, if_pos (by omega)] at e
    rw [← Array.getElem?_toList]
    exact e

theorem no3 {n : Nat} (h : n ≠ 3) : ((n : Int) == 3) = false := by rw [beq_eq_false_iff_ne]; omega
theorem no2 {n : Nat} (h : n ≠ 2) : ((n : Int) == 2) = false := by rw [beq_eq_false_iff_ne]; omega
theorem no4 {n : Nat} (h : n ≠ 4) : ((n : Int) == 4) = false := by rw [beq_eq_false_iff_ne]; omega

theorem parsed_any (base : Nat) (w : World) (v : Value) (l : List B) (h : TxtRow base w v l) (hl : l ≠ []) (hsz : ∀ x ∈ l, x.length ≤ 1000000) (hw : Laid w) :
    Calls Tryz.prog 15 #[v] w (PPost (parseW l) w) := by
  obtain ⟨g, cap, rfl, hg, hc⟩ := row_open h hl
  have hlen : 0 < l.length := by rcases Nat.eq_zero_or_pos l.length with h | h; exact absurd (List.length_eq_zero_iff.1 h) hl; exact h
  obtain ⟨x0, r, rfl⟩ : ∃ x0 r, l = x0 :: r := by cases l with | nil => exact absurd rfl hl | cons a b => exact ⟨a, b, rfl⟩
  have h0 := hc 0 x0 rfl
  have sz : ∀ i x, (x0 :: r)[i]? = some x → (ba x).size ≤ 1000000 := fun i x hx => by rw [ba_size]; exact hsz x (List.mem_of_getElem? hx)
  have eq1 : ∀ y : B, x0 = y → ((ba x0).toList == y) = true := fun y e => by rw [ba_toList]; exact beq_iff_eq.2 e
  have eq0 : ∀ y : B, x0 ≠ y → ((ba x0).toList == y) = false := fun y e => by rw [ba_toList]; exact beq_eq_false_iff_ne.2 e
  by_cases w1 : x0 = sWrite
  · have n2 : x0 ≠ sDelete := by rw [w1]; decide
    have n5 : x0 ≠ sRun := by rw [w1]; decide
    by_cases h3 : (x0 :: r).length = 3
    · match r, h3 with
      | [a, b], _ =>
        have := parsed_write g cap (ba x0) (ba a) (ba b) w hg h0 (hc 1 a rfl) (hc 2 b rfl) (sz 1 a rfl) (sz 2 b rfl) (eq1 _ w1)
        have e : parseW [x0, a, b] = oWrite (ba a) (ba b) := by simp only [parseW, if_pos w1, oWrite, bl_ba]
        rw [e]; exact this
    · have e : parseW (x0 :: r) = none := by
        match r, h3 with
        | [], _ => rfl
        | [a], _ => simp [parseW, w1, sWrite, sDelete, sCompile]
        | [a, b], h3 => exact absurd rfl h3
        | [a, b, c], _ => simp [parseW, w1, sWrite, sLoad]
        | a :: b :: c :: d :: t, _ => rfl
      rw [e]
      exact parsed_write_no g _ cap (ba x0) w hlen hg h0 (eq1 _ w1) (no3 h3)
  by_cases w2 : x0 = sDelete
  · by_cases h3 : (x0 :: r).length = 2
    · match r, h3 with
      | [a], _ =>
        have := parsed_delete g cap (ba x0) (ba a) w hg h0 (hc 1 a rfl) (sz 1 a rfl) (eq0 _ w1) (eq1 _ w2)
        have e : parseW [x0, a] = oName 2 (ba a) := by simp only [parseW, if_pos w2, oName, bl_ba]
        rw [e]; exact this
    · have e : parseW (x0 :: r) = none := by
        match r, h3 with
        | [], _ => rfl
        | [a], h3 => exact absurd rfl h3
        | [a, b], _ => simp [parseW, w2, sWrite, sDelete, sRun]
        | [a, b, c], _ => simp [parseW, w2, sDelete, sLoad]
        | a :: b :: c :: d :: t, _ => rfl
      rw [e]
      exact parsed_delete_no g _ cap (ba x0) w hlen hg h0 (eq0 _ w1) (eq1 _ w2) (no2 h3)
  by_cases w3 : x0 = sCompile
  · by_cases h3 : (x0 :: r).length = 2
    · match r, h3 with
      | [a], _ =>
        have := parsed_compile g cap (ba x0) (ba a) w hg h0 (hc 1 a rfl) (sz 1 a rfl) (eq0 _ w1) (eq0 _ w2) (eq1 _ w3)
        have e : parseW [x0, a] = oName 3 (ba a) := by simp only [parseW, if_neg w2, if_pos w3, oName, bl_ba]
        rw [e]; exact this
    · have e : parseW (x0 :: r) = none := by
        match r, h3 with
        | [], _ => rfl
        | [a], h3 => exact absurd rfl h3
        | [a, b], _ => simp [parseW, w3, sWrite, sCompile, sRun]
        | [a, b, c], _ => simp [parseW, w3, sCompile, sLoad]
        | a :: b :: c :: d :: t, _ => rfl
      rw [e]
      exact parsed_compile_no g _ cap (ba x0) w hlen hg h0 (eq0 _ w1) (eq0 _ w2) (eq1 _ w3) (no2 h3)
  by_cases w4 : x0 = sLoad
  · by_cases h3 : (x0 :: r).length = 4
    · match r, h3 with
      | [a, b, c], _ =>
        have := parsed_load g cap (ba x0) (ba a) (ba b) (ba c) w hw hg h0 (hc 1 a rfl) (hc 2 b rfl) (hc 3 c rfl) (sz 1 a rfl) (sz 2 b rfl) (sz 3 c rfl) (eq0 _ w1) (eq0 _ w2) (eq0 _ w3) (eq1 _ w4)
        have e : parseW [x0, a, b, c] = oLoad (ba a) (ba b) (ba c) := by simp only [parseW, if_pos w4, oLoad, bl_ba]
        rw [e]; exact this
    · have e : parseW (x0 :: r) = none := by
        match r, h3 with
        | [], _ => rfl
        | [a], _ => simp [parseW, w4, sLoad, sDelete, sCompile]
        | [a, b], _ => simp [parseW, w4, sWrite, sLoad, sRun]
        | [a, b, c], h3 => exact absurd rfl h3
        | a :: b :: c :: d :: t, _ => rfl
      rw [e]
      exact parsed_load_no g _ cap (ba x0) w hlen hg h0 (eq0 _ w1) (eq0 _ w2) (eq0 _ w3) (eq1 _ w4) (no4 h3)
  by_cases w5 : x0 = sRun
  · by_cases h3 : (x0 :: r).length = 3
    · match r, h3 with
      | [a, b], _ =>
        have := parsed_run g cap (ba x0) (ba a) (ba b) w hw hg h0 (hc 1 a rfl) (hc 2 b rfl) (sz 1 a rfl) (sz 2 b rfl) (eq0 _ w1) (eq0 _ w2) (eq0 _ w3) (eq0 _ w4) (eq1 _ w5)
        have e : parseW [x0, a, b] = oRun (ba a) (ba b) := by simp only [parseW, if_neg w1, if_pos w5, oRun, bl_ba]
        rw [e]; exact this
    · have e : parseW (x0 :: r) = none := by
        match r, h3 with
        | [], _ => rfl
        | [a], _ => simp [parseW, w5, sRun, sDelete, sCompile]
        | [a, b], h3 => exact absurd rfl h3
        | [a, b, c], _ => simp [parseW, w5, sRun, sLoad]
        | a :: b :: c :: d :: t, _ => rfl
      rw [e]
      exact parsed_run_no g _ cap (ba x0) w hlen hg h0 (eq0 _ w1) (eq0 _ w2) (eq0 _ w3) (eq0 _ w4) (eq1 _ w5) (no3 h3)
  · have e : parseW (x0 :: r) = none := by
      match r with
      | [] => rfl
      | [a] => simp [parseW, w2, w3]
      | [a, b] => simp [parseW, w1, w5]
      | [a, b, c] => simp [parseW, w4]
      | a :: b :: c :: d :: t => rfl
    rw [e]
    exact (parsed_other g _ cap (ba x0) w hlen hg h0 (eq0 _ w1) (eq0 _ w2) (eq0 _ w3) (eq0 _ w4) (eq0 _ w5)).mono fun _ _ ⟨he, hb⟩ => he ▸ PPost.no _ rfl hb

theorem split_len (l : B) : ∀ x ∈ splitB l, x.length ≤ l.length := by
  induction l with
  | nil => intro x hx; simp [splitB] at hx; subst hx; exact Nat.le_refl _
  | cons c r ih =>
    intro x hx
    rw [List.length_cons]
    simp only [splitB] at hx
    split at hx
    · rcases List.mem_cons.1 hx with rfl | hx
      · exact Nat.zero_le _
      · have := ih x hx; omega
    · match hs : splitB r, splitB_ne r with
      | h :: t, _ =>
        rw [hs] at hx ih
        rcases List.mem_cons.1 hx with rfl | hx
        · have := ih h (by simp); simp; omega
        · have := ih x (by simp [hx]); omega

/-- what Parse answers -/
def parseV (o : Option Cmd) : Value := .tuple #[cmdV (o.getD zeroC), .int .i64 (if o.isSome then 0 else 60)]

def ParsePost (o : Option Cmd) (w : World) (e : Ending) (w' : World) : Prop := e = .returned (parseV o) ∧ Below w.heap.size w w'

set_option maxHeartbeats 2000000 in
set_option maxRecDepth 100000 in
theorem parse_any (s : ByteArray) (w : World) (hs : s.size ≤ 1000000) (hw : Laid w) :
    Calls Tryz.prog 8 #[.string s] w (ParsePost (parseB (bl s)) w) := by
  have Hw := Lib.hid hw
  clear hw
  go_enter Tryz.func8, Tryz.ntmps8
  go_wp2_with fail
  refine (words_any s _ hs).mono ?_
  rintro e w1 ⟨v, rfl, hb1, hrow⟩
  obtain ⟨hblk, hb, hz⟩ := blk_after0 hb1
  have hw1 := Hw.out.of_below hb
  clear hb1
  go_wp2_with fail
  refine (parsed_any _ w1 v _ hrow (splitB_ne _) (fun x hx => Nat.le_trans (split_len _ x hx) (by rw [bl_size]; exact hs)) hw1).mono ?_
  rintro e w2 ⟨c, ok, rfl, hpo, hb2⟩
  have hb3 := hb.trans (hb2.mono (Nat.le_of_lt hz))
  have hz2 : w.heap.size < w2.heap.size := Nat.lt_of_lt_of_le hz hb2.size
  have hblk2 : w2.heap[w.heap.size]? = some (.cells (cellsC zeroC) 26 (0, 0)) := by rw [hb2.block _ hz, hblk]; rfl
  obtain ⟨c0, c1, c2, c3, c4, c5, f0, f1, f2, f3, f4, f5⟩ := CmdBlk.of hblk2
  simp only [zeroC, sv_nil] at c0 c1 c2 c3 c4 c5
  have hpo' : parseB (bl s) = if ok = true then some c else none := hpo
  have Hpo := Lib.hid hpo'
  have Hb3 := Lib.hid hb3
  clear hrow hblk hblk2 hb hb2 hb3 hw1 hpo hpo'
  cases ok with
  | false =>
    simp only [cmdV, sv]
    go_wp2
    refine bodyPost_ret (v := .tuple #[cmdV zeroC, .int .i64 60]) (by simp [results, Tryz.results8, go_sem, cmdV, sv, zeroC, *]) rfl ⟨by rw [Hpo.out]; rfl, ?_⟩
    refine Below.alloc ?_ (by simp; omega) _
    (repeat refine below_set ?_ _ _); exact Hb3.out
  | true =>
    simp only [cmdV, sv]
    go_wp2
    refine bodyPost_ret (v := .tuple #[cmdV c, .int .i64 0]) (by simp [results, Tryz.results8, go_sem, cmdV, sv, *]) rfl ⟨by rw [Hpo.out]; rfl, ?_⟩
    refine Below.alloc ?_ (by simp; omega) _
    (repeat refine below_set ?_ _ _); exact Hb3.out
end Go.Proofs.YtpgegfdiceamaaaGreatDoor
