/- The console's laws: part Wi2. -/
import Derived.Test.YtpgegfdiceamaaaGreatDoorWe
import Derived.Deep.RegionHeld3
import Derived.Deep.DeepCutAuto
import Derived.Lib.AppendIntMem
set_option linter.unusedVariables false
set_option linter.unusedSimpArgs false
namespace Go.Proofs.YtpgegfdiceamaaaGreatDoor
open Go.RowKit Cons

theorem bl_app (a b : ByteArray) : bl (a ++ b) = bl a ++ bl b := by simp [bl]
theorem hexed_str (s : ByteArray) (w : World) (hs : s.size ≤ 1000000) : Calls Tryz.prog 21 #[.string s] w fun e w' => e = .returned (.string (ba (hexB (bl s)))) ∧ Below w.heap.size w w' := hexed_any s w hs

/-- a command as an argument -/
def cmdA (op fuel words stack : Int) (name text : ByteArray) : Value := .agg #[.int .i64 op, .string name, .string text, .int .i64 fuel, .int .i64 words, .int .i64 stack]

def LineV (o : Option B) : Value := .tuple #[sv (o.getD []), .int .i64 (if o.isSome then 0 else 1)]
def LinePost (o : Option B) (w : World) (e : Ending) (w' : World) : Prop := e = .returned (LineV o) ∧ Below w.heap.size w w'

theorem cat_run (a b : ByteArray) (h : a.size + b.size ≤ 9223372036854775807) (w : World) : (Op.stringOp .add a b).run Tryz.prog w = .ok (.string (a ++ b)) w := run_string_add_sum w a b h

theorem hex_size (s : ByteArray) : (ba (hexB (bl s))).size ≤ 2 * s.size + 1 := by
  rw [ba_size, hexB_length, bl_size]; omega

/-- a block of the call's own stands, and what was there -/
def Kp (w : World) (cs : Array Value) (T : TypeId) (w' : World) : Prop := w'.heap[w.heap.size]? = some (.cells cs T (0, 0)) ∧ Below w.heap.size w w'

theorem Kp.first (w : World) (cs : Array Value) (T : TypeId) : Kp w cs T (w.alloc (.cells cs T)) := by
  refine ⟨?_, below_blk _ _ _⟩
  show (w.heap.push (.cells cs T (0, 0)))[w.heap.size]? = _
  simp

theorem Kp.drew {w w' : World} {cs : Array Value} {T : TypeId} (h : Kp w cs T w') : Kp w cs T w'.drew := ⟨h.1, h.2.drew⟩

theorem Kp.after {w w1 w2 : World} {cs : Array Value} {T : TypeId} (h : Kp w cs T w1) (hb : Below w1.heap.size w1 w2) : Kp w cs T w2 := by
  have hlt : w.heap.size < w1.heap.size := (Array.getElem?_eq_some_iff.1 h.1).1
  exact ⟨by rw [hb.block _ hlt]; exact h.1, h.2.trans (hb.mono (Nat.le_of_lt hlt))⟩

theorem Kp.cell {w w' : World} {cs : Array Value} {T : TypeId} (h : Kp w cs T w') (j : Nat) : w'.cell? ⟨w.heap.size, j, none⟩ = cs[j]? := Lib.cell_of_heap h.1 j

def csA (op fuel words stack : Int) (name text : ByteArray) : Array Value := #[.int .i64 op, .string name, .string text, .int .i64 fuel, .int .i64 words, .int .i64 stack]

/-- what a line's region reads -/
def LineS (w : World) (op fuel words stack : Int) (name text : ByteArray) (w' : World) : Prop :=
  w'.cell? ⟨w.heap.size, 1, none⟩ = some (.string name) ∧ w'.cell? ⟨w.heap.size, 2, none⟩ = some (.string text) ∧ w'.cell? ⟨w.heap.size, 3, none⟩ = some (.int .i64 fuel) ∧ w'.cell? ⟨w.heap.size, 4, none⟩ = some (.int .i64 words) ∧ w'.cell? ⟨w.heap.size, 5, none⟩ = some (.int .i64 stack) ∧ Kp w (csA op fuel words stack name text) 26 w'

theorem lineS {w w' : World} {op fuel words stack : Int} {name text : ByteArray} (h : Kp w (csA op fuel words stack name text) 26 w') : LineS w op fuel words stack name text w' :=
  ⟨h.cell 1, h.cell 2, h.cell 3, h.cell 4, h.cell 5, h⟩

set_option maxHeartbeats 2000000 in
set_option maxRecDepth 100000 in
theorem line_write (fuel words stack : Int) (name text : ByteArray) (w : World) (hw : Laid w) (hn : name.size ≤ 40000) (ht : text.size ≤ 40000) :
    Calls Tryz.prog 11 #[cmdA 1 fuel words stack name text] w (LinePost (lineOf ⟨1, bl name, bl text, fuel, words, stack⟩) w) := by
  have Hw := Lib.hid hw
  have hx := hex_size text
  clear hw
  simp only [cmdA]
  have q1 := cat_run ⟨#[119, 114, 105, 116, 101, 32]⟩ name (by rw [show (⟨#[119, 114, 105, 116, 101, 32]⟩ : ByteArray).size = 6 from rfl]; omega)
  have q2 := cat_run (⟨#[119, 114, 105, 116, 101, 32]⟩ ++ name) ⟨#[32]⟩ (by rw [ByteArray.size_append, show (⟨#[119, 114, 105, 116, 101, 32]⟩ : ByteArray).size = 6 from rfl, show (⟨#[32]⟩ : ByteArray).size = 1 from rfl]; omega)
  have q3 := cat_run (⟨#[119, 114, 105, 116, 101, 32]⟩ ++ name ++ ⟨#[32]⟩) (ba (hexB (bl text))) (by rw [ByteArray.size_append, ByteArray.size_append, show (⟨#[119, 114, 105, 116, 101, 32]⟩ : ByteArray).size = 6 from rfl, show (⟨#[32]⟩ : ByteArray).size = 1 from rfl]; omega)
  go_enter Tryz.func11, Tryz.ntmps11
  go_wp2_with fail
  go_region_held3 (fun w' => w'.cell? ⟨w.heap.size, 1, none⟩ = some (.string name) ∧ w'.cell? ⟨w.heap.size, 2, none⟩ = some (.string text) ∧ w'.cell? ⟨w.heap.size, 3, none⟩ = some (.int .i64 fuel) ∧ w'.cell? ⟨w.heap.size, 4, none⟩ = some (.int .i64 words) ∧ w'.cell? ⟨w.heap.size, 5, none⟩ = some (.int .i64 stack) ∧ Kp w (csA 1 fuel words stack name text) 26 w')
    (first | exact lineS (Kp.after (Kp.first _ _ _).drew (by assumption)) | exact lineS (Kp.after (Kp.after (Kp.first _ _ _).drew (by assumption)) (by assumption)) | exact lineS (Kp.first _ _ _).drew | exact lineS (Kp.first _ _ _)) (first | (go_at_call 21; refine (hexed_str _ _ (by omega)).mono ?_; rintro e w' ⟨rfl, hb⟩))
  clear q1 q2 q3
  have hk : Kp w (csA 1 fuel words stack name text) 26 w' := (Kp.first w (csA 1 fuel words stack name text) 26).drew.after hb
  clear hb
  have hz : w.heap.size < w'.heap.size := (Array.getElem?_eq_some_iff.1 hk.1).1
  obtain ⟨s, hs⟩ : ∃ s, s = (⟨#[119, 114, 105, 116, 101, 32]⟩ ++ name ++ ⟨#[32]⟩ ++ ba (hexB (bl text)) : ByteArray) := ⟨_, rfl⟩
  rw [← hs]
  have hss : s.size ≤ 1000000 := by
    rw [hs, ByteArray.size_append, ByteArray.size_append, ByteArray.size_append, show (⟨#[119, 114, 105, 116, 101, 32]⟩ : ByteArray).size = 6 from rfl, show (⟨#[32]⟩ : ByteArray).size = 1 from rfl]; omega
  have hsb : bl s = lineB ⟨1, bl name, bl text, fuel, words, stack⟩ := by
    rw [hs, bl_app, bl_app, bl_app, bl_ba]; simp [lineB, bl, sWrite]
  have Hsb := Lib.hid hsb
  clear hs hsb hx
  go_wp2_with fail
  refine (parse_any s _ hss (Hw.out.of_below hk.2)).mono ?_
  rintro e w2 ⟨rfl, hb2⟩
  have hk2 := hk.after hb2
  have hz2 : w.heap.size < w2.heap.size := (Array.getElem?_eq_some_iff.1 hk2.1).1
  have k0 : w2.cell? ⟨w.heap.size, 0, none⟩ = some (.int .i64 1) := hk2.cell 0
  have k1 : w2.cell? ⟨w.heap.size, 1, none⟩ = some (.string name) := hk2.cell 1
  have k2 : w2.cell? ⟨w.heap.size, 2, none⟩ = some (.string text) := hk2.cell 2
  have k3 : w2.cell? ⟨w.heap.size, 3, none⟩ = some (.int .i64 fuel) := hk2.cell 3
  have k4 : w2.cell? ⟨w.heap.size, 4, none⟩ = some (.int .i64 words) := hk2.cell 4
  have k5 : w2.cell? ⟨w.heap.size, 5, none⟩ = some (.int .i64 stack) := hk2.cell 5
  have Hk2 := Lib.hid hk2
  clear hk hk2 hb2
  cases hp : parseB (bl s) with
  | none =>
    have Ho := Lib.hid (show lineOf ⟨1, bl name, bl text, fuel, words, stack⟩ = none by unfold lineOf; rw [← Hsb.out, hp]; simp)
    clear hp
    simp only [parseV, cmdV, zeroC, Option.getD_none, Option.isSome_none, sv, Bool.false_eq_true, if_false]
    go_wp2
    go_ret2
    exact ⟨by rw [Ho.out]; rfl, Below.alloc Hk2.out.2 (Nat.le_of_lt hz2) _⟩
  | some c =>
    simp only [parseV, cmdV, Option.getD_some, Option.isSome_some, sv, if_true]
    by_cases hc : c = ⟨1, bl name, bl text, fuel, words, stack⟩
    · have Ho := Lib.hid (show lineOf ⟨1, bl name, bl text, fuel, words, stack⟩ = some (bl s) by unfold lineOf; rw [← Hsb.out, hp, hc, if_pos rfl])
      have hq := cmd_neq c 1 fuel words stack name text false (by simp [hc])
      clear hp hc
      go_wp2
      go_ret2
      exact ⟨by rw [Ho.out]; simp [LineV, sv_bl], Below.alloc Hk2.out.2 (Nat.le_of_lt hz2) _⟩
    · have Ho := Lib.hid (show lineOf ⟨1, bl name, bl text, fuel, words, stack⟩ = none by unfold lineOf; rw [← Hsb.out, hp, if_neg (fun h => hc (Option.some.inj h))])
      have hq := cmd_neq c 1 fuel words stack name text true (by simp [hc])
      clear hp hc
      go_wp2
      go_ret2
      exact ⟨by rw [Ho.out]; rfl, Below.alloc Hk2.out.2 (Nat.le_of_lt hz2) _⟩

theorem decDigits_natB (n : Nat) : Lib.decDigits n = natB n := by
  induction n using Nat.strongRecOn with
  | ind n ih =>
    rw [Lib.decDigits, natB]
    by_cases h : n < 10
    · rw [dif_pos h, if_pos h]
    · rw [dif_neg h, if_neg h, ih (n / 10) (by omega)]

theorem itoa_intB (n : Int) : Lib.itoa n = intB n := by
  unfold Lib.itoa intB
  by_cases h : n < 0
  · rw [if_pos h, if_pos h, decDigits_natB]
  · rw [if_neg h, if_neg h, decDigits_natB]; congr 1; omega

theorem int_size (n : Int) (h0 : -9223372036854775808 ≤ n) (h1 : n ≤ 9223372036854775807) : (ba (intB n)).size ≤ 20 := by
  rw [ba_size]
  have h := (natB_spec n.natAbs).2.2.2.2.2 18 (by omega)
  unfold intB
  split
  · simp; omega
  · omega

theorem itoa_any (n : Int) (h : Hid (-9223372036854775808 ≤ n ∧ n ≤ 9223372036854775807)) (w : World) (hw : Laid w) : Calls Tryz.prog 22 #[.int .i64 n] w fun e w' => e = .returned (.string (ba (intB n))) ∧ Below w.heap.size w w' := by
  refine (Tryz.strconv_Itoa n h.out.1 h.out.2 w hw.tab).mono ?_
  rintro e w' ⟨rfl, k, os, rfl⟩
  exact ⟨by rw [itoa_intB]; rfl, Lib.below_grow _ _ (Nat.le_refl _) _ _⟩

set_option maxHeartbeats 4000000 in
set_option maxRecDepth 100000 in
theorem line_other (op fuel words stack : Int) (name text : ByteArray) (w : World) (hw : Laid w) (h1 : (op == 1) = false) (h2 : (op == 2) = false) (h3 : (op == 3) = false) (h4 : (op == 4) = false) (h5 : (op == 5) = false) :
    Calls Tryz.prog 11 #[cmdA op fuel words stack name text] w (LinePost (lineOf ⟨op, bl name, bl text, fuel, words, stack⟩) w) := by
  have Hw := Lib.hid hw
  clear hw
  simp only [cmdA]
  have hss : (⟨#[]⟩ : ByteArray).size ≤ 1000000 := by decide
  have hsb : bl ⟨#[]⟩ = lineB ⟨op, bl name, bl text, fuel, words, stack⟩ := by
    rw [beq_eq_false_iff_ne] at h1 h2 h3 h4 h5
    unfold lineB
    rw [if_neg h1, if_neg h2, if_neg h3, if_neg h4, if_neg h5]; rfl
  have Hsb := Lib.hid hsb
  clear hsb
  have hk : Kp w (csA op fuel words stack name text) 26 (w.alloc (.cells (csA op fuel words stack name text) 26)) := Kp.first w (csA op fuel words stack name text) 26
  go_enter Tryz.func11, Tryz.ntmps11
  go_wp2_with fail
  refine (parse_any ⟨#[]⟩ _ hss (Hw.out.of_below hk.2)).mono ?_
  rintro e w2 ⟨rfl, hb2⟩
  have hk2 := hk.after hb2
  have hz2 : w.heap.size < w2.heap.size := (Array.getElem?_eq_some_iff.1 hk2.1).1
  have k0 : w2.cell? ⟨w.heap.size, 0, none⟩ = some (.int .i64 op) := hk2.cell 0
  have k1 : w2.cell? ⟨w.heap.size, 1, none⟩ = some (.string name) := hk2.cell 1
  have k2 : w2.cell? ⟨w.heap.size, 2, none⟩ = some (.string text) := hk2.cell 2
  have k3 : w2.cell? ⟨w.heap.size, 3, none⟩ = some (.int .i64 fuel) := hk2.cell 3
  have k4 : w2.cell? ⟨w.heap.size, 4, none⟩ = some (.int .i64 words) := hk2.cell 4
  have k5 : w2.cell? ⟨w.heap.size, 5, none⟩ = some (.int .i64 stack) := hk2.cell 5
  have Hk2 := Lib.hid hk2
  clear hk hk2 hb2
  cases hp : parseB (bl ⟨#[]⟩) with
  | none =>
    have Ho := Lib.hid (show lineOf ⟨op, bl name, bl text, fuel, words, stack⟩ = none by unfold lineOf; rw [← Hsb.out, hp]; simp)
    clear hp
    simp only [parseV, cmdV, zeroC, Option.getD_none, Option.isSome_none, sv, Bool.false_eq_true, if_false]
    go_wp2
    go_ret2
    exact ⟨by rw [Ho.out]; rfl, Below.alloc Hk2.out.2 (Nat.le_of_lt hz2) _⟩
  | some c =>
    simp only [parseV, cmdV, Option.getD_some, Option.isSome_some, sv, if_true]
    by_cases hc : c = ⟨op, bl name, bl text, fuel, words, stack⟩
    · have Ho := Lib.hid (show lineOf ⟨op, bl name, bl text, fuel, words, stack⟩ = some (bl ⟨#[]⟩) by unfold lineOf; rw [← Hsb.out, hp, hc, if_pos rfl])
      have hq := cmd_neq c op fuel words stack name text false (by simp [hc])
      clear hp hc
      go_wp2
      go_ret2
      exact ⟨by rw [Ho.out]; simp [LineV, sv_bl], Below.alloc Hk2.out.2 (Nat.le_of_lt hz2) _⟩
    · have Ho := Lib.hid (show lineOf ⟨op, bl name, bl text, fuel, words, stack⟩ = none by unfold lineOf; rw [← Hsb.out, hp, if_neg (fun h => hc (Option.some.inj h))])
      have hq := cmd_neq c op fuel words stack name text true (by simp [hc])
      clear hp hc
      go_wp2
      go_ret2
      exact ⟨by rw [Ho.out]; rfl, Below.alloc Hk2.out.2 (Nat.le_of_lt hz2) _⟩

set_option maxHeartbeats 4000000 in
set_option maxRecDepth 100000 in
theorem line_delete (fuel words stack : Int) (name text : ByteArray) (w : World) (hw : Laid w) (hn : name.size ≤ 40000) (ht : text.size ≤ 40000) :
    Calls Tryz.prog 11 #[cmdA 2 fuel words stack name text] w (LinePost (lineOf ⟨2, bl name, bl text, fuel, words, stack⟩) w) := by
  have Hw := Lib.hid hw
  clear hw
  simp only [cmdA]
  have q1 := cat_run ⟨#[100, 101, 108, 101, 116, 101, 32]⟩ name (by rw [show (⟨#[100, 101, 108, 101, 116, 101, 32]⟩ : ByteArray).size = 7 from rfl]; omega)
  go_enter Tryz.func11, Tryz.ntmps11
  have hss : (⟨#[100, 101, 108, 101, 116, 101, 32]⟩ ++ name : ByteArray).size ≤ 1000000 := by rw [ByteArray.size_append, show (⟨#[100, 101, 108, 101, 116, 101, 32]⟩ : ByteArray).size = 7 from rfl]; omega
  have hsb : bl (⟨#[100, 101, 108, 101, 116, 101, 32]⟩ ++ name) = lineB ⟨2, bl name, bl text, fuel, words, stack⟩ := by rw [bl_app]; simp [lineB, bl, sDelete]
  generalize hs : (⟨#[100, 101, 108, 101, 116, 101, 32]⟩ ++ name : ByteArray) = s at q1 hss hsb
  clear hs
  have Hsb := Lib.hid hsb
  clear hsb
  have hk : Kp w (csA 2 fuel words stack name text) 26 (w.alloc (.cells (csA 2 fuel words stack name text) 26)) := Kp.first w (csA 2 fuel words stack name text) 26
  go_wp2_with fail
  refine (parse_any s _ hss (Hw.out.of_below hk.2)).mono ?_
  rintro e w2 ⟨rfl, hb2⟩
  have hk2 := hk.after hb2
  have hz2 : w.heap.size < w2.heap.size := (Array.getElem?_eq_some_iff.1 hk2.1).1
  have k0 : w2.cell? ⟨w.heap.size, 0, none⟩ = some (.int .i64 2) := hk2.cell 0
  have k1 : w2.cell? ⟨w.heap.size, 1, none⟩ = some (.string name) := hk2.cell 1
  have k2 : w2.cell? ⟨w.heap.size, 2, none⟩ = some (.string text) := hk2.cell 2
  have k3 : w2.cell? ⟨w.heap.size, 3, none⟩ = some (.int .i64 fuel) := hk2.cell 3
  have k4 : w2.cell? ⟨w.heap.size, 4, none⟩ = some (.int .i64 words) := hk2.cell 4
  have k5 : w2.cell? ⟨w.heap.size, 5, none⟩ = some (.int .i64 stack) := hk2.cell 5
  have Hk2 := Lib.hid hk2
  clear hk hk2 hb2
  cases hp : parseB (bl s) with
  | none =>
    have Ho := Lib.hid (show lineOf ⟨2, bl name, bl text, fuel, words, stack⟩ = none by unfold lineOf; rw [← Hsb.out, hp]; simp)
    clear hp
    simp only [parseV, cmdV, zeroC, Option.getD_none, Option.isSome_none, sv, Bool.false_eq_true, if_false]
    go_wp2
    go_ret2
    exact ⟨by rw [Ho.out]; rfl, Below.alloc Hk2.out.2 (Nat.le_of_lt hz2) _⟩
  | some c =>
    simp only [parseV, cmdV, Option.getD_some, Option.isSome_some, sv, if_true]
    by_cases hc : c = ⟨2, bl name, bl text, fuel, words, stack⟩
    · have Ho := Lib.hid (show lineOf ⟨2, bl name, bl text, fuel, words, stack⟩ = some (bl s) by unfold lineOf; rw [← Hsb.out, hp, hc, if_pos rfl])
      have hq := cmd_neq c 2 fuel words stack name text false (by simp [hc])
      clear hp hc
      go_wp2
      go_ret2
      exact ⟨by rw [Ho.out]; simp [LineV, sv_bl], Below.alloc Hk2.out.2 (Nat.le_of_lt hz2) _⟩
    · have Ho := Lib.hid (show lineOf ⟨2, bl name, bl text, fuel, words, stack⟩ = none by unfold lineOf; rw [← Hsb.out, hp, if_neg (fun h => hc (Option.some.inj h))])
      have hq := cmd_neq c 2 fuel words stack name text true (by simp [hc])
      clear hp hc
      go_wp2
      go_ret2
      exact ⟨by rw [Ho.out]; rfl, Below.alloc Hk2.out.2 (Nat.le_of_lt hz2) _⟩

set_option maxHeartbeats 4000000 in
set_option maxRecDepth 100000 in
theorem line_compile (fuel words stack : Int) (name text : ByteArray) (w : World) (hw : Laid w) (hn : name.size ≤ 40000) (ht : text.size ≤ 40000) :
    Calls Tryz.prog 11 #[cmdA 3 fuel words stack name text] w (LinePost (lineOf ⟨3, bl name, bl text, fuel, words, stack⟩) w) := by
  have Hw := Lib.hid hw
  clear hw
  simp only [cmdA]
  have q1 := cat_run ⟨#[99, 111, 109, 112, 105, 108, 101, 32]⟩ name (by rw [show (⟨#[99, 111, 109, 112, 105, 108, 101, 32]⟩ : ByteArray).size = 8 from rfl]; omega)
  go_enter Tryz.func11, Tryz.ntmps11
  have hss : (⟨#[99, 111, 109, 112, 105, 108, 101, 32]⟩ ++ name : ByteArray).size ≤ 1000000 := by rw [ByteArray.size_append, show (⟨#[99, 111, 109, 112, 105, 108, 101, 32]⟩ : ByteArray).size = 8 from rfl]; omega
  have hsb : bl (⟨#[99, 111, 109, 112, 105, 108, 101, 32]⟩ ++ name) = lineB ⟨3, bl name, bl text, fuel, words, stack⟩ := by rw [bl_app]; simp [lineB, bl, sCompile]
  generalize hs : (⟨#[99, 111, 109, 112, 105, 108, 101, 32]⟩ ++ name : ByteArray) = s at q1 hss hsb
  clear hs
  have Hsb := Lib.hid hsb
  clear hsb
  have hk : Kp w (csA 3 fuel words stack name text) 26 (w.alloc (.cells (csA 3 fuel words stack name text) 26)) := Kp.first w (csA 3 fuel words stack name text) 26
  go_wp2_with fail
  refine (parse_any s _ hss (Hw.out.of_below hk.2)).mono ?_
  rintro e w2 ⟨rfl, hb2⟩
  have hk2 := hk.after hb2
  have hz2 : w.heap.size < w2.heap.size := (Array.getElem?_eq_some_iff.1 hk2.1).1
  have k0 : w2.cell? ⟨w.heap.size, 0, none⟩ = some (.int .i64 3) := hk2.cell 0
  have k1 : w2.cell? ⟨w.heap.size, 1, none⟩ = some (.string name) := hk2.cell 1
  have k2 : w2.cell? ⟨w.heap.size, 2, none⟩ = some (.string text) := hk2.cell 2
  have k3 : w2.cell? ⟨w.heap.size, 3, none⟩ = some (.int .i64 fuel) := hk2.cell 3
  have k4 : w2.cell? ⟨w.heap.size, 4, none⟩ = some (.int .i64 words) := hk2.cell 4
  have k5 : w2.cell? ⟨w.heap.size, 5, none⟩ = some (.int .i64 stack) := hk2.cell 5
  have Hk2 := Lib.hid hk2
  clear hk hk2 hb2
  cases hp : parseB (bl s) with
  | none =>
    have Ho := Lib.hid (show lineOf ⟨3, bl name, bl text, fuel, words, stack⟩ = none by unfold lineOf; rw [← Hsb.out, hp]; simp)
    clear hp
    simp only [parseV, cmdV, zeroC, Option.getD_none, Option.isSome_none, sv, Bool.false_eq_true, if_false]
    go_wp2
    go_ret2
    exact ⟨by rw [Ho.out]; rfl, Below.alloc Hk2.out.2 (Nat.le_of_lt hz2) _⟩
  | some c =>
    simp only [parseV, cmdV, Option.getD_some, Option.isSome_some, sv, if_true]
    by_cases hc : c = ⟨3, bl name, bl text, fuel, words, stack⟩
    · have Ho := Lib.hid (show lineOf ⟨3, bl name, bl text, fuel, words, stack⟩ = some (bl s) by unfold lineOf; rw [← Hsb.out, hp, hc, if_pos rfl])
      have hq := cmd_neq c 3 fuel words stack name text false (by simp [hc])
      clear hp hc
      go_wp2
      go_ret2
      exact ⟨by rw [Ho.out]; simp [LineV, sv_bl], Below.alloc Hk2.out.2 (Nat.le_of_lt hz2) _⟩
    · have Ho := Lib.hid (show lineOf ⟨3, bl name, bl text, fuel, words, stack⟩ = none by unfold lineOf; rw [← Hsb.out, hp, if_neg (fun h => hc (Option.some.inj h))])
      have hq := cmd_neq c 3 fuel words stack name text true (by simp [hc])
      clear hp hc
      go_wp2
      go_ret2
      exact ⟨by rw [Ho.out]; rfl, Below.alloc Hk2.out.2 (Nat.le_of_lt hz2) _⟩

set_option maxHeartbeats 4000000 in
set_option maxRecDepth 100000 in
theorem line_load (fuel words stack : Int) (name text : ByteArray) (w : World) (hw : Laid w) (hn : name.size ≤ 40000) (ht : text.size ≤ 40000) (wo : -9223372036854775808 ≤ words ∧ words ≤ 9223372036854775807) (st : -9223372036854775808 ≤ stack ∧ stack ≤ 9223372036854775807) :
    Calls Tryz.prog 11 #[cmdA 4 fuel words stack name text] w (LinePost (lineOf ⟨4, bl name, bl text, fuel, words, stack⟩) w) := by
  have Hw := Lib.hid hw
  clear hw
  simp only [cmdA]
  have hx1 := int_size words wo.1 wo.2
  have hx2 := int_size stack st.1 st.2
  have Wo := Lib.hid wo
  have St := Lib.hid st
  clear wo st
  have q1 := cat_run (⟨#[108, 111, 97, 100, 32]⟩) name (by rw [show (⟨#[108, 111, 97, 100, 32]⟩ : ByteArray).size = 5 from rfl]; omega)
  have q2 := cat_run (⟨#[108, 111, 97, 100, 32]⟩ ++ name) ⟨#[32]⟩ (by rw [ByteArray.size_append, show (⟨#[108, 111, 97, 100, 32]⟩ : ByteArray).size = 5 from rfl, show (⟨#[32]⟩ : ByteArray).size = 1 from rfl]; omega)
  have q3 := cat_run (⟨#[108, 111, 97, 100, 32]⟩ ++ name ++ ⟨#[32]⟩) (ba (intB words)) (by rw [ByteArray.size_append, ByteArray.size_append, show (⟨#[108, 111, 97, 100, 32]⟩ : ByteArray).size = 5 from rfl, show (⟨#[32]⟩ : ByteArray).size = 1 from rfl]; omega)
  have q4 := cat_run (⟨#[108, 111, 97, 100, 32]⟩ ++ name ++ ⟨#[32]⟩ ++ ba (intB words)) ⟨#[32]⟩ (by rw [ByteArray.size_append, ByteArray.size_append, ByteArray.size_append, show (⟨#[108, 111, 97, 100, 32]⟩ : ByteArray).size = 5 from rfl, show (⟨#[32]⟩ : ByteArray).size = 1 from rfl]; omega)
  have q5 := cat_run (⟨#[108, 111, 97, 100, 32]⟩ ++ name ++ ⟨#[32]⟩ ++ ba (intB words) ++ ⟨#[32]⟩) (ba (intB stack)) (by rw [ByteArray.size_append, ByteArray.size_append, ByteArray.size_append, ByteArray.size_append, show (⟨#[108, 111, 97, 100, 32]⟩ : ByteArray).size = 5 from rfl, show (⟨#[32]⟩ : ByteArray).size = 1 from rfl]; omega)
  go_enter Tryz.func11, Tryz.ntmps11
  go_wp2_with fail
  go_region_held3 (fun w' => w'.cell? ⟨w.heap.size, 1, none⟩ = some (.string name) ∧ w'.cell? ⟨w.heap.size, 2, none⟩ = some (.string text) ∧ w'.cell? ⟨w.heap.size, 3, none⟩ = some (.int .i64 fuel) ∧ w'.cell? ⟨w.heap.size, 4, none⟩ = some (.int .i64 words) ∧ w'.cell? ⟨w.heap.size, 5, none⟩ = some (.int .i64 stack) ∧ Kp w (csA 4 fuel words stack name text) 26 w')
    (first | exact lineS (Kp.after (Kp.first _ _ _).drew (by assumption)) | exact lineS (Kp.after (Kp.after (Kp.first _ _ _).drew (by assumption)) (by assumption)) | exact lineS (Kp.first _ _ _).drew | exact lineS (Kp.first _ _ _)) (first | (go_at_call 22; refine (itoa_any _ (by assumption) _ (by first | exact Hw.out.of_below (below_blk' _ _ _) | exact Hw.out.of_below (Kp.after (Kp.first w (csA 4 fuel words stack name text) 26).drew (by assumption)).2)).mono ?_; rintro e w' ⟨rfl, hb⟩))
  clear q1 q2 q3 q4 q5
  have hk : Kp w (csA 4 fuel words stack name text) 26 w' := Kp.after (Kp.after (Kp.first w (csA 4 fuel words stack name text) 26).drew (by assumption)) (by assumption)
  have hz : w.heap.size < w'.heap.size := (Array.getElem?_eq_some_iff.1 hk.1).1
  obtain ⟨s, hs⟩ : ∃ s, s = (⟨#[108, 111, 97, 100, 32]⟩ ++ name ++ ⟨#[32]⟩ ++ ba (intB words) ++ ⟨#[32]⟩ ++ ba (intB stack) : ByteArray) := ⟨_, rfl⟩
  rw [← hs]
  have hss : s.size ≤ 1000000 := by rw [hs, ByteArray.size_append, ByteArray.size_append, ByteArray.size_append, ByteArray.size_append, ByteArray.size_append, show (⟨#[108, 111, 97, 100, 32]⟩ : ByteArray).size = 5 from rfl, show (⟨#[32]⟩ : ByteArray).size = 1 from rfl]; omega
  have hsb : bl s = lineB ⟨4, bl name, bl text, fuel, words, stack⟩ := by rw [hs, bl_app, bl_app, bl_app, bl_app, bl_app]; simp [lineB, bl, ba, sLoad]
  have Hsb := Lib.hid hsb
  clear hs hsb
  go_wp2_with fail
  refine (parse_any s _ hss (Hw.out.of_below hk.2)).mono ?_
  rintro e w2 ⟨rfl, hb2⟩
  have hk2 := hk.after hb2
  have hz2 : w.heap.size < w2.heap.size := (Array.getElem?_eq_some_iff.1 hk2.1).1
  have k0 : w2.cell? ⟨w.heap.size, 0, none⟩ = some (.int .i64 4) := hk2.cell 0
  have k1 : w2.cell? ⟨w.heap.size, 1, none⟩ = some (.string name) := hk2.cell 1
  have k2 : w2.cell? ⟨w.heap.size, 2, none⟩ = some (.string text) := hk2.cell 2
  have k3 : w2.cell? ⟨w.heap.size, 3, none⟩ = some (.int .i64 fuel) := hk2.cell 3
  have k4 : w2.cell? ⟨w.heap.size, 4, none⟩ = some (.int .i64 words) := hk2.cell 4
  have k5 : w2.cell? ⟨w.heap.size, 5, none⟩ = some (.int .i64 stack) := hk2.cell 5
  have Hk2 := Lib.hid hk2
  clear hk hk2 hb2
  cases hp : parseB (bl s) with
  | none =>
    have Ho := Lib.hid (show lineOf ⟨4, bl name, bl text, fuel, words, stack⟩ = none by unfold lineOf; rw [← Hsb.out, hp]; simp)
    clear hp
    simp only [parseV, cmdV, zeroC, Option.getD_none, Option.isSome_none, sv, Bool.false_eq_true, if_false]
    go_wp2
    go_ret2
    exact ⟨by rw [Ho.out]; rfl, Below.alloc Hk2.out.2 (Nat.le_of_lt hz2) _⟩
  | some c =>
    simp only [parseV, cmdV, Option.getD_some, Option.isSome_some, sv, if_true]
    by_cases hc : c = ⟨4, bl name, bl text, fuel, words, stack⟩
    · have Ho := Lib.hid (show lineOf ⟨4, bl name, bl text, fuel, words, stack⟩ = some (bl s) by unfold lineOf; rw [← Hsb.out, hp, hc, if_pos rfl])
      have hq := cmd_neq c 4 fuel words stack name text false (by simp [hc])
      clear hp hc
      go_wp2
      go_ret2
      exact ⟨by rw [Ho.out]; simp [LineV, sv_bl], Below.alloc Hk2.out.2 (Nat.le_of_lt hz2) _⟩
    · have Ho := Lib.hid (show lineOf ⟨4, bl name, bl text, fuel, words, stack⟩ = none by unfold lineOf; rw [← Hsb.out, hp, if_neg (fun h => hc (Option.some.inj h))])
      have hq := cmd_neq c 4 fuel words stack name text true (by simp [hc])
      clear hp hc
      go_wp2
      go_ret2
      exact ⟨by rw [Ho.out]; rfl, Below.alloc Hk2.out.2 (Nat.le_of_lt hz2) _⟩

set_option maxHeartbeats 4000000 in
set_option maxRecDepth 100000 in
theorem line_run (fuel words stack : Int) (name text : ByteArray) (w : World) (hw : Laid w) (hn : name.size ≤ 40000) (ht : text.size ≤ 40000) (fo : -9223372036854775808 ≤ fuel ∧ fuel ≤ 9223372036854775807) :
    Calls Tryz.prog 11 #[cmdA 5 fuel words stack name text] w (LinePost (lineOf ⟨5, bl name, bl text, fuel, words, stack⟩) w) := by
  have Hw := Lib.hid hw
  clear hw
  simp only [cmdA]
  have hx1 := int_size fuel fo.1 fo.2
  have hx := hex_size text
  have Fo := Lib.hid fo
  clear fo
  have q1 := cat_run (⟨#[114, 117, 110, 32]⟩) (ba (intB fuel)) (by rw [show (⟨#[114, 117, 110, 32]⟩ : ByteArray).size = 4 from rfl]; omega)
  have q2 := cat_run (⟨#[114, 117, 110, 32]⟩ ++ ba (intB fuel)) ⟨#[32]⟩ (by rw [ByteArray.size_append, show (⟨#[114, 117, 110, 32]⟩ : ByteArray).size = 4 from rfl, show (⟨#[32]⟩ : ByteArray).size = 1 from rfl]; omega)
  have q3 := cat_run (⟨#[114, 117, 110, 32]⟩ ++ ba (intB fuel) ++ ⟨#[32]⟩) (ba (hexB (bl text))) (by rw [ByteArray.size_append, ByteArray.size_append, show (⟨#[114, 117, 110, 32]⟩ : ByteArray).size = 4 from rfl, show (⟨#[32]⟩ : ByteArray).size = 1 from rfl]; omega)
  go_enter Tryz.func11, Tryz.ntmps11
  go_wp2_with fail
  go_region_held3 (fun w' => w'.cell? ⟨w.heap.size, 1, none⟩ = some (.string name) ∧ w'.cell? ⟨w.heap.size, 2, none⟩ = some (.string text) ∧ w'.cell? ⟨w.heap.size, 3, none⟩ = some (.int .i64 fuel) ∧ w'.cell? ⟨w.heap.size, 4, none⟩ = some (.int .i64 words) ∧ w'.cell? ⟨w.heap.size, 5, none⟩ = some (.int .i64 stack) ∧ Kp w (csA 5 fuel words stack name text) 26 w')
    (first | exact lineS (Kp.after (Kp.first _ _ _).drew (by assumption)) | exact lineS (Kp.after (Kp.after (Kp.first _ _ _).drew (by assumption)) (by assumption)) | exact lineS (Kp.first _ _ _).drew | exact lineS (Kp.first _ _ _)) (first | (go_at_call 22; refine (itoa_any _ (by assumption) _ (by first | exact Hw.out.of_below (below_blk' _ _ _) | exact Hw.out.of_below (Kp.after (Kp.first w (csA 5 fuel words stack name text) 26).drew (by assumption)).2)).mono ?_; rintro e w' ⟨rfl, hb⟩) | (go_at_call 21; refine (hexed_str _ _ (by omega)).mono ?_; rintro e w' ⟨rfl, hb⟩))
  clear q1 q2 q3
  have hk : Kp w (csA 5 fuel words stack name text) 26 w' := Kp.after (Kp.after (Kp.first w (csA 5 fuel words stack name text) 26).drew (by assumption)) (by assumption)
  have hz : w.heap.size < w'.heap.size := (Array.getElem?_eq_some_iff.1 hk.1).1
  obtain ⟨s, hs⟩ : ∃ s, s = (⟨#[114, 117, 110, 32]⟩ ++ ba (intB fuel) ++ ⟨#[32]⟩ ++ ba (hexB (bl text)) : ByteArray) := ⟨_, rfl⟩
  rw [← hs]
  have hss : s.size ≤ 1000000 := by rw [hs, ByteArray.size_append, ByteArray.size_append, ByteArray.size_append, show (⟨#[114, 117, 110, 32]⟩ : ByteArray).size = 4 from rfl, show (⟨#[32]⟩ : ByteArray).size = 1 from rfl]; omega
  have hsb : bl s = lineB ⟨5, bl name, bl text, fuel, words, stack⟩ := by rw [hs, bl_app, bl_app, bl_app]; simp [lineB, bl, ba, sRun]
  have Hsb := Lib.hid hsb
  clear hs hsb
  go_wp2_with fail
  refine (parse_any s _ hss (Hw.out.of_below hk.2)).mono ?_
  rintro e w2 ⟨rfl, hb2⟩
  have hk2 := hk.after hb2
  have hz2 : w.heap.size < w2.heap.size := (Array.getElem?_eq_some_iff.1 hk2.1).1
  have k0 : w2.cell? ⟨w.heap.size, 0, none⟩ = some (.int .i64 5) := hk2.cell 0
  have k1 : w2.cell? ⟨w.heap.size, 1, none⟩ = some (.string name) := hk2.cell 1
  have k2 : w2.cell? ⟨w.heap.size, 2, none⟩ = some (.string text) := hk2.cell 2
  have k3 : w2.cell? ⟨w.heap.size, 3, none⟩ = some (.int .i64 fuel) := hk2.cell 3
  have k4 : w2.cell? ⟨w.heap.size, 4, none⟩ = some (.int .i64 words) := hk2.cell 4
  have k5 : w2.cell? ⟨w.heap.size, 5, none⟩ = some (.int .i64 stack) := hk2.cell 5
  have Hk2 := Lib.hid hk2
  clear hk hk2 hb2
  cases hp : parseB (bl s) with
  | none =>
    have Ho := Lib.hid (show lineOf ⟨5, bl name, bl text, fuel, words, stack⟩ = none by unfold lineOf; rw [← Hsb.out, hp]; simp)
    clear hp
    simp only [parseV, cmdV, zeroC, Option.getD_none, Option.isSome_none, sv, Bool.false_eq_true, if_false]
    go_wp2
    go_ret2
    exact ⟨by rw [Ho.out]; rfl, Below.alloc Hk2.out.2 (Nat.le_of_lt hz2) _⟩
  | some c =>
    simp only [parseV, cmdV, Option.getD_some, Option.isSome_some, sv, if_true]
    by_cases hc : c = ⟨5, bl name, bl text, fuel, words, stack⟩
    · have Ho := Lib.hid (show lineOf ⟨5, bl name, bl text, fuel, words, stack⟩ = some (bl s) by unfold lineOf; rw [← Hsb.out, hp, hc, if_pos rfl])
      have hq := cmd_neq c 5 fuel words stack name text false (by simp [hc])
      clear hp hc
      go_wp2
      go_ret2
      exact ⟨by rw [Ho.out]; simp [LineV, sv_bl], Below.alloc Hk2.out.2 (Nat.le_of_lt hz2) _⟩
    · have Ho := Lib.hid (show lineOf ⟨5, bl name, bl text, fuel, words, stack⟩ = none by unfold lineOf; rw [← Hsb.out, hp, if_neg (fun h => hc (Option.some.inj h))])
      have hq := cmd_neq c 5 fuel words stack name text true (by simp [hc])
      clear hp hc
      go_wp2
      go_ret2
      exact ⟨by rw [Ho.out]; rfl, Below.alloc Hk2.out.2 (Nat.le_of_lt hz2) _⟩

end Go.Proofs.YtpgegfdiceamaaaGreatDoor
