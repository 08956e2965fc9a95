/- The console's laws: part Xa. -/
import Derived.Test.YtpgegfdiceamaaaGreatDoorWx
namespace Go.Proofs.YtpgegfdiceamaaaGreatDoor
open Go.RowKit Cons

set_option maxHeartbeats 1000000 in
theorem farmNew (w : World) : Calls Tryz.prog 25 #[] w fun e w' => e = .returned (.pointer (some ⟨w.heap.size + 1, 0, none⟩)) ∧ w' = (w.alloc (.cells #[.map none] 101)).alloc (.cells (farmC w.heap.size) 84) := by
  go_enter Tryz.func25, Tryz.ntmps25
  go_wp2
  go_ret
  exact ⟨rfl, rfl⟩

def failedB (code at_ : Int) : B := [101, 114, 114, 111, 114, 32] ++ intB code ++ [32, 97, 116, 32] ++ intB at_

set_option maxHeartbeats 2000000 in
set_option maxRecDepth 100000 in
theorem failed_any (code at_ : Int) (hc : Hid (-9223372036854775808 ≤ code ∧ code ≤ 9223372036854775807)) (ha : Hid (-9223372036854775808 ≤ at_ ∧ at_ ≤ 9223372036854775807)) (w : World) (hw : Laid w) :
    Calls Tryz.prog 26 #[.agg #[.int .i64 code, .int .i64 at_]] w fun e w' => e = .returned (.string (ba (failedB code at_))) ∧ Below w.heap.size w w' := by
  have Hw := Lib.hid hw
  have x1 := int_size code hc.out.1 hc.out.2
  have x2 := int_size at_ ha.out.1 ha.out.2
  clear hw
  have q1 := cat_run ⟨#[101, 114, 114, 111, 114, 32]⟩ (ba (intB code)) (by rw [show (⟨#[101, 114, 114, 111, 114, 32]⟩ : ByteArray).size = 6 from rfl]; omega)
  have q2 := cat_run (⟨#[101, 114, 114, 111, 114, 32]⟩ ++ ba (intB code)) ⟨#[32, 97, 116, 32]⟩ (by rw [ByteArray.size_append, show (⟨#[101, 114, 114, 111, 114, 32]⟩ : ByteArray).size = 6 from rfl, show (⟨#[32, 97, 116, 32]⟩ : ByteArray).size = 4 from rfl]; omega)
  have q3 := cat_run (⟨#[101, 114, 114, 111, 114, 32]⟩ ++ ba (intB code) ++ ⟨#[32, 97, 116, 32]⟩) (ba (intB at_)) (by rw [ByteArray.size_append, ByteArray.size_append, show (⟨#[101, 114, 114, 111, 114, 32]⟩ : ByteArray).size = 6 from rfl, show (⟨#[32, 97, 116, 32]⟩ : ByteArray).size = 4 from rfl]; omega)
  go_enter Tryz.func26, Tryz.ntmps26
  go_wp2_with fail
  go_region_held3 (fun w' => w'.cell? ⟨w.heap.size, 0, none⟩ = some (.int .i64 code) ∧ w'.cell? ⟨w.heap.size, 1, none⟩ = some (.int .i64 at_) ∧ Kp w #[.int .i64 code, .int .i64 at_] 57 w')
    (first | exact ⟨(Kp.after (Kp.first w #[.int .i64 code, .int .i64 at_] 57).drew (by assumption)).cell 0, (Kp.after (Kp.first w #[.int .i64 code, .int .i64 at_] 57).drew (by assumption)).cell 1, Kp.after (Kp.first _ _ _).drew (by assumption)⟩ | exact ⟨(Kp.after (Kp.after (Kp.first w #[.int .i64 code, .int .i64 at_] 57).drew (by assumption)) (by assumption)).cell 0, (Kp.after (Kp.after (Kp.first w #[.int .i64 code, .int .i64 at_] 57).drew (by assumption)) (by assumption)).cell 1, Kp.after (Kp.after (Kp.first _ _ _).drew (by assumption)) (by assumption)⟩ | exact ⟨(Kp.first w #[.int .i64 code, .int .i64 at_] 57).drew.cell 0, (Kp.first w #[.int .i64 code, .int .i64 at_] 57).drew.cell 1, (Kp.first _ _ _).drew⟩)
    (first | (go_at_call 22; refine (itoa_any _ (by assumption) _ (by first | exact Hw.out.of_below (below_blk' _ _ _) | exact Hw.out.of_below (Kp.after (Kp.first w #[.int .i64 code, .int .i64 at_] 57).drew (by assumption)).2)).mono ?_; rintro e w' ⟨rfl, hb⟩))
  clear q1 q2 q3
  have hk : Kp w #[.int .i64 code, .int .i64 at_] 57 w' := Kp.after (Kp.after (Kp.first w #[.int .i64 code, .int .i64 at_] 57).drew (by assumption)) (by assumption)
  have Hk := Lib.hid hk.2
  clear hk
  go_wp2
  go_ret
  refine ⟨?_, Hk.out⟩
  congr 2
theorem i64_250 : Hid (-9223372036854775808 ≤ (250 : Int) ∧ (250 : Int) ≤ 9223372036854775807) := Lib.hid (by omega)
theorem i64_60 : Hid (-9223372036854775808 ≤ (60 : Int) ∧ (60 : Int) ≤ 9223372036854775807) := Lib.hid (by omega)
theorem i64_0 : Hid (-9223372036854775808 ≤ (0 : Int) ∧ (0 : Int) ≤ 9223372036854775807) := Lib.hid (by omega)

set_option maxHeartbeats 1000000 in
set_option maxRecDepth 100000 in
theorem answer_250 (op : Int) (w : World) (hw : Laid w) : Calls Tryz.prog 27 #[.int .i64 op, ansV 250 0] w fun e w' => e = .returned (.string (ba (failedB 250 0))) ∧ Below w.heap.size w w' := by
  have Hw := Lib.hid hw
  clear hw
  simp only [ansV]
  go_enter Tryz.func27, Tryz.ntmps27
  go_wp2_with fail
  refine (failed_any 250 0 i64_250 i64_0 _ (Hw.out.of_below (below_blk _ _ _))).mono ?_
  rintro e w1 ⟨rfl, hb1⟩
  have Hb := Lib.hid (blk_after0 hb1).2.1
  clear hb1
  go_wp2
  go_ret
  exact ⟨rfl, Hb.out⟩

set_option maxHeartbeats 1000000 in
set_option maxRecDepth 100000 in
theorem answer_ok (w : World) : Calls Tryz.prog 27 #[.int .i64 1, ansV 0 0] w fun e w' => e = .returned (.string ⟨#[111, 107]⟩) ∧ Below w.heap.size w w' := by
  simp only [ansV]
  go_enter Tryz.func27, Tryz.ntmps27
  go_wp2
  go_ret
  exact ⟨rfl, below_blk _ _ _⟩
end Go.Proofs.YtpgegfdiceamaaaGreatDoor
