/- The console's laws: part Xc. -/
import Derived.Test.YtpgegfdiceamaaaGreatDoorXb2
namespace Go.Proofs.YtpgegfdiceamaaaGreatDoor
open Go.RowKit Cons

def Drawn (w w' : World) : Prop := ∃ k, w' = w.drewN k
def TextsPost (w : World) (e : Ending) (w' : World) : Prop := e = .returned (.bool true) ∧ Drawn w w'
theorem Drawn.cell {w w' : World} (h : Drawn w w') (p : Addr) : w'.cell? p = w.cell? p := by obtain ⟨k, rfl⟩ := h; rfl
theorem Drawn.drewN {w w' : World} (h : Drawn w w') (n : Nat) : Drawn w (w'.drewN n) := by obtain ⟨k, rfl⟩ := h; exact ⟨k + n, by simp [World.drewN, Nat.add_assoc]⟩

set_option maxHeartbeats 1000000 in
set_option maxRecDepth 100000 in
theorem texts_same (ga gb n ca cb : Nat) (ss : Nat → ByteArray) (w : World) (hn : n ≤ 1000) (ha : ∀ i, i < n → w.cell? ⟨ga, i, none⟩ = some (.string (ss i))) (hb : ∀ i, i < n → w.cell? ⟨gb, i, none⟩ = some (.string (ss i))) :
    Calls Tryz.prog 14 #[.slice (some ⟨ga, 0, none⟩) n ca, .slice (some ⟨gb, 0, none⟩) n cb] w (TextsPost w) := by
  have Ha := Lib.hid ha
  have Hb := Lib.hid hb
  clear ha hb
  go_enter Tryz.func14, Tryz.ntmps14
  go_wp2
  go_loopw [5] (fun i wr => Drawn w wr ∧ ∃ k : Nat, i = .int .i64 k ∧ k ≤ n) (fun i _ => n - (intOf i).toNat)
  case atStart => exact ⟨⟨0, rfl⟩, 0, rfl, Nat.zero_le _⟩
  case round =>
    obtain ⟨hd, k, rfl, hk⟩ := hrel
    have Hd := Lib.hid hd
    clear hd
    by_cases hlt : k < n
    · have i0 : (k : Int) < n := by omega
      have a1 : wr.cell? ⟨ga, k, none⟩ = some (.string (ss k)) := by rw [Hd.out.cell]; exact Ha.out k hlt
      have b1 : wr.cell? ⟨gb, k, none⟩ = some (.string (ss k)) := by rw [Hd.out.cell]; exact Hb.out k hlt
      go_wp2_with fail
      go_quiet (fail)
      have Hd2 := Lib.hid (Hd.out.drewN nq)
      go_wp2
      go_roundw
      case rel => exact ⟨Hd2.out, k + 1, by push_cast; rfl, hlt⟩
      case measure => simp [intOf]; omega
    · go_wp2
      go_ret
      exact ⟨rfl, Hd.out⟩
end Go.Proofs.YtpgegfdiceamaaaGreatDoor
