/- The console's laws: part Wq. -/
import Derived.Test.YtpgegfdiceamaaaGreatDoorWp
namespace Go.Proofs.YtpgegfdiceamaaaGreatDoor
open Go.RowKit Cons

def oName (op : Int) (s1 : ByteArray) : Option Cmd := if nameB (bl s1) then some ⟨op, bl s1, [], 0, 0, 0⟩ else none

theorem below_blk (w : World) (cs : Array Value) (T : TypeId) : Below w.heap.size w (w.alloc (.cells cs T)) := (Below.refl _ w).alloc (Nat.le_refl _) _
theorem below_blk' (w : World) (cs : Array Value) (T : TypeId) : Below w.heap.size w (w.alloc (.cells cs T)).drew := ((Below.refl _ w).alloc (Nat.le_refl _) _).drew

set_option maxHeartbeats 1000000 in
set_option maxRecDepth 100000 in
/-- 'write' with another number of words -/
theorem parsed_write_no (g n cap : Nat) (s0 : ByteArray) (w : World) (hn : 0 < n) (hg : g < w.heap.size) (h0 : w.cell? ⟨g, 0, none⟩ = some (.string s0)) (e0 : (s0.toList == [119, 114, 105, 116, 101]) = true) (h2 : ((n : Int) == 3) = false) :
    Calls Tryz.prog 15 #[.slice (some ⟨g, 0, none⟩) n cap] w (PPost none w) := by
  go_enter Tryz.func15, Tryz.ntmps15
  go_wp2_with fail
  all_goals exact bodyPost_ret (v := .tuple #[cmdV ⟨0, [], [], 0, 0, 0⟩, .bool false]) (by simp [results, Tryz.results15, go_sem, cmdV, sv]) rfl (PPost.no _ rfl (below_blk _ _ _))

set_option maxHeartbeats 1000000 in
set_option maxRecDepth 100000 in
/-- 'delete' with another number of words -/
theorem parsed_delete_no (g n cap : Nat) (s0 : ByteArray) (w : World) (hn : 0 < n) (hg : g < w.heap.size) (h0 : w.cell? ⟨g, 0, none⟩ = some (.string s0)) (e1 : (s0.toList == [119, 114, 105, 116, 101]) = false) (e0 : (s0.toList == [100, 101, 108, 101, 116, 101]) = true) (h2 : ((n : Int) == 2) = false) :
    Calls Tryz.prog 15 #[.slice (some ⟨g, 0, none⟩) n cap] w (PPost none w) := by
  go_enter Tryz.func15, Tryz.ntmps15
  go_wp2_with fail
  all_goals exact bodyPost_ret (v := .tuple #[cmdV ⟨2, [], [], 0, 0, 0⟩, .bool false]) (by simp [results, Tryz.results15, go_sem, cmdV, sv]) rfl (PPost.no _ rfl (below_blk _ _ _))

set_option maxHeartbeats 1000000 in
set_option maxRecDepth 100000 in
/-- 'compile' with another number of words -/
theorem parsed_compile_no (g n cap : Nat) (s0 : ByteArray) (w : World) (hn : 0 < n) (hg : g < w.heap.size) (h0 : w.cell? ⟨g, 0, none⟩ = some (.string s0)) (e1 : (s0.toList == [119, 114, 105, 116, 101]) = false) (e2 : (s0.toList == [100, 101, 108, 101, 116, 101]) = false) (e0 : (s0.toList == [99, 111, 109, 112, 105, 108, 101]) = true) (h2 : ((n : Int) == 2) = false) :
    Calls Tryz.prog 15 #[.slice (some ⟨g, 0, none⟩) n cap] w (PPost none w) := by
  go_enter Tryz.func15, Tryz.ntmps15
  go_wp2_with fail
  all_goals exact bodyPost_ret (v := .tuple #[cmdV ⟨3, [], [], 0, 0, 0⟩, .bool false]) (by simp [results, Tryz.results15, go_sem, cmdV, sv]) rfl (PPost.no _ rfl (below_blk _ _ _))

set_option maxHeartbeats 1000000 in
set_option maxRecDepth 100000 in
/-- 'load' with another number of words -/
theorem parsed_load_no (g n cap : Nat) (s0 : ByteArray) (w : World) (hn : 0 < n) (hg : g < w.heap.size) (h0 : w.cell? ⟨g, 0, none⟩ = some (.string s0)) (e1 : (s0.toList == [119, 114, 105, 116, 101]) = false) (e2 : (s0.toList == [100, 101, 108, 101, 116, 101]) = false) (e3 : (s0.toList == [99, 111, 109, 112, 105, 108, 101]) = false) (e0 : (s0.toList == [108, 111, 97, 100]) = true) (h2 : ((n : Int) == 4) = false) :
    Calls Tryz.prog 15 #[.slice (some ⟨g, 0, none⟩) n cap] w (PPost none w) := by
  go_enter Tryz.func15, Tryz.ntmps15
  go_wp2_with fail
  all_goals exact bodyPost_ret (v := .tuple #[cmdV ⟨0, [], [], 0, 0, 0⟩, .bool false]) (by simp [results, Tryz.results15, go_sem, cmdV, sv]) rfl (PPost.no _ rfl (below_blk _ _ _))

set_option maxHeartbeats 1000000 in
set_option maxRecDepth 100000 in
/-- 'run' with another number of words -/
theorem parsed_run_no (g n cap : Nat) (s0 : ByteArray) (w : World) (hn : 0 < n) (hg : g < w.heap.size) (h0 : w.cell? ⟨g, 0, none⟩ = some (.string s0)) (e1 : (s0.toList == [119, 114, 105, 116, 101]) = false) (e2 : (s0.toList == [100, 101, 108, 101, 116, 101]) = false) (e3 : (s0.toList == [99, 111, 109, 112, 105, 108, 101]) = false) (e4 : (s0.toList == [108, 111, 97, 100]) = false) (e0 : (s0.toList == [114, 117, 110]) = true) (h2 : ((n : Int) == 3) = false) :
    Calls Tryz.prog 15 #[.slice (some ⟨g, 0, none⟩) n cap] w (PPost none w) := by
  go_enter Tryz.func15, Tryz.ntmps15
  go_wp2_with fail
  all_goals exact bodyPost_ret (v := .tuple #[cmdV ⟨0, [], [], 0, 0, 0⟩, .bool false]) (by simp [results, Tryz.results15, go_sem, cmdV, sv]) rfl (PPost.no _ rfl (below_blk _ _ _))

set_option maxHeartbeats 1000000 in
set_option maxRecDepth 100000 in
theorem parsed_delete (g cap : Nat) (s0 s1 : ByteArray) (w : World) (hg : g < w.heap.size) (h0 : w.cell? ⟨g, 0, none⟩ = some (.string s0)) (h1 : w.cell? ⟨g, 1, none⟩ = some (.string s1))
    (hs1 : s1.size ≤ 1000000) (e1 : (s0.toList == [119, 114, 105, 116, 101]) = false) (e0 : (s0.toList == [100, 101, 108, 101, 116, 101]) = true) :
    Calls Tryz.prog 15 #[.slice (some ⟨g, 0, none⟩) 2 cap] w (PPost (oName 2 s1) w) := by
  cases hn : nameB (bl s1) with
  | false =>
    have Ho := Lib.hid (show oName 2 s1 = none by unfold oName; rw [hn]; rfl)
    have Hn := Lib.hid hn
    clear hn
    go_enter Tryz.func15, Tryz.ntmps15
    go_wp2_with fail
    refine (storeName_any s1 _ hs1).mono ?_
    rintro e w2 ⟨rfl, rfl⟩
    rw [Hn.out]
    go_wp2
    refine bodyPost_ret (v := .tuple #[cmdV ⟨2, bl s1, [], 0, 0, 0⟩, .bool false]) (by simp [results, Tryz.results15, go_sem, cmdV, sv, bl]) rfl (PPost.no _ Ho.out ?_)
    exact below_blk _ _ _
  | true =>
    have Ho := Lib.hid (show oName 2 s1 = some ⟨2, bl s1, [], 0, 0, 0⟩ by unfold oName; rw [hn]; rfl)
    have Hn := Lib.hid hn
    clear hn
    go_enter Tryz.func15, Tryz.ntmps15
    go_wp2_with fail
    refine (storeName_any s1 _ hs1).mono ?_
    rintro e w2 ⟨rfl, rfl⟩
    rw [Hn.out]
    go_wp2
    refine bodyPost_ret (v := .tuple #[cmdV ⟨2, bl s1, [], 0, 0, 0⟩, .bool true]) (by simp [results, Tryz.results15, go_sem, cmdV, sv, bl]) rfl (PPost.yes _ Ho.out ?_)
    exact below_blk _ _ _

set_option maxHeartbeats 1000000 in
set_option maxRecDepth 100000 in
theorem parsed_compile (g cap : Nat) (s0 s1 : ByteArray) (w : World) (hg : g < w.heap.size) (h0 : w.cell? ⟨g, 0, none⟩ = some (.string s0)) (h1 : w.cell? ⟨g, 1, none⟩ = some (.string s1))
    (hs1 : s1.size ≤ 1000000) (e1 : (s0.toList == [119, 114, 105, 116, 101]) = false) (e2 : (s0.toList == [100, 101, 108, 101, 116, 101]) = false) (e0 : (s0.toList == [99, 111, 109, 112, 105, 108, 101]) = true) :
    Calls Tryz.prog 15 #[.slice (some ⟨g, 0, none⟩) 2 cap] w (PPost (oName 3 s1) w) := by
  cases hn : nameB (bl s1) with
  | false =>
    have Ho := Lib.hid (show oName 3 s1 = none by unfold oName; rw [hn]; rfl)
    have Hn := Lib.hid hn
    clear hn
    go_enter Tryz.func15, Tryz.ntmps15
    go_wp2_with fail
    refine (storeName_any s1 _ hs1).mono ?_
    rintro e w2 ⟨rfl, rfl⟩
    rw [Hn.out]
    go_wp2
    refine bodyPost_ret (v := .tuple #[cmdV ⟨3, bl s1, [], 0, 0, 0⟩, .bool false]) (by simp [results, Tryz.results15, go_sem, cmdV, sv, bl]) rfl (PPost.no _ Ho.out ?_)
    exact below_blk _ _ _
  | true =>
    have Ho := Lib.hid (show oName 3 s1 = some ⟨3, bl s1, [], 0, 0, 0⟩ by unfold oName; rw [hn]; rfl)
    have Hn := Lib.hid hn
    clear hn
    go_enter Tryz.func15, Tryz.ntmps15
    go_wp2_with fail
    refine (storeName_any s1 _ hs1).mono ?_
    rintro e w2 ⟨rfl, rfl⟩
    rw [Hn.out]
    go_wp2
    refine bodyPost_ret (v := .tuple #[cmdV ⟨3, bl s1, [], 0, 0, 0⟩, .bool true]) (by simp [results, Tryz.results15, go_sem, cmdV, sv, bl]) rfl (PPost.yes _ Ho.out ?_)
    exact below_blk _ _ _

end Go.Proofs.YtpgegfdiceamaaaGreatDoor
