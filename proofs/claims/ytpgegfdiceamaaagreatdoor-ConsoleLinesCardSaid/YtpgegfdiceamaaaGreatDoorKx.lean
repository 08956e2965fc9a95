/- What a function comes to, reckoned off a table: the closure by a set of bits. No program in sight. -/
import Derived.JoinedOf
import GoSem.ClaimGoes
namespace Go.Proofs.YtpgegfdiceamaaaGreatDoor
open Go

abbrev RowT := List Nat × List Nat × Option String × Option String

def rowOf (P : Program) (fn : Func) : RowT :=
  (P.leadsTo fn, fn.body.elim [] Code.globalsNamed, if fn.ours || fn.body.isNone || fn.name == "runtime.NumGoroutine" then some fn.name else none, if fn.body.isNone then entryReads.lookup fn.name else none)

def leadT (tbl : List RowT) (g : Nat) : List Nat := match tbl[g]? with
  | some r => r.1
  | none => []

def closM (lead : Nat → List Nat) : Nat → List Nat → Nat → List Nat → List Nat
  | 0, _, _, acc => acc.reverse
  | _ + 1, [], _, acc => acc.reverse
  | n + 1, f :: todo, m, acc => match Nat.land (Nat.shiftRight m f) 1 == 1 with
    | true => closM lead n todo m acc
    | false => closM lead n (lead f ++ todo) (Nat.lor m (Nat.shiftLeft 1 f)) (f :: acc)

theorem bit_is (m k : Nat) : (Nat.land (Nat.shiftRight m k) 1 == 1) = m.testBit k := by
  rw [show Nat.land (Nat.shiftRight m k) 1 = (m >>> k) &&& 1 from rfl, Nat.and_one_is_mod, Nat.testBit_eq_decide_div_mod_eq, Nat.shiftRight_eq_div_pow]
  by_cases h : m / 2 ^ k % 2 = 1 <;> simp [h]

theorem bit_set (m k x : Nat) : (Nat.lor m (Nat.shiftLeft 1 k)).testBit x = (m.testBit x || x == k) := by
  rw [show Nat.lor m (Nat.shiftLeft 1 k) = m ||| (1 <<< k) from rfl, Nat.testBit_or, Nat.one_shiftLeft, Nat.testBit_two_pow]
  by_cases h : x = k
  · subst h; simp
  · have h2 : ¬ k = x := fun e => h e.symm
    simp [h, h2]

theorem closM_eq {P : Program} {lead : Nat → List Nat} (hl : ∀ g, (P.funcs[g]?).elim [] P.leadsTo = lead g) : ∀ (n : Nat) (todo : List Nat) (m : Nat) (acc : List Nat), (∀ x, m.testBit x = acc.contains x) → P.closureVia n todo acc = closM lead n todo m acc
  | 0, _, _, _, _ => by simp [Program.closureVia, closM]
  | _ + 1, [], _, _, _ => by simp [Program.closureVia, closM]
  | n + 1, f :: todo, m, acc, h => by
    rw [Program.closureVia, closM, bit_is, h f]
    cases hc : acc.contains f with
    | true => simp only [if_true]; exact closM_eq hl n todo m acc h
    | false =>
      simp only [Bool.false_eq_true, if_false]
      rw [hl f]
      refine closM_eq hl n _ _ _ fun x => ?_
      rw [bit_set, h x, List.contains_cons, Bool.or_comm]

theorem lead_of {P : Program} {tbl : List RowT} (h : P.funcs.toList.map (rowOf P) = tbl) (g : Nat) : (P.funcs[g]?).elim [] P.leadsTo = leadT tbl g := by
  rw [leadT, ← h, List.getElem?_map, Array.getElem?_toList]
  cases P.funcs[g]? <;> rfl

theorem closure_of {P : Program} {tbl : List RowT} (h : P.funcs.toList.map (rowOf P) = tbl) (f : Nat) : P.closure f = closM (leadT tbl) (1 + (tbl.map fun r => r.1.length + 1).sum) [f] 0 [] := by
  unfold Program.closure
  have e : (P.funcs.toList.map fun g => (P.leadsTo g).length + 1) = tbl.map fun r => r.1.length + 1 := by
    rw [← h, List.map_map]; rfl
  rw [e]
  exact closM_eq (lead_of h) _ _ _ _ fun x => by simp

def placeT (tbl : List RowT) (g : Nat) : Option String := match tbl[g]? with
  | some r => r.2.2.1
  | none => none

theorem inPlace_of {P : Program} {tbl : List RowT} (h : P.funcs.toList.map (rowOf P) = tbl) {f : Nat} {C : List Nat} (hC : P.closure f = C) : P.inPlace f = C.filterMap (placeT tbl) := by
  unfold Program.inPlace
  rw [hC]
  congr 1
  funext g
  rw [placeT, ← h, List.getElem?_map, Array.getElem?_toList]
  cases P.funcs[g]? <;> rfl

def globsT (tbl : List RowT) (g : Nat) : List Nat := match tbl[g]? with
  | some r => r.2.1
  | none => []
def readsT (tbl : List RowT) (g : Nat) : Option String := match tbl[g]? with
  | some r => r.2.2.2
  | none => none

theorem varsNamed_of {P : Program} {tbl : List RowT} (h : P.funcs.toList.map (rowOf P) = tbl) {f : Nat} {C : List Nat} (hC : P.closure f = C) :
    P.varsNamed f = (((C.flatMap (globsT tbl)).eraseDups).filterMap (fun g => (P.globals[g]?).map (·.name)) ++ C.filterMap (readsT tbl)).eraseDups := by
  unfold Program.varsNamed
  rw [hC]
  have e1 : (fun g => ((P.funcs[g]?).bind (·.body)).elim [] Code.globalsNamed) = globsT tbl := by
    funext g
    rw [globsT, ← h, List.getElem?_map, Array.getElem?_toList]
    cases P.funcs[g]? <;> rfl
  have e2 : (fun g => (P.funcs[g]?).bind fun fn => if fn.body.isNone then entryReads.lookup fn.name else none) = readsT tbl := by
    funext g
    rw [readsT, ← h, List.getElem?_map, Array.getElem?_toList]
    cases P.funcs[g]? <;> rfl
  rw [e1, e2]

theorem unfollowed_of {P : Program} {f g : Nat} {fn : Func} {c : Code} {C : List Nat} (hC : P.closure f = C) (hg : C.contains g = true) (hfn : P.funcs[g]? = some fn) (hb : fn.body = some c) (hu : c.unfollowed = true) : P.unfollowed f = true := by
  unfold Program.unfollowed
  rw [hC, List.any_eq_true]
  refine ⟨g, by simpa using hg, ?_⟩
  simp only [hfn, Option.any_some, hb]
  exact hu

theorem recurses_of {P : Program} {f : Nat} (h : P.unfollowed f = true) : P.recurses f = true := by
  unfold Program.recurses; rw [h]; rfl

theorem goes_of {P : Program} {f : Nat} (h : P.funcs.toList.any Func.goes = false) : P.goes f = false := by
  have h' : P.funcs.any Func.goes = false := by rw [← Array.any_toList]; exact h
  unfold Program.goes
  rw [h', Bool.and_false, Bool.or_false, List.any_eq_false]
  intro g _
  cases hg : P.funcs[g]? with
  | none => simp
  | some fn =>
    have hm : fn ∈ P.funcs.toList := by
      rw [← Array.getElem?_toList] at hg
      exact List.mem_of_getElem? hg
    have := List.any_eq_false.1 h fn hm
    simpa using this
end Go.Proofs.YtpgegfdiceamaaaGreatDoor
