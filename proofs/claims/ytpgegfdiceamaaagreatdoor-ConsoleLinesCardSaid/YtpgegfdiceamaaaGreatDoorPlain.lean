/- The plain law of the console: a line's words, numbers, bytes in hexadecimal digits; a command's line, a line's command; what is written is read back. No program in sight. -/
namespace Cons

abbrev B := List UInt8

def splitB : B → List B
  | [] => [[]]
  | c :: r => if c = 32 then [] :: splitB r else match splitB r with
    | [] => [[c]]
    | h :: t => (c :: h) :: t

def digB (c : UInt8) : Bool := decide (48 ≤ c.toNat) && decide (c.toNat ≤ 57)

def decB (l : B) : Nat := l.foldl (fun n c => n * 10 + (c.toNat - 48)) 0

def numberB (l : B) : Option Nat :=
  if l.length = 0 ∨ 9 < l.length ∨ (1 < l.length ∧ l.head? = some 48) ∨ l.all digB = false then none else some (decB l)

def hexV (c : UInt8) : Option Nat :=
  if 48 ≤ c.toNat ∧ c.toNat ≤ 57 then some (c.toNat - 48) else if 97 ≤ c.toNat ∧ c.toNat ≤ 102 then some (c.toNat - 87) else none

def pairsB : B → Option B
  | [] => some []
  | [_] => none
  | a :: b :: r => match hexV a, hexV b, pairsB r with
    | some x, some y, some t => some (UInt8.ofNat (16 * x + y) :: t)
    | _, _, _ => none

def bytesB (l : B) : Option B := if l = [45] then some [] else if l = [] then none else pairsB l

def hexD (n : Nat) : UInt8 := if n < 10 then UInt8.ofNat (48 + n) else UInt8.ofNat (87 + n)

def pairOf (c : UInt8) : B := [hexD (c.toNat / 16), hexD (c.toNat % 16)]

def hexB (l : B) : B := if l = [] then [45] else l.flatMap pairOf

def letterB (c : UInt8) : Bool := (decide (97 ≤ c.toNat) && decide (c.toNat ≤ 122)) || (decide (65 ≤ c.toNat) && decide (c.toNat ≤ 90))

def nameC (c : UInt8) : Bool := letterB c || digB c || decide (c.toNat = 46)

def nameB (l : B) : Bool := decide (0 < l.length) && decide (l.length ≤ 24) && (match l with | [] => false | c :: _ => letterB c) && l.all nameC

structure Cmd where
  op : Int
  name : B
  text : B
  fuel : Int
  words : Int
  stack : Int
deriving DecidableEq

def zeroC : Cmd := ⟨0, [], [], 0, 0, 0⟩

def sWrite : B := [119, 114, 105, 116, 101]
def sDelete : B := [100, 101, 108, 101, 116, 101]
def sCompile : B := [99, 111, 109, 112, 105, 108, 101]
def sLoad : B := [108, 111, 97, 100]
def sRun : B := [114, 117, 110]

def parseW (l : List B) : Option Cmd :=
  match l with
  | [w, n, t] =>
    if w = sWrite then (bytesB t).bind fun x => if nameB n then some ⟨1, n, x, 0, 0, 0⟩ else none
    else if w = sRun then (numberB n).bind fun f => (bytesB t).bind fun x => some ⟨5, [], x, f, 0, 0⟩
    else none
  | [w, n] =>
    if w = sDelete then (if nameB n then some ⟨2, n, [], 0, 0, 0⟩ else none)
    else if w = sCompile then (if nameB n then some ⟨3, n, [], 0, 0, 0⟩ else none)
    else none
  | [w, n, a, b] =>
    if w = sLoad then (numberB a).bind fun x => (numberB b).bind fun y => if nameB n then some ⟨4, n, [], 0, x, y⟩ else none
    else none
  | _ => none

def parseB (l : B) : Option Cmd := parseW (splitB l)

/-- a number's digits: of a natural number, by its own recursion -/
def natB (n : Nat) : B := if n < 10 then [UInt8.ofNat (48 + n)] else natB (n / 10) ++ [UInt8.ofNat (48 + n % 10)]
termination_by n
decreasing_by omega

def intB (n : Int) : B := if n < 0 then 45 :: natB n.natAbs else natB n.natAbs

def lineB (c : Cmd) : B :=
  if c.op = 1 then sWrite ++ [32] ++ c.name ++ [32] ++ hexB c.text
  else if c.op = 2 then sDelete ++ [32] ++ c.name
  else if c.op = 3 then sCompile ++ [32] ++ c.name
  else if c.op = 4 then sLoad ++ [32] ++ c.name ++ [32] ++ intB c.words ++ [32] ++ intB c.stack
  else if c.op = 5 then sRun ++ [32] ++ intB c.fuel ++ [32] ++ hexB c.text
  else []

def lineOf (c : Cmd) : Option B := if parseB (lineB c) = some c then some (lineB c) else none

/-! ### splitting -/

theorem splitB_ne (l : B) : splitB l ≠ [] := by
  cases l with
  | nil => simp [splitB]
  | cons c r =>
    simp only [splitB]
    split
    · simp
    · split <;> simp

theorem splitB_free (l : B) (h : ∀ c ∈ l, c ≠ 32) : splitB l = [l] := by
  induction l with
  | nil => rfl
  | cons c r ih =>
    have hc : c ≠ 32 := h c (by simp)
    simp only [splitB, hc, if_false, ih (fun d hd => h d (by simp [hd]))]

theorem splitB_app (a r : B) (h : ∀ c ∈ a, c ≠ 32) : splitB (a ++ 32 :: r) = a :: splitB r := by
  induction a with
  | nil => simp [splitB]
  | cons c t ih =>
    have hc : c ≠ 32 := h c (by simp)
    simp only [List.cons_append, splitB, hc, if_false, ih (fun d hd => h d (by simp [hd]))]

/-- words put together again -/
def joinB : List B → B
  | [] => []
  | [w] => w
  | w :: x :: r => w ++ 32 :: joinB (x :: r)

theorem joinB_split (l : B) : joinB (splitB l) = l := by
  induction l with
  | nil => rfl
  | cons c r ih =>
    simp only [splitB]
    have hne := splitB_ne r
    split
    · next h =>
      subst h
      match hs : splitB r, hne with
      | x :: t, _ => rw [hs] at ih; simp only [joinB, List.nil_append]; rw [ih]
    · match hs : splitB r, hne with
      | [x], _ => rw [hs] at ih; simp only [joinB] at ih ⊢; rw [ih]
      | x :: y :: t, _ => rw [hs] at ih; simp only [joinB, List.cons_append] at ih ⊢; rw [ih]

theorem splitB_mem (l : B) : ∀ w ∈ splitB l, ∀ c ∈ w, c ≠ 32 := by
  induction l with
  | nil => simp [splitB]
  | cons d r ih =>
    simp only [splitB]
    split
    · intro w hw
      rcases List.mem_cons.1 hw with rfl | hw
      · simp
      · exact ih w hw
    · next hd =>
      match hs : splitB r, splitB_ne r with
      | x :: t, _ =>
        rw [hs] at ih
        intro w hw
        rcases List.mem_cons.1 hw with rfl | hw
        · intro c hc
          rcases List.mem_cons.1 hc with rfl | hc
          · exact hd
          · exact ih x (by simp) c hc
        · exact ih w (by simp [hw])

/-! ### numbers -/

theorem decB_snoc (l : B) (c : UInt8) : decB (l ++ [c]) = decB l * 10 + (c.toNat - 48) := by simp [decB]

theorem u8_ofNat (n : Nat) (h : n < 256) : (UInt8.ofNat n).toNat = n := by simp; omega

theorem digB_ofNat (n : Nat) (h : n < 10) : digB (UInt8.ofNat (48 + n)) = true := by
  simp only [digB, u8_ofNat (48 + n) (by omega)]; simp; omega

theorem natB_spec (n : Nat) : (natB n).all digB = true ∧ decB (natB n) = n ∧ 0 < (natB n).length ∧ (n ≠ 0 → (natB n).head? ≠ some 48) ∧ (n = 0 → natB n = [48]) ∧ (∀ k, n < 10 ^ (k + 1) → (natB n).length ≤ k + 1) := by
  induction n using Nat.strongRecOn with
  | ind n ih =>
    rw [natB]
    split
    · next h =>
      have e := u8_ofNat (48 + n) (by omega)
      refine ⟨by simp only [List.all_cons, List.all_nil, Bool.and_true]; exact digB_ofNat n h, by simp [decB]; omega, by simp, ?_, ?_, fun k _ => by simp⟩
      · intro hn hh
        have hh' : UInt8.ofNat (48 + n) = 48 := by simpa only [List.head?_cons, Option.some.injEq] using hh
        have := congrArg UInt8.toNat hh'
        rw [e] at this
        have e8 : (48 : UInt8).toNat = 48 := rfl
        omega
      · intro hn; subst hn; rfl
    · next h =>
      obtain ⟨h1, h2, h3, h4, h5, h6⟩ := ih (n / 10) (by omega)
      have e := u8_ofNat (48 + n % 10) (by omega)
      refine ⟨by rw [List.all_append, h1]; simp only [List.all_cons, List.all_nil, Bool.and_true, Bool.true_and]; exact digB_ofNat _ (by omega), by rw [decB_snoc, h2, e]; omega, by simp, ?_, fun hn => by omega, ?_⟩
      · intro _
        have h4' := h4 (by omega)
        match hq : natB (n / 10), h3 with
        | d :: t, _ => rw [hq] at h4'; simpa using h4'
      · intro k hk
        cases k with
        | zero => simp at hk; omega
        | succ k =>
          have := h6 k (by rw [Nat.pow_succ] at hk; omega)
          simp; omega

theorem snocInd {P : B → Prop} (h0 : P []) (h1 : ∀ l c, P l → P (l ++ [c])) (l : B) : P l := by
  have : ∀ r : B, P r.reverse := by
    intro r
    induction r with
    | nil => exact h0
    | cons c r ih => rw [List.reverse_cons]; exact h1 _ _ ih
  have := this l.reverse
  rwa [List.reverse_reverse] at this

theorem decB_lt (l : B) (h : l.all digB = true) : decB l < 10 ^ l.length := by
  induction l using snocInd with
  | h0 => simp [decB]
  | h1 l c ih =>
    rw [List.all_append] at h
    simp [digB] at h
    have := ih (by simpa [digB] using h.1)
    rw [decB_snoc, List.length_append, List.length_singleton, Nat.pow_succ]
    omega

theorem numberB_some {l : B} {n : Nat} (h : numberB l = some n) : 0 < l.length ∧ l.length ≤ 9 ∧ (1 < l.length → l.head? ≠ some 48) ∧ l.all digB = true ∧ decB l = n := by
  unfold numberB at h
  split at h
  · cases h
  · next hn =>
    simp only [not_or, not_and] at hn
    obtain ⟨a, b, c, d⟩ := hn
    exact ⟨by omega, by omega, c, by simpa using d, by simpa using h⟩

theorem numberB_lt {l : B} {n : Nat} (h : numberB l = some n) : n < 1000000000 := by
  obtain ⟨_, h2, _, h4, rfl⟩ := numberB_some h
  have := decB_lt l h4
  have : 10 ^ l.length ≤ 10 ^ 9 := Nat.pow_le_pow_right (by decide) h2
  omega

theorem numberB_natB (n : Nat) (h : n < 1000000000) : numberB (natB n) = some n := by
  obtain ⟨h1, h2, h3, h4, h5, h6⟩ := natB_spec n
  have hl := h6 8 (by omega)
  unfold numberB
  rw [if_neg, h2]
  simp only [not_or, not_and]
  refine ⟨by omega, by omega, ?_, by simp [h1]⟩
  intro hl1 hh
  by_cases hn : n = 0
  · rw [h5 hn] at hl1; simp at hl1
  · exact h4 hn hh

/-- digits without noughts ahead are those of their number -/
theorem natB_decB (l : B) (h : l.all digB = true) (h0 : 0 < l.length) (hh : 1 < l.length → l.head? ≠ some 48) : natB (decB l) = l := by
  induction l using snocInd with
  | h0 => simp at h0
  | h1 l c ih =>
    rw [List.all_append] at h
    simp only [List.all_cons, List.all_nil, Bool.and_true, Bool.and_eq_true] at h
    have hc : 48 ≤ c.toNat ∧ c.toNat ≤ 57 := by simpa [digB] using h.2
    have ec : ∀ m, m = c.toNat → UInt8.ofNat m = c := fun m hm => by subst hm; simp
    rw [decB_snoc]
    cases hl : l with
    | nil =>
      rw [natB, if_pos (by simp [decB]; omega)]
      simp only [decB, List.foldl_nil, List.nil_append]
      rw [ec _ (by omega)]
    | cons d t =>
      have hpos : decB l ≠ 0 := by
        intro hz
        have := ih h.1 (by simp [hl]) (by
          intro _ hhd
          refine hh (by simp [hl]) ?_
          rw [hl] at hhd ⊢
          simpa using hhd)
        rw [hz, natB, if_pos (by omega)] at this
        have hd : d = 48 ∧ t = [] := by rw [hl] at this; simpa [eq_comm] using this
        exact hh (by simp [hl]) (by simp [hl, hd.1])
      rw [← hl, natB, if_neg (by omega)]
      have e1 : (decB l * 10 + (c.toNat - 48)) / 10 = decB l := by omega
      have e2 : (decB l * 10 + (c.toNat - 48)) % 10 = c.toNat - 48 := by omega
      rw [e1, e2, ih h.1 (by simp [hl]) (by
          intro _ hhd
          refine hh (by simp [hl]) ?_
          rw [hl] at hhd ⊢
          simpa using hhd), ec _ (by omega)]

theorem natB_numberB {l : B} {n : Nat} (h : numberB l = some n) : natB n = l := by
  obtain ⟨h1, h2, h3, h4, rfl⟩ := numberB_some h
  exact natB_decB l h4 h1 h3

theorem intB_nat (n : Nat) : intB (n : Int) = natB n := by
  unfold intB; rw [if_neg (by omega)]; simp

theorem natB_free (n : Nat) : ∀ c ∈ natB n, c ≠ 32 := by
  intro c hc he
  have := (natB_spec n).1
  rw [List.all_eq_true] at this
  have := this c hc
  subst he
  revert this; decide

/-! ### bytes -/

theorem hexV_hexD (n : Nat) (h : n < 16) : hexV (hexD n) = some n := by
  unfold hexD hexV
  split
  · rw [u8_ofNat _ (by omega)]; rw [if_pos (by omega)]; congr 1; omega
  · rw [u8_ofNat _ (by omega)]; rw [if_neg (by omega), if_pos (by omega)]; congr 1; omega

theorem hexD_hexV {c : UInt8} {n : Nat} (h : hexV c = some n) : hexD n = c ∧ n < 16 := by
  unfold hexV at h
  have ec : ∀ m, m = c.toNat → UInt8.ofNat m = c := fun m hm => by subst hm; simp
  split at h
  · cases h
    refine ⟨?_, by omega⟩
    unfold hexD; rw [if_pos (by omega)]; exact ec _ (by omega)
  · split at h
    · cases h
      refine ⟨?_, by omega⟩
      unfold hexD; rw [if_neg (by omega)]; exact ec _ (by omega)
    · cases h

theorem pairsB_flat (l : B) : pairsB (l.flatMap pairOf) = some l := by
  induction l with
  | nil => rfl
  | cons c r ih =>
    have hc := c.toNat_lt
    simp only [List.flatMap_cons, pairOf, List.cons_append, List.nil_append, pairsB]
    rw [hexV_hexD _ (by omega), hexV_hexD _ (by omega), ih]
    simp only
    have : 16 * (c.toNat / 16) + c.toNat % 16 = c.toNat := by omega
    rw [this]; simp

theorem bytesB_hexB (l : B) : bytesB (hexB l) = some l := by
  unfold hexB
  split
  · next h => subst h; rfl
  · next h =>
    match l, h with
    | c :: r, _ =>
      unfold bytesB
      rw [if_neg (by simp [pairOf]), if_neg (by simp [pairOf])]
      exact pairsB_flat _

theorem flat_pairsB : ∀ (l x : B), pairsB l = some x → x.flatMap pairOf = l
  | [], x, h => by simp [pairsB] at h; subst h; rfl
  | [_], x, h => by simp [pairsB] at h
  | a :: b :: r, x, h => by
    simp only [pairsB] at h
    split at h
    · next u v t hu hv ht =>
      cases h
      obtain ⟨e1, l1⟩ := hexD_hexV hu
      obtain ⟨e2, l2⟩ := hexD_hexV hv
      rw [List.flatMap_cons, flat_pairsB r t ht]
      simp only [pairOf]
      rw [u8_ofNat _ (by omega)]
      have q1 : (16 * u + v) / 16 = u := by omega
      have q2 : (16 * u + v) % 16 = v := by omega
      rw [q1, q2, e1, e2]; rfl
    · cases h

theorem hexB_bytesB {l x : B} (h : bytesB l = some x) : hexB x = l := by
  unfold bytesB at h
  split at h
  · next e => cases h; subst e; rfl
  · split at h
    · cases h
    · next e1 e2 =>
      have := flat_pairsB l x h
      unfold hexB
      split
      · next hx => subst hx; simp at this; exact absurd this.symm (fun e => e2 e.symm)
      · exact this

theorem hexD_free (n : Nat) (h : n < 16) : hexD n ≠ 32 := by
  intro he
  have := hexV_hexD n h
  rw [he] at this
  revert this; simp [hexV]

theorem hexB_free (l : B) : ∀ c ∈ hexB l, c ≠ 32 := by
  intro c hc
  unfold hexB at hc
  split at hc
  · simp at hc; subst hc; decide
  · rw [List.mem_flatMap] at hc
    obtain ⟨d, _, hd⟩ := hc
    have := d.toNat_lt
    simp only [pairOf, List.mem_cons, List.not_mem_nil, or_false] at hd
    rcases hd with rfl | rfl
    · exact hexD_free _ (by omega)
    · exact hexD_free _ (by omega)

theorem hexB_length (l : B) : (hexB l).length = max 1 (2 * l.length) := by
  unfold hexB
  split
  · next h => subst h; rfl
  · next h =>
    have : (l.flatMap pairOf).length = 2 * l.length := by
      clear h
      induction l with
      | nil => rfl
      | cons c r ih => rw [List.flatMap_cons, List.length_append, ih]; simp [pairOf]; omega
    rw [this]
    cases l with
    | nil => exact absurd rfl h
    | cons c r => simp; omega

/-! ### lines -/

theorem parseB_line {l : B} {k : Cmd} (h : parseB l = some k) : lineB k = l := by
  unfold parseB parseW at h
  have hj := joinB_split l
  split at h
  · next w n t hs =>
    rw [hs] at hj
    simp only [joinB] at hj
    split at h
    · next hw =>
      cases hb : bytesB t with
      | none => rw [hb] at h; cases h
      | some x =>
        rw [hb] at h
        simp only [Option.bind_some] at h
        split at h
        · cases h
          simp only [lineB, if_true, hexB_bytesB hb]
          rw [← hj, hw]; simp
        · cases h
    · split at h
      · next hw =>
        cases hn : numberB n with
        | none => rw [hn] at h; cases h
        | some f =>
          cases hb : bytesB t with
          | none => rw [hn, hb] at h; cases h
          | some x =>
            rw [hn, hb] at h
            simp only [Option.bind_some, Option.some.injEq] at h
            cases h
            simp only [lineB, intB_nat, natB_numberB hn, hexB_bytesB hb]
            rw [← hj, hw]; simp
      · cases h
  · next w n hs =>
    rw [hs] at hj
    simp only [joinB] at hj
    split at h
    · next hw =>
      split at h
      · cases h; simp only [lineB]; rw [← hj, hw]; simp
      · cases h
    · split at h
      · next hw =>
        split at h
        · cases h; simp only [lineB]; rw [← hj, hw]; simp
        · cases h
      · cases h
  · next w n a b hs =>
    rw [hs] at hj
    simp only [joinB] at hj
    split at h
    · next hw =>
      cases ha : numberB a with
      | none => rw [ha] at h; cases h
      | some x =>
        cases hb : numberB b with
        | none => rw [ha, hb] at h; cases h
        | some y =>
          rw [ha, hb] at h
          simp only [Option.bind_some] at h
          split at h
          · cases h
            simp only [lineB, intB_nat, natB_numberB ha, natB_numberB hb]
            rw [← hj, hw]; simp
          · cases h
    · cases h
  · cases h

/-- what was read is written as it was -/
theorem line_back {l : B} {k : Cmd} (h : parseB l = some k) : lineOf k = some l := by
  unfold lineOf
  rw [parseB_line h, if_pos h]

theorem lineOf_parse {c : Cmd} {l : B} (h : lineOf c = some l) : parseB l = some c := by
  unfold lineOf at h
  split at h
  · next hp => cases h; exact hp
  · cases h

/-- a command that a line has names no number below 0 -/
theorem parse_nonneg {l : B} {k : Cmd} (h : parseB l = some k) : 0 ≤ k.fuel ∧ 0 ≤ k.words ∧ 0 ≤ k.stack := by
  unfold parseB parseW at h
  split at h
  · split at h
    · obtain ⟨x, _, h⟩ := Option.bind_eq_some_iff.1 h
      split at h <;> cases h
      simp
    · split at h
      · obtain ⟨x, _, h⟩ := Option.bind_eq_some_iff.1 h
        obtain ⟨y, _, h⟩ := Option.bind_eq_some_iff.1 h
        cases h; simp
      · cases h
  · split at h
    · split at h <;> cases h
      simp
    · split at h
      · split at h <;> cases h
        simp
      · cases h
  · split at h
    · obtain ⟨x, _, h⟩ := Option.bind_eq_some_iff.1 h
      obtain ⟨y, _, h⟩ := Option.bind_eq_some_iff.1 h
      split at h <;> cases h
      simp
    · cases h
  · cases h

def sAMod : B := [65, 46, 77, 111, 100]

theorem write_AMod (text : B) : lineOf ⟨1, sAMod, text, 0, 0, 0⟩ = some (lineB ⟨1, sAMod, text, 0, 0, 0⟩) ∧ (lineB ⟨1, sAMod, text, 0, 0, 0⟩).length = 12 + max 1 (2 * text.length) := by
  have e : lineB ⟨1, sAMod, text, 0, 0, 0⟩ = sWrite ++ 32 :: (sAMod ++ 32 :: hexB text) := by simp [lineB]
  have hp : parseB (lineB ⟨1, sAMod, text, 0, 0, 0⟩) = some ⟨1, sAMod, text, 0, 0, 0⟩ := by
    rw [e]
    unfold parseB
    rw [splitB_app _ _ (by decide), splitB_app _ _ (by decide), splitB_free _ (hexB_free text)]
    simp only [parseW, if_true, bytesB_hexB, Option.bind_some]
    rw [if_pos (by decide)]
  refine ⟨by unfold lineOf; rw [if_pos hp], ?_⟩
  rw [e]
  simp [hexB_length, sWrite, sAMod]
  omega

theorem run_7 (text : B) : lineOf ⟨5, [], text, 7, 0, 0⟩ = some (lineB ⟨5, [], text, 7, 0, 0⟩) := by
  have e : lineB ⟨5, [], text, 7, 0, 0⟩ = sRun ++ 32 :: (natB 7 ++ 32 :: hexB text) := by
    have : intB 7 = natB 7 := intB_nat 7
    simp [lineB, this]
  have hp : parseB (lineB ⟨5, [], text, 7, 0, 0⟩) = some ⟨5, [], text, 7, 0, 0⟩ := by
    rw [e]
    unfold parseB
    rw [splitB_app _ _ (by decide), splitB_app _ _ (natB_free 7), splitB_free _ (hexB_free text)]
    simp only [parseW, numberB_natB 7 (by decide), bytesB_hexB, Option.bind_some]
    rw [if_neg (by decide)]
    simp
  unfold lineOf; rw [if_pos hp]

end Cons
