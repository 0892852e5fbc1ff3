/- The plain functions of the console's parser: no Go, no memory. -/
import Derived.Lib.Bytealg
import Derived.Lib.Strings
import Derived.Lib.IndexBytes
import Derived.Lib.Atoi
import Derived.Lib.SlTrimSet
import Derived.Lib.IndexAny
namespace Go.Proofs.YtkdofgbjebpmoaaGreatDoor.Con
set_option linter.unusedVariables false
set_option linter.unusedSimpArgs false

def hexL : List UInt8 := [48, 49, 50, 51, 52, 53, 54, 55, 56, 57, 65, 66, 67, 68, 69, 70]
/-- The byte that two hexadecimal digits write. -/
def hex2 (x y : UInt8) : Option UInt8 :=
  if 0 ≤ Lib.indexByte hexL x ∧ 0 ≤ Lib.indexByte hexL y then some (Lib.indexByte hexL x * 16 + Lib.indexByte hexL y).toNat.toUInt8 else none

/-- What stands behind a quote: the text and how many bytes it takes. -/
def unq : List UInt8 → Option (List UInt8 × Nat)
  | [] => none
  | c :: r =>
    if c = 34 then some ([], 1)
    else if c < 32 ∨ 126 < c then none
    else if c ≠ 92 then (unq r).map fun p => (c :: p.1, p.2 + 1)
    else match r with
      | [] => none
      | d :: r2 =>
        if d = 34 ∨ d = 92 then (unq r2).map fun p => (d :: p.1, p.2 + 2)
        else if d = 120 then
          match r2 with
          | x :: y :: r4 =>
            match hex2 x y with
            | some b => (unq r4).map fun p => (b :: p.1, p.2 + 4)
            | none => none
          | _ => none
        else none

theorem unq_quote (r : List UInt8) : unq (34 :: r) = some ([], 1) := by rw [unq.eq_def]; rfl
theorem unq_bad {c : UInt8} {r : List UInt8} (h : c ≠ 34) (hb : c < 32 ∨ 126 < c) : unq (c :: r) = none := by rw [unq.eq_def]; dsimp only; rw [if_neg h, if_pos hb]
theorem unq_plain {c : UInt8} {r : List UInt8} (h : c ≠ 34) (hb : ¬ (c < 32 ∨ 126 < c)) (h92 : c ≠ 92) : unq (c :: r) = (unq r).map fun p => (c :: p.1, p.2 + 1) := by
  rw [unq.eq_def]; dsimp only; rw [if_neg h, if_neg hb, if_pos h92]
theorem unq_end : unq [92] = none := by rw [unq.eq_def]; rfl
theorem unq_esc {d : UInt8} {r : List UInt8} (hd : d = 34 ∨ d = 92) : unq (92 :: d :: r) = (unq r).map fun p => (d :: p.1, p.2 + 2) := by
  rw [unq.eq_def]; dsimp only; rw [if_neg (by decide), if_neg (by decide), if_neg (by decide), if_pos hd]
theorem unq_other {d : UInt8} {r : List UInt8} (hd : ¬ (d = 34 ∨ d = 92)) (hx : d ≠ 120) : unq (92 :: d :: r) = none := by
  rw [unq.eq_def]; dsimp only; rw [if_neg (by decide), if_neg (by decide), if_neg (by decide), if_neg hd, if_neg hx]
theorem unq_x0 : unq [92, 120] = none := by rw [unq.eq_def]; rfl
theorem unq_x1 (x : UInt8) : unq [92, 120, x] = none := by rw [unq.eq_def]; rfl
theorem unq_x {x y b : UInt8} {r : List UInt8} (h : hex2 x y = some b) : unq (92 :: 120 :: x :: y :: r) = (unq r).map fun p => (b :: p.1, p.2 + 4) := by
  rw [unq.eq_def]; dsimp only; rw [if_neg (by decide), if_neg (by decide), if_neg (by decide), if_neg (by decide), if_pos rfl, h]
theorem unq_xbad {x y : UInt8} {r : List UInt8} (h : hex2 x y = none) : unq (92 :: 120 :: x :: y :: r) = none := by
  rw [unq.eq_def]; dsimp only; rw [if_neg (by decide), if_neg (by decide), if_neg (by decide), if_neg (by decide), if_pos rfl, h]

/-! ### the number that a field writes -/
def isDig (b : UInt8) : Bool := decide (48 ≤ b.toNat ∧ b.toNat ≤ 57)
def digs : List UInt8 := [48, 49, 50, 51, 52, 53, 54, 55, 56, 57]
def numOf (q : Bool) (l : List UInt8) : Option Int :=
  if q = true ∨ Lib.trimPrefix l [45] = [] ∨ 9 < (Lib.trimPrefix l [45]).length ∨ (Lib.trimPrefix l [45]).all isDig = false ∨ ((Lib.trimPrefix l [45]).head? = some 48 ∧ l ≠ [48]) then none else Lib.atoi l
set_option maxRecDepth 20000 in
theorem digs_contains : ∀ b : UInt8, digs.contains b = isDig b := by
  have h : ∀ n : Fin 256, digs.contains (UInt8.ofNat n.val) = isDig (UInt8.ofNat n.val) := by decide
  intro b
  have := h ⟨b.toNat, b.toNat_lt⟩
  simpa using this
theorem dropWhile_nil {α : Type} (p : α → Bool) (l : List α) : l.dropWhile p = [] ↔ l.all p = true := by
  induction l with
  | nil => simp
  | cons a l ih =>
    rw [List.dropWhile_cons]
    cases h : p a <;> simp_all
theorem trimS_nil (l : List UInt8) : Lib.trimS l digs = [] ↔ l.all isDig = true := by
  have e : (fun b => digs.contains b) = isDig := funext digs_contains
  unfold Lib.trimS Lib.trimLeftS Lib.trimRightS
  rw [e, dropWhile_nil, List.all_eq_true]
  constructor
  · intro h
    rw [List.all_eq_true]
    intro x hx
    by_cases hd : isDig x = true
    · exact hd
    · exfalso
      have h2 : ∃ y, y ∈ l.reverse.dropWhile isDig ∧ isDig y = false := by
        have hx' : x ∈ l.reverse := List.mem_reverse.2 hx
        generalize l.reverse = m at hx'
        induction m with
        | nil => simp at hx'
        | cons a m ih =>
          rw [List.dropWhile_cons]
          split
          · rename_i ha
            rcases List.mem_cons.1 hx' with rfl | hm
            · exact absurd ha hd
            · exact ih hm
          · rename_i ha
            exact ⟨a, List.mem_cons_self, by simpa using ha⟩
      obtain ⟨y, hy, hy2⟩ := h2
      have := h y (List.mem_reverse.2 hy)
      rw [hy2] at this
      cases this
  · intro h y hy
    have hy := List.mem_reverse.1 hy
    have : y ∈ l := List.mem_reverse.1 ((List.dropWhile_sublist _).subset hy)
    exact List.all_eq_true.1 h y this
theorem digitVal_dig {b : UInt8} (h : isDig b = true) : ∃ d, Lib.digitVal b = some d := by
  unfold isDig at h
  exact ⟨b.toNat - 48, by unfold Lib.digitVal; rw [if_pos (of_decide_eq_true h)]⟩
theorem decFrom_dig (l : List UInt8) : ∀ acc, l.all isDig = true → ∃ n, Lib.decFrom acc l = some n := by
  induction l with
  | nil => exact fun acc _ => ⟨acc, rfl⟩
  | cons b l ih =>
    intro acc h
    rw [List.all_cons, Bool.and_eq_true] at h
    obtain ⟨d, hd⟩ := digitVal_dig h.1
    obtain ⟨n, hn⟩ := ih (acc * 10 + d) h.2
    exact ⟨n, by rw [Lib.decFrom, hd]; exact hn⟩
theorem atoi_dig {l : List UInt8} (h0 : Lib.trimPrefix l [45] ≠ []) (h : (Lib.trimPrefix l [45]).all isDig = true) : ∃ n, Lib.atoi l = some n := by
  cases l with
  | nil => exact absurd rfl h0
  | cons b r =>
    have hp : Lib.trimPrefix (b :: r) [45] = if b = 45 then r else b :: r := by
      unfold Lib.trimPrefix Lib.hasPrefix
      by_cases hb : b = 45
      · subst hb; simp
      · have : ((45 : UInt8) == b) = false := by simpa using fun e => hb e.symm
        simp [List.isPrefixOf, this, hb]
    rw [hp] at h0 h
    unfold Lib.atoi
    dsimp only
    by_cases hb : b = 45
    · rw [if_pos hb] at h0 h
      obtain ⟨n, hn⟩ := decFrom_dig r 0 h
      rw [if_pos (by simpa using hb)]
      refine ⟨-(n : Int), ?_⟩
      rw [Lib.decNat, if_neg (by simpa using h0), hn]
      rfl
    · rw [if_neg hb] at h0 h
      obtain ⟨n, hn⟩ := decFrom_dig (b :: r) 0 h
      have h43 : ¬ (b == 43) = true := by
        intro e
        have e : b = 43 := by simpa using e
        subst e
        rw [List.all_cons, Bool.and_eq_true] at h
        exact absurd h.1 (by decide)
      rw [if_neg (by simpa using hb), if_neg h43]
      refine ⟨(n : Int), ?_⟩
      rw [Lib.decNat, if_neg (by simp), hn]
      rfl

/-! ### the fields of a line -/
inductive FR where
  | fin
  | bad
  | got (f : ByteArray × Bool) (rest : List UInt8)
def seps : List UInt8 := [32, 34]
def word (l : List UInt8) : List UInt8 := l.takeWhile fun b => !seps.contains b
def fieldL (l : List UInt8) : FR :=
  match l.dropWhile (· == 32) with
  | [] => .fin
  | c :: r =>
    if c = 34 then
      match unq r with
      | none => .bad
      | some p => if (r.drop p.2).head?.getD 32 = 32 then .got (⟨p.1.toArray⟩, true) (r.drop p.2) else .bad
    else if ((c :: r).drop (word (c :: r)).length).head? = some 34 then .bad
    else .got (⟨(word (c :: r)).toArray⟩, false) ((c :: r).drop (word (c :: r)).length)
def cutF : Nat → List UInt8 → Option (List (ByteArray × Bool))
  | 0, _ => none
  | n + 1, l => match fieldL l with
    | .fin => some []
    | .bad => none
    | .got f r => (cutF n r).map (f :: ·)
def cutL (l : List UInt8) : Option (List (ByteArray × Bool)) := cutF (l.length + 1) l

theorem cutF_fin {n : Nat} {l : List UInt8} (h : fieldL l = .fin) : cutF (n + 1) l = some [] := by rw [cutF, h]
theorem cutF_bad {n : Nat} {l : List UInt8} (h : fieldL l = .bad) : cutF (n + 1) l = none := by rw [cutF, h]
theorem cutF_got {n : Nat} {l r : List UInt8} {f : ByteArray × Bool} (h : fieldL l = .got f r) : cutF (n + 1) l = (cutF n r).map (f :: ·) := by rw [cutF, h]
theorem field_fin {l : List UInt8} (h : l.dropWhile (· == 32) = []) : fieldL l = .fin := by rw [fieldL, h]
theorem field_unq_none {l r : List UInt8} (h : l.dropWhile (· == 32) = 34 :: r) (hu : unq r = none) : fieldL l = .bad := by
  rw [fieldL, h]; dsimp only; rw [if_pos rfl, hu]
theorem field_unq {l r b : List UInt8} {m : Nat} (h : l.dropWhile (· == 32) = 34 :: r) (hu : unq r = some (b, m)) (hd : (r.drop m).head?.getD 32 = 32) : fieldL l = .got (⟨b.toArray⟩, true) (r.drop m) := by
  rw [fieldL, h]; dsimp only; rw [if_pos rfl, hu]; dsimp only; rw [if_pos hd]
theorem field_unq_bad {l r b : List UInt8} {m : Nat} (h : l.dropWhile (· == 32) = 34 :: r) (hu : unq r = some (b, m)) (hd : ¬ (r.drop m).head?.getD 32 = 32) : fieldL l = .bad := by
  rw [fieldL, h]; dsimp only; rw [if_pos rfl, hu]; dsimp only; rw [if_neg hd]
theorem field_word {l r : List UInt8} {c : UInt8} (h : l.dropWhile (· == 32) = c :: r) (hc : c ≠ 34) (hd : ¬ ((c :: r).drop (word (c :: r)).length).head? = some 34) :
    fieldL l = .got (⟨(word (c :: r)).toArray⟩, false) ((c :: r).drop (word (c :: r)).length) := by
  rw [fieldL, h]; dsimp only; rw [if_neg hc, if_neg hd]
theorem field_word_bad {l r : List UInt8} {c : UInt8} (h : l.dropWhile (· == 32) = c :: r) (hc : c ≠ 34) (hd : ((c :: r).drop (word (c :: r)).length).head? = some 34) :
    fieldL l = .bad := by
  rw [fieldL, h]; dsimp only; rw [if_neg hc, if_pos hd]
theorem unq_le : ∀ (n : Nat) (l b : List UInt8) (m : Nat), l.length ≤ n → unq l = some (b, m) → 1 ≤ m ∧ m ≤ l.length := by
  intro n
  induction n with
  | zero =>
    intro l b m hl h
    obtain rfl : l = [] := List.eq_nil_of_length_eq_zero (by omega)
    rw [unq.eq_def] at h; cases h
  | succ n ih =>
    intro l b m hl h
    cases l with
    | nil => rw [unq.eq_def] at h; cases h
    | cons c r =>
      simp only [List.length_cons] at hl ⊢
      by_cases h34 : c = 34
      · subst h34; rw [unq_quote] at h; injection h with h; injection h with _ h; omega
      by_cases hb : c < 32 ∨ 126 < c
      · rw [unq_bad h34 hb] at h; cases h
      by_cases h92 : c = 92
      · subst h92
        cases r with
        | nil => rw [unq_end] at h; cases h
        | cons d r2 =>
          simp only [List.length_cons] at hl ⊢
          by_cases hd : d = 34 ∨ d = 92
          · rw [unq_esc hd, Option.map_eq_some_iff] at h
            obtain ⟨p, hp, he⟩ := h
            have := ih r2 p.1 p.2 (by omega) hp
            injection he with _ he; omega
          by_cases hx : d = 120
          · subst hx
            match r2, h with
            | [], h => rw [unq_x0] at h; cases h
            | [x], h => rw [unq_x1] at h; cases h
            | x :: y :: r4, h =>
              simp only [List.length_cons] at hl ⊢
              cases hh : hex2 x y with
              | none => rw [unq_xbad hh] at h; cases h
              | some z =>
                rw [unq_x hh, Option.map_eq_some_iff] at h
                obtain ⟨p, hp, he⟩ := h
                have := ih r4 p.1 p.2 (by omega) hp
                injection he with _ he; omega
          · rw [unq_other hd hx] at h; cases h
      · rw [unq_plain h34 hb h92, Option.map_eq_some_iff] at h
        obtain ⟨p, hp, he⟩ := h
        have := ih r p.1 p.2 (by omega) hp
        injection he with _ he; omega
theorem word_index : ∀ l : List UInt8, Lib.indexAny l seps = if (word l).length = l.length then -1 else ((word l).length : Int)
  | [] => rfl
  | b :: l => by
    have ih := word_index l
    rw [Lib.indexAny]
    cases h : seps.contains b
    · have hw : word (b :: l) = b :: word l := by unfold word; rw [List.takeWhile_cons, h]; rfl
      rw [hw, ih]
      simp only [Bool.false_eq_true, if_false, List.length_cons]
      by_cases e : (word l).length = l.length
      · simp [e]
      · have h1 : ¬ (((word l).length : Int) == -1) = true := by rw [beq_iff_eq]; omega
        have h2 : ¬ (word l).length + 1 = l.length + 1 := by omega
        simp only [if_neg e, if_neg h1, if_neg h2]; push_cast; rfl
    · have hw : word (b :: l) = [] := by unfold word; rw [List.takeWhile_cons, h]; rfl
      rw [hw]
      simp
theorem word_le (l : List UInt8) : (word l).length ≤ l.length := (List.takeWhile_prefix _).length_le
theorem word_take (l : List UInt8) : word l = l.take (word l).length := (List.prefix_iff_eq_take.1 (List.takeWhile_prefix _))
theorem word_pos {c : UInt8} {l : List UInt8} (h : seps.contains c = false) : 1 ≤ (word (c :: l)).length := by
  unfold word; rw [List.takeWhile_cons, h]; simp

/-! ### the words of settings -/
def setIx (s : List UInt8) : Option Nat :=
  if s = [110, 111, 100, 101, 115] then some 0 else if s = [114, 101, 112, 108, 105, 99, 97, 115] then some 1 else if s = [98, 108, 111, 99, 107] then some 2 else if s = [114, 111, 111, 109] then some 3 else if s = [114, 111, 117, 110, 100, 115] then some 6 else none

end Go.Proofs.YtkdofgbjebpmoaaGreatDoor.Con
