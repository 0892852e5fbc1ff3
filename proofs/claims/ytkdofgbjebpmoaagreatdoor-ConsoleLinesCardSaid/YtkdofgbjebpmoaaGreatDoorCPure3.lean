/- The lines of a text; how a run over lines shifts and grows: no Go. -/
import Derived.Lib.SplitLaws
import Derived.Test.YtkdofgbjebpmoaaGreatDoorCPure2
namespace Go.Proofs.YtkdofgbjebpmoaaGreatDoor.Con
set_option linter.unusedVariables false
set_option linter.unusedSimpArgs false
open Go.Lib
def lnL : List UInt8 → List (List UInt8)
  | [] => [[]]
  | b :: l => if b = 10 then [] :: lnL l else match lnL l with
    | [] => [[b]]
    | x :: r => (b :: x) :: r
theorem lnL_ne : ∀ l, lnL l ≠ []
  | [] => by simp [lnL]
  | b :: l => by
    unfold lnL
    split
    · simp
    · split <;> simp
theorem index_ten (b : UInt8) (l : List UInt8) : index (b :: l) [10] = if b = 10 then 0 else if index l [10] == -1 then -1 else index l [10] + 1 := by
  rw [index]
  by_cases h : b = 10
  · subst h; simp [List.isPrefixOf]
  · have hp : ([10] : List UInt8).isPrefixOf (b :: l) = false := by simp [List.isPrefixOf, Ne.symm h]
    rw [hp]; simp [h]
theorem split_lnL : ∀ s : List UInt8, splitK [10] 0 (count s [10]) s = lnL s
  | [] => by
    rw [count_miss (by simp [index])]; rfl
  | b :: l => by
    have ih := split_lnL l
    have hi := index_ten b l
    by_cases h : b = 10
    · subst h
      rw [if_pos rfl] at hi
      rw [count_cons_eq, Nat.add_comm]
      unfold splitK lnL
      rw [hi, if_neg (by decide), if_pos rfl]
      simpa using ih
    · rw [if_neg h] at hi
      rw [count_cons_ne b 10 l h]
      unfold lnL
      rw [if_neg h, ← ih]
      by_cases hm : index l [10] = -1
      · rw [count_miss hm]
        rfl
      · have hge := index_ge l [10]
        obtain ⟨j, hj⟩ : ∃ j : Nat, index l [10] = j := ⟨(index l [10]).toNat, by omega⟩
        rw [count_hit (by simp) hj, Nat.add_comm]
        rw [hj, if_neg (by rw [beq_iff_eq]; omega)] at hi
        unfold splitK
        have e1 : ¬ ((index (b :: l) [10] == -1) = true) := by rw [hi, beq_iff_eq]; omega
        have e2 : ¬ ((index l [10] == -1) = true) := by rw [hj, beq_iff_eq]; omega
        rw [if_neg e1, if_neg e2, hi, hj]
        have e3 : ((j : Int) + 1).toNat = j + 1 := by omega
        simp [e3]
theorem lnL_count (l : List UInt8) : (lnL l).length = count l [10] + 1 := by
  rw [← split_lnL]
  generalize hk : count l [10] = k
  induction k generalizing l with
  | zero => rfl
  | succ k ih =>
    have hge := index_ge l [10]
    by_cases hm : index l [10] = -1
    · rw [count_miss hm] at hk; cases hk
    · obtain ⟨j, hj⟩ : ∃ j : Nat, index l [10] = j := ⟨(index l [10]).toNat, by omega⟩
      have hc := count_hit (sub := [10]) (by simp) hj
      unfold splitK
      rw [hj, if_neg (by rw [beq_iff_eq]; omega), List.length_cons]
      have e : ((j : Int)).toNat = j := by omega
      rw [e]
      rw [ih _ (by omega)]
def sumL : List (List UInt8) → Nat
  | [] => 0
  | x :: r => x.length + 1 + sumL r
theorem sumL_lnL : ∀ l, sumL (lnL l) = l.length + 1
  | [] => rfl
  | b :: l => by
    have ih := sumL_lnL l
    unfold lnL
    split
    · simp [sumL, ih]; omega
    · cases h : lnL l with
      | nil => exact absurd h (lnL_ne l)
      | cons x r =>
        rw [h] at ih
        simp [sumL] at ih ⊢; omega
theorem lnL_pad (k : Nat) (t : List UInt8) : lnL (List.replicate k 10 ++ t) = List.replicate k [] ++ lnL t := by
  induction k with
  | zero => rfl
  | succ k ih => rw [List.replicate_succ, List.cons_append, lnL, if_pos rfl, ih]; rfl
/-- The lines of a script: a last empty one is none. -/
def trimEnd (l : List (List UInt8)) : List (List UInt8) := if l.getLast? = some [] then l.dropLast else l
def linesL (t : List UInt8) : List (List UInt8) := trimEnd (lnL t)
theorem trimEnd_append (a b : List (List UInt8)) (h : b ≠ []) : trimEnd (a ++ b) = a ++ trimEnd b := by
  unfold trimEnd
  have e : (a ++ b).getLast? = b.getLast? := by
    rw [List.getLast?_append]
    cases hb : b.getLast? with
    | none => exact absurd (List.getLast?_eq_none_iff.1 hb) h
    | some x => rfl
  rw [e]
  split
  · rw [List.dropLast_append_of_ne_nil h]
  · rfl
theorem linesL_pad (k : Nat) (t : List UInt8) : linesL (List.replicate k 10 ++ t) = List.replicate k [] ++ linesL t := by
  unfold linesL
  rw [lnL_pad, trimEnd_append _ _ (lnL_ne t)]
theorem sumL_append (a b : List (List UInt8)) : sumL (a ++ b) = sumL a + sumL b := by
  induction a with
  | nil => simp [sumL]
  | cons x a ih => simp [sumL, ih]; omega
theorem sumL_length : ∀ a : List (List UInt8), a.length ≤ sumL a
  | [] => Nat.le_refl _
  | x :: a => by have := sumL_length a; simp [sumL]; omega
/-- The run, over lists. -/
def runB (st : ScriptL) (i : Nat) : List (List UInt8) → Except (Int × Int) ScriptL
  | [] => .ok st
  | l :: ls => match stepL st l with
    | .ok st' => runB st' (i + 1) ls
    | .error c => .error (c, (i : Int) + 1)
theorem step_empty (st : ScriptL) : stepL st [] = .ok st := by
  have h : cutL [] = some [] := by kernel_rfl
  unfold stepL
  rw [if_neg (by simp), h]
theorem runB_pad (st : ScriptL) (k : Nat) : ∀ (i : Nat) (ls : List (List UInt8)), runB st i (List.replicate k [] ++ ls) = runB st (i + k) ls := by
  induction k with
  | zero => intro i ls; rfl
  | succ k ih =>
    intro i ls
    rw [List.replicate_succ, List.cons_append, runB, step_empty]
    dsimp only
    rw [ih]
    congr 1
    omega
theorem runB_shift (k : Nat) : ∀ (ls : List (List UInt8)) (st : ScriptL) (i : Nat), runB st (i + k) ls = match runB st i ls with
    | .ok st' => .ok st'
    | .error (c, n) => .error (c, n + k)
  | [], st, i => rfl
  | l :: ls, st, i => by
    rw [runB, runB]
    cases stepL st l with
    | ok st' =>
      dsimp only
      rw [Nat.add_right_comm]
      exact runB_shift k ls st' (i + 1)
    | error c => dsimp only; congr 2; omega
theorem runB_line : ∀ (ls : List (List UInt8)) (st : ScriptL) (i : Nat) (c n : Int), runB st i ls = .error (c, n) → 1 ≤ n ∧ n ≤ (i : Int) + ls.length
  | [], st, i, c, n, h => by cases h
  | l :: ls, st, i, c, n, h => by
    rw [runB] at h
    cases hs : stepL st l with
    | ok st' =>
      rw [hs] at h
      have := runB_line ls st' (i + 1) c n h
      simp; omega
    | error c' =>
      rw [hs] at h
      injection h with h; injection h with h1 h2
      simp; omega
theorem nums_length : ∀ (a : List Fld) (l : List Int), numsL a = some l → l.length = a.length
  | [], l, h => by injection h with h; subst h; rfl
  | f :: a, l, h => by
    simp only [numsL] at h
    cases hf : fnum f with
    | none => rw [hf] at h; cases h
    | some n =>
      rw [hf] at h
      simp only [Option.map_eq_some_iff] at h
      obtain ⟨l2, h2, rfl⟩ := h
      simp [nums_length a l2 h2]
theorem setNum_same (st : ScriptL) (i : Nat) (n : Int) : (setNum st i n).acts = st.acts ∧ (setNum st i n).choices = st.choices := by
  unfold setNum
  split <;> exact ⟨rfl, rfl⟩
theorem lineL_grow {st st' : ScriptL} {f : Fld} {rest : List Fld} (h : lineL st f rest = .ok st') (k : Nat) (ha : ∀ l ∈ st.acts, l.length ≤ k) :
    st'.choices.length ≤ st.choices.length + rest.length ∧ st'.acts.length ≤ st.acts.length + 1 ∧ ∀ l ∈ st'.acts, l.length ≤ k + 1 := by
  have same : ∀ st2 : ScriptL, st2.acts = st.acts → st2.choices = st.choices → st2 = st' → st'.choices.length ≤ st.choices.length + rest.length ∧ st'.acts.length ≤ st.acts.length + 1 ∧ ∀ l ∈ st'.acts, l.length ≤ k + 1 := by
    rintro st2 h1 h2 rfl
    rw [h1, h2]
    exact ⟨by omega, by omega, fun l hl => Nat.le_succ_of_le (ha l hl)⟩
  unfold lineL at h
  split at h
  · cases h
  · split at h
    · split at h
      · split at h
        · injection h with h
          exact same _ (setNum_same _ _ _).1 (setNum_same _ _ _).2 h
        · cases h
      · cases h
    · split at h
      · split at h
        · cases h
        · split at h
          · injection h with h
            subst h
            refine ⟨by simp, by simp, fun l hl => ?_⟩
            rcases List.mem_append.1 hl with hl | hl
            · exact Nat.le_succ_of_le (ha l hl)
            · rw [List.mem_singleton] at hl; subst hl; simp
          · injection h with h
            exact same { st with flips := true } rfl rfl h
      · split at h
        · unfold chooseL at h
          cases hn : numsL rest with
          | none => rw [hn] at h; cases h
          | some l =>
            rw [hn] at h
            dsimp only at h
            split at h
            · cases h
            · injection h with h
              subst h
              refine ⟨?_, by simp, fun l hl => Nat.le_succ_of_le (ha l hl)⟩
              simp [nums_length _ _ hn]
        · unfold actL at h
          split at h
          · cases h
          · split at h
            · cases h
            · rename_i v _ a _
              split at h
              · cases h
              · injection h with h
                subst h
                refine ⟨by simp, by simp [addAct], fun l hl => ?_⟩
                rcases List.mem_or_eq_of_mem_set hl with hl | hl
                · exact Nat.le_succ_of_le (ha l hl)
                · subst hl
                  by_cases hm : st.acts.getD (st.acts.length - 1) [] ∈ st.acts
                  · have := ha _ hm
                    simp only [List.length_append, List.length_singleton]; omega
                  · have : st.acts.getD (st.acts.length - 1) [] = [] := by
                      rw [List.getD_eq_getElem?_getD]
                      cases hg : st.acts[st.acts.length - 1]? with
                      | none => rfl
                      | some x =>
                        exfalso
                        apply hm
                        rw [List.getD_eq_getElem?_getD, hg]
                        exact List.mem_of_getElem? hg
                    rw [this]; simp
/-- What Parse answers. -/
def parseL (t : List UInt8) : Except (Int × Int) ScriptL := if 1048576 < t.length then .error (1, 0) else runB script0 0 (linesL t)
end Go.Proofs.YtkdofgbjebpmoaaGreatDoor.Con
