/- How long the fields of a line are: no Go. -/
import Derived.Test.YtkdofgbjebpmoaaGreatDoorCPure3
namespace Go.Proofs.YtkdofgbjebpmoaaGreatDoor.Con
set_option linter.unusedVariables false
set_option linter.unusedSimpArgs false
theorem unq_len : ∀ (n : Nat) (l b : List UInt8) (m : Nat), l.length ≤ n → unq l = some (b, m) → b.length + 1 ≤ m := by
  intro n
  induction n with
  | zero =>
    intro l b m hl h
    obtain rfl : l = [] := List.eq_nil_of_length_eq_zero (by omega)
    rw [unq.eq_def] at h; cases h
  | succ n ih =>
    intro l b m hl h
    cases l with
    | nil => rw [unq.eq_def] at h; cases h
    | cons c r =>
      simp only [List.length_cons] at hl
      by_cases h34 : c = 34
      · subst h34; rw [unq_quote] at h; injection h with h; injection h with h1 h; subst h1; simp; omega
      by_cases hb : c < 32 ∨ 126 < c
      · rw [unq_bad h34 hb] at h; cases h
      by_cases h92 : c = 92
      · subst h92
        cases r with
        | nil => rw [unq_end] at h; cases h
        | cons d r2 =>
          simp only [List.length_cons] at hl
          by_cases hd : d = 34 ∨ d = 92
          · rw [unq_esc hd, Option.map_eq_some_iff] at h
            obtain ⟨p, hp, he⟩ := h
            have := ih r2 p.1 p.2 (by omega) hp
            injection he with h1 he; subst h1; simp; omega
          by_cases hx : d = 120
          · subst hx
            match r2, h with
            | [], h => rw [unq_x0] at h; cases h
            | [x], h => rw [unq_x1] at h; cases h
            | x :: y :: r4, h =>
              simp only [List.length_cons] at hl
              cases hh : hex2 x y with
              | none => rw [unq_xbad hh] at h; cases h
              | some z =>
                rw [unq_x hh, Option.map_eq_some_iff] at h
                obtain ⟨p, hp, he⟩ := h
                have := ih r4 p.1 p.2 (by omega) hp
                injection he with h1 he; subst h1; simp; omega
          · rw [unq_other hd hx] at h; cases h
      · rw [unq_plain h34 hb h92, Option.map_eq_some_iff] at h
        obtain ⟨p, hp, he⟩ := h
        have := ih r p.1 p.2 (by omega) hp
        injection he with h1 he; subst h1; simp; omega
theorem drop_sp (l : List UInt8) : (l.dropWhile (· == 32)).length ≤ l.length := (List.dropWhile_suffix _).length_le
theorem field_len {l r : List UInt8} {f : ByteArray × Bool} (h : fieldL l = .got f r) : f.1.size ≤ l.length ∧ r.length ≤ l.length := by
  have hd := drop_sp l
  unfold fieldL at h
  cases hl : l.dropWhile (· == 32) with
  | nil => rw [hl] at h; cases h
  | cons c t =>
    rw [hl] at h hd
    dsimp only at h
    simp only [List.length_cons] at hd
    by_cases hc : c = 34
    · rw [if_pos hc] at h
      cases hu : unq t with
      | none => rw [hu] at h; cases h
      | some p =>
        rw [hu] at h
        dsimp only at h
        have h1 := unq_le _ t p.1 p.2 (Nat.le_refl _) hu
        have h2 := unq_len _ t p.1 p.2 (Nat.le_refl _) hu
        split at h
        · injection h with h h3
          subst h h3
          have e : (ByteArray.mk p.1.toArray).size = p.1.length := by simp [ByteArray.size]
          exact ⟨by rw [e]; omega, by rw [List.length_drop]; omega⟩
        · cases h
    · rw [if_neg hc] at h
      split at h
      · cases h
      · injection h with h h3
        subst h h3
        have hw := word_le (c :: t)
        have e : (ByteArray.mk (word (c :: t)).toArray).size = (word (c :: t)).length := by simp [ByteArray.size]
        simp only [List.length_cons] at hw
        refine ⟨by rw [e]; omega, ?_⟩
        rw [List.length_drop, List.length_cons]; omega
theorem cutF_size : ∀ (n : Nat) (l : List UInt8) (fs : List Fld), cutF n l = some fs → ∀ p ∈ fs, p.1.size ≤ l.length
  | 0, _, _, h => by cases h
  | n + 1, l, fs, h => by
    rw [cutF] at h
    cases hf : fieldL l with
    | fin => rw [hf] at h; injection h with h; subst h; intro p hp; cases hp
    | bad => rw [hf] at h; cases h
    | got f r =>
      rw [hf] at h
      dsimp only at h
      rw [Option.map_eq_some_iff] at h
      obtain ⟨fs2, h2, rfl⟩ := h
      have hl := field_len hf
      intro p hp
      rcases List.mem_cons.1 hp with rfl | hp
      · exact hl.1
      · exact Nat.le_trans (cutF_size n r fs2 h2 p hp) hl.2
theorem cutL_size {l : List UInt8} {fs : List Fld} (h : cutL l = some fs) : ∀ p ∈ fs, p.1.size ≤ l.length := cutF_size _ _ _ h
end Go.Proofs.YtkdofgbjebpmoaaGreatDoor.Con
