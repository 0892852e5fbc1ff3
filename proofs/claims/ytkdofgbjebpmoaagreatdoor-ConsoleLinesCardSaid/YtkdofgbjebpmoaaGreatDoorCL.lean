/- A list of ninety-six values is written out. -/
import Derived.WalkKit
namespace Go.Proofs.YtkdofgbjebpmoaaGreatDoor
set_option linter.unusedVariables false
set_option linter.unusedSimpArgs false
theorem list_fn (L : List Value) (m : Nat) : L = (List.range L.length).map fun i => (fun j => L.getD (j - m) undef) (i + m) := by
  apply List.ext_getElem
  · simp
  · intro i h1 h2
    simp [List.getD_eq_getElem?_getD, h1]
set_option maxRecDepth 100000 in
theorem list96 (L : List Value) (h : L.length = 96) : ∃ f : Nat → Value, L = f 6 :: f 7 :: f 8 :: f 9 :: f 10 :: f 11 :: f 12 :: f 13 :: f 14 :: f 15 :: f 16 :: f 17 :: f 18 :: f 19 :: f 20 :: f 21 :: f 22 :: f 23 :: f 24 :: f 25 :: f 26 :: f 27 :: f 28 :: f 29 :: f 30 :: f 31 :: f 32 :: f 33 :: f 34 :: f 35 :: f 36 :: f 37 :: f 38 :: f 39 :: f 40 :: f 41 :: f 42 :: f 43 :: f 44 :: f 45 :: f 46 :: f 47 :: f 48 :: f 49 :: f 50 :: f 51 :: f 52 :: f 53 :: f 54 :: f 55 :: f 56 :: f 57 :: f 58 :: f 59 :: f 60 :: f 61 :: f 62 :: f 63 :: f 64 :: f 65 :: f 66 :: f 67 :: f 68 :: f 69 :: f 70 :: f 71 :: f 72 :: f 73 :: f 74 :: f 75 :: f 76 :: f 77 :: f 78 :: f 79 :: f 80 :: f 81 :: f 82 :: f 83 :: f 84 :: f 85 :: f 86 :: f 87 :: f 88 :: f 89 :: f 90 :: f 91 :: f 92 :: f 93 :: f 94 :: f 95 :: f 96 :: f 97 :: f 98 :: f 99 :: f 100 :: f 101 :: [] := by
  have := list_fn L 6
  rw [h] at this
  exact ⟨_, this⟩
end Go.Proofs.YtkdofgbjebpmoaaGreatDoor
