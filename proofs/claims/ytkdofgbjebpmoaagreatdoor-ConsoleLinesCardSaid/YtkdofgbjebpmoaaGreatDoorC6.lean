import Derived.Test.YtkdofgbjebpmoaaGreatDoorC5
import Derived.Test.YtkdofgbjebpmoaaGreatDoorWApart
namespace Go.Proofs.YtkdofgbjebpmoaaGreatDoor
set_option linter.unusedVariables false
set_option linter.unusedSimpArgs false
open Go.RowKit Go.Proofs.YtkdofgbjebpmoaaGreatDoorW.PrintWords

set_option maxHeartbeats 1000000 in
theorem setting_any (g : Nat) (s : ByteArray) (w : World) :
    Calls Tryz.prog 22 #[.pointer (some ⟨g, 0, none⟩), .string s] w fun e w' => e = .returned (.pointer ((Con.setIx s.data.toList).map fun i => ⟨g, i, none⟩)) ∧ w' = w := by
  by_cases h0 : s.data.toList = [110, 111, 100, 101, 115]
  · have e0 : (s.toList == [110, 111, 100, 101, 115]) = true := by rw [Lib.toList_data, h0]; rfl
    have HR : Hid (Con.setIx s.data.toList = some 0) := Lib.hid (by unfold Con.setIx; rw [if_pos h0])
    clear h0
    go_enter Tryz.func22, Tryz.ntmps22
    go_wp2
    go_ret
    exact ⟨by rw [HR.out]; rfl, rfl⟩
  have e0 : (s.toList == [110, 111, 100, 101, 115]) = false := by rw [Lib.toList_data]; simpa using h0
  by_cases h1 : s.data.toList = [114, 101, 112, 108, 105, 99, 97, 115]
  · have e1 : (s.toList == [114, 101, 112, 108, 105, 99, 97, 115]) = true := by rw [Lib.toList_data, h1]; rfl
    have HR : Hid (Con.setIx s.data.toList = some 1) := Lib.hid (by unfold Con.setIx; rw [if_neg h0, if_pos h1])
    clear h0 h1
    go_enter Tryz.func22, Tryz.ntmps22
    go_wp2
    go_ret
    exact ⟨by rw [HR.out]; rfl, rfl⟩
  have e1 : (s.toList == [114, 101, 112, 108, 105, 99, 97, 115]) = false := by rw [Lib.toList_data]; simpa using h1
  by_cases h2 : s.data.toList = [98, 108, 111, 99, 107]
  · have e2 : (s.toList == [98, 108, 111, 99, 107]) = true := by rw [Lib.toList_data, h2]; rfl
    have HR : Hid (Con.setIx s.data.toList = some 2) := Lib.hid (by unfold Con.setIx; rw [if_neg h0, if_neg h1, if_pos h2])
    clear h0 h1 h2
    go_enter Tryz.func22, Tryz.ntmps22
    go_wp2
    go_ret
    exact ⟨by rw [HR.out]; rfl, rfl⟩
  have e2 : (s.toList == [98, 108, 111, 99, 107]) = false := by rw [Lib.toList_data]; simpa using h2
  by_cases h3 : s.data.toList = [114, 111, 111, 109]
  · have e3 : (s.toList == [114, 111, 111, 109]) = true := by rw [Lib.toList_data, h3]; rfl
    have HR : Hid (Con.setIx s.data.toList = some 3) := Lib.hid (by unfold Con.setIx; rw [if_neg h0, if_neg h1, if_neg h2, if_pos h3])
    clear h0 h1 h2 h3
    go_enter Tryz.func22, Tryz.ntmps22
    go_wp2
    go_ret
    exact ⟨by rw [HR.out]; rfl, rfl⟩
  have e3 : (s.toList == [114, 111, 111, 109]) = false := by rw [Lib.toList_data]; simpa using h3
  by_cases h4 : s.data.toList = [114, 111, 117, 110, 100, 115]
  · have e4 : (s.toList == [114, 111, 117, 110, 100, 115]) = true := by rw [Lib.toList_data, h4]; rfl
    have HR : Hid (Con.setIx s.data.toList = some 6) := Lib.hid (by unfold Con.setIx; rw [if_neg h0, if_neg h1, if_neg h2, if_neg h3, if_pos h4])
    clear h0 h1 h2 h3 h4
    go_enter Tryz.func22, Tryz.ntmps22
    go_wp2
    go_ret
    exact ⟨by rw [HR.out]; rfl, rfl⟩
  have e4 : (s.toList == [114, 111, 117, 110, 100, 115]) = false := by rw [Lib.toList_data]; simpa using h4
  have HR : Hid (Con.setIx s.data.toList = none) := Lib.hid (by unfold Con.setIx; rw [if_neg h0, if_neg h1, if_neg h2, if_neg h3, if_neg h4])
  clear h0 h1 h2 h3 h4
  go_enter Tryz.func22, Tryz.ntmps22
  go_wp2
  go_ret
  exact ⟨by rw [HR.out]; rfl, rfl⟩

end Go.Proofs.YtkdofgbjebpmoaaGreatDoor
