import Derived.Test.YtkdofgbjebpmoaaGreatDoorC15
import Derived.Test.YtkdofgbjebpmoaaGreatDoorC16
namespace Go.Proofs.YtkdofgbjebpmoaaGreatDoor
set_option linter.unusedVariables false
set_option linter.unusedSimpArgs false
open Go.RowKit Go.Proofs.YtkdofgbjebpmoaaGreatDoorW.PrintWords
/-- Parse answers what the plain parser of lines does. -/
theorem parse_any (s : ByteArray) (w : World) (hc : CT w) : Calls Tryz.prog 6 #[.string s] w (ParsePost s w) := by
  by_cases hbig : 1048576 < s.size
  · have hP : Hid (Con.parseL s.data.toList = .error (1, 0)) := Lib.hid (by unfold Con.parseL; rw [if_pos (by exact hbig)])
    have h1 : (1048576 : Int) < (s.size : Int) := by omega
    clear hbig
    go_enter Tryz.func6, Tryz.ntmps6
    go_wp2
    refine parse_ret rfl rfl (heap_alloc2_old w _ _) (heap_alloc2_new w _ _) rfl rfl ⟨below_alloc (below_alloc (Below.refl _ _) _) _, ?_⟩
    rw [hP.out]
    rfl
  · obtain ⟨init, last, hls, hcall⟩ := split_ex s (by omega)
    have hP : Con.parseL s.data.toList = Con.runB Con.script0 0 (Con.linesL s.data.toList) := by unfold Con.parseL; rw [if_neg (by exact hbig)]
    have h1 : (s.size : Int) ≤ 1048576 := by omega
    have h1d : decide ((1048576 : Int) < (s.size : Int)) = false := by simp; omega
    have e : Con.linesL s.data.toList = Con.trimEnd (init.map (·.data.toList) ++ [last.data.toList]) := by unfold Con.linesL; rw [← hls]; simp
    have e1 := Con.sumL_lnL s.data.toList
    rw [← hls] at e1
    have e2 : s.data.toList.length = s.size := rfl
    cases hbe : last.toList.isEmpty with
    | true =>
      have hl : Con.linesL s.data.toList = init.map (·.data.toList) := by
        rw [e]
        have : last.data.toList = [] := by rw [Lib.toList_data] at hbe; simpa using hbe
        unfold Con.trimEnd
        rw [this]; simp
      rw [hl] at hP
      rw [List.map_append, Con.sumL_append] at e1
      have hsum : Con.sumL (init.map (·.data.toList)) ≤ s.size + 1 := by omega
      have hN : init.length ≤ 1048577 := by have := Con.sumL_length (init.map (·.data.toList)); rw [List.length_map] at this; omega
      exact parse_t s w (Lib.hid hc) init.length (init ++ [last]) init last h1 h1d hbe (Lib.hid (by simp)) hcall
        (Lib.hid (fun i x hx => by rw [List.getElem?_append_left (List.getElem?_eq_some_iff.1 hx).1]; exact hx)) (Lib.hid hP) (Lib.hid hsum) hN hN (Lib.hid rfl)
    | false =>
      have hl : Con.linesL s.data.toList = (init ++ [last]).map (·.data.toList) := by
        rw [e]
        have : last.data.toList ≠ [] := by rw [Lib.toList_data] at hbe; simpa using hbe
        unfold Con.trimEnd
        rw [if_neg (by simpa using this)]; simp
      rw [hl] at hP
      have hsum : Con.sumL ((init ++ [last]).map (·.data.toList)) ≤ s.size + 1 := by omega
      have hlen : (init ++ [last]).length = init.length + 1 := by simp
      have hN : (init ++ [last]).length ≤ 1048577 := by have := Con.sumL_length ((init ++ [last]).map (·.data.toList)); rw [List.length_map] at this; omega
      exact parse_f s w (Lib.hid hc) (init.length + 1) (init ++ [last]) (init ++ [last]) last h1 h1d hbe (Lib.hid (by simp)) hcall (by omega)
        (Lib.hid (fun i x hx => hx)) (Lib.hid hP) (Lib.hid hsum) hN (by omega) (Lib.hid hlen.symm)
end Go.Proofs.YtkdofgbjebpmoaaGreatDoor
