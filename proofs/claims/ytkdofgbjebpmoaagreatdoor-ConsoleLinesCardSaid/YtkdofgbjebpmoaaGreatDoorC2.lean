import Derived.Test.YtkdofgbjebpmoaaGreatDoorC1
import Derived.Shelf.Strings.SlTrimAscii
namespace Go.Proofs.YtkdofgbjebpmoaaGreatDoor
set_option linter.unusedVariables false
set_option linter.unusedSimpArgs false
open Go.RowKit Go.Proofs.YtkdofgbjebpmoaaGreatDoorW.PrintWords

theorem cp_any (s p D : ByteArray) (b : Bool) (w : World) (hD : (⟨(Lib.trimPrefix s.data.toList p.data.toList).toArray⟩ : ByteArray) = D) (hb : Lib.hasPrefix s.data.toList p.data.toList = b) :
    Calls Tryz.prog 43 #[.string s, .string p] w fun e w' => e = .returned (.tuple #[.string D, .bool b]) ∧ w' = w := by
  rw [← hD, ← hb]; exact Tryz.strings_CutPrefix s p w
theorem trim_any (s T : ByteArray) (w : World) (hs : s.size ≤ 9223372036854775807) (hT : (⟨(Lib.trimS s.data.toList Con.digs).toArray⟩ : ByteArray) = T) :
    Calls Tryz.prog 44 #[.string s, .string ⟨#[48, 49, 50, 51, 52, 53, 54, 55, 56, 57]⟩] w fun e w' => e = .returned (.string T) ∧ Below w.heap.size w w' := by
  rw [← hT]; exact Any.strings_Trim_laid Tryz.lays160 (by kernel_rfl) s ⟨#[48, 49, 50, 51, 52, 53, 54, 55, 56, 57]⟩ w hs (by decide) (ascii_of_all (by decide))

theorem atoi_any (s : ByteArray) (n : Int) (w : World) (hl : s.size ≤ 18) (h : Lib.atoi s.data.toList = some n) :
    Calls Tryz.prog 45 #[.string s] w fun e w' => e = .returned (.tuple #[.int .i64 n, .nilIface]) ∧ Below w.heap.size w w' := by
  refine (Tryz.strconv_Atoi s n hl h w).mono ?_
  rintro e w' ⟨rfl, t, rfl⟩
  exact ⟨rfl, bytes_below (Below.refl _ _) (Nat.le_refl _) _ _⟩
theorem trimPrefix_len (l : List UInt8) (c : UInt8) : l.length ≤ (Lib.trimPrefix l [c]).length + 1 := by
  unfold Lib.trimPrefix
  split <;> simp
  omega
def NumPost (q : Bool) (s : ByteArray) (w : World) (e : Ending) (w' : World) : Prop :=
  e = .returned (match Con.numOf q s.data.toList with | some n => .tuple #[.int .i64 n, .bool true] | none => .tuple #[.int .i64 0, .bool false]) ∧ Below w.heap.size w w'
theorem NumPost.none {q : Bool} {s : ByteArray} {w w' : World} (hu : Con.numOf q s.data.toList = Option.none) (hb : Below w.heap.size w w') :
    NumPost q s w (.returned (.tuple #[.int .i64 0, .bool false])) w' := ⟨by rw [hu], hb⟩

set_option maxRecDepth 100000 in
set_option maxHeartbeats 1000000 in
theorem number_any (q : Bool) (s : ByteArray) (w : World) (hs : s.size ≤ 1073741824) :
    Calls Tryz.prog 23 #[.agg #[.string s, .bool q]] w (NumPost q s w) := by
  obtain ⟨D, hD⟩ : ∃ D, (⟨(Lib.trimPrefix s.data.toList (⟨#[45]⟩ : ByteArray).data.toList).toArray⟩ : ByteArray) = D := ⟨_, rfl⟩
  have hDl : Lib.trimPrefix s.data.toList [45] = D.data.toList := by rw [← hD]
  have HD := Lib.hid hD; clear hD
  cases q with
  | true =>
    have hn : Con.numOf true s.data.toList = none := by unfold Con.numOf; rw [if_pos (.inl rfl)]
    have HN := Lib.hid hn; clear hn hDl
    go_enter Tryz.func23, Tryz.ntmps23
    go_wp2_with (go_at_call 43; refine (cp_any _ _ _ _ _ HD.out rfl).mono ?_; rintro e w' ⟨rfl, rfl⟩)
    go_ret2
    exact NumPost.none HN.out (below_alloc (Below.refl _ _) _)
  | false =>
    have hnum : Con.numOf false s.data.toList = if D.data.toList = [] ∨ 9 < D.data.toList.length ∨ D.data.toList.all Con.isDig = false ∨ (D.data.toList.head? = some 48 ∧ s.data.toList ≠ [48]) then none else Lib.atoi s.data.toList := by
      unfold Con.numOf; rw [hDl]; simp
    have HNU := Lib.hid hnum; clear hnum
    have hsz : D.data.toList.length = D.size := by simp
    by_cases hd0 : D.data.toList = []
    · have e1 : D.toList.isEmpty = true := by rw [Lib.toList_data, hd0]; rfl
      have hn : Con.numOf false s.data.toList = none := by rw [HNU.out, if_pos (.inl hd0)]
      have HN := Lib.hid hn; clear hn hDl hd0 hsz
      go_enter Tryz.func23, Tryz.ntmps23
      go_wp2_with (go_at_call 43; refine (cp_any _ _ _ _ _ HD.out rfl).mono ?_; rintro e w' ⟨rfl, rfl⟩)
      go_ret2
      exact NumPost.none HN.out (below_alloc (Below.refl _ _) _)
    have e1 : D.toList.isEmpty = false := by rw [Lib.toList_data]; simpa using hd0
    by_cases hl9 : 9 < D.size
    · have hn : Con.numOf false s.data.toList = none := by rw [HNU.out, if_pos (.inr (.inl (by omega)))]
      have HN := Lib.hid hn; clear hn hDl hd0 hsz
      go_enter Tryz.func23, Tryz.ntmps23
      go_wp2_with (go_at_call 43; refine (cp_any _ _ _ _ _ HD.out rfl).mono ?_; rintro e w' ⟨rfl, rfl⟩)
      go_ret2
      exact NumPost.none HN.out (below_alloc (Below.refl _ _) _)
    obtain ⟨T, hT⟩ : ∃ T, (⟨(Lib.trimS D.data.toList Con.digs).toArray⟩ : ByteArray) = T := ⟨_, rfl⟩
    have hTl : Lib.trimS D.data.toList Con.digs = T.data.toList := by rw [← hT]
    have HT := Lib.hid hT; clear hT
    have hDs : D.size ≤ 9223372036854775807 := by omega
    by_cases hall : D.data.toList.all Con.isDig = true
    · have e2 : T.toList.isEmpty = true := by rw [Lib.toList_data, ← hTl, (Con.trimS_nil _).2 hall]; rfl
      have hpos : 0 < D.size := by
        rcases Nat.eq_zero_or_pos D.size with h | h
        · exact absurd (List.eq_nil_of_length_eq_zero (by omega)) hd0
        · exact h
      have hl18 : s.size ≤ 18 := by
        have h1 := trimPrefix_len s.data.toList 45
        rw [hDl] at h1
        have h2 : s.data.toList.length = s.size := by simp
        omega
      obtain ⟨n, hat⟩ := Con.atoi_dig (l := s.data.toList) (by rw [hDl]; exact hd0) (by rw [hDl]; exact hall)
      have hhead : D.data.toList.head? = some D[0] := by
        have := drop_at D 0 hpos
        rw [List.drop_zero] at this
        rw [this]; rfl
      by_cases h48 : D[0] = 48
      · have t1 : ((D[0].toNat : Int) == 48) = true := by rw [h48]; rfl
        by_cases hs0 : s.data.toList = [48]
        · have hn : Con.numOf false s.data.toList = some n := by
            rw [HNU.out, if_neg, hat]
            rintro (h | h | h | h)
            · exact hd0 h
            · omega
            · rw [hall] at h; cases h
            · exact h.2 hs0
          have e3 : (s.toList == [48]) = true := by rw [Lib.toList_data, hs0]; rfl
          have e4 : (s.toList != [48]) = false := by rw [Lib.toList_data, hs0]; rfl
          have HAT := Lib.hid hat; clear hat
          have HN := Lib.hid hn; clear hn hDl hd0 hsz hall hTl hhead h48 hs0
          go_enter Tryz.func23, Tryz.ntmps23
          go_wp2_with (first | (go_at_call 43; refine (cp_any _ _ _ _ _ HD.out rfl).mono ?_; rintro e w' ⟨rfl, rfl⟩) | (go_at_call 44; refine (trim_any _ _ _ hDs HT.out).mono ?_; rintro e w1 ⟨rfl, hb1⟩; have hc0 : w1.cell? ⟨w.heap.size, 0, none⟩ = some (.string s) := (hb1.cell (by simp)).trans (by simp)) | (go_at_call 45; refine (atoi_any _ n _ hl18 HAT.out).mono ?_; rintro e w2 ⟨rfl, hb2⟩))
          go_ret2
          exact ⟨by rw [HN.out]; rfl, below_then (below_then (below_alloc (Below.refl _ _) _) (by simp) hb1) (by have := hb1.size; simp at this; omega) hb2⟩
        · have hn : Con.numOf false s.data.toList = none := by
            rw [HNU.out, if_pos (.inr (.inr (.inr ⟨by rw [hhead, h48], hs0⟩)))]
          have e3 : (s.toList == [48]) = false := by rw [Lib.toList_data]; simpa using hs0
          have e4 : (s.toList != [48]) = true := by rw [Lib.toList_data]; simpa using hs0
          have HN := Lib.hid hn; clear hn hDl hd0 hsz hall hTl hhead h48 hs0 hat
          go_enter Tryz.func23, Tryz.ntmps23
          go_wp2_with (first | (go_at_call 43; refine (cp_any _ _ _ _ _ HD.out rfl).mono ?_; rintro e w' ⟨rfl, rfl⟩) | (go_at_call 44; refine (trim_any _ _ _ hDs HT.out).mono ?_; rintro e w1 ⟨rfl, hb1⟩; have hc0 : w1.cell? ⟨w.heap.size, 0, none⟩ = some (.string s) := (hb1.cell (by simp)).trans (by simp)))
          go_ret2
          exact NumPost.none HN.out (below_then (below_alloc (Below.refl _ _) _) (by simp) hb1)
      · have t1 : ((D[0].toNat : Int) == 48) = false := by
          rw [beq_eq_false_iff_ne]; intro h; exact h48 (u8_eq (n := 48) h (by decide))
        have hn : Con.numOf false s.data.toList = some n := by
          rw [HNU.out, if_neg, hat]
          rintro (h | h | h | h)
          · exact hd0 h
          · omega
          · rw [hall] at h; cases h
          · rw [hhead] at h; exact h48 (by simpa using h.1)
        have HAT := Lib.hid hat; clear hat
        have HN := Lib.hid hn; clear hn hDl hd0 hsz hall hTl hhead h48
        go_enter Tryz.func23, Tryz.ntmps23
        go_wp2_with (first | (go_at_call 43; refine (cp_any _ _ _ _ _ HD.out rfl).mono ?_; rintro e w' ⟨rfl, rfl⟩) | (go_at_call 44; refine (trim_any _ _ _ hDs HT.out).mono ?_; rintro e w1 ⟨rfl, hb1⟩; have hc0 : w1.cell? ⟨w.heap.size, 0, none⟩ = some (.string s) := (hb1.cell (by simp)).trans (by simp)) | (go_at_call 45; refine (atoi_any _ n _ hl18 HAT.out).mono ?_; rintro e w2 ⟨rfl, hb2⟩))
        go_ret2
        exact ⟨by rw [HN.out]; rfl, below_then (below_then (below_alloc (Below.refl _ _) _) (by simp) hb1) (by have := hb1.size; simp at this; omega) hb2⟩
    · have e2 : T.toList.isEmpty = false := by
        rw [Lib.toList_data, ← hTl]
        simpa using fun h => hall ((Con.trimS_nil _).1 h)
      have hn : Con.numOf false s.data.toList = none := by rw [HNU.out, if_pos (.inr (.inr (.inl (by simpa using hall))))]
      have HN := Lib.hid hn; clear hn hDl hd0 hsz hall hTl
      go_enter Tryz.func23, Tryz.ntmps23
      go_wp2_with (first | (go_at_call 43; refine (cp_any _ _ _ _ _ HD.out rfl).mono ?_; rintro e w' ⟨rfl, rfl⟩) | (go_at_call 44; refine (trim_any _ _ _ hDs HT.out).mono ?_; rintro e w' ⟨rfl, hb1⟩))
      go_ret2
      exact NumPost.none HN.out (below_then (below_alloc (Below.refl _ _) _) (by simp) hb1)

end Go.Proofs.YtkdofgbjebpmoaaGreatDoor
