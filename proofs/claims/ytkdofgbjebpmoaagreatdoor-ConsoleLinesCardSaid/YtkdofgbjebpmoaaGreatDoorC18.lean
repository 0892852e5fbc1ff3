import Derived.Test.YtkdofgbjebpmoaaGreatDoorC17
import Derived.LoopTactic
namespace Go.Proofs.YtkdofgbjebpmoaaGreatDoor
set_option linter.unusedVariables false
set_option linter.unusedSimpArgs false
open Go.RowKit Go.Proofs.YtkdofgbjebpmoaaGreatDoorW.PrintWords
def p1 : List UInt8 := [110, 111, 100, 101, 115, 32, 49, 10, 99, 108, 105, 101, 110, 116, 10, 109, 107, 100, 105, 114, 32, 47, 97, 10]
def p2 : List UInt8 := [109, 107, 100, 105, 114, 32, 47, 97, 10]
def st1 : ScriptL := { Con.script0 with nodes := 1, acts := [[{ Con.act0 1 with path := ⟨#[47, 97]⟩ }]] }
theorem parse_p1 : Con.parseL p1 = .ok st1 := by kernel_rfl
theorem parse_p2 : Con.parseL p2 = .error (3, 1) := by kernel_rfl
theorem parse_ok (s : ByteArray) (w : World) (hc : CT w) {st : ScriptL} (h : Con.parseL s.data.toList = .ok st) :
    Calls Tryz.prog 6 #[.string s] w fun e w' => ∃ va vc, e = .returned (.tuple #[scV va vc st, .agg #[.int .i64 0, .int .i64 0]]) ∧ Kd.S kActs 41 w' w.heap.size (fun _ => True) va st.acts ∧ Kd.R kI 3 w' w.heap.size (fun _ => True) vc st.choices ∧ Below w.heap.size w w' :=
  (parse_any s w hc).mono fun e w' hp => by
    obtain ⟨hb, hp⟩ := hp
    rw [h] at hp
    obtain ⟨va, vc, h1, h2, h3⟩ := hp
    exact ⟨va, vc, h1, h2, h3, hb⟩
theorem parse_er (s : ByteArray) (w : World) (hc : CT w) {c n : Int} (h : Con.parseL s.data.toList = .error (c, n)) :
    Calls Tryz.prog 6 #[.string s] w fun e w' => e = .returned (.tuple #[zeroV, .agg #[.int .i64 c, .int .i64 n]]) ∧ Below w.heap.size w w' :=
  (parse_any s w hc).mono fun e w' hp => by
    obtain ⟨hb, hp⟩ := hp
    rw [h] at hp
    exact ⟨hp, hb⟩
/-- The one act of one client, as it lies in memory. -/
theorem one_act {w : World} {base : Nat} {ok : Nat → Prop} {va : Value} {a : ActL} (h : Kd.S kActs 41 w base ok va [[a]]) :
    ∃ g1 c1 g2 c2, va = .slice (some ⟨g1, 0, none⟩) 1 c1 ∧ w.cell? ⟨g1, 0, none⟩ = some (.slice (some ⟨g2, 0, none⟩) 1 c2) ∧ w.cell? ⟨g2, 1, none⟩ = some (.string a.path) := by
  obtain ⟨g1, c1, rfl, _⟩ := Kd.S_form h (by simp)
  obtain ⟨c, _, hM, hc⟩ := Kd.S_get h [] 0 (by decide) (by simp)
  obtain ⟨v, rfl, hR⟩ := hM
  have hR : Kd.R kAct 46 w base _ v [a] := hR
  obtain ⟨g2, c2, rfl, _⟩ := Kd.R_form hR (by simp)
  obtain ⟨c', _, hM', hc'⟩ := Kd.R_getA hR a 0 (by decide) (by simp)
  refine ⟨g1, c1, g2, c2, rfl, by simpa [add_plain] using hc 0 _ rfl, ?_⟩
  obtain ⟨x0, y0, rfl, h0, x1, y1, rfl, h1, _⟩ := hM'
  have h0 : x0 = [.int .i64 a.kind] := h0
  have h1 : x1 = [.string a.path] := h1
  subst h0 h1
  simpa [add_plain] using hc' 1 _ rfl
theorem speak_1 (w : World) (hc : CT w) :
    Calls Tryz.prog 6 #[.string ⟨#[110, 111, 100, 101, 115, 32, 49, 10, 99, 108, 105, 101, 110, 116, 10, 109, 107, 100, 105, 114, 32, 47, 97, 10]⟩] w fun e w' => ∃ g1 c1 g2 c2 A5 c5, e = .returned (.tuple #[.agg #[.int .i64 1, .int .i64 0, .int .i64 0, .int .i64 0, .slice (some ⟨g1, 0, none⟩) 1 c1, .slice A5 0 c5, .int .i64 0, .bool false], .agg #[.int .i64 0, .int .i64 0]]) ∧
      w'.cell? ⟨g1, 0, none⟩ = some (.slice (some ⟨g2, 0, none⟩) 1 c2) ∧ w'.cell? ⟨g2, 1, none⟩ = some (.string ⟨#[47, 97]⟩) ∧ Below w.heap.size w w' :=
  (parse_ok _ w hc (st := st1) parse_p1).mono fun e w' ⟨va, vc, he, hS, hR, hb⟩ => by
    obtain ⟨g1, c1, g2, c2, rfl, h1, h2⟩ := one_act hS
    obtain ⟨A5, c5, rfl⟩ := Kd.R_slice hR
    exact ⟨g1, c1, g2, c2, A5, c5, he, h1, h2, hb⟩
theorem speak_2 (w : World) (hc : CT w) :
    Calls Tryz.prog 6 #[.string ⟨#[109, 107, 100, 105, 114, 32, 47, 97, 10]⟩] w fun e w' => e = .returned (.tuple #[.agg #[.int .i64 0, .int .i64 0, .int .i64 0, .int .i64 0, .slice none 0 0, .slice none 0 0, .int .i64 0, .bool false], .agg #[.int .i64 3, .int .i64 1]]) ∧ Below w.heap.size w w' :=
  parse_er _ w hc (c := 3) (n := 1) parse_p2
set_option maxRecDepth 100000 in
set_option maxHeartbeats 1000000 in
theorem speaks_any (w : World) (hc : CT w) : Calls Tryz.prog 5 #[] w fun e w' => e = .returned (.bool true) ∧ Below w.heap.size w w' := by
  have HC := Lib.hid hc
  clear hc
  go_enter Tryz.func5, Tryz.ntmps5
  go_wp2_with fail
  refine (speak_1 _ HC.out).mono ?_
  rintro e w1 ⟨g1, c1, g2, c2, A5, c5, rfl, h1, h2, hb1⟩
  have H1 := Lib.hid h1; have H2 := Lib.hid h2; have HB1 := Lib.hid hb1
  clear h1 h2 hb1
  go_wp2_with fail
  have hb2 := below_then HB1.out HB1.out.size (below_alloc (below_alloc (Below.refl w1.heap.size w1) (.cells #[.int .i64 1, .int .i64 0, .int .i64 0, .int .i64 0, .slice (some ⟨g1, 0, none⟩) 1 c1, .slice A5 0 c5, .int .i64 0, .bool false] 26)) (.cells #[.int .i64 0, .int .i64 0] 29))
  have HB2 := Lib.hid hb2
  clear hb2
  refine (speak_2 _ (HC.out.below HB2.out)).mono ?_
  rintro e w2 ⟨rfl, hb3⟩
  have G1 := Lib.hid (blk_below (heap_alloc2_old w1 (.cells #[.int .i64 1, .int .i64 0, .int .i64 0, .int .i64 0, .slice (some ⟨g1, 0, none⟩) 1 c1, .slice A5 0 c5, .int .i64 0, .bool false] 26) (.cells #[.int .i64 0, .int .i64 0] 29)) hb3)
  have G2 := Lib.hid (blk_below (heap_alloc2_new w1 (.cells #[.int .i64 1, .int .i64 0, .int .i64 0, .int .i64 0, .slice (some ⟨g1, 0, none⟩) 1 c1, .slice A5 0 c5, .int .i64 0, .bool false] 26) (.cells #[.int .i64 0, .int .i64 0] 29)) hb3)
  have k0 : ((w2.alloc (.cells #[.int .i64 0, .int .i64 0, .int .i64 0, .int .i64 0, .slice none 0 0, .slice none 0 0, .int .i64 0, .bool false] 26)).alloc (.cells #[.int .i64 3, .int .i64 1] 29)).cell? ⟨w1.heap.size, 0, none⟩ = some (.int .i64 1) := (blk_cell (blk_alloc (blk_alloc G1.out _) _) 0).trans rfl
  have k4 : ((w2.alloc (.cells #[.int .i64 0, .int .i64 0, .int .i64 0, .int .i64 0, .slice none 0 0, .slice none 0 0, .int .i64 0, .bool false] 26)).alloc (.cells #[.int .i64 3, .int .i64 1] 29)).cell? ⟨w1.heap.size, 4, none⟩ = some (.slice (some ⟨g1, 0, none⟩) 1 c1) := (blk_cell (blk_alloc (blk_alloc G1.out _) _) 4).trans rfl
  have f0 : ((w2.alloc (.cells #[.int .i64 0, .int .i64 0, .int .i64 0, .int .i64 0, .slice none 0 0, .slice none 0 0, .int .i64 0, .bool false] 26)).alloc (.cells #[.int .i64 3, .int .i64 1] 29)).cell? ⟨w1.heap.size + 1, 0, none⟩ = some (.int .i64 0) := (blk_cell (blk_alloc (blk_alloc G2.out _) _) 0).trans rfl
  have f1 : ((w2.alloc (.cells #[.int .i64 0, .int .i64 0, .int .i64 0, .int .i64 0, .slice none 0 0, .slice none 0 0, .int .i64 0, .bool false] 26)).alloc (.cells #[.int .i64 3, .int .i64 1] 29)).cell? ⟨w1.heap.size + 1, 1, none⟩ = some (.int .i64 0) := (blk_cell (blk_alloc (blk_alloc G2.out _) _) 1).trans rfl
  have e0 : ((w2.alloc (.cells #[.int .i64 0, .int .i64 0, .int .i64 0, .int .i64 0, .slice none 0 0, .slice none 0 0, .int .i64 0, .bool false] 26)).alloc (.cells #[.int .i64 3, .int .i64 1] 29)).cell? ⟨w2.heap.size + 1, 0, none⟩ = some (.int .i64 3) := (blk_cell (heap_alloc2_new w2 _ _) 0).trans rfl
  have e1 : ((w2.alloc (.cells #[.int .i64 0, .int .i64 0, .int .i64 0, .int .i64 0, .slice none 0 0, .slice none 0 0, .int .i64 0, .bool false] 26)).alloc (.cells #[.int .i64 3, .int .i64 1] 29)).cell? ⟨w2.heap.size + 1, 1, none⟩ = some (.int .i64 1) := (blk_cell (heap_alloc2_new w2 _ _) 1).trans rfl
  have hz : w1.heap.size + 1 + 1 ≤ w2.heap.size := by have := hb3.size; simpa using this
  have a1 : w2.cell? ⟨g1, 0, none⟩ = some (.slice (some ⟨g2, 0, none⟩) 1 c2) := cell_below (cell_below H1.out (below_alloc (below_alloc (Below.refl w1.heap.size w1) _) _)) hb3
  have a2 : w2.cell? ⟨g2, 1, none⟩ = some (.string ⟨#[47, 97]⟩) := cell_below (cell_below H2.out (below_alloc (below_alloc (Below.refl w1.heap.size w1) _) _)) hb3
  have b1 := cell_below a1 (below_alloc (below_alloc (Below.refl w2.heap.size w2) (.cells #[.int .i64 0, .int .i64 0, .int .i64 0, .int .i64 0, .slice none 0 0, .slice none 0 0, .int .i64 0, .bool false] 26)) (.cells #[.int .i64 3, .int .i64 1] 29))
  have b2 := cell_below a2 (below_alloc (below_alloc (Below.refl w2.heap.size w2) (.cells #[.int .i64 0, .int .i64 0, .int .i64 0, .int .i64 0, .slice none 0 0, .slice none 0 0, .int .i64 0, .bool false] 26)) (.cells #[.int .i64 3, .int .i64 1] 29))
  have HB3 := Lib.hid hb3
  clear hb3 a1 a2
  go_wp2_with fail
  go_ret
  refine ⟨rfl, ?_⟩
  have hB : w.heap.size ≤ w2.heap.size := by have h1 := HB2.out.size; simp at h1; omega
  exact below_then (below_then HB2.out HB2.out.size HB3.out) hB (below_alloc (below_alloc (Below.refl w2.heap.size w2) _) _)

/-! ### ConsoleLines -/
def resL (r : Except (Int × Int) ScriptL) : Int × Int := match r with | .ok _ => (0, 0) | .error x => x
theorem parse_res (s : ByteArray) (w : World) (hc : CT w) {c n : Int} (h : resL (Con.parseL s.data.toList) = (c, n)) :
    Calls Tryz.prog 6 #[.string s] w fun e w' => ∃ n0 n1 n2 n3 A4 m4 c4 A5 m5 c5 n6 b, e = .returned (.tuple #[.agg #[.int .i64 n0, .int .i64 n1, .int .i64 n2, .int .i64 n3, .slice A4 m4 c4, .slice A5 m5 c5, .int .i64 n6, .bool b], .agg #[.int .i64 c, .int .i64 n]]) ∧ Below w.heap.size w w' :=
  (parse_any s w hc).mono fun e w' hp => by
    obtain ⟨hb, hp⟩ := hp
    cases hr : Con.parseL s.data.toList with
    | ok st =>
      rw [hr] at hp h
      obtain ⟨va, vc, h1, h2, h3⟩ := hp
      obtain ⟨A4, c4, rfl⟩ := Kd.S_slice h2
      obtain ⟨A5, c5, rfl⟩ := Kd.R_slice h3
      obtain ⟨rfl, rfl⟩ : c = 0 ∧ n = 0 := by injection h with h1 h2; exact ⟨h1.symm, h2.symm⟩
      exact ⟨_, _, _, _, _, _, _, _, _, _, _, _, h1, hb⟩
    | error x =>
      rw [hr] at hp h
      obtain ⟨c', n'⟩ := x
      obtain ⟨rfl, rfl⟩ : c' = c ∧ n' = n := by injection h with h1 h2; exact ⟨h1, h2⟩
      exact ⟨_, _, _, _, _, _, _, _, _, _, _, _, hp, hb⟩
def nl (k : Nat) : ByteArray := ⟨(List.replicate k 10).toArray⟩
theorem nl_succ (k : Nat) : nl k ++ ⟨#[10]⟩ = nl (k + 1) := by
  apply ByteArray.ext
  rw [ByteArray.data_append]
  apply Array.ext'
  simp [nl, List.replicate_succ']
theorem nl_size (k : Nat) : (nl k).size = k := by simp [nl, ByteArray.size]
theorem nl_pad (k : Nat) (t : ByteArray) : (nl k ++ t).data.toList = List.replicate k 10 ++ t.data.toList := by
  rw [ByteArray.data_append]; simp [nl]
/-- A fault is told in its line, however many lines stand ahead. -/
theorem res_pad (k : Nat) (t : List UInt8) (ht : t.length ≤ 524288) (hk : k ≤ 100) :
    (resL (Con.parseL t) = (0, 0) ∧ resL (Con.parseL (List.replicate k 10 ++ t)) = (0, 0)) ∨
    ∃ c n : Int, 1 ≤ n ∧ n ≤ 524289 ∧ resL (Con.parseL t) = (c, n) ∧ resL (Con.parseL (List.replicate k 10 ++ t)) = (c, n + k) := by
  have e1 : Con.parseL t = Con.runB Con.script0 0 (Con.linesL t) := by unfold Con.parseL; rw [if_neg (by omega)]
  have e2 : Con.parseL (List.replicate k 10 ++ t) = Con.runB Con.script0 (0 + k) (Con.linesL t) := by
    unfold Con.parseL
    rw [if_neg (by rw [List.length_append, List.length_replicate]; omega), Con.linesL_pad, Con.runB_pad]
  rw [e2, Con.runB_shift, ← e1]
  cases hr : Con.parseL t with
  | ok st => exact .inl ⟨rfl, rfl⟩
  | error x =>
    obtain ⟨c, n⟩ := x
    rw [e1] at hr
    have hl := Con.runB_line _ _ _ _ _ hr
    have hll : (Con.linesL t).length ≤ t.length + 1 := by
      have h1 := Con.sumL_length (Con.lnL t)
      have h2 := Con.sumL_lnL t
      have h3 : (Con.linesL t).length ≤ (Con.lnL t).length := by
        unfold Con.linesL Con.trimEnd
        split
        · rw [List.length_dropLast]; omega
        · exact Nat.le_refl _
      omega
    exact .inr ⟨c, n, hl.1, by omega, rfl, rfl⟩
def aheadOf (a : Int) : Nat := if a < 0 ∨ 100 < a then 2 else a.toNat
set_option maxRecDepth 100000 in
set_option maxHeartbeats 4000000 in
theorem lines_neg (s : ByteArray) (a : Int) (w : World) (hc : CT w) (hs : s.size ≤ 524288) (ha : a < 0) : Calls Tryz.prog 4 #[.string s, .int .i64 a] w fun e w' => e = .returned (.bool true) ∧ Below w.heap.size w w' := by
  have HC := Lib.hid hc
  have hs1 : ((524288 : Int) < (s.size : Int)) = False := by simp; omega
  have d1 : decide (a < 0) = true := by simp; omega
  clear hc
  go_enter Tryz.func4, Tryz.ntmps4
  go_wp2_with (go_at_call 5; refine (speaks_any _ HC.out).mono ?_; rintro e w1 ⟨rfl, hb1⟩; have HB1 := Lib.hid hb1; clear hb1)
  obtain ⟨k, hk, h1⟩ : ∃ k : Nat, (2 : Int) = (k : Int) ∧ (k : Int) ≤ 100 := ⟨2, rfl, by omega⟩
  rw [hk]
  clear hk
  go_loopw [5, 6] (fun v i wr => ∃ j : Nat, j ≤ k ∧ i = .int .i64 j ∧ v = .string (nl j) ∧ Below w.heap.size w wr) (fun _ i _ => k - (intOf i).toNat)
  case atStart => exact ⟨0, Nat.zero_le _, rfl, rfl, HB1.out⟩
  case round =>
    obtain ⟨j, hj, rfl, rfl, hbw⟩ := hrel
    have HBW := Lib.hid hbw
    clear hbw
    have hnl : (nl j).size ≤ 100 := by rw [nl_size]; omega
    by_cases hlt : j < k
    · have hlti : (j : Int) < (k : Int) := by omega
      go_wp2
      exact ⟨⟨j + 1, by omega, by go_num, by rw [nl_succ], HBW.out⟩, by simp [intOf]; omega⟩
    · obtain rfl : j = k := by omega
      have hd : decide ((j : Int) < (j : Int)) = false := by simp
      have hpd := nl_pad j s
      have hrp := res_pad j s.data.toList hs (by omega)
      rw [← hpd] at hrp
      clear hpd
      rcases hrp with ⟨e1, e2⟩ | ⟨c, n, hn1, hn2, e1, e2⟩
      · have _u := hd
        have E1 := Lib.hid e1; have E2 := Lib.hid e2
        clear e1 e2
        go_wp2_with fail
        refine (parse_res s _ (HC.out.below HBW.out) E1.out).mono ?_
        rintro e w2 ⟨n0, n1, n2, n3, A4, m4, c4, A5, m5, c5, n6, b, rfl, hb2⟩
        have hb2a := below_then HBW.out HBW.out.size hb2
        have hb2b := below_then hb2a hb2a.size (below_alloc (below_alloc (Below.refl w2.heap.size w2) (.cells #[.int .i64 n0, .int .i64 n1, .int .i64 n2, .int .i64 n3, .slice A4 m4 c4, .slice A5 m5 c5, .int .i64 n6, .bool b] 26)) (.cells #[.int .i64 0, .int .i64 0] 29))
        have HB2 := Lib.hid hb2b
        clear hb2 hb2a hb2b
        go_wp2_with fail
        refine (parse_res (nl j ++ s) _ (HC.out.below HB2.out) E2.out).mono ?_
        rintro e w3 ⟨r0, r1, r2, r3, B4, l4, d4, B5, l5, d5, r6, b2, rfl, hb3⟩
        have G1 := Lib.hid (blk_below (heap_alloc2_new w2 (.cells #[.int .i64 n0, .int .i64 n1, .int .i64 n2, .int .i64 n3, .slice A4 m4 c4, .slice A5 m5 c5, .int .i64 n6, .bool b] 26) (.cells #[.int .i64 0, .int .i64 0] 29)) hb3)
        have f0 : ((w3.alloc (.cells #[.int .i64 r0, .int .i64 r1, .int .i64 r2, .int .i64 r3, .slice B4 l4 d4, .slice B5 l5 d5, .int .i64 r6, .bool b2] 26)).alloc (.cells #[.int .i64 0, .int .i64 0] 29)).cell? ⟨w2.heap.size + 1, 0, none⟩ = some (.int .i64 0) := (blk_cell (blk_alloc (blk_alloc G1.out _) _) 0).trans rfl
        have f1 : ((w3.alloc (.cells #[.int .i64 r0, .int .i64 r1, .int .i64 r2, .int .i64 r3, .slice B4 l4 d4, .slice B5 l5 d5, .int .i64 r6, .bool b2] 26)).alloc (.cells #[.int .i64 0, .int .i64 0] 29)).cell? ⟨w2.heap.size + 1, 1, none⟩ = some (.int .i64 0) := (blk_cell (blk_alloc (blk_alloc G1.out _) _) 1).trans rfl
        have g0 : ((w3.alloc (.cells #[.int .i64 r0, .int .i64 r1, .int .i64 r2, .int .i64 r3, .slice B4 l4 d4, .slice B5 l5 d5, .int .i64 r6, .bool b2] 26)).alloc (.cells #[.int .i64 0, .int .i64 0] 29)).cell? ⟨w3.heap.size + 1, 0, none⟩ = some (.int .i64 0) := (blk_cell (heap_alloc2_new w3 _ _) 0).trans rfl
        have g1 : ((w3.alloc (.cells #[.int .i64 r0, .int .i64 r1, .int .i64 r2, .int .i64 r3, .slice B4 l4 d4, .slice B5 l5 d5, .int .i64 r6, .bool b2] 26)).alloc (.cells #[.int .i64 0, .int .i64 0] 29)).cell? ⟨w3.heap.size + 1, 1, none⟩ = some (.int .i64 0) := (blk_cell (heap_alloc2_new w3 _ _) 1).trans rfl
        have hb4 := below_then HB2.out HB2.out.size hb3
        have hb5 := below_then hb4 hb4.size (below_alloc (below_alloc (Below.refl w3.heap.size w3) (.cells #[.int .i64 r0, .int .i64 r1, .int .i64 r2, .int .i64 r3, .slice B4 l4 d4, .slice B5 l5 d5, .int .i64 r6, .bool b2] 26)) (.cells #[.int .i64 0, .int .i64 0] 29))
        have HB5 := Lib.hid hb5
        clear hb3 hb4 hb5
        go_wp2_with fail
        go_ret
        exact ⟨rfl, HB5.out⟩
      · have hn0 : (n == 0) = false := by rw [beq_eq_false_iff_ne]; omega
        have E1 := Lib.hid e1; have E2 := Lib.hid e2
        clear e1 e2
        go_wp2_with fail
        refine (parse_res s _ (HC.out.below HBW.out) E1.out).mono ?_
        rintro e w2 ⟨n0, n1, n2, n3, A4, m4, c4, A5, m5, c5, n6, b, rfl, hb2⟩
        have hb2a := below_then HBW.out HBW.out.size hb2
        have hb2b := below_then hb2a hb2a.size (below_alloc (below_alloc (Below.refl w2.heap.size w2) (.cells #[.int .i64 n0, .int .i64 n1, .int .i64 n2, .int .i64 n3, .slice A4 m4 c4, .slice A5 m5 c5, .int .i64 n6, .bool b] 26)) (.cells #[.int .i64 c, .int .i64 n] 29))
        have HB2 := Lib.hid hb2b
        clear hb2 hb2a hb2b
        go_wp2_with fail
        refine (parse_res (nl j ++ s) _ (HC.out.below HB2.out) E2.out).mono ?_
        rintro e w3 ⟨r0, r1, r2, r3, B4, l4, d4, B5, l5, d5, r6, b2, rfl, hb3⟩
        have G1 := Lib.hid (blk_below (heap_alloc2_new w2 (.cells #[.int .i64 n0, .int .i64 n1, .int .i64 n2, .int .i64 n3, .slice A4 m4 c4, .slice A5 m5 c5, .int .i64 n6, .bool b] 26) (.cells #[.int .i64 c, .int .i64 n] 29)) hb3)
        have f0 : ((w3.alloc (.cells #[.int .i64 r0, .int .i64 r1, .int .i64 r2, .int .i64 r3, .slice B4 l4 d4, .slice B5 l5 d5, .int .i64 r6, .bool b2] 26)).alloc (.cells #[.int .i64 c, .int .i64 (n + (j : Int))] 29)).cell? ⟨w2.heap.size + 1, 0, none⟩ = some (.int .i64 c) := (blk_cell (blk_alloc (blk_alloc G1.out _) _) 0).trans rfl
        have f1 : ((w3.alloc (.cells #[.int .i64 r0, .int .i64 r1, .int .i64 r2, .int .i64 r3, .slice B4 l4 d4, .slice B5 l5 d5, .int .i64 r6, .bool b2] 26)).alloc (.cells #[.int .i64 c, .int .i64 (n + (j : Int))] 29)).cell? ⟨w2.heap.size + 1, 1, none⟩ = some (.int .i64 n) := (blk_cell (blk_alloc (blk_alloc G1.out _) _) 1).trans rfl
        have g0 : ((w3.alloc (.cells #[.int .i64 r0, .int .i64 r1, .int .i64 r2, .int .i64 r3, .slice B4 l4 d4, .slice B5 l5 d5, .int .i64 r6, .bool b2] 26)).alloc (.cells #[.int .i64 c, .int .i64 (n + (j : Int))] 29)).cell? ⟨w3.heap.size + 1, 0, none⟩ = some (.int .i64 c) := (blk_cell (heap_alloc2_new w3 _ _) 0).trans rfl
        have g1 : ((w3.alloc (.cells #[.int .i64 r0, .int .i64 r1, .int .i64 r2, .int .i64 r3, .slice B4 l4 d4, .slice B5 l5 d5, .int .i64 r6, .bool b2] 26)).alloc (.cells #[.int .i64 c, .int .i64 (n + (j : Int))] 29)).cell? ⟨w3.heap.size + 1, 1, none⟩ = some (.int .i64 (n + (j : Int))) := (blk_cell (heap_alloc2_new w3 _ _) 1).trans rfl
        have hb4 := below_then HB2.out HB2.out.size hb3
        have hb5 := below_then hb4 hb4.size (below_alloc (below_alloc (Below.refl w3.heap.size w3) (.cells #[.int .i64 r0, .int .i64 r1, .int .i64 r2, .int .i64 r3, .slice B4 l4 d4, .slice B5 l5 d5, .int .i64 r6, .bool b2] 26)) (.cells #[.int .i64 c, .int .i64 (n + (j : Int))] 29))
        have HB5 := Lib.hid hb5
        clear hb3 hb4 hb5
        go_wp2_with fail
        go_ret
        exact ⟨rfl, HB5.out⟩

set_option maxRecDepth 100000 in
set_option maxHeartbeats 4000000 in
theorem lines_big (s : ByteArray) (a : Int) (w : World) (hc : CT w) (hs : s.size ≤ 524288) (ha : 100 < a) : Calls Tryz.prog 4 #[.string s, .int .i64 a] w fun e w' => e = .returned (.bool true) ∧ Below w.heap.size w w' := by
  have HC := Lib.hid hc
  have hs1 : ((524288 : Int) < (s.size : Int)) = False := by simp; omega
  have d1 : decide (a < 0) = false := by simp; omega
  have d2 : decide ((100 : Int) < a) = true := by simp; omega
  clear hc
  go_enter Tryz.func4, Tryz.ntmps4
  go_wp2_with (go_at_call 5; refine (speaks_any _ HC.out).mono ?_; rintro e w1 ⟨rfl, hb1⟩; have HB1 := Lib.hid hb1; clear hb1)
  obtain ⟨k, hk, h1⟩ : ∃ k : Nat, (2 : Int) = (k : Int) ∧ (k : Int) ≤ 100 := ⟨2, rfl, by omega⟩
  rw [hk]
  clear hk
  go_loopw [5, 6] (fun v i wr => ∃ j : Nat, j ≤ k ∧ i = .int .i64 j ∧ v = .string (nl j) ∧ Below w.heap.size w wr) (fun _ i _ => k - (intOf i).toNat)
  case atStart => exact ⟨0, Nat.zero_le _, rfl, rfl, HB1.out⟩
  case round =>
    obtain ⟨j, hj, rfl, rfl, hbw⟩ := hrel
    have HBW := Lib.hid hbw
    clear hbw
    have hnl : (nl j).size ≤ 100 := by rw [nl_size]; omega
    by_cases hlt : j < k
    · have hlti : (j : Int) < (k : Int) := by omega
      go_wp2
      exact ⟨⟨j + 1, by omega, by go_num, by rw [nl_succ], HBW.out⟩, by simp [intOf]; omega⟩
    · obtain rfl : j = k := by omega
      have hd : decide ((j : Int) < (j : Int)) = false := by simp
      have hpd := nl_pad j s
      have hrp := res_pad j s.data.toList hs (by omega)
      rw [← hpd] at hrp
      clear hpd
      rcases hrp with ⟨e1, e2⟩ | ⟨c, n, hn1, hn2, e1, e2⟩
      · have _u := hd
        have E1 := Lib.hid e1; have E2 := Lib.hid e2
        clear e1 e2
        go_wp2_with fail
        refine (parse_res s _ (HC.out.below HBW.out) E1.out).mono ?_
        rintro e w2 ⟨n0, n1, n2, n3, A4, m4, c4, A5, m5, c5, n6, b, rfl, hb2⟩
        have hb2a := below_then HBW.out HBW.out.size hb2
        have hb2b := below_then hb2a hb2a.size (below_alloc (below_alloc (Below.refl w2.heap.size w2) (.cells #[.int .i64 n0, .int .i64 n1, .int .i64 n2, .int .i64 n3, .slice A4 m4 c4, .slice A5 m5 c5, .int .i64 n6, .bool b] 26)) (.cells #[.int .i64 0, .int .i64 0] 29))
        have HB2 := Lib.hid hb2b
        clear hb2 hb2a hb2b
        go_wp2_with fail
        refine (parse_res (nl j ++ s) _ (HC.out.below HB2.out) E2.out).mono ?_
        rintro e w3 ⟨r0, r1, r2, r3, B4, l4, d4, B5, l5, d5, r6, b2, rfl, hb3⟩
        have G1 := Lib.hid (blk_below (heap_alloc2_new w2 (.cells #[.int .i64 n0, .int .i64 n1, .int .i64 n2, .int .i64 n3, .slice A4 m4 c4, .slice A5 m5 c5, .int .i64 n6, .bool b] 26) (.cells #[.int .i64 0, .int .i64 0] 29)) hb3)
        have f0 : ((w3.alloc (.cells #[.int .i64 r0, .int .i64 r1, .int .i64 r2, .int .i64 r3, .slice B4 l4 d4, .slice B5 l5 d5, .int .i64 r6, .bool b2] 26)).alloc (.cells #[.int .i64 0, .int .i64 0] 29)).cell? ⟨w2.heap.size + 1, 0, none⟩ = some (.int .i64 0) := (blk_cell (blk_alloc (blk_alloc G1.out _) _) 0).trans rfl
        have f1 : ((w3.alloc (.cells #[.int .i64 r0, .int .i64 r1, .int .i64 r2, .int .i64 r3, .slice B4 l4 d4, .slice B5 l5 d5, .int .i64 r6, .bool b2] 26)).alloc (.cells #[.int .i64 0, .int .i64 0] 29)).cell? ⟨w2.heap.size + 1, 1, none⟩ = some (.int .i64 0) := (blk_cell (blk_alloc (blk_alloc G1.out _) _) 1).trans rfl
        have g0 : ((w3.alloc (.cells #[.int .i64 r0, .int .i64 r1, .int .i64 r2, .int .i64 r3, .slice B4 l4 d4, .slice B5 l5 d5, .int .i64 r6, .bool b2] 26)).alloc (.cells #[.int .i64 0, .int .i64 0] 29)).cell? ⟨w3.heap.size + 1, 0, none⟩ = some (.int .i64 0) := (blk_cell (heap_alloc2_new w3 _ _) 0).trans rfl
        have g1 : ((w3.alloc (.cells #[.int .i64 r0, .int .i64 r1, .int .i64 r2, .int .i64 r3, .slice B4 l4 d4, .slice B5 l5 d5, .int .i64 r6, .bool b2] 26)).alloc (.cells #[.int .i64 0, .int .i64 0] 29)).cell? ⟨w3.heap.size + 1, 1, none⟩ = some (.int .i64 0) := (blk_cell (heap_alloc2_new w3 _ _) 1).trans rfl
        have hb4 := below_then HB2.out HB2.out.size hb3
        have hb5 := below_then hb4 hb4.size (below_alloc (below_alloc (Below.refl w3.heap.size w3) (.cells #[.int .i64 r0, .int .i64 r1, .int .i64 r2, .int .i64 r3, .slice B4 l4 d4, .slice B5 l5 d5, .int .i64 r6, .bool b2] 26)) (.cells #[.int .i64 0, .int .i64 0] 29))
        have HB5 := Lib.hid hb5
        clear hb3 hb4 hb5
        go_wp2_with fail
        go_ret
        exact ⟨rfl, HB5.out⟩
      · have hn0 : (n == 0) = false := by rw [beq_eq_false_iff_ne]; omega
        have E1 := Lib.hid e1; have E2 := Lib.hid e2
        clear e1 e2
        go_wp2_with fail
        refine (parse_res s _ (HC.out.below HBW.out) E1.out).mono ?_
        rintro e w2 ⟨n0, n1, n2, n3, A4, m4, c4, A5, m5, c5, n6, b, rfl, hb2⟩
        have hb2a := below_then HBW.out HBW.out.size hb2
        have hb2b := below_then hb2a hb2a.size (below_alloc (below_alloc (Below.refl w2.heap.size w2) (.cells #[.int .i64 n0, .int .i64 n1, .int .i64 n2, .int .i64 n3, .slice A4 m4 c4, .slice A5 m5 c5, .int .i64 n6, .bool b] 26)) (.cells #[.int .i64 c, .int .i64 n] 29))
        have HB2 := Lib.hid hb2b
        clear hb2 hb2a hb2b
        go_wp2_with fail
        refine (parse_res (nl j ++ s) _ (HC.out.below HB2.out) E2.out).mono ?_
        rintro e w3 ⟨r0, r1, r2, r3, B4, l4, d4, B5, l5, d5, r6, b2, rfl, hb3⟩
        have G1 := Lib.hid (blk_below (heap_alloc2_new w2 (.cells #[.int .i64 n0, .int .i64 n1, .int .i64 n2, .int .i64 n3, .slice A4 m4 c4, .slice A5 m5 c5, .int .i64 n6, .bool b] 26) (.cells #[.int .i64 c, .int .i64 n] 29)) hb3)
        have f0 : ((w3.alloc (.cells #[.int .i64 r0, .int .i64 r1, .int .i64 r2, .int .i64 r3, .slice B4 l4 d4, .slice B5 l5 d5, .int .i64 r6, .bool b2] 26)).alloc (.cells #[.int .i64 c, .int .i64 (n + (j : Int))] 29)).cell? ⟨w2.heap.size + 1, 0, none⟩ = some (.int .i64 c) := (blk_cell (blk_alloc (blk_alloc G1.out _) _) 0).trans rfl
        have f1 : ((w3.alloc (.cells #[.int .i64 r0, .int .i64 r1, .int .i64 r2, .int .i64 r3, .slice B4 l4 d4, .slice B5 l5 d5, .int .i64 r6, .bool b2] 26)).alloc (.cells #[.int .i64 c, .int .i64 (n + (j : Int))] 29)).cell? ⟨w2.heap.size + 1, 1, none⟩ = some (.int .i64 n) := (blk_cell (blk_alloc (blk_alloc G1.out _) _) 1).trans rfl
        have g0 : ((w3.alloc (.cells #[.int .i64 r0, .int .i64 r1, .int .i64 r2, .int .i64 r3, .slice B4 l4 d4, .slice B5 l5 d5, .int .i64 r6, .bool b2] 26)).alloc (.cells #[.int .i64 c, .int .i64 (n + (j : Int))] 29)).cell? ⟨w3.heap.size + 1, 0, none⟩ = some (.int .i64 c) := (blk_cell (heap_alloc2_new w3 _ _) 0).trans rfl
        have g1 : ((w3.alloc (.cells #[.int .i64 r0, .int .i64 r1, .int .i64 r2, .int .i64 r3, .slice B4 l4 d4, .slice B5 l5 d5, .int .i64 r6, .bool b2] 26)).alloc (.cells #[.int .i64 c, .int .i64 (n + (j : Int))] 29)).cell? ⟨w3.heap.size + 1, 1, none⟩ = some (.int .i64 (n + (j : Int))) := (blk_cell (heap_alloc2_new w3 _ _) 1).trans rfl
        have hb4 := below_then HB2.out HB2.out.size hb3
        have hb5 := below_then hb4 hb4.size (below_alloc (below_alloc (Below.refl w3.heap.size w3) (.cells #[.int .i64 r0, .int .i64 r1, .int .i64 r2, .int .i64 r3, .slice B4 l4 d4, .slice B5 l5 d5, .int .i64 r6, .bool b2] 26)) (.cells #[.int .i64 c, .int .i64 (n + (j : Int))] 29))
        have HB5 := Lib.hid hb5
        clear hb3 hb4 hb5
        go_wp2_with fail
        go_ret
        exact ⟨rfl, HB5.out⟩

set_option maxRecDepth 100000 in
set_option maxHeartbeats 4000000 in
theorem lines_tail (s : ByteArray) (a : Int) (w : World) (hc : CT w) (hs : s.size ≤ 524288) (h0 : 0 ≤ a) (h1 : a ≤ 100) : Calls Tryz.prog 4 #[.string s, .int .i64 a] w fun e w' => e = .returned (.bool true) ∧ Below w.heap.size w w' := by
  obtain ⟨k, rfl⟩ := Int.eq_ofNat_of_zero_le h0
  have HC := Lib.hid hc
  have hs1 : ((524288 : Int) < (s.size : Int)) = False := by simp; omega
  have d1 : decide ((k : Int) < 0) = false := by simp
  have d2 : decide ((100 : Int) < (k : Int)) = false := by simp; omega
  clear hc
  go_enter Tryz.func4, Tryz.ntmps4
  go_wp2_with (go_at_call 5; refine (speaks_any _ HC.out).mono ?_; rintro e w1 ⟨rfl, hb1⟩; have HB1 := Lib.hid hb1; clear hb1)
  go_loopw [5, 6] (fun v i wr => ∃ j : Nat, j ≤ k ∧ i = .int .i64 j ∧ v = .string (nl j) ∧ Below w.heap.size w wr) (fun _ i _ => k - (intOf i).toNat)
  case atStart => exact ⟨0, Nat.zero_le _, rfl, rfl, HB1.out⟩
  case round =>
    obtain ⟨j, hj, rfl, rfl, hbw⟩ := hrel
    have HBW := Lib.hid hbw
    clear hbw
    have hnl : (nl j).size ≤ 100 := by rw [nl_size]; omega
    by_cases hlt : j < k
    · have hlti : (j : Int) < (k : Int) := by omega
      go_wp2
      exact ⟨⟨j + 1, by omega, by go_num, by rw [nl_succ], HBW.out⟩, by simp [intOf]; omega⟩
    · obtain rfl : j = k := by omega
      have hd : decide ((j : Int) < (j : Int)) = false := by simp
      have hpd := nl_pad j s
      have hrp := res_pad j s.data.toList hs (by omega)
      rw [← hpd] at hrp
      clear hpd
      rcases hrp with ⟨e1, e2⟩ | ⟨c, n, hn1, hn2, e1, e2⟩
      · have _u := hd
        have E1 := Lib.hid e1; have E2 := Lib.hid e2
        clear e1 e2
        go_wp2_with fail
        refine (parse_res s _ (HC.out.below HBW.out) E1.out).mono ?_
        rintro e w2 ⟨n0, n1, n2, n3, A4, m4, c4, A5, m5, c5, n6, b, rfl, hb2⟩
        have hb2a := below_then HBW.out HBW.out.size hb2
        have hb2b := below_then hb2a hb2a.size (below_alloc (below_alloc (Below.refl w2.heap.size w2) (.cells #[.int .i64 n0, .int .i64 n1, .int .i64 n2, .int .i64 n3, .slice A4 m4 c4, .slice A5 m5 c5, .int .i64 n6, .bool b] 26)) (.cells #[.int .i64 0, .int .i64 0] 29))
        have HB2 := Lib.hid hb2b
        clear hb2 hb2a hb2b
        go_wp2_with fail
        refine (parse_res (nl j ++ s) _ (HC.out.below HB2.out) E2.out).mono ?_
        rintro e w3 ⟨r0, r1, r2, r3, B4, l4, d4, B5, l5, d5, r6, b2, rfl, hb3⟩
        have G1 := Lib.hid (blk_below (heap_alloc2_new w2 (.cells #[.int .i64 n0, .int .i64 n1, .int .i64 n2, .int .i64 n3, .slice A4 m4 c4, .slice A5 m5 c5, .int .i64 n6, .bool b] 26) (.cells #[.int .i64 0, .int .i64 0] 29)) hb3)
        have f0 : ((w3.alloc (.cells #[.int .i64 r0, .int .i64 r1, .int .i64 r2, .int .i64 r3, .slice B4 l4 d4, .slice B5 l5 d5, .int .i64 r6, .bool b2] 26)).alloc (.cells #[.int .i64 0, .int .i64 0] 29)).cell? ⟨w2.heap.size + 1, 0, none⟩ = some (.int .i64 0) := (blk_cell (blk_alloc (blk_alloc G1.out _) _) 0).trans rfl
        have f1 : ((w3.alloc (.cells #[.int .i64 r0, .int .i64 r1, .int .i64 r2, .int .i64 r3, .slice B4 l4 d4, .slice B5 l5 d5, .int .i64 r6, .bool b2] 26)).alloc (.cells #[.int .i64 0, .int .i64 0] 29)).cell? ⟨w2.heap.size + 1, 1, none⟩ = some (.int .i64 0) := (blk_cell (blk_alloc (blk_alloc G1.out _) _) 1).trans rfl
        have g0 : ((w3.alloc (.cells #[.int .i64 r0, .int .i64 r1, .int .i64 r2, .int .i64 r3, .slice B4 l4 d4, .slice B5 l5 d5, .int .i64 r6, .bool b2] 26)).alloc (.cells #[.int .i64 0, .int .i64 0] 29)).cell? ⟨w3.heap.size + 1, 0, none⟩ = some (.int .i64 0) := (blk_cell (heap_alloc2_new w3 _ _) 0).trans rfl
        have g1 : ((w3.alloc (.cells #[.int .i64 r0, .int .i64 r1, .int .i64 r2, .int .i64 r3, .slice B4 l4 d4, .slice B5 l5 d5, .int .i64 r6, .bool b2] 26)).alloc (.cells #[.int .i64 0, .int .i64 0] 29)).cell? ⟨w3.heap.size + 1, 1, none⟩ = some (.int .i64 0) := (blk_cell (heap_alloc2_new w3 _ _) 1).trans rfl
        have hb4 := below_then HB2.out HB2.out.size hb3
        have hb5 := below_then hb4 hb4.size (below_alloc (below_alloc (Below.refl w3.heap.size w3) (.cells #[.int .i64 r0, .int .i64 r1, .int .i64 r2, .int .i64 r3, .slice B4 l4 d4, .slice B5 l5 d5, .int .i64 r6, .bool b2] 26)) (.cells #[.int .i64 0, .int .i64 0] 29))
        have HB5 := Lib.hid hb5
        clear hb3 hb4 hb5
        go_wp2_with fail
        go_ret
        exact ⟨rfl, HB5.out⟩
      · have hn0 : (n == 0) = false := by rw [beq_eq_false_iff_ne]; omega
        have E1 := Lib.hid e1; have E2 := Lib.hid e2
        clear e1 e2
        go_wp2_with fail
        refine (parse_res s _ (HC.out.below HBW.out) E1.out).mono ?_
        rintro e w2 ⟨n0, n1, n2, n3, A4, m4, c4, A5, m5, c5, n6, b, rfl, hb2⟩
        have hb2a := below_then HBW.out HBW.out.size hb2
        have hb2b := below_then hb2a hb2a.size (below_alloc (below_alloc (Below.refl w2.heap.size w2) (.cells #[.int .i64 n0, .int .i64 n1, .int .i64 n2, .int .i64 n3, .slice A4 m4 c4, .slice A5 m5 c5, .int .i64 n6, .bool b] 26)) (.cells #[.int .i64 c, .int .i64 n] 29))
        have HB2 := Lib.hid hb2b
        clear hb2 hb2a hb2b
        go_wp2_with fail
        refine (parse_res (nl j ++ s) _ (HC.out.below HB2.out) E2.out).mono ?_
        rintro e w3 ⟨r0, r1, r2, r3, B4, l4, d4, B5, l5, d5, r6, b2, rfl, hb3⟩
        have G1 := Lib.hid (blk_below (heap_alloc2_new w2 (.cells #[.int .i64 n0, .int .i64 n1, .int .i64 n2, .int .i64 n3, .slice A4 m4 c4, .slice A5 m5 c5, .int .i64 n6, .bool b] 26) (.cells #[.int .i64 c, .int .i64 n] 29)) hb3)
        have f0 : ((w3.alloc (.cells #[.int .i64 r0, .int .i64 r1, .int .i64 r2, .int .i64 r3, .slice B4 l4 d4, .slice B5 l5 d5, .int .i64 r6, .bool b2] 26)).alloc (.cells #[.int .i64 c, .int .i64 (n + (j : Int))] 29)).cell? ⟨w2.heap.size + 1, 0, none⟩ = some (.int .i64 c) := (blk_cell (blk_alloc (blk_alloc G1.out _) _) 0).trans rfl
        have f1 : ((w3.alloc (.cells #[.int .i64 r0, .int .i64 r1, .int .i64 r2, .int .i64 r3, .slice B4 l4 d4, .slice B5 l5 d5, .int .i64 r6, .bool b2] 26)).alloc (.cells #[.int .i64 c, .int .i64 (n + (j : Int))] 29)).cell? ⟨w2.heap.size + 1, 1, none⟩ = some (.int .i64 n) := (blk_cell (blk_alloc (blk_alloc G1.out _) _) 1).trans rfl
        have g0 : ((w3.alloc (.cells #[.int .i64 r0, .int .i64 r1, .int .i64 r2, .int .i64 r3, .slice B4 l4 d4, .slice B5 l5 d5, .int .i64 r6, .bool b2] 26)).alloc (.cells #[.int .i64 c, .int .i64 (n + (j : Int))] 29)).cell? ⟨w3.heap.size + 1, 0, none⟩ = some (.int .i64 c) := (blk_cell (heap_alloc2_new w3 _ _) 0).trans rfl
        have g1 : ((w3.alloc (.cells #[.int .i64 r0, .int .i64 r1, .int .i64 r2, .int .i64 r3, .slice B4 l4 d4, .slice B5 l5 d5, .int .i64 r6, .bool b2] 26)).alloc (.cells #[.int .i64 c, .int .i64 (n + (j : Int))] 29)).cell? ⟨w3.heap.size + 1, 1, none⟩ = some (.int .i64 (n + (j : Int))) := (blk_cell (heap_alloc2_new w3 _ _) 1).trans rfl
        have hb4 := below_then HB2.out HB2.out.size hb3
        have hb5 := below_then hb4 hb4.size (below_alloc (below_alloc (Below.refl w3.heap.size w3) (.cells #[.int .i64 r0, .int .i64 r1, .int .i64 r2, .int .i64 r3, .slice B4 l4 d4, .slice B5 l5 d5, .int .i64 r6, .bool b2] 26)) (.cells #[.int .i64 c, .int .i64 (n + (j : Int))] 29))
        have HB5 := Lib.hid hb5
        clear hb3 hb4 hb5
        go_wp2_with fail
        go_ret
        exact ⟨rfl, HB5.out⟩

set_option maxRecDepth 100000 in
set_option maxHeartbeats 4000000 in
theorem lines_long (s : ByteArray) (a : Int) (w : World) (hc : CT w) (hs : 524288 < s.size) : Calls Tryz.prog 4 #[.string s, .int .i64 a] w fun e w' => e = .returned (.bool true) ∧ Below w.heap.size w w' := by
  have HC := Lib.hid hc
  have hs1 : (524288 : Int) < (s.size : Int) := by omega
  clear hc
  by_cases h0 : a < 0
  · have d1 : decide (a < 0) = true := by simp; omega
    go_enter Tryz.func4, Tryz.ntmps4
    go_wp2_with (go_at_call 5; refine (speaks_any _ HC.out).mono ?_; rintro e w1 ⟨rfl, hb1⟩; have HB1 := Lib.hid hb1; clear hb1)
    go_ret
    exact ⟨rfl, HB1.out⟩
  have d1 : decide (a < 0) = false := by simp; omega
  by_cases h1 : 100 < a
  · have d2 : decide ((100 : Int) < a) = true := by simp; omega
    go_enter Tryz.func4, Tryz.ntmps4
    go_wp2_with (go_at_call 5; refine (speaks_any _ HC.out).mono ?_; rintro e w1 ⟨rfl, hb1⟩; have HB1 := Lib.hid hb1; clear hb1)
    go_ret
    exact ⟨rfl, HB1.out⟩
  · have d2 : decide ((100 : Int) < a) = false := by simp; omega
    go_enter Tryz.func4, Tryz.ntmps4
    go_wp2_with (go_at_call 5; refine (speaks_any _ HC.out).mono ?_; rintro e w1 ⟨rfl, hb1⟩; have HB1 := Lib.hid hb1; clear hb1)
    go_ret
    exact ⟨rfl, HB1.out⟩
/-- ConsoleLines answers true. -/
theorem lines_any (s : ByteArray) (a : Int) (w : World) (hc : CT w) : Calls Tryz.prog 4 #[.string s, .int .i64 a] w fun e w' => e = .returned (.bool true) ∧ Below w.heap.size w w' := by
  by_cases hs : 524288 < s.size
  · exact lines_long s a w hc hs
  by_cases h0 : a < 0
  · exact lines_neg s a w hc (by omega) h0
  by_cases h1 : 100 < a
  · exact lines_big s a w hc (by omega) h1
  · exact lines_tail s a w hc (by omega) (by omega) (by omega)
end Go.Proofs.YtkdofgbjebpmoaaGreatDoor
