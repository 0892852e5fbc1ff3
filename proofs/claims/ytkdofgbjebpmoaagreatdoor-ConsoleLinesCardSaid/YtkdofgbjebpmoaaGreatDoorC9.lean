import Derived.Test.YtkdofgbjebpmoaaGreatDoorC8
import Derived.RegionTactic
import Derived.BigRegion
import Derived.Deep.RegionHeld3
import Derived.Deep.RegionLaw
namespace Go.Proofs.YtkdofgbjebpmoaaGreatDoor
set_option linter.unusedVariables false
set_option linter.unusedSimpArgs false
open Go.RowKit Go.Proofs.YtkdofgbjebpmoaaGreatDoorW.PrintWords

def ablk (v : Value) (a : ActL) : Obj :=
  .cells #[.int .i64 a.kind, .string a.path, .string a.dest, .string a.data, .int .i64 a.quota, .string a.program, .string a.output, v, .int .i64 a.parts, .int .i64 a.split, .int .i64 a.spill] 46 (0, 0)
def SubPost (base : Nat) (w0 W : World) (h : Nat) (r : Option ActL) (e : Ending) (w' : World) : Prop :=
  Below base w0 w' ∧ KeepBut W w' h none ∧ match r with
    | some a => e = .returned (.bool true) ∧ ∃ v, w'.heap[h]? = some (ablk v a) ∧ Kd.R Kd.string 9 w' W.heap.size (fun _ => True) v a.inputs
    | none => e = .returned (.bool false)

theorem six (fs : List Con.Fld) (h : 6 ≤ fs.length) : ∃ p0 p1 p2 p3 p4 p5, fs = p0 :: p1 :: p2 :: p3 :: p4 :: p5 :: fs.drop 6 := by
  rcases fs with _ | ⟨p0, _ | ⟨p1, _ | ⟨p2, _ | ⟨p3, _ | ⟨p4, _ | ⟨p5, r⟩⟩⟩⟩⟩⟩
  all_goals first | exact ⟨_, _, _, _, _, _, rfl⟩ | (exfalso; simp at h)

theorem nums1 {p : Con.Fld} {a : Int} (h : Con.numsL [p] = some [a]) : Con.fnum p = some a := by
  simp only [Con.numsL] at h
  cases hp : Con.fnum p with
  | none => rw [hp] at h; cases h
  | some n => rw [hp] at h; simp at h; rw [h]
theorem nums2 {p q : Con.Fld} {a b : Int} (h : Con.numsL [p, q] = some [a, b]) : Con.fnum p = some a ∧ Con.fnum q = some b := by
  rw [Con.numsL] at h
  cases hp : Con.fnum p with
  | none => rw [hp] at h; cases h
  | some n =>
    rw [hp] at h
    simp only [Option.map_eq_some_iff] at h
    obtain ⟨l, hl, he⟩ := h
    injection he with h1 h2
    subst h1 h2
    exact ⟨rfl, nums1 hl⟩
theorem nums3 {p q r : Con.Fld} {a b c : Int} (h : Con.numsL [p, q, r] = some [a, b, c]) : Con.fnum p = some a ∧ Con.fnum q = some b ∧ Con.fnum r = some c := by
  rw [Con.numsL] at h
  cases hp : Con.fnum p with
  | none => rw [hp] at h; cases h
  | some n =>
    rw [hp] at h
    simp only [Option.map_eq_some_iff] at h
    obtain ⟨l, hl, he⟩ := h
    injection he with h1 h2
    subst h1 h2
    exact ⟨rfl, nums2 hl⟩
theorem submit_eq (p0 p1 p2 p3 p4 p5 : Con.Fld) (r : List Con.Fld) : Con.submitL (p0 :: p1 :: p2 :: p3 :: p4 :: p5 :: r) = match Con.fnum p2, Con.fnum p3, Con.fnum p4 with
    | some a, some b, some c => some { Con.act0 10 with path := p0.1, output := p1.1, program := p5.1, parts := a, split := b, spill := c, inputs := r.map (·.1) }
    | _, _, _ => none := rfl
theorem cut75 (b o n c k : Nat) (hk : k ≤ n) (hc : n ≤ c) : ∃ o', (k < n → o' = o + k * 2) ∧ ∀ w, (Instr.slice 52 (.slice (some ⟨b, o, none⟩) n c) (some (.int .i64 (k : Int))) none none).run Tryz.prog w = .ok (.slice (some ⟨b, o', none⟩) (n - k) (c - k)) w := by
  obtain ⟨i, hi, hz0, hz1, hz2⟩ := info_parts info75
  have hu : Tryz.prog.underlying 52 = some (.slice (Tryz.prog.elem 52)) := by simp [Program.elem, Tryz.underlying52]
  have hel : Tryz.prog.elem 52 = 75 := by simp [Program.elem, Tryz.underlying52]
  by_cases h : c = k
  · refine ⟨o, fun h2 => by omega, fun w => ?_⟩
    rw [run_slice_l w 52 _ n c hu .i64 (k : Int) (Int.natCast_nonneg _) (by omega), hel]
    simp [sizeOf, typeInfo, hi, sliced, Result.andThen, h]
  · refine ⟨o + k * 2, fun _ => rfl, fun w => ?_⟩
    rw [run_slice_l w 52 _ n c hu .i64 (k : Int) (Int.natCast_nonneg _) (by omega), hel]
    simp [sizeOf, typeInfo, hi, hz1, sliced, Result.andThen, h, add_at]
def upd (a : ActL) (l : List Int) : ActL := { a with parts := l.getD 0 0, split := l.getD 1 0, spill := l.getD 2 0 }
def SubRel (base : Nat) (w0 W : World) (h B1 : Nat) (a : ActL) (fs : List Con.Fld) (v : Value) (wr : World) : Prop :=
  ∃ (i : Nat) (l : List Int), v = .int .i64 i ∧ i ≤ 3 ∧ Con.numsL ((fs.drop 2).take i) = some l ∧ wr.heap[B1]? = some (.cells #[.pointer (some ⟨h, 8, none⟩), .pointer (some ⟨h, 9, none⟩), .pointer (some ⟨h, 10, none⟩)] 77 (0, 0)) ∧
    wr.heap[h]? = some (ablk (.slice none 0 0) (upd a l)) ∧ KeepBut W wr h none ∧ Below base w0 wr

def SubRel2 (base : Nat) (w0 W : World) (h : Nat) (a : ActL) (fs : List Con.Fld) (v : Value) (wr : World) : Prop :=
  ∃ (i : Nat) (vin : Value), v = .int .i64 i ∧ i + 6 ≤ fs.length ∧ wr.heap[h]? = some (ablk vin { a with inputs := ((fs.drop 6).take i).map (·.1) }) ∧ Kd.R Kd.string 9 wr W.heap.size (fun _ => True) vin (((fs.drop 6).take i).map (·.1)) ∧ KeepBut W wr h none ∧ Below base w0 wr

set_option maxRecDepth 100000 in
set_option maxHeartbeats 2000000 in
theorem submit_any (base : Nat) (w0 W : World) (h : Nat) (v : Value) (fs : List Con.Fld) (hh : W.heap[h]? = some (ablk (.slice none 0 0) (Con.act0 10))) (hf : FS W v fs) (hb : Below base w0 W) (hB : base ≤ W.heap.size) (hbh : base ≤ h)
    (hsz : ∀ p ∈ fs, p.1.size ≤ 1073741824) (hl : fs.length ≤ 1073741824 * 4) :
    Calls Tryz.prog 46 #[.pointer (some ⟨h, 0, none⟩), v] W (SubPost base w0 W h (Con.submitL fs)) := by
  by_cases h6 : fs.length < 6
  · have hres : Hid (Con.submitL fs = none) := Lib.hid (by
      match fs, h6 with
      | [], _ => rfl
      | [_], _ => rfl
      | [_, _], _ => rfl
      | [_, _, _], _ => rfl
      | [_, _, _, _], _ => rfl
      | [_, _, _, _, _], _ => rfl)
    have hv : ∃ A c, v = .slice A fs.length c := by
      rcases hf with ⟨rfl, rfl⟩ | ⟨b, o, c, cells, rfl, _⟩
      · exact ⟨_, _, rfl⟩
      · exact ⟨_, _, rfl⟩
    obtain ⟨A, c, rfl⟩ := hv
    go_enter Tryz.func46, Tryz.ntmps46
    go_wp2
    go_ret
    refine ⟨hb, KeepBut.refl _ _ _, ?_⟩
    rw [hres.out]; rfl
  · obtain ⟨p0, p1, p2, p3, p4, p5, hfs⟩ := six fs (by omega)
    rcases hf with ⟨_, rfl⟩ | ⟨b, o, c, cells, rfl, hc, hm, hblk, hx⟩
    · exact absurd (by decide) h6
    have x0 := hx 0 p0 (by rw [hfs]; rfl); have x1 := hx 1 p1 (by rw [hfs]; rfl); have x2 := hx 2 p2 (by rw [hfs]; rfl); have x3 := hx 3 p3 (by rw [hfs]; rfl); have x4 := hx 4 p4 (by rw [hfs]; rfl); have x5 := hx 5 p5 (by rw [hfs]; rfl)
    have h6z : decide ((fs.length : Int) < 6) = false := by simp; omega
    have h6y : (6 : Int) ≤ fs.length := by omega
    have c0 : W.cell? ⟨b, o, none⟩ = some (.string p0.1) := (blk_cell hblk _).trans x0.1
    have c1 : W.cell? ⟨b, o + 2, none⟩ = some (.string p1.1) := (blk_cell hblk _).trans x1.1
    have c5 : W.cell? ⟨b, o + 10, none⟩ = some (.string p5.1) := (blk_cell hblk _).trans x5.1
    have ca1 : W.cell? ⟨h, 1, none⟩ = some (.string ⟨#[]⟩) := (blk_cell hh 1).trans rfl
    have ca5 : W.cell? ⟨h, 5, none⟩ = some (.string ⟨#[]⟩) := (blk_cell hh 5).trans rfl
    have ca6 : W.cell? ⟨h, 6, none⟩ = some (.string ⟨#[]⟩) := (blk_cell hh 6).trans rfl
    have z1 : W.frozen? ⟨h, 1, none⟩ = false := blk_frozen hh 1
    have z5 : W.frozen? ⟨h, 5, none⟩ = false := blk_frozen hh 5
    have z6 : W.frozen? ⟨h, 6, none⟩ = false := blk_frozen hh 6
    have hne : ¬ b = h := by
      rintro rfl
      rw [hblk] at hh
      exact absurd (by injection hh with hh; injection hh) (show ¬ (75 = 46) by decide)
    have hne2 : ¬ h = b := fun e => hne e.symm
    have HF := Lib.hid hfs; have HX := Lib.hid hx; have HH := Lib.hid hh; have HSZ := Lib.hid hsz
    clear x0 x1 x2 x3 x4 x5 hx hh hsz hfs
    go_enter Tryz.func46, Tryz.ntmps46
    go_wp2
    go_region
    obtain ⟨w1, hw1⟩ : ∃ w1, w1 = (((W.setCell { block := h, off := 1 } (Value.string p0.fst)).setCell { block := h, off := 6 } (Value.string p1.fst)).setCell { block := h, off := 5 } (Value.string p5.fst)).drew := ⟨_, rfl⟩
    rw [← hw1]
    obtain ⟨a1, ha1⟩ : ∃ a1, a1 = { Con.act0 10 with path := p0.1, output := p1.1, program := p5.1 } := ⟨_, rfl⟩
    have hh1 : w1.heap[h]? = some (ablk (.slice none 0 0) a1) := by
      rw [hw1, ha1]; exact blk_set (blk_set (blk_set HH.out 1 _) 6 _) 5 _
    have hk1 : KeepBut W w1 h none := by
      rw [hw1]; exact ((((KeepBut.refl W h none).set_ 1 _).set_ 6 _).set_ 5 _)
    have hb1 : Below base w0 w1 := by
      rw [hw1]; exact below_drew (((hb.setCell hbh _).setCell hbh _).setCell hbh _)
    have HU0 : Hid (upd a1 [] = a1) := Lib.hid (by rw [ha1]; rfl)
    have hh1ne : ¬ h = w1.heap.size := by have := blk_lt hh1; omega
    have HH1 := Lib.hid hh1; have HA1 := Lib.hid ha1
    clear hw1 ha1 hh1 ca1 ca5 ca6 z1 z5 z6 c0 c1 c5
    go_wp2
    go_region
    go_wp2
    go_loopw [51] (fun v wr => SubRel base w0 W h w1.heap.size a1 fs v wr) (fun i _ => 3 - (intOf i).toNat)
    case atStart => exact ⟨0, [], rfl, by omega, by rw [List.take_zero]; rfl, blk_new _ _, by rw [HU0.out]; exact blk_alloc HH1.out _, hk1.trans (KeepBut.of_below (below_drew (below_alloc (Below.refl _ _) _)) h none) (.inl rfl), below_drew (hb1.alloc (Nat.le_trans hB hk1.1) _)⟩
    case round =>
      obtain ⟨i, l, rfl, hi3, hnl, hB1, hhr, hkr, hbr⟩ := hrel
      have HB1 := Lib.hid hB1; have HHr := Lib.hid hhr; clear hB1 hhr
      have hbw : wr.heap[b]? = some (.cells cells 75 (0, 0)) := hkr.blk hblk hne (by simp)
      have hll := numsL_length _ _ hnl
      rw [List.length_take, List.length_drop, Nat.min_eq_left (by omega)] at hll
      obtain rfl | rfl | rfl | rfl : i = 0 ∨ i = 1 ∨ i = 2 ∨ i = 3 := by omega
      · obtain rfl : l = [] := List.eq_nil_of_length_eq_zero hll
        have hnl' : Con.numsL [] = some [] := by rw [← hnl, HF.out]; rfl
        clear hnl
        have hnl := hnl'
        have x := HX.out 2 p2 (by rw [HF.out]; rfl)
        have c1 : wr.cell? ⟨b, o + 4, none⟩ = some (.string p2.1) := (blk_cell hbw _).trans x.1
        have c2 : wr.cell? ⟨b, o + 5, none⟩ = some (.bool p2.2) := (blk_cell hbw _).trans x.2
        have cp : wr.cell? ⟨w1.heap.size, 0, none⟩ = some (.pointer (some ⟨h, 8, none⟩)) := (blk_cell HB1.out 0).trans rfl
        have hps : p2.1.size ≤ 1073741824 := HSZ.out p2 (by rw [HF.out]; simp)
        cases hfn : Con.fnum p2 with
        | none =>
          have hres : Hid (Con.submitL fs = none) := Lib.hid (by rw [HF.out, submit_eq, hfn])
          have HFN : Hid (Con.fnum (p2.1, p2.2) = none) := Lib.hid hfn
          clear hfn x hbw hnl hnl' hll hi3
          go_wp2_with (go_at_call 23; refine (number_none _ _ _ hps HFN.out).mono ?_; rintro e w2 ⟨rfl, hb2⟩)
          go_ret
          refine ⟨below_then hbr (Nat.le_trans hB hkr.1) hb2, hkr.trans (KeepBut.of_below hb2 h none) (.inl rfl), ?_⟩
          rw [hres.out]; rfl
        | some m =>
          have hnx : Hid (Con.numsL ((fs.drop 2).take 1) = some [m]) := Lib.hid (by
            have := numsL_snoc [] p2 _ hnl
            rw [hfn] at this
            rw [HF.out]; exact this)
          have HFN : Hid (Con.fnum (p2.1, p2.2) = some m) := Lib.hid hfn
          clear hfn x hbw hnl hnl' hll hi3
          go_wp2_with (go_at_call 23; refine (number_some _ _ _ hps HFN.out).mono ?_; rintro e w2 ⟨rfl, hb2⟩; have hg2 := Lib.hid (blk_below HHr.out hb2); have hc2 : w2.cell? ⟨h, 8, none⟩ = some (.int .i64 0) := (blk_cell hg2.out 8).trans rfl; have hz2 : w2.frozen? ⟨h, 8, none⟩ = false := blk_frozen hg2.out 8)
          go_roundw
          case measure => simp [intOf]
          case rel =>
            refine ⟨1, [m], rfl, by omega, hnx.out, ?_, ?_, ?_, ?_⟩
            · exact blk_far (blk_below HB1.out hb2) (Ne.symm hh1ne) _
            · exact blk_set hg2.out 8 (.int .i64 m)
            · exact (hkr.trans (KeepBut.of_below hb2 h none) (.inl rfl)).set_ 8 _
            · exact (below_then hbr (Nat.le_trans hB hkr.1) hb2).setCell hbh _
      · obtain ⟨n0, rfl⟩ : ∃ n0, l = [n0] := by
          rcases l with _ | ⟨n0, _ | ⟨_, _⟩⟩
          · cases hll
          · exact ⟨_, rfl⟩
          · simp at hll
        have hnl' : Con.numsL [p2] = some [n0] := by rw [← hnl, HF.out]; rfl
        clear hnl
        have hnl := hnl'
        have x := HX.out 3 p3 (by rw [HF.out]; rfl)
        have c1 : wr.cell? ⟨b, o + 6, none⟩ = some (.string p3.1) := (blk_cell hbw _).trans x.1
        have c2 : wr.cell? ⟨b, o + 7, none⟩ = some (.bool p3.2) := (blk_cell hbw _).trans x.2
        have cp : wr.cell? ⟨w1.heap.size, 1, none⟩ = some (.pointer (some ⟨h, 9, none⟩)) := (blk_cell HB1.out 1).trans rfl
        have hps : p3.1.size ≤ 1073741824 := HSZ.out p3 (by rw [HF.out]; simp)
        cases hfn : Con.fnum p3 with
        | none =>
          have hres : Hid (Con.submitL fs = none) := Lib.hid (by have q2 := nums1 hnl; rw [HF.out, submit_eq, q2, hfn])
          have HFN : Hid (Con.fnum (p3.1, p3.2) = none) := Lib.hid hfn
          clear hfn x hbw hnl hnl' hll hi3
          go_wp2_with (go_at_call 23; refine (number_none _ _ _ hps HFN.out).mono ?_; rintro e w2 ⟨rfl, hb2⟩)
          go_ret
          refine ⟨below_then hbr (Nat.le_trans hB hkr.1) hb2, hkr.trans (KeepBut.of_below hb2 h none) (.inl rfl), ?_⟩
          rw [hres.out]; rfl
        | some m =>
          have hnx : Hid (Con.numsL ((fs.drop 2).take 2) = some [n0, m]) := Lib.hid (by
            have := numsL_snoc [p2] p3 _ hnl
            rw [hfn] at this
            rw [HF.out]; exact this)
          have HFN : Hid (Con.fnum (p3.1, p3.2) = some m) := Lib.hid hfn
          clear hfn x hbw hnl hnl' hll hi3
          go_wp2_with (go_at_call 23; refine (number_some _ _ _ hps HFN.out).mono ?_; rintro e w2 ⟨rfl, hb2⟩; have hg2 := Lib.hid (blk_below HHr.out hb2); have hc2 : w2.cell? ⟨h, 9, none⟩ = some (.int .i64 0) := (blk_cell hg2.out 9).trans rfl; have hz2 : w2.frozen? ⟨h, 9, none⟩ = false := blk_frozen hg2.out 9)
          go_roundw
          case measure => simp [intOf]
          case rel =>
            refine ⟨2, [n0, m], rfl, by omega, hnx.out, ?_, ?_, ?_, ?_⟩
            · exact blk_far (blk_below HB1.out hb2) (Ne.symm hh1ne) _
            · exact blk_set hg2.out 9 (.int .i64 m)
            · exact (hkr.trans (KeepBut.of_below hb2 h none) (.inl rfl)).set_ 9 _
            · exact (below_then hbr (Nat.le_trans hB hkr.1) hb2).setCell hbh _
      · obtain ⟨n0, n1, rfl⟩ : ∃ n0 n1, l = [n0, n1] := by
          rcases l with _ | ⟨n0, _ | ⟨n1, _ | ⟨_, _⟩⟩⟩
          · cases hll
          · simp at hll
          · exact ⟨_, _, rfl⟩
          · simp at hll
        have hnl' : Con.numsL [p2, p3] = some [n0, n1] := by rw [← hnl, HF.out]; rfl
        clear hnl
        have hnl := hnl'
        have x := HX.out 4 p4 (by rw [HF.out]; rfl)
        have c1 : wr.cell? ⟨b, o + 8, none⟩ = some (.string p4.1) := (blk_cell hbw _).trans x.1
        have c2 : wr.cell? ⟨b, o + 9, none⟩ = some (.bool p4.2) := (blk_cell hbw _).trans x.2
        have cp : wr.cell? ⟨w1.heap.size, 2, none⟩ = some (.pointer (some ⟨h, 10, none⟩)) := (blk_cell HB1.out 2).trans rfl
        have hps : p4.1.size ≤ 1073741824 := HSZ.out p4 (by rw [HF.out]; simp)
        cases hfn : Con.fnum p4 with
        | none =>
          have hres : Hid (Con.submitL fs = none) := Lib.hid (by obtain ⟨q2, q3⟩ := nums2 hnl; rw [HF.out, submit_eq, q2, q3, hfn])
          have HFN : Hid (Con.fnum (p4.1, p4.2) = none) := Lib.hid hfn
          clear hfn x hbw hnl hnl' hll hi3
          go_wp2_with (go_at_call 23; refine (number_none _ _ _ hps HFN.out).mono ?_; rintro e w2 ⟨rfl, hb2⟩)
          go_ret
          refine ⟨below_then hbr (Nat.le_trans hB hkr.1) hb2, hkr.trans (KeepBut.of_below hb2 h none) (.inl rfl), ?_⟩
          rw [hres.out]; rfl
        | some m =>
          have hnx : Hid (Con.numsL ((fs.drop 2).take 3) = some [n0, n1, m]) := Lib.hid (by
            have := numsL_snoc [p2, p3] p4 _ hnl
            rw [hfn] at this
            rw [HF.out]; exact this)
          have HFN : Hid (Con.fnum (p4.1, p4.2) = some m) := Lib.hid hfn
          clear hfn x hbw hnl hnl' hll hi3
          go_wp2_with (go_at_call 23; refine (number_some _ _ _ hps HFN.out).mono ?_; rintro e w2 ⟨rfl, hb2⟩; have hg2 := Lib.hid (blk_below HHr.out hb2); have hc2 : w2.cell? ⟨h, 10, none⟩ = some (.int .i64 0) := (blk_cell hg2.out 10).trans rfl; have hz2 : w2.frozen? ⟨h, 10, none⟩ = false := blk_frozen hg2.out 10)
          go_roundw
          case measure => simp [intOf]
          case rel =>
            refine ⟨3, [n0, n1, m], rfl, by omega, hnx.out, ?_, ?_, ?_, ?_⟩
            · exact blk_far (blk_below HB1.out hb2) (Ne.symm hh1ne) _
            · exact blk_set hg2.out 10 (.int .i64 m)
            · exact (hkr.trans (KeepBut.of_below hb2 h none) (.inl rfl)).set_ 10 _
            · exact (below_then hbr (Nat.le_trans hB hkr.1) hb2).setCell hbh _
      · obtain ⟨n0, n1, n2, rfl⟩ : ∃ n0 n1 n2, l = [n0, n1, n2] := by
          rcases l with _ | ⟨n0, _ | ⟨n1, _ | ⟨n2, _ | ⟨_, _⟩⟩⟩⟩
          · cases hll
          · simp at hll
          · simp at hll
          · exact ⟨_, _, _, rfl⟩
          · simp at hll
        have hnl' : Con.numsL [p2, p3, p4] = some [n0, n1, n2] := by rw [← hnl, HF.out]; rfl
        obtain ⟨q2, q3, q4⟩ := nums3 hnl'
        obtain ⟨a2, ha2⟩ : ∃ a2, a2 = upd a1 [n0, n1, n2] := ⟨_, rfl⟩
        have hres : Hid (Con.submitL fs = some { a2 with inputs := (fs.drop 6).map (·.1) }) := Lib.hid (by
          have e := submit_eq p0 p1 p2 p3 p4 p5 (fs.drop 6)
          rw [← HF.out, q2, q3, q4] at e
          rw [e, ha2, HA1.out]; rfl)
        have hin : a2.inputs = [] := by rw [ha2, HA1.out]; rfl
        have hg0 : wr.heap[h]? = some (ablk (.slice none 0 0) { a2 with inputs := ((fs.drop 6).take 0).map (·.1) }) := by
          rw [List.take_zero, HHr.out, ← ha2]
          rfl
        have HG0 := Lib.hid hg0
        clear hnl hnl' q2 q3 q4 hll hi3 ha2 hin hg0
        have e6 : (fs.length : Int) - 6 = ((fs.length - 6 : Nat) : Int) := by omega
        obtain ⟨A6, hA6, hsl0⟩ := cut75 b o fs.length c 6 (by omega) hc
        have hsl : ∀ w', (Instr.slice 52 (.slice (some ⟨b, o, none⟩) fs.length c) (some (.int .i64 6)) none none).run Tryz.prog w' = .ok (.slice (some ⟨b, A6, none⟩) (fs.length - 6) (c - 6)) w' := hsl0
        clear hsl0
        go_wp2
        clear hsl
        go_loopw [74] (fun v wr => SubRel2 base w0 W h a2 fs v wr) (fun i _ => fs.length - 6 - (intOf i).toNat)
        case atStart => exact ⟨0, _, rfl, by omega, HG0.out, Kd.R_nil _ _ _ _ _, hkr, hbr⟩
        case round =>
          obtain ⟨i, vin, rfl, hi, hgh, hR, hkq, hbq⟩ := hrel
          by_cases hlt : i + 6 < fs.length
          · obtain ⟨p, hp⟩ : ∃ p, fs[6 + i]? = some p := ⟨fs[6 + i], List.getElem?_eq_getElem (by omega)⟩
            have x := HX.out (6 + i) p hp
            have hbw2 : wr.heap[b]? = some (.cells cells 75 (0, 0)) := hkq.blk hblk hne (by simp)
            have hA := hA6 (by omega)
            have eA : o + (6 + i) * 2 = A6 + i * 2 := by omega
            rw [eA] at x
            have c1 : wr.cell? ⟨b, A6 + i * 2, none⟩ = some (.string p.1) := (blk_cell hbw2 _).trans x.1
            have c2 : wr.cell? ⟨b, A6 + i * 2 + 1, none⟩ = some (.bool p.2) := (blk_cell hbw2 _).trans x.2
            have hlt2 : decide ((i : Int) < ((fs.length - 6 : Nat) : Int)) = true := by simp; omega
            have hlt3 : (i : Int) < ((fs.length - 6 : Nat) : Int) := by omega
            have htk : (fs.drop 6).take (i + 1) = (fs.drop 6).take i ++ [p] := by rw [List.take_add_one, List.getElem?_drop, hp]; rfl
            have HTK := Lib.hid htk; have HR := Lib.hid hR; have HGH := Lib.hid hgh
            have HA := Lib.hid hA
            obtain ⟨xs, hxs⟩ : ∃ xs, xs = ((fs.drop 6).take i).map (·.1) := ⟨_, rfl⟩
            have hxl : xs.length = i := by rw [hxs]; simp; omega
            have HXS := Lib.hid hxs
            rw [← hxs] at hR hgh
            have HR := Lib.hid hR; have HGH := Lib.hid hgh
            clear x hbw2 hA eA htk hR hgh hp hxs
            go_wp2
            obtain ⟨w5, hw5⟩ : ∃ w5, w5 = wr.alloc (Obj.cells #[Value.string p.fst, Value.bool p.snd] 75) := ⟨_, rfl⟩
            have hxb : w5.heap[wr.heap.size]? = some (.cells #[.string p.1, .bool p.2] 75 (0, 0)) := by rw [hw5]; exact blk_new _ _
            have hx5 : w5.cell? ⟨wr.heap.size, 0, none⟩ = some (.string p.1) := by rw [hw5]; exact (blk_cell (blk_new _ _) 0).trans rfl
            have hh5 : w5.heap[h]? = some (ablk vin { a2 with inputs := xs }) := by rw [hw5]; exact blk_alloc HGH.out _
            have h75 : w5.cell? ⟨h, 7, none⟩ = some vin := (blk_cell hh5 7).trans rfl
            have z75 : w5.frozen? ⟨h, 7, none⟩ = false := blk_frozen hh5 7
            have hR5 : Kd.R Kd.string 9 w5 W.heap.size (fun _ => True) vin xs := by rw [hw5]; exact Kd.R_alloc HR.out _
            have hk5 : KeepBut W w5 h none := by rw [hw5]; exact hkq.trans (KeepBut.of_below (below_alloc (Below.refl _ _) _) h none) (.inl rfl)
            have hb5 : Below base w0 w5 := by rw [hw5]; exact hbq.alloc (Nat.le_trans hB hkq.1) _
            have hs5 := hk5.1
            have hvn : some h ≠ vin.ownBlock := Kd.R_ne hR5 hh5 (by decide)
            have hvx : some wr.heap.size ≠ vin.ownBlock := Kd.R_ne hR5 hxb (by decide)
            have HXB := Lib.hid hxb; clear hxb
            rw [← hw5]
            have HR5 := Lib.hid hR5; have HH5 := Lib.hid hh5; clear hw5 hR5 hh5
            have hl9 : (xs.length + 1) * 16 ≤ 140737488355328 := by omega
            have hlt5 := blk_lt HH5.out
            have hlt6 := World.block_lt_of_cell? w5 _ hx5
            go_region_law (first | (refine Kd.R_append_step Kd.string (w0 := w5) W.heap.size (by rfl) (.tmp 83) (.tmp 86) 42 9 (.string ⟨#[]⟩) 16 rfl Tryz.underlying42 info9 rfl (by decide) (by decide) vin xs p.1 [.string p.1] (fun _ => True) (fun _ => False) (by rfl) (by rfl) (by rfl) (fun _ hk => hk.elim) (fun _ _ => trivial) (Kd.R_drew HR5.out) (below_drew (Below.refl _ _)) hs5 hl9 ?_; intro v1 w6 hown6 hb6 hgr6 hat6; obtain ⟨A3, c3, rfl⟩ := Kd.R_slice hown6; have hg6 := Lib.hid (blk_grown (w := w5.drew) HH5.out hgr6 hvn); have hg67 : w6.cell? ⟨h, 7, none⟩ = some vin := (blk_cell hg6.out 7).trans rfl; have hz67 : w6.frozen? ⟨h, 7, none⟩ = false := blk_frozen hg6.out 7; have hx67 : w6.cell? ⟨wr.heap.size, 0, none⟩ = some (.string p.1) := (blk_cell (blk_grown (w := w5.drew) HXB.out hgr6 hvx) 0).trans rfl))
            all_goals
              go_wp2
              have hlen : (xs ++ [p.1]).length = i + 1 := by simp [hxl]
              rw [hlen] at hown6
              go_roundw
              case measure => simp [intOf]; omega
              case rel =>
                refine ⟨i + 1, .slice A3 (i + 1) c3, by go_num, by omega, ?_, ?_, ?_, ?_⟩
                · rw [HTK.out, List.map_append, ← HXS.out]
                  exact blk_set hg6.out 7 (.slice A3 (i + 1) c3)
                · rw [HTK.out, List.map_append, ← HXS.out]
                  exact Kd.R_set hown6 hg6.out (by decide) 7 _
                · exact ((hk5.trans (KeepBut.of_below (below_drew (Below.refl _ _)) h none) (.inl rfl)).trans (KeepBut.of_grown hgr6 h) (Kd.R_base2 HR5.out)).set_ 7 _
                · exact (hb5.trans (hb6.mono hB)).setCell hbh _
          · have hil : i = fs.length - 6 := by omega
            have htk : (fs.drop 6).take i = fs.drop 6 := List.take_of_length_le (by simp; omega)
            rw [htk] at hgh hR
            have HGH := Lib.hid hgh; have HR := Lib.hid hR; clear hgh hR htk
            have hlt2 : decide ((i : Int) < ((fs.length - 6 : Nat) : Int)) = false := by simp; omega
            clear hil
            go_wp2
            go_ret
            refine ⟨hbq, hkq, ?_⟩
            rw [hres.out]
            exact ⟨rfl, vin, HGH.out, HR.out⟩

end Go.Proofs.YtkdofgbjebpmoaaGreatDoor
