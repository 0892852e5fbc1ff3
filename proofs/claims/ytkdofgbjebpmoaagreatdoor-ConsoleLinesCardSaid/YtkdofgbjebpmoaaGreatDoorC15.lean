import Derived.Test.YtkdofgbjebpmoaaGreatDoorC14
namespace Go.Proofs.YtkdofgbjebpmoaaGreatDoor
set_option linter.unusedVariables false
set_option linter.unusedSimpArgs false
open Go.RowKit Go.Proofs.YtkdofgbjebpmoaaGreatDoorW.PrintWords

set_option maxRecDepth 100000 in
set_option maxHeartbeats 40000000 in
theorem parse_t (s : ByteArray) (w : World) (HC : Hid (CT w)) (n : Nat) (ls lp : List ByteArray) (last : ByteArray) (h1 : (s.size : Int) ≤ 1048576) (h1d : decide ((1048576 : Int) < (s.size : Int)) = false)
    (hbe : last.toList.isEmpty = true) (HLAST : Hid (ls[n]? = some last)) (hcall : ∀ w, CT w →
    Calls Tryz.prog 9 #[.string s, .string ⟨#[10]⟩] w fun e w' => e = .returned (.slice (some ⟨w.heap.size, 0, none⟩) (n + 1) (n + 1)) ∧ w' = w.alloc (.cells (ls.map Value.string).toArray 9))
    (HSUB : Hid (∀ (i : Nat) (x : ByteArray), lp[i]? = some x → ls[i]? = some x)) (HP : Hid (Con.parseL s.data.toList = Con.runB Con.script0 0 (lp.map (·.data.toList)))) (HSUM : Hid (Con.sumL (lp.map (·.data.toList)) ≤ s.size + 1)) (hN : lp.length ≤ 1048577) (hin : n ≤ 1048577) (HN : Hid (n = lp.length)) :
    Calls Tryz.prog 6 #[.string s] w (ParsePost s w) := by
  go_enter Tryz.func6, Tryz.ntmps6
  go_wp2_with (first | (go_at_call 9; go_must (refine (hcall _ (HC.out.below (below_alloc (below_alloc (below_alloc (Below.refl _ _) _) _) _))).mono ?_; rintro e w2 ⟨rfl, hw2⟩; have hrow : w2.heap[w.heap.size + 1 + 1 + 1]? = some (.cells (ls.map Value.string).toArray 9 (0, 0)) := (by subst hw2; exact blk_new_at (by simp)); have hlc : w2.cell? ⟨w.heap.size + 1 + 1 + 1, n, none⟩ = some (.string last) := (blk_cell hrow _).trans (by simp [HLAST.out]); have HW2 := Lib.hid hw2; have HROW := Lib.hid hrow; clear hw2 hrow)))
  go_loopw [34] (fun v wr => ParRel w ls lp (Con.parseL s.data.toList) v wr) (fun i _ => n - (intOf i).toNat)
  case atStart =>
    refine ⟨0, Con.script0, rfl, Nat.zero_le _, by rw [HP.out, List.drop_zero], ⟨.slice none 0 0, .slice none 0 0, by rw [HW2.out]; exact blk_alloc (blk_new3 _ _ _ _) _, Kd.S_nil _ _ _ _ _, Kd.R_nil _ _ _ _ _, Nat.le_refl _⟩, by rw [HW2.out]; exact split_w00 w _ _, HROW.out, ?_, Nat.le_refl _, fun l hl => by cases hl⟩
    have := HSUM.out
    rw [List.drop_zero]
    show 0 + _ ≤ _
    omega
  case round =>
    obtain ⟨i, st, rfl, hi, hrun, hrs, hbw, hg4, hch, hac, hrw⟩ := hrel
    have HRUN := Lib.hid hrun; have HRS := Lib.hid hrs; have HBW := Lib.hid hbw; have HG4 := Lib.hid hg4; have HCH := Lib.hid hch; have HRW := Lib.hid hrw
    have hWs : w.heap.size + 1 + 1 ≤ wr.heap.size := by have := hbw.size; rw [w00_size] at this; exact this
    have HBA := Lib.hid (of_w00 hbw)
    clear hrun hrs hbw hg4 hch hrw
    rw [← HN.out] at hi
    by_cases hlt : i < n
    · have hltd : decide ((i : Int) < (n : Int)) = true := by simp; omega
      have hlti : (i : Int) < (n : Int) := by omega
      obtain ⟨x, hx⟩ : ∃ x, lp[i]? = some x := ⟨lp[i]'(by rw [← HN.out]; exact hlt), List.getElem?_eq_getElem _⟩
      have hxl := HSUB.out i x hx
      have cx : wr.cell? ⟨w.heap.size + 1 + 1 + 1, i, none⟩ = some (.string x) := (blk_cell HG4.out i).trans (by simp [hxl])
      have hdr : (lp.drop i).map (·.data.toList) = x.data.toList :: (lp.drop (i + 1)).map (·.data.toList) := by
        have hl : i < lp.length := by rw [← HN.out]; exact hlt
        rw [List.drop_eq_getElem_cons hl, List.map_cons]
        have := List.getElem?_eq_getElem hl; rw [hx] at this; injection this with this; rw [← this]
      have hch2 := HCH.out
      rw [hdr] at hch2
      have hch3 : st.choices.length + (x.size + 1 + Con.sumL ((lp.drop (i + 1)).map (·.data.toList))) ≤ 1048577 := hch2
      have hxs : x.size ≤ 1073741824 := by omega
      have hil : i < lp.length := by rw [← HN.out]; exact hlt
      have hrun2 : Con.parseL s.data.toList = match Con.stepL st x.data.toList with
          | .ok st' => Con.runB st' (i + 1) ((lp.drop (i + 1)).map (·.data.toList))
          | .error c => .error (c, (i : Int) + 1) := by rw [HRUN.out, hdr]; rfl
      have HRUN2 := Lib.hid hrun2; have HCH3 := Lib.hid hch3
      clear hxl hx hdr hch2 hch3 hrun2
      by_cases hh : x.data.toList.head? = some 35
      · have HPX : Hid (Lib.hasPrefix x.data.toList [35] = true) := Lib.hid (by
          cases hd : x.data.toList with
          | nil => rw [hd] at hh; cases hh
          | cons a l => rw [hd] at hh; injection hh with hh; subst hh; simp [Lib.hasPrefix])
        have hst : Hid (Con.stepL st x.data.toList = .ok st) := Lib.hid (by unfold Con.stepL; rw [if_pos hh])
        clear hh
        go_wp2_with (go_at_call 10; refine (hp_any x ⟨#[35]⟩ true _ HPX.out).mono ?_; rintro e w3 ⟨rfl, he3⟩; rw [he3]; clear he3 w3)
        go_roundw
        case measure => simp [intOf]; omega
        case rel =>
          have hr2 := HRUN2.out
          rw [hst.out] at hr2
          exact ParRel.next hil hr2 HRS.out HBW.out HG4.out (by have := HCH3.out; omega) (by omega) (fun l hl => Nat.le_succ_of_le (HRW.out l hl)) _ (by go_num)
      · have HPX : Hid (Lib.hasPrefix x.data.toList [35] = false) := Lib.hid (by
          cases hd : x.data.toList with
          | nil => rfl
          | cons a l => rw [hd] at hh; cases hv : Lib.hasPrefix (a :: l) [35] with
            | false => rfl
            | true => exact absurd (by simp [Lib.hasPrefix] at hv; simp [hv]) hh)
        have HH := Lib.hid hh
        clear hh
        cases hcut : Con.cutL x.data.toList with
        | none =>
          have hst : Hid (Con.stepL st x.data.toList = .error 160) := Lib.hid (by unfold Con.stepL; rw [if_neg HH.out, hcut])
          have HCUT := Lib.hid hcut; clear hcut
          go_wp2_with (first | (go_at_call 10; refine (hp_any x ⟨#[35]⟩ false _ HPX.out).mono ?_; rintro e w3 ⟨rfl, he3⟩; rw [he3]; clear he3 w3) | (go_at_call 11; refine (cut_none x _ hxs HCUT.out).mono ?_; rintro e w3 ⟨gm, rfl, hgm, hge, hb3⟩; have HGM := Lib.hid hgm; have HB3 := Lib.hid hb3; have HBW3 := Lib.hid (then_w00 HBW.out hb3); clear hgm hb3) | (go_at_call 13; refine (as_new gm _ (cell_below (cell_below HC.out.2.1 HBA.out) HB3.out)).mono ?_; rintro e w4 ⟨rfl, hb4, hcp⟩))
          have hW4 : w.heap.size + 1 + 1 ≤ w3.heap.size := by have := HBW3.out.size; rw [w00_size] at this; exact this
          have HB4 := Lib.hid (then_w00 HBW3.out hb4)
          have G2 := Lib.hid (of_w00_a HB4.out)
          have G3 := Lib.hid (of_w00_b HB4.out)
          have hg0 : w4.cell? ⟨gm, 0, none⟩ = some (.int .i64 160) := (blk_cell (blk_below HGM.out hb4) 0).trans rfl
          have m0 : w4.cell? ⟨w.heap.size, 0, none⟩ = some (.int .i64 0) := (blk_cell G2.out 0).trans rfl
          have m1 : w4.cell? ⟨w.heap.size, 1, none⟩ = some (.int .i64 0) := (blk_cell G2.out 1).trans rfl
          have m2 : w4.cell? ⟨w.heap.size, 2, none⟩ = some (.int .i64 0) := (blk_cell G2.out 2).trans rfl
          have m3 : w4.cell? ⟨w.heap.size, 3, none⟩ = some (.int .i64 0) := (blk_cell G2.out 3).trans rfl
          have m4 : w4.cell? ⟨w.heap.size, 4, none⟩ = some (.slice none 0 0) := (blk_cell G2.out 4).trans rfl
          have m5 : w4.cell? ⟨w.heap.size, 5, none⟩ = some (.slice none 0 0) := (blk_cell G2.out 5).trans rfl
          have m6 : w4.cell? ⟨w.heap.size, 6, none⟩ = some (.int .i64 0) := (blk_cell G2.out 6).trans rfl
          have m7 : w4.cell? ⟨w.heap.size, 7, none⟩ = some (.bool false) := (blk_cell G2.out 7).trans rfl
          have z : ∀ j, w4.frozen? ⟨w.heap.size, j, none⟩ = false := fun j => blk_frozen G2.out j
          have n0 : w4.cell? ⟨w.heap.size + 1, 0, none⟩ = some (.int .i64 0) := (blk_cell G3.out 0).trans rfl
          have n1 : w4.cell? ⟨w.heap.size + 1, 1, none⟩ = some (.int .i64 0) := (blk_cell G3.out 1).trans rfl
          have z1 : ∀ j, w4.frozen? ⟨w.heap.size + 1, j, none⟩ = false := fun j => blk_frozen G3.out j
          have hne : gm ≠ w.heap.size := fun e => by
            have h1 := G2.out
            have h2 := blk_below HGM.out hb4
            rw [e, h1] at h2
            injection h2 with h2; injection h2 with _ h2; exact absurd h2 (by decide)
          have hne2 : w.heap.size ≠ gm := fun e => hne e.symm
          have HBB4 := Lib.hid hb4
          clear hb4
          go_region
          all_goals
            go_wp2
            have hpar : Con.parseL s.data.toList = .error (160, (i : Int) + 1) := by rw [HRUN2.out, hst.out]
            refine parse_ret_d rfl rfl (ten_a _ _ _ _ _ _ _ _ _ _ (by omega) G2.out) (ten_b _ _ _ _ _ _ _ _ _ _ (by omega) G3.out) rfl rfl ⟨below_drew (ten_below _ _ _ _ _ _ _ _ _ _ (of_w00 HB4.out) (Nat.le_refl _) (by omega)), ?_⟩
            rw [hpar]
            rfl
        | some fs =>
          cases fs with
          | nil =>
            have hst : Hid (Con.stepL st x.data.toList = .ok st) := Lib.hid (by unfold Con.stepL; rw [if_neg HH.out, hcut])
            have HCUT := Lib.hid hcut; clear hcut
            go_wp2_with (first | (go_at_call 10; refine (hp_any x ⟨#[35]⟩ false _ HPX.out).mono ?_; rintro e w3 ⟨rfl, he3⟩; rw [he3]; clear he3 w3) | (go_at_call 11; refine (cut_nil x _ hxs HCUT.out).mono ?_; rintro e w3 ⟨A3, c3, rfl, hb3⟩; have HB3 := Lib.hid hb3; clear hb3) | (go_at_call 13; refine (as_nil _ _).mono ?_; rintro e w4 ⟨rfl, he4⟩; rw [he4]; clear he4 w4))
            go_roundw
            case measure => simp [intOf]; omega
            case rel =>
              have hr2 := HRUN2.out
              rw [hst.out] at hr2
              have hbA := below_alloc HB3.out (.cells #[.pointer none] 58)
              exact ParRel.next hil hr2 (HRS.out.below hbA) (then_w00 HBW.out hbA) (blk_below HG4.out hbA) (by have := HCH3.out; omega) (by omega) (fun l hl => Nat.le_succ_of_le (HRW.out l hl)) _ (by go_num)
          | cons f r =>
            have hfz : ∀ p ∈ f :: r, p.1.size ≤ x.size := Con.cutL_size hcut
            have hfz2 : ∀ p ∈ f :: r, p.1.size ≤ 1073741824 := fun p hp => Nat.le_trans (hfz p hp) hxs
            have HFZ := Lib.hid hfz2
            have hst : Con.stepL st x.data.toList = Con.lineL st f r := by unfold Con.stepL; rw [if_neg HH.out, hcut]
            have HST := Lib.hid hst
            have HCUT := Lib.hid hcut
            clear hcut hfz hfz2 hst
            cases hline : Con.lineL st f r with
            | ok st' =>
              have hst : Hid (Con.stepL st x.data.toList = .ok st') := Lib.hid (by rw [HST.out, hline])
              have HLINE := Lib.hid hline; clear hline
              go_wp2_with (first | (go_at_call 10; refine (hp_any x ⟨#[35]⟩ false _ HPX.out).mono ?_; rintro e w3 ⟨rfl, he3⟩; rw [he3]; clear he3 w3) | (go_at_call 11; refine (cut_cons x _ hxs HCUT.out).mono ?_; rintro e w3 ⟨A3, c3, rfl, hfs3, hrl, hb3⟩; have HB3 := Lib.hid hb3; have HFS3 := Lib.hid hfs3; clear hb3 hfs3) | (go_at_call 12; refine (line_ok HLINE.out (line_any (w.heap.size + 1 + 1) (w00 w) w3 (w.heap.size + 1 + 1) st _ f r (HRS.out.below HB3.out) HFS3.out ((HC.out.1.below HBA.out).below HB3.out) (then_w00 HBW.out HB3.out) (Nat.le_trans hWs HB3.out.size) HFZ.out (by omega) (by have := HCH3.out; omega) (fun l hl => Nat.le_trans (HRW.out l hl) (by omega)) (by omega))).mono ?_; rintro e w5 ⟨rfl, hb5, hz5, hrs5, hk5⟩; have HB5 := Lib.hid hb5; have HRS5 := Lib.hid hrs5; have HK5 := Lib.hid hk5; clear hb5 hrs5 hk5) | (go_at_call 13; refine (as_nil _ _).mono ?_; rintro e w4 ⟨rfl, he4⟩; rw [he4]; clear he4 w4))
              go_roundw
              case measure => simp [intOf]; omega
              case rel =>
                have hr2 := HRUN2.out
                rw [hst.out] at hr2
                have hbA := below_alloc (Below.refl _ w5) (.cells #[.pointer none] 58)
                have hg := Con.lineL_grow HLINE.out i HRW.out
                have h45 := HK5.out.2 _ _ _ _ (blk_below HG4.out HB3.out) (by omega) (by decide) (by decide) (by decide)
                exact ParRel.next hil hr2 (HRS5.out.below hbA) (then_w00 HB5.out hbA) (blk_below h45 hbA) (by have := HCH3.out; have := hg.1; omega) (by have := hg.2.1; omega) hg.2.2 _ (by go_num)
            | error c =>
              have hst : Hid (Con.stepL st x.data.toList = .error c) := Lib.hid (by rw [HST.out, hline])
              have HLINE := Lib.hid hline; clear hline
              go_wp2_with (first | (go_at_call 10; refine (hp_any x ⟨#[35]⟩ false _ HPX.out).mono ?_; rintro e w3 ⟨rfl, he3⟩; rw [he3]; clear he3 w3) | (go_at_call 11; refine (cut_cons x _ hxs HCUT.out).mono ?_; rintro e w3 ⟨A3, c3, rfl, hfs3, hrl, hb3⟩; have HB3 := Lib.hid hb3; have HFS3 := Lib.hid hfs3; clear hb3 hfs3) | (go_at_call 12; refine (line_err HLINE.out (line_any (w.heap.size + 1 + 1) (w00 w) w3 (w.heap.size + 1 + 1) st _ f r (HRS.out.below HB3.out) HFS3.out ((HC.out.1.below HBA.out).below HB3.out) (then_w00 HBW.out HB3.out) (Nat.le_trans hWs HB3.out.size) HFZ.out (by omega) (by have := HCH3.out; omega) (fun l hl => Nat.le_trans (HRW.out l hl) (by omega)) (by omega))).mono ?_; rintro e w5 ⟨gm, rfl, hb5, hz5, hgm⟩; have HBW5 := Lib.hid hb5; have HGM := Lib.hid hgm; have HC5 := Lib.hid (of_w00 hb5); clear hb5 hgm) | (go_at_call 13; refine (as_new gm _ (cell_below HC.out.2.1 HC5.out)).mono ?_; rintro e w4 ⟨rfl, hb4, hcp⟩))
              have hW4 : w.heap.size + 1 + 1 ≤ w5.heap.size := by have := HBW5.out.size; rw [w00_size] at this; exact this
              have HB4 := Lib.hid (then_w00 HBW5.out hb4)
              have G2 := Lib.hid (of_w00_a HB4.out)
              have G3 := Lib.hid (of_w00_b HB4.out)
              have hg0 : w4.cell? ⟨gm, 0, none⟩ = some (.int .i64 c) := (blk_cell (blk_below HGM.out hb4) 0).trans rfl
              have m0 : w4.cell? ⟨w.heap.size, 0, none⟩ = some (.int .i64 0) := (blk_cell G2.out 0).trans rfl
              have m1 : w4.cell? ⟨w.heap.size, 1, none⟩ = some (.int .i64 0) := (blk_cell G2.out 1).trans rfl
              have m2 : w4.cell? ⟨w.heap.size, 2, none⟩ = some (.int .i64 0) := (blk_cell G2.out 2).trans rfl
              have m3 : w4.cell? ⟨w.heap.size, 3, none⟩ = some (.int .i64 0) := (blk_cell G2.out 3).trans rfl
              have m4 : w4.cell? ⟨w.heap.size, 4, none⟩ = some (.slice none 0 0) := (blk_cell G2.out 4).trans rfl
              have m5 : w4.cell? ⟨w.heap.size, 5, none⟩ = some (.slice none 0 0) := (blk_cell G2.out 5).trans rfl
              have m6 : w4.cell? ⟨w.heap.size, 6, none⟩ = some (.int .i64 0) := (blk_cell G2.out 6).trans rfl
              have m7 : w4.cell? ⟨w.heap.size, 7, none⟩ = some (.bool false) := (blk_cell G2.out 7).trans rfl
              have z : ∀ j, w4.frozen? ⟨w.heap.size, j, none⟩ = false := fun j => blk_frozen G2.out j
              have n0 : w4.cell? ⟨w.heap.size + 1, 0, none⟩ = some (.int .i64 0) := (blk_cell G3.out 0).trans rfl
              have n1 : w4.cell? ⟨w.heap.size + 1, 1, none⟩ = some (.int .i64 0) := (blk_cell G3.out 1).trans rfl
              have z1 : ∀ j, w4.frozen? ⟨w.heap.size + 1, j, none⟩ = false := fun j => blk_frozen G3.out j
              have hne : gm ≠ w.heap.size := fun e => by
                have h1 := G2.out
                have h2 := blk_below HGM.out hb4
                rw [e, h1] at h2
                injection h2 with h2; injection h2 with _ h2; exact absurd h2 (by decide)
              have hne2 : w.heap.size ≠ gm := fun e => hne e.symm
              have HBB4 := Lib.hid hb4
              clear hb4
              go_region
              all_goals
                go_wp2
                have hpar : Con.parseL s.data.toList = .error (c, (i : Int) + 1) := by rw [HRUN2.out, hst.out]
                refine parse_ret_d rfl rfl (ten_a _ _ _ _ _ _ _ _ _ _ (by omega) G2.out) (ten_b _ _ _ _ _ _ _ _ _ _ (by omega) G3.out) rfl rfl ⟨below_drew (ten_below _ _ _ _ _ _ _ _ _ _ (of_w00 HB4.out) (Nat.le_refl _) (by omega)), ?_⟩
                rw [hpar]
                rfl
    · obtain rfl : i = n := by omega
      have hltd : decide ((i : Int) < (i : Int)) = false := by simp
      obtain ⟨va, vc, hgb, hS, hR, hbg⟩ := HRS.out
      obtain ⟨A4, c4, rfl⟩ := Kd.S_slice hS
      obtain ⟨A5, c5, rfl⟩ := Kd.R_slice hR
      have HS := Lib.hid hS; have HR := Lib.hid hR
      have HG2 := Lib.hid (of_w00_a HBW.out); have HG3 := Lib.hid (of_w00_b HBW.out)
      have k0 : wr.cell? ⟨w.heap.size + 1 + 1, 0, none⟩ = some (.int .i64 st.nodes) := (blk_cell hgb 0).trans rfl
      have k1 : wr.cell? ⟨w.heap.size + 1 + 1, 1, none⟩ = some (.int .i64 st.replicas) := (blk_cell hgb 1).trans rfl
      have k2 : wr.cell? ⟨w.heap.size + 1 + 1, 2, none⟩ = some (.int .i64 st.block) := (blk_cell hgb 2).trans rfl
      have k3 : wr.cell? ⟨w.heap.size + 1 + 1, 3, none⟩ = some (.int .i64 st.room) := (blk_cell hgb 3).trans rfl
      have k4 : wr.cell? ⟨w.heap.size + 1 + 1, 4, none⟩ = some (.slice A4 st.acts.length c4) := (blk_cell hgb 4).trans rfl
      have k5 : wr.cell? ⟨w.heap.size + 1 + 1, 5, none⟩ = some (.slice A5 st.choices.length c5) := (blk_cell hgb 5).trans rfl
      have k6 : wr.cell? ⟨w.heap.size + 1 + 1, 6, none⟩ = some (.int .i64 st.rounds) := (blk_cell hgb 6).trans rfl
      have k7 : wr.cell? ⟨w.heap.size + 1 + 1, 7, none⟩ = some (.bool st.flips) := (blk_cell hgb 7).trans rfl
      have m0 : wr.cell? ⟨w.heap.size, 0, none⟩ = some (.int .i64 0) := (blk_cell HG2.out 0).trans rfl
      have m1 : wr.cell? ⟨w.heap.size, 1, none⟩ = some (.int .i64 0) := (blk_cell HG2.out 1).trans rfl
      have m2 : wr.cell? ⟨w.heap.size, 2, none⟩ = some (.int .i64 0) := (blk_cell HG2.out 2).trans rfl
      have m3 : wr.cell? ⟨w.heap.size, 3, none⟩ = some (.int .i64 0) := (blk_cell HG2.out 3).trans rfl
      have m4 : wr.cell? ⟨w.heap.size, 4, none⟩ = some (.slice none 0 0) := (blk_cell HG2.out 4).trans rfl
      have m5 : wr.cell? ⟨w.heap.size, 5, none⟩ = some (.slice none 0 0) := (blk_cell HG2.out 5).trans rfl
      have m6 : wr.cell? ⟨w.heap.size, 6, none⟩ = some (.int .i64 0) := (blk_cell HG2.out 6).trans rfl
      have m7 : wr.cell? ⟨w.heap.size, 7, none⟩ = some (.bool false) := (blk_cell HG2.out 7).trans rfl
      have z : ∀ j, wr.frozen? ⟨w.heap.size, j, none⟩ = false := fun j => blk_frozen HG2.out j
      have n0 : wr.cell? ⟨w.heap.size + 1, 0, none⟩ = some (.int .i64 0) := (blk_cell HG3.out 0).trans rfl
      have n1 : wr.cell? ⟨w.heap.size + 1, 1, none⟩ = some (.int .i64 0) := (blk_cell HG3.out 1).trans rfl
      have z1 : ∀ j, wr.frozen? ⟨w.heap.size + 1, j, none⟩ = false := fun j => blk_frozen HG3.out j
      have HGB := Lib.hid hgb
      clear hgb hS hR
      go_wp2
      have hpar : Con.parseL s.data.toList = .ok st := by
        rw [HRUN.out, List.drop_eq_nil_of_le (by rw [← HN.out]; exact Nat.le_refl _)]; rfl
      refine parse_ret rfl rfl (ten_a _ _ _ _ _ _ _ _ _ _ (by omega) HG2.out) (ten_b _ _ _ _ _ _ _ _ _ _ (by omega) HG3.out) rfl rfl ⟨ten_below _ _ _ _ _ _ _ _ _ _ HBA.out (Nat.le_refl _) (by omega), ?_⟩
      rw [hpar]
      refine ⟨_, _, rfl, ?_, ?_⟩
      · exact Kd.S_lower (Kd.S_mono (Kd.S_step (Kd.S_types (Kd.S_types HS.out HG2.out (by decide)) HG3.out (by decide)) (fun k hk _ => ten_far _ _ _ _ _ _ _ _ _ _ hk.1.2 hk.2)) (fun _ _ => trivial)) (by omega)
      · exact Kd.R_lower (Kd.R_mono (Kd.R_step (Kd.R_types (Kd.R_types HR.out HG2.out (by decide)) HG3.out (by decide)) (fun k hk _ => ten_far _ _ _ _ _ _ _ _ _ _ hk.1.2 hk.2)) (fun _ _ => trivial)) (by omega)
end Go.Proofs.YtkdofgbjebpmoaaGreatDoor
