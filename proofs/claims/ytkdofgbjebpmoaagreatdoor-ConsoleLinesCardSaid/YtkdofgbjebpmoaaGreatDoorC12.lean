import Derived.Test.YtkdofgbjebpmoaaGreatDoorC11
namespace Go.Proofs.YtkdofgbjebpmoaaGreatDoor
set_option linter.unusedVariables false
set_option linter.unusedSimpArgs false
open Go.RowKit Go.Proofs.YtkdofgbjebpmoaaGreatDoorW.PrintWords

theorem LPost.ret {base : Nat} {w0 W : World} {g : Nat} {r : Except Int ScriptL} {e : Ending} {w' : World} (h : LPost base w0 W g r e w') : ∃ v, e = .returned v := by
  obtain ⟨_, _, h⟩ := h
  cases r with
  | ok st => exact ⟨_, h.1⟩
  | error c => obtain ⟨b, h, _⟩ := h; exact ⟨_, h⟩
theorem LPost.pre {base : Nat} {w0 W W1 : World} {g : Nat} {r : Except Int ScriptL} {e : Ending} {w' : World} (hb : Below W.heap.size W W1) (h : LPost base w0 W1 g r e w') : LPost base w0 W g r e w' := by
  obtain ⟨h1, h2, h⟩ := h
  refine ⟨h1, Nat.le_trans hb.size h2, ?_⟩
  cases r with
  | ok st => exact ⟨h.1, h.2.1, (KeptT.below g hb).trans h.2.2⟩
  | error c => exact h
theorem setting_some (g : Nat) (s : ByteArray) (i : Nat) (h : Con.setIx s.data.toList = some i) (w : World) :
    Calls Tryz.prog 22 #[.pointer (some ⟨g, 0, none⟩), .string s] w fun e w' => e = .returned (.pointer (some ⟨g, i, none⟩)) ∧ w' = w := by
  have := setting_any g s w
  rw [h] at this; exact this
theorem setting_none (g : Nat) (s : ByteArray) (h : Con.setIx s.data.toList = none) (w : World) :
    Calls Tryz.prog 22 #[.pointer (some ⟨g, 0, none⟩), .string s] w fun e w' => e = .returned (.pointer none) ∧ w' = w := by
  have := setting_any g s w
  rw [h] at this; exact this
theorem FS.belowR2 {W w1 : World} {base g : Nat} {st : ScriptL} {v : Value} {fs : List Con.Fld} (hr : RS W base g st) (h : FS W v fs) (hb : Below W.heap.size W w1) : FS w1 v fs := by
  obtain ⟨va, vc, h1, _⟩ := hr
  exact h.kept (KeptT.below g hb) (fun cells fr e => by rw [h1] at e; injection e with e; injection e with _ e; exact absurd e (by decide))
theorem lineL_none {st : ScriptL} {f x : Con.Fld} {i : Nat} (hq : ¬ f.2 = true) (h : Con.setIx f.1.data.toList = some i) (hn : Con.fnum x = none) : Con.lineL st f [x] = .error 2 := by
  unfold Con.lineL; rw [if_neg hq, h]; dsimp only; rw [hn]
theorem lineL_some {st : ScriptL} {f x : Con.Fld} {i : Nat} {n : Int} (hq : ¬ f.2 = true) (h : Con.setIx f.1.data.toList = some i) (hn : Con.fnum x = some n) : Con.lineL st f [x] = .ok (Con.setNum st i n) := by
  unfold Con.lineL; rw [if_neg hq, h]; dsimp only; rw [hn]
theorem lineL_many {st : ScriptL} {f : Con.Fld} {i : Nat} (hq : ¬ f.2 = true) (h : Con.setIx f.1.data.toList = some i) {rest : List Con.Fld} (hl : rest.length ≠ 1) : Con.lineL st f rest = .error 2 := by
  unfold Con.lineL; rw [if_neg hq, h]; dsimp only
  match rest, hl with
  | [], _ => rfl
  | [_], h => exact absurd rfl h
  | _ :: _ :: _, _ => rfl
theorem lineL_word {st : ScriptL} {f : Con.Fld} (hq : ¬ f.2 = true) (h : Con.setIx f.1.data.toList = none) {rest : List Con.Fld} : Con.lineL st f rest = if f.1.data.toList = Con.wFlips ∨ f.1.data.toList = Con.wClient then
        if rest ≠ [] then .error 2
        else if f.1.data.toList = Con.wClient then .ok { st with acts := st.acts ++ [[]] }
        else .ok { st with flips := true }
      else if f.1.data.toList = Con.wChoose then Con.chooseL st rest
      else Con.actL st f.1.data.toList rest := by
  unfold Con.lineL; rw [if_neg hq, h]
theorem VT.below {W W1 : World} (h : VT W) (hb : Below W.heap.size W W1) : VT W1 := by
  intro j v hv
  have h1 := h j v hv
  have hlt := World.block_lt_of_cell? W _ h1
  have := hb.block 1 hlt
  rw [← h1]
  simp only [World.cell?, this]
theorem setIx_ix {l : List UInt8} {i : Nat} (h : Con.setIx l = some i) : i = 0 ∨ i = 1 ∨ i = 2 ∨ i = 3 ∨ i = 6 := by
  unfold Con.setIx at h
  split at h
  · injection h with h; omega
  · split at h
    · injection h with h; omega
    · split at h
      · injection h with h; omega
      · split at h
        · injection h with h; omega
        · split at h
          · injection h with h; omega
          · cases h
theorem num_cell {W : World} {g i : Nat} {l : List UInt8} {va vc : Value} {st : ScriptL} (h : Con.setIx l = some i) (hb : W.heap[g]? = some (rblk va vc st)) : ∃ n, W.cell? ⟨g, i, none⟩ = some (.int .i64 n) := by
  rcases setIx_ix h with rfl | rfl | rfl | rfl | rfl
  · exact ⟨_, (blk_cell hb 0).trans rfl⟩
  · exact ⟨_, (blk_cell hb 1).trans rfl⟩
  · exact ⟨_, (blk_cell hb 2).trans rfl⟩
  · exact ⟨_, (blk_cell hb 3).trans rfl⟩
  · exact ⟨_, (blk_cell hb 6).trans rfl⟩
theorem set_num {W : World} {g i : Nat} {l : List UInt8} {va vc : Value} {st : ScriptL} (h : Con.setIx l = some i) (hb : W.heap[g]? = some (rblk va vc st)) (n : Int) : (W.setCell ⟨g, i, none⟩ (.int .i64 n)).heap[g]? = some (rblk va vc (Con.setNum st i n)) := by
  rcases setIx_ix h with rfl | rfl | rfl | rfl | rfl
  · exact blk_set hb 0 _
  · exact blk_set hb 1 _
  · exact blk_set hb 2 _
  · exact blk_set hb 3 _
  · exact blk_set hb 6 _
theorem setNum_acts (st : ScriptL) (i : Nat) (n : Int) : (Con.setNum st i n).acts = st.acts ∧ (Con.setNum st i n).choices = st.choices := by
  unfold Con.setNum
  split <;> exact ⟨rfl, rfl⟩
theorem FS.tail {W : World} {b o o' c : Nat} {f : Con.Fld} {rest : List Con.Fld} {cells : Array Value} (hc : (f :: rest).length ≤ c) (hm : c ≤ 9223372036854775807) (hb : W.heap[b]? = some (.cells cells 75 (0, 0)))
    (hx : ∀ (i : Nat) (p : ByteArray × Bool), (f :: rest)[i]? = some p → cells[o + i * 2]? = some (.string p.1) ∧ cells[o + i * 2 + 1]? = some (.bool p.2)) (ho : 1 < (f :: rest).length → o' = o + 1 * 2) :
    FS W (.slice (some ⟨b, o', none⟩) rest.length (c - 1)) rest := by
  simp only [List.length_cons] at hc ho
  refine .inr ⟨b, o', c - 1, cells, rfl, by omega, by omega, hb, fun i p hp => ?_⟩
  have hil : i < rest.length := (List.getElem?_eq_some_iff.1 hp).1
  have ho := ho (by omega)
  have := hx (i + 1) p (by simpa using hp)
  have e : o + (i + 1) * 2 = o' + i * 2 := by omega
  rw [e] at this
  exact this

set_option maxRecDepth 100000 in
set_option maxHeartbeats 2000000 in
theorem line_any (base : Nat) (w0 W : World) (g : Nat) (st : ScriptL) (v : Value) (f : Con.Fld) (rest : List Con.Fld) (hr : RS W base g st) (hf : FS W v (f :: rest)) (hv : VT W) (hb : Below base w0 W) (hB : base ≤ W.heap.size)
    (hsz : ∀ p ∈ f :: rest, p.1.size ≤ 1073741824) (hl : rest.length ≤ 1073741824) (hch : st.choices.length ≤ 1073741824) (hroom : ∀ l ∈ st.acts, l.length ≤ 1073741824) (hal : st.acts.length ≤ 1073741824) :
    Calls Tryz.prog 12 #[.pointer (some ⟨g, 0, none⟩), v] W (LPost base w0 W g (Con.lineL st f rest)) := by
  obtain ⟨b, o, c, cells, rfl, hc, hm, hblk, hx⟩ : ∃ b o c cells, v = .slice (some ⟨b, o, none⟩) (f :: rest).length c ∧ (f :: rest).length ≤ c ∧ c ≤ 9223372036854775807 ∧ W.heap[b]? = some (.cells cells 75 (0, 0)) ∧
      ∀ (i : Nat) (p : ByteArray × Bool), (f :: rest)[i]? = some p → cells[o + i * 2]? = some (.string p.1) ∧ cells[o + i * 2 + 1]? = some (.bool p.2) := by
    rcases hf with ⟨_, h2⟩ | h2
    · cases h2
    · exact h2
  have x0 := hx 0 f rfl
  have c1 : W.cell? ⟨b, o, none⟩ = some (.string f.1) := (blk_cell hblk _).trans x0.1
  have c2 : W.cell? ⟨b, o + 1, none⟩ = some (.bool f.2) := (blk_cell hblk _).trans x0.2
  obtain ⟨o', ho', hsl0⟩ := cut75 b o (f :: rest).length c 1 (by simp) hc
  have hft := FS.tail hc hm hblk hx ho'
  have hsl : ∀ w', (Instr.slice 52 (.slice (some ⟨b, o, none⟩) (rest.length + 1) c) (some (.int .i64 1)) none none).run Tryz.prog w' = .ok (.slice (some ⟨b, o', none⟩) rest.length (c - 1)) w' := hsl0
  have HFT := Lib.hid hft; have HRS := Lib.hid hr; have HV := Lib.hid hv; have HSZ := Lib.hid hsz; have HROOM := Lib.hid hroom
  have hc2 : rest.length + 1 ≤ c := hc
  rw [show (f :: rest).length = rest.length + 1 from rfl]
  clear hx x0 ho' hsl0 hft hr hv hsz hroom hc hblk
  go_enter Tryz.func12, Tryz.ntmps12
  go_wp2
  go_quiet (fail)
  obtain ⟨W1, hW1⟩ : ∃ W1, W1 = W.drewN nq := ⟨_, rfl⟩
  rw [← hW1]
  have hbW : Below W.heap.size W W1 := by rw [hW1]; exact pw_below_drewN (Below.refl _ _) nq
  have hb1 : Below base w0 W1 := below_then hb hB hbW
  have hB1 : base ≤ W1.heap.size := Nat.le_trans hB hbW.size
  have hFT1 := FS.belowR2 HRS.out HFT.out hbW
  have hRS1 := HRS.out.below hbW
  have hV1 := VT.below HV.out hbW
  have d1 : W1.cell? ⟨b, o, none⟩ = some (.string f.1) := by rw [hW1]; exact c1
  have d2 : W1.cell? ⟨b, o + 1, none⟩ = some (.bool f.2) := by rw [hW1]; exact c2
  have HFT1 := Lib.hid hFT1; have HRS1 := Lib.hid hRS1; have HV1 := Lib.hid hV1; have HBW := Lib.hid hbW
  have hWs := hbW.size
  clear hFT1 hRS1 hV1 hW1 c1 c2 hsl HFT HRS HV hbW hf
  by_cases hq : f.2 = true
  · have hres : Hid (Con.lineL st f rest = .error 260) := Lib.hid (by unfold Con.lineL; rw [if_pos hq])
    go_wp2_with (go_at_call 20; refine (wrong_260 _).mono ?_; rintro e w2 ⟨rfl, rfl⟩)
    go_ret
    exact LPost.err hres.out hb1 hB1 hWs
  have hq2 : f.2 = false := by simpa using hq
  cases hsi : Con.setIx f.1.data.toList with
  | some i =>
    have HSI := Lib.hid hsi; have HQ := Lib.hid hq
    clear hsi hq
    by_cases hr1 : rest.length = 1
    · obtain ⟨x, rfl⟩ := List.length_eq_one_iff.1 hr1
      obtain ⟨cells6, h6, hx6⟩ : ∃ cells6, W1.heap[b]? = some (.cells cells6 75 (0, 0)) ∧ cells6[o']? = some (.string x.1) ∧ cells6[o' + 1]? = some (.bool x.2) := by
        rcases HFT1.out with ⟨h1, _⟩ | ⟨b6, o6, c6, cells6, h1, _, _, h2, h3⟩
        · cases h1
        · injection h1 with h1; injection h1 with h1; injection h1 with h4 h5; subst h4 h5
          exact ⟨cells6, h2, h3 0 x rfl⟩
      have c61 : W1.cell? ⟨b, o', none⟩ = some (.string x.1) := (blk_cell h6 _).trans hx6.1
      have c62 : W1.cell? ⟨b, o' + 1, none⟩ = some (.bool x.2) := (blk_cell h6 _).trans hx6.2
      have hps : x.1.size ≤ 1073741824 := HSZ.out x (by simp)
      obtain ⟨va, vc, hgb, hS, hR, hbg⟩ := HRS1.out
      have HGB := Lib.hid hgb; have HS := Lib.hid hS; have HR := Lib.hid hR
      clear hgb hS hR hr1 h6 hx6
      cases hfn : Con.fnum x with
      | none =>
        have HFN : Hid (Con.fnum (x.1, x.2) = none) := Lib.hid hfn
        have hres : Hid (Con.lineL st f [x] = .error 2) := Lib.hid (lineL_none HQ.out HSI.out hfn)
        clear hfn
        go_wp2_with (first | (go_at_call 22; refine (setting_some _ _ _ HSI.out _).mono ?_; rintro e w2 ⟨rfl, rfl⟩) | (go_at_call 20; refine (wrong_2 _).mono ?_; rintro e w3 ⟨rfl, rfl⟩) | (go_at_call 23; refine (number_none _ _ _ hps HFN.out).mono ?_; rintro e w2 ⟨rfl, hb2⟩; have hg2 := Lib.hid (blk_below HGB.out hb2); obtain ⟨old, hc2⟩ := num_cell HSI.out hg2.out; have hz2 : w2.frozen? ⟨g, i, none⟩ = false := blk_frozen hg2.out i))
        go_ret
        have hs2 := hb2.size
        have hP := LPost.err (W := W) (g := g) (w' := w2.setCell ⟨g, i, none⟩ (.int .i64 0)) hres.out ((below_then hb1 hB1 hb2).setCell hbg _) (by simp; omega) (by simp; omega)
        rw [World.size_setCell] at hP
        exact hP
      | some n =>
        have HFN : Hid (Con.fnum (x.1, x.2) = some n) := Lib.hid hfn
        have hres : Hid (Con.lineL st f [x] = .ok (Con.setNum st i n)) := Lib.hid (lineL_some HQ.out HSI.out hfn)
        clear hfn
        go_wp2_with (first | (go_at_call 22; refine (setting_some _ _ _ HSI.out _).mono ?_; rintro e w2 ⟨rfl, rfl⟩) | (go_at_call 23; refine (number_some _ _ _ hps HFN.out).mono ?_; rintro e w2 ⟨rfl, hb2⟩; have hg2 := Lib.hid (blk_below HGB.out hb2); obtain ⟨old, hc2⟩ := num_cell HSI.out hg2.out; have hz2 : w2.frozen? ⟨g, i, none⟩ = false := blk_frozen hg2.out i))
        go_ret
        have hs2 := hb2.size
        refine ⟨(below_then hb1 hB1 hb2).setCell hbg _, by simp; omega, ?_⟩
        rw [hres.out]
        refine ⟨rfl, ⟨va, vc, set_num HSI.out hg2.out n, ?_, ?_, hbg⟩, ((KeptT.below g HBW.out).trans (KeptT.below g hb2)).trans (KeptT.set _ _)⟩
        · rw [(setNum_acts st i n).1]; exact Kd.S_set (Kd.S_below HS.out hb2) hg2.out (by decide) _ _
        · rw [(setNum_acts st i n).2]; exact Kd.R_set (Kd.R_below HR.out hb2) hg2.out (by decide) _ _
    · have er : ((rest.length : Int) == 1) = false := by rw [beq_eq_false_iff_ne]; omega
      have hres : Hid (Con.lineL st f rest = .error 2) := Lib.hid (lineL_many HQ.out HSI.out hr1)
      clear hr1
      go_wp2_with (first | (go_at_call 22; refine (setting_some _ _ _ HSI.out _).mono ?_; rintro e w2 ⟨rfl, rfl⟩) | (go_at_call 20; refine (wrong_2 _).mono ?_; rintro e w2 ⟨rfl, rfl⟩))
      go_ret
      exact LPost.err hres.out hb1 hB1 hWs
  | none =>
    have HSI := Lib.hid hsi
    obtain ⟨va, vc, hgb, hS, hR, hbg⟩ := HRS1.out
    have HGB := Lib.hid hgb; have HS := Lib.hid hS; have HR := Lib.hid hR
    have c7 : W1.cell? ⟨g, 7, none⟩ = some (.bool st.flips) := (blk_cell hgb 7).trans rfl
    have c4 : W1.cell? ⟨g, 4, none⟩ = some va := (blk_cell hgb 4).trans rfl
    have z7 : W1.frozen? ⟨g, 7, none⟩ = false := blk_frozen hgb 7
    have hlr := lineL_word (st := st) (rest := rest) hq hsi
    have HLR := Lib.hid hlr
    clear hgb hS hR hq hlr hsi
    by_cases hfl : f.1.data.toList = Con.wFlips
    · have e1 : (f.1.toList == [102, 108, 105, 112, 115]) = true := by rw [Lib.toList_data, hfl]; rfl
      have e2 : (f.1.toList == [99, 108, 105, 101, 110, 116]) = false := by rw [Lib.toList_data, hfl]; rfl
      by_cases hre : rest = []
      · subst hre
        have hres : Hid (Con.lineL st f [] = .ok { st with flips := true }) := Lib.hid (by rw [HLR.out, if_pos (.inl hfl), if_neg (by simp), if_neg (by rw [hfl]; decide)])
        clear hfl
        cases hsf : st.flips
        all_goals
          rw [hsf] at c7
          go_wp2_with (go_at_call 22; refine (setting_none _ _ HSI.out _).mono ?_; rintro e w2 ⟨rfl, rfl⟩)
          go_ret
          refine ⟨hb1.setCell hbg _, by simpa using hWs, ?_⟩
          rw [hres.out]
          exact ⟨rfl, ⟨va, vc, blk_set HGB.out 7 (.bool true), Kd.S_set HS.out HGB.out (by decide) _ _, Kd.R_set HR.out HGB.out (by decide) _ _, hbg⟩, (KeptT.below g HBW.out).trans (KeptT.set _ _)⟩
      · have er : ((rest.length : Int) == 0) = false := by rw [beq_eq_false_iff_ne]; have := List.length_pos_iff.2 hre; omega
        have hres : Hid (Con.lineL st f rest = .error 2) := Lib.hid (by rw [HLR.out, if_pos (.inl hfl), if_pos hre])
        clear hfl hre
        go_wp2_with (first | (go_at_call 22; refine (setting_none _ _ HSI.out _).mono ?_; rintro e w2 ⟨rfl, rfl⟩) | (go_at_call 20; refine (wrong_2 _).mono ?_; rintro e w3 ⟨rfl, rfl⟩))
        go_ret
        exact LPost.err hres.out hb1 hB1 hWs
    have e1 : (f.1.toList == [102, 108, 105, 112, 115]) = false := by rw [Lib.toList_data, beq_eq_false_iff_ne]; exact hfl
    by_cases hcl : f.1.data.toList = Con.wClient
    · have e2 : (f.1.toList == [99, 108, 105, 101, 110, 116]) = true := by rw [Lib.toList_data, hcl]; rfl
      by_cases hre : rest = []
      · subst hre
        have hres : Hid (Con.lineL st f [] = .ok { st with acts := st.acts ++ [[]] }) := Lib.hid (by rw [HLR.out, if_pos (.inr hcl), if_neg (by simp), if_pos hcl])
        have hroom4 : (st.acts.length + 1) * 24 ≤ 140737488355328 := by omega
        clear hfl hcl
        cases hsf : st.flips
        all_goals
          rw [hsf] at c7
          obtain ⟨W2, hW2⟩ : ∃ W2, W2 = W1.setCell ⟨g, 7, none⟩ (.bool st.flips) := ⟨_, rfl⟩
          have hgb2 : W2.heap[g]? = some (rblk va vc st) := by rw [hW2]; exact blk_set HGB.out 7 (.bool st.flips)
          have hS2 : Kd.S kActs 41 W2 base (fun _ => True) va st.acts := by rw [hW2]; exact Kd.S_set HS.out HGB.out (by decide) _ _
          have hR2 : Kd.R kI 3 W2 base (fun _ => True) vc st.choices := by rw [hW2]; exact Kd.R_set HR.out HGB.out (by decide) _ _
          have hb2 : Below base w0 W2 := by rw [hW2]; exact hb1.setCell hbg _
          have hk2 : KeptT W W2 g := by rw [hW2]; exact (KeptT.below g HBW.out).trans (KeptT.set _ _)
          have hB2 : base ≤ W2.heap.size := by rw [hW2]; simpa using hB1
          have c42 : W2.cell? ⟨g, 4, none⟩ = some va := (blk_cell hgb2 4).trans rfl
          have HSZ2 : Hid (W2.heap.size = W1.heap.size) := Lib.hid (by rw [hW2]; simp)
          rw [hsf] at hW2
          have HGB2 := Lib.hid hgb2; have HS2 := Lib.hid hS2; have HR2 := Lib.hid hR2; have HK2 := Lib.hid hk2
          have HW2 := Lib.hid hW2
          clear hgb2 hS2 hR2 hk2 hW2
          go_wp2_with (first | (go_at_call 22; refine (setting_none _ _ HSI.out _).mono ?_; rintro e w2 ⟨rfl, rfl⟩) | (rw [← HW2.out]; at_builtin; go_must (refine Kd.S_append kActs (w0 := w0) base rfl (.tmp 71) (.tmp 72) 23 41 (.slice none 0 0) 24 rfl Tryz.underlying23 info41 rfl (by decide) (by decide) va st.acts [] [.slice none 0 0] (fun _ => True) (fun _ => False) rfl (by rw [HSZ2.out]; rfl) ⟨_, rfl, Kd.R_nil _ _ _ _ _⟩ (fun _ h => h.elim) (fun _ _ => trivial) (Kd.S_mono HS2.out (fun _ _ => ⟨trivial, fun h => h⟩)) hb2 hB2 hroom4 ?_); intro v1 w3 hown3 hb3 hgr3 hat3; obtain ⟨A3, c3, rfl⟩ := Kd.S_slice hown3; have hg3 := Lib.hid (blk_grown HGB2.out hgr3 (Kd.S_ne HS2.out HGB2.out (by decide))); have hg34 : w3.cell? ⟨g, 4, none⟩ = some va := (blk_cell hg3.out 4).trans rfl; have hg3f : w3.frozen? ⟨g, 4, none⟩ = false := blk_frozen hg3.out 4))
          go_ret
          have hlen : (st.acts ++ [[]]).length = st.acts.length + 1 := by simp
          rw [hlen] at hown3
          have hs3 := hgr3.size
          have hs2 := HSZ2.out
          refine ⟨hb3.setCell hbg _, by simp; omega, ?_⟩
          rw [hres.out]
          exact ⟨rfl, ⟨_, vc, blk_set hg3.out 4 _, Kd.S_set hown3 hg3.out (by decide) 4 _, Kd.R_set (Kd.R_over' HR2.out (Kd.S_typed HS2.out) (by decide) hgr3) hg3.out (by decide) 4 _, hbg⟩, HK2.out.trans ((KeptT.grown hgr3 (Kd.S_typed HS2.out) (.inr (.inl rfl))).trans (KeptT.set _ _))⟩
      · have er : ((rest.length : Int) == 0) = false := by rw [beq_eq_false_iff_ne]; have := List.length_pos_iff.2 hre; omega
        have hres : Hid (Con.lineL st f rest = .error 2) := Lib.hid (by rw [HLR.out, if_pos (.inr hcl), if_pos hre])
        clear hfl hre hcl
        go_wp2_with (first | (go_at_call 22; refine (setting_none _ _ HSI.out _).mono ?_; rintro e w2 ⟨rfl, rfl⟩) | (go_at_call 20; refine (wrong_2 _).mono ?_; rintro e w3 ⟨rfl, rfl⟩))
        go_ret
        exact LPost.err hres.out hb1 hB1 hWs
    have e2 : (f.1.toList == [99, 108, 105, 101, 110, 116]) = false := by rw [Lib.toList_data, beq_eq_false_iff_ne]; exact hcl
    by_cases hch2 : f.1.data.toList = Con.wChoose
    · have e3 : (f.1.toList == [99, 104, 111, 111, 115, 101]) = true := by rw [Lib.toList_data, hch2]; rfl
      have hres : Hid (Con.lineL st f rest = Con.chooseL st rest) := Lib.hid (by rw [HLR.out, if_neg (by rintro (h | h); exact hfl h; exact hcl h), if_pos hch2])
      clear hfl hcl hch2
      go_wp2_with (first | (go_at_call 22; refine (setting_none _ _ HSI.out _).mono ?_; rintro e w2 ⟨rfl, rfl⟩) | (go_at_call 24; refine (choose_any base w0 _ g st _ rest HRS1.out HFT1.out hb1 hB1 (fun p hp => HSZ.out p (List.mem_cons_of_mem _ hp)) (by omega)).mono ?_; rintro e w2 hp; obtain ⟨v2, rfl⟩ := hp.ret))
      go_ret
      rw [hres.out]
      exact hp.pre HBW.out
    · have e3 : (f.1.toList == [99, 104, 111, 111, 115, 101]) = false := by rw [Lib.toList_data, beq_eq_false_iff_ne]; exact hch2
      have hres : Hid (Con.lineL st f rest = Con.actL st f.1.data.toList rest) := Lib.hid (by rw [HLR.out, if_neg (by rintro (h | h); exact hfl h; exact hcl h), if_neg hch2])
      clear hfl hcl hch2
      go_wp2_with (first | (go_at_call 22; refine (setting_none _ _ HSI.out _).mono ?_; rintro e w2 ⟨rfl, rfl⟩) | (go_at_call 25; refine (act_any base w0 _ g st _ _ rest HRS1.out HFT1.out HV1.out hb1 hB1 (fun p hp => HSZ.out p (List.mem_cons_of_mem _ hp)) (by omega) HROOM.out hal).mono ?_; rintro e w2 hp; obtain ⟨v2, rfl⟩ := hp.ret))
      go_ret
      rw [hres.out]
      exact hp.pre HBW.out
end Go.Proofs.YtkdofgbjebpmoaaGreatDoor
