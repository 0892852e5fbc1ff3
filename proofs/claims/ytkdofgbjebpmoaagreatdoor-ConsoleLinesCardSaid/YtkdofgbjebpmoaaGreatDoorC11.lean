import Derived.Test.YtkdofgbjebpmoaaGreatDoorC10
namespace Go.Proofs.YtkdofgbjebpmoaaGreatDoor
set_option linter.unusedVariables false
set_option linter.unusedSimpArgs false
open Go.RowKit Go.Proofs.YtkdofgbjebpmoaaGreatDoorW.PrintWords

def ActRel (base : Nat) (w0 W : World) (word : List UInt8) (v : Value) (wr : World) : Prop :=
  ∃ (i : Nat), v = .int .i64 i ∧ i ≤ 12 ∧ (∀ j, j < i → j ≠ 0 → ∀ u, Con.verbs0[j]? = some u → u.2.1 ≠ word) ∧ Below W.heap.size W wr ∧ Below base w0 wr
def ArgRel (W : World) (n1 k : Nat) (wd ar : ByteArray) (fs : List Con.Fld) (v10 v11 : Value) (wr : World) : Prop :=
  ∃ (j : Nat) (ok : Bool), v11 = .int .i64 j ∧ v10 = .bool ok ∧ j ≤ ar.size ∧ Below W.heap.size W wr ∧ wr.heap[n1]? = some (.cells #[.string wd, .string ar] 116 (0, 0)) ∧
    (ok = true → ∃ a vin, wr.heap[n1 + 1]? = some (ablk vin a) ∧ Kd.R Kd.string 9 wr W.heap.size (fun _ => True) vin a.inputs ∧ Con.mkAct k ar.data.toList fs = Con.fillL a (ar.data.toList.drop j) (fs.drop j) ∧ (j < ar.size → j < fs.length)) ∧
    (ok = false → Con.mkAct k ar.data.toList fs = none)

theorem blk_new2 (w : World) (A B : Obj) : ((w.alloc A).alloc B).heap[w.heap.size + 1]? = some B := heap_alloc2_new w A B
theorem wrong_260 (w : World) : Calls Tryz.prog 20 #[.int .i64 260] w fun e w' => e = .returned (.iface 58 (.pointer (some ⟨w.heap.size, 0, none⟩))) ∧ w' = w.alloc (.cells #[.int .i64 260, .int .i64 0] 29) := wrong_any 260 w
theorem wrong_3 (w : World) : Calls Tryz.prog 20 #[.int .i64 3] w fun e w' => e = .returned (.iface 58 (.pointer (some ⟨w.heap.size, 0, none⟩))) ∧ w' = w.alloc (.cells #[.int .i64 3, .int .i64 0] 29) := wrong_any 3 w
theorem kAct_sz : kAct.sz = 11 := rfl
/-- The last client's acts, lent, and put back with one more. -/
theorem acts_lend {wr : World} {base N n c4 : Nat} {A4 : Option Addr} {acts : List (List ActL)} (hS : Kd.S kActs 41 wr base (fun k => True ∧ k < N) (.slice A4 n c4) acts) (hpos : 0 < acts.length) (hn : n = acts.length) :
    ∃ (ga : Nat) (last : List ActL) (A5 : Option Addr) (c5 : Nat) (oki : Nat → Prop) (cells : Array Value), A4 = some ⟨ga, 0, none⟩ ∧ last = acts.getD (n - 1) [] ∧ wr.heap[ga]? = some (.cells cells 41 (0, 0)) ∧ wr.cell? ⟨ga, n - 1, none⟩ = some (.slice A5 last.length c5) ∧ base ≤ ga ∧
      Kd.R kAct 46 wr base oki (.slice A5 last.length c5) last ∧ (∀ k, oki k → k < N) ∧
      ∀ w6 v6 a, wr.drew.grownBy w6 (Value.slice A5 last.length c5).ownBlock → w6.heap[ga]? = some (.cells cells 41 (0, 0)) → Kd.R kAct 46 w6 base (fun k => oki k ∨ N ≤ k) v6 (last ++ [a]) →
        Kd.S kActs 41 (w6.setCell ⟨ga, n - 1, none⟩ v6) base (fun _ => True) (.slice (some ⟨ga, 0, none⟩) n c4) (Con.addAct a acts) := by
  obtain ⟨ga, cap, hv, hb, hlt, cells, hc⟩ := Kd.S_form hS hpos
  injection hv with h1 h2 h3
  subst h1 h3
  have hS2 : Kd.S kActs 41 wr base (fun k => True ∧ ¬ (N ≤ k)) (.slice (some ⟨ga, 0, none⟩) n c4) acts := Kd.S_mono hS (fun k hk => ⟨trivial, by have := hk.2; omega⟩)
  obtain ⟨oki, c, hcl, hM, hcc, hoki, hH⟩ := Kd.S_lend hS2 ([] : List ActL) ((n - 1 : Nat) : Int) (by omega) (by omega)
  obtain ⟨v41, rfl, hR⟩ := hM
  rw [Int.toNat_natCast] at hR hcc
  obtain ⟨A5, c5, rfl⟩ := Kd.R_slice hR
  refine ⟨ga, acts.getD (n - 1) [], A5, c5, oki, cells, rfl, rfl, hc, ?_, hb, hR, fun k hk => ?_, fun w6 v6 a hg hga hr6 => ?_⟩
  · have := hcc 0 _ rfl
    simpa [kActs, Kd.slice] using this
  · have := (hoki k hk).1.2; omega
  · have hH2 : Kd.H kActs 41 wr base (fun _ => True) (.slice (some ⟨ga, 0, none⟩) n c4) acts ((n - 1 : Nat) : Int) (fun k => oki k ∨ N ≤ k) _ := Kd.H_more hH (fun _ _ => trivial)
    have hH3 := Kd.H_grown (Kd.H_drew hH2) hg (fun k hk => .inl (hR.1 k hk))
    have hv6 : v6.oneCell' = true := (Kd.R_val hr6).2
    obtain ⟨hH4, hg4⟩ := Kd.H_seg hH3 (by omega) (by omega) (seg := [v6]) (j := 0) (Nat.le_refl 1) (fun q hq => by rw [List.mem_singleton] at hq; subst hq; exact hv6)
    have he : w6.setCells ga (((n - 1 : Nat) : Int).toNat * kActs.sz + 0) [v6] = w6.setCell ⟨ga, n - 1, none⟩ v6 := by
      rw [Int.toNat_natCast, show kActs.sz = 1 from rfl, Nat.mul_one, Nat.add_zero]; rfl
    rw [he] at hH4
    have hfin := Kd.H_back hH4 (x' := acts.getD (n - 1) [] ++ [a]) (okp := fun k => oki k ∨ N ≤ k) ⟨v6, rfl, Kd.R_set hr6 hga (by decide) _ _⟩ (fun _ hk => hk)
    rw [Int.toNat_natCast] at hfin
    subst hn
    exact hfin
theorem KeptT.setTy {w1 : World} {g ga t0 : Nat} {cells : Array Value} (h : w1.heap[ga]? = some (.cells cells t0 (0, 0))) (ht : t0 = 41) (j : Nat) (u : Value) : KeptT w1 (w1.setCell ⟨ga, j, none⟩ u) g := by
  refine ⟨by simp, fun b c t fr hb hg h3 h41 h46 => ?_⟩
  by_cases hbg : b = ga
  · subst hbg; rw [h] at hb; injection hb with hb; injection hb with _ hb; exact absurd (hb.symm.trans ht) h41
  · rw [Below.heap_setCell w1 ⟨ga, j, none⟩ u b hbg]; exact hb
theorem submit_none (base : Nat) (w0 W : World) (h : Nat) (v : Value) (fs : List Con.Fld) (hsu : Con.submitL fs = none) (hh : W.heap[h]? = some (ablk (.slice none 0 0) (Con.act0 10))) (hf : FS W v fs) (hb : Below base w0 W) (hB : base ≤ W.heap.size) (hbh : base ≤ h)
    (hsz : ∀ p ∈ fs, p.1.size ≤ 1073741824) (hl : fs.length ≤ 1073741824 * 4) :
    Calls Tryz.prog 46 #[.pointer (some ⟨h, 0, none⟩), v] W fun e w' => e = .returned (.bool false) ∧ Below base w0 w' ∧ KeepBut W w' h none :=
  (submit_any base w0 W h v fs hh hf hb hB hbh hsz hl).mono fun e w' hp => by
    rw [hsu] at hp; exact ⟨hp.2.2, hp.1, hp.2.1⟩
theorem submit_some (base : Nat) (w0 W : World) (h : Nat) (v : Value) (fs : List Con.Fld) (a : ActL) (hsu : Con.submitL fs = some a) (hh : W.heap[h]? = some (ablk (.slice none 0 0) (Con.act0 10))) (hf : FS W v fs) (hb : Below base w0 W) (hB : base ≤ W.heap.size) (hbh : base ≤ h)
    (hsz : ∀ p ∈ fs, p.1.size ≤ 1073741824) (hl : fs.length ≤ 1073741824 * 4) :
    Calls Tryz.prog 46 #[.pointer (some ⟨h, 0, none⟩), v] W fun e w' => e = .returned (.bool true) ∧ Below base w0 w' ∧ KeepBut W w' h none ∧ ∃ v, w'.heap[h]? = some (ablk v a) ∧ Kd.R Kd.string 9 w' W.heap.size (fun _ => True) v a.inputs :=
  (submit_any base w0 W h v fs hh hf hb hB hbh hsz hl).mono fun e w' hp => by
    rw [hsu] at hp; exact ⟨hp.2.2.1, hp.1, hp.2.1, hp.2.2.2⟩
theorem FS.belowRS {W w1 : World} {base g : Nat} {st : ScriptL} {v : Value} {fs : List Con.Fld} (hr : RS W base g st) (h : FS W v fs) (hb : Below W.heap.size W w1) : FS w1 v fs := by
  obtain ⟨va, vc, h1, _⟩ := hr
  exact h.kept (KeptT.below g hb) (fun cells fr e => by rw [h1] at e; injection e with e; injection e with _ e; exact absurd e (by decide))
theorem mk_ten {k : Nat} (hk : k = 10) (args : List UInt8) (fs : List Con.Fld) : Con.mkAct k args fs = Con.submitL fs := by unfold Con.mkAct; rw [if_pos hk]
set_option maxRecDepth 100000 in
set_option maxHeartbeats 16000000 in
theorem act_any (base : Nat) (w0 W : World) (g : Nat) (st : ScriptL) (word : ByteArray) (v : Value) (fs : List Con.Fld) (hr : RS W base g st) (hf : FS W v fs) (hv : VT W) (hb : Below base w0 W) (hB : base ≤ W.heap.size)
    (hsz : ∀ p ∈ fs, p.1.size ≤ 1073741824) (hl : fs.length ≤ 1073741824 * 4) (hroom : ∀ l ∈ st.acts, l.length ≤ 1073741824) (hal : st.acts.length ≤ 1073741824) :
    Calls Tryz.prog 25 #[.pointer (some ⟨g, 0, none⟩), .string word, v] W (LPost base w0 W g (Con.actL st word.data.toList fs)) := by
  have hlv := load_verbs hv
  obtain ⟨tv, htv⟩ : ∃ tv, tv = verbsV := ⟨_, rfl⟩
  rw [← htv] at hlv
  have HV := Lib.hid hv; have HTV := Lib.hid htv
  have HSZ := Lib.hid hsz; have HROOM := Lib.hid hroom
  have HRS := Lib.hid hr; have HFS := Lib.hid hf
  clear hv htv hsz hroom hr hf
  go_enter Tryz.func25, Tryz.ntmps25
  go_wp2_with (refine load_fact rfl 117 _ rfl 1 rfl tv hlv ?_)
  clear hlv
  go_loopw [14] (fun v wr => ActRel base w0 W word.data.toList v wr) (fun i _ => 12 - (intOf i).toNat)
  case atStart => exact ⟨0, rfl, by omega, fun j h => by omega, Below.refl _ _, hb⟩
  case round =>
    obtain ⟨i, rfl, hi, hn, hbW, hb0⟩ := hrel
    have HN := Lib.hid hn; clear hn
    by_cases hi12 : i < 12
    · have hlt : decide ((i : Int) < 12) = true := by simp; omega
      obtain ⟨wd, ar, hix, hvb⟩ := verb_at i hi12
      rw [← HTV.out] at hix
      have HVB := Lib.hid hvb; clear hvb
      have hvz : ∃ A c, v = .slice A fs.length c := by
        rcases HFS.out with ⟨rfl, rfl⟩ | ⟨b, o, c, cells, rfl, _⟩
        · exact ⟨_, _, rfl⟩
        · exact ⟨_, _, rfl⟩
      obtain ⟨A, c, rfl⟩ := hvz
      obtain ⟨n1, hn1⟩ : ∃ n1, n1 = wr.heap.size := ⟨_, rfl⟩
      have hnx : (∀ u, i ≠ 0 → Con.verbs0[i]? = some u → u.2.1 ≠ word.data.toList) → ActRel base w0 W word.data.toList (.int .i64 ((i : Int) + 1)) (wr.alloc (.cells #[.string wd, .string ar] 116)) := fun hh =>
        ⟨i + 1, by go_num, by omega, fun j hj h0 u hu => by
          by_cases hji : j = i
          · subst hji; exact hh u h0 hu
          · exact HN.out j (by omega) h0 u hu, hbW.alloc hbW.size _, hb0.alloc (Nat.le_trans hB hbW.size) _⟩
      by_cases he : wd.toList = word.toList
      · by_cases hz : i = 0
        · have ez : ((i : Int) == 0) = true := by rw [hz]; rfl
          have hnx := Lib.hid (hnx fun u h0 => absurd hz h0)
          clear hz
          go_wp2
          go_roundw
          case measure => simp [intOf]; omega
          case rel => exact hnx.out
        · have ez : ((i : Int) == 0) = false := by rw [beq_eq_false_iff_ne]; omega
          have HF : Hid (Con.verbs.find? (fun v => v.2.1 == word.data.toList) = some (i, wd.data.toList, ar.data.toList)) := Lib.hid (Con.act_hit HVB.out hz (by rw [Lib.toList_data, Lib.toList_data] at he; exact he) HN.out)
          have hne : i ≠ 0 := hz
          clear hnx
          by_cases h10 : i = 10
          · have e10 : ((i : Int) == 10) = true := by rw [h10]; rfl
            clear hz
            have H10 := Lib.hid h10
            have har : ar.data.toList = [] := (Con.verb_mem HVB.out).2.2.1 h10
            have harz : ar.size = 0 := by have : ar.data.toList.length = ar.size := rfl; rw [har] at this; exact this.symm
            have HAR := Lib.hid har; have HARZ := Lib.hid harz
            have hlen2 : Hid (ar.size ≤ fs.length ∨ ar.size = 0) := Lib.hid (.inr harz)
            clear h10 har harz
            cases hsu : Con.submitL fs with
            | none =>
              have HSU := Lib.hid hsu; clear hsu
              go_wp2_with (go_at_call 46; refine (submit_none W.heap.size W _ (wr.heap.size + 1) _ fs  HSU.out (by have e := H10.out; subst e; exact blk_new2 _ _ _) (FS.belowRS HRS.out HFS.out ((hbW.alloc hbW.size _).alloc (by have := hbW.size; simp; omega) _)) ((hbW.alloc hbW.size _).alloc (by have := hbW.size; simp; omega) _) (by have := hbW.size; simp; omega) (by have := hbW.size; omega) HSZ.out hl).mono ?_; rintro e w2 ⟨rfl, hb2, hk2⟩)
              rw [← hn1]
              have HN1 := Lib.hid hn1; clear hn1
              go_loopw [10, 11] (fun v10 v11 wr => ArgRel W n1 i wd ar fs v10 v11 wr ∧ v10 = .bool false) (fun _ v11 _ => ar.size - (intOf v11).toNat)
              case atStart => exact ⟨⟨0, false, rfl, rfl, Nat.zero_le _, hb2, (by rw [HN1.out]; exact hk2.blk (blk_alloc (blk_new _ _) _) (by omega) (by simp)), fun h => (by cases h), fun _ => (mk_ten H10.out _ _).trans HSU.out⟩, rfl⟩
              case round =>
                obtain ⟨⟨j, ok, rfl, rfl, hj, hbz, h8, hok⟩, hok2⟩ := hrel
                obtain rfl : ok = false := by injection hok2
                have hbz0 : Below base w0 wr := below_then hb hB hbz
                have hWz := hbz.size
                have hBz : base ≤ wr.heap.size := Nat.le_trans hB hWz
                obtain ⟨va, vc, hgb, hS, hR, hbg⟩ := HRS.out.below hbz
                obtain ⟨A4, c4, rfl⟩ := Kd.S_slice hS
                have hg4 : wr.cell? ⟨g, 4, none⟩ = some (.slice A4 st.acts.length c4) := (blk_cell hgb 4).trans rfl
                have HGB := Lib.hid hgb; have HS := Lib.hid hS; have HR := Lib.hid hR
                clear hgb hS hR h8
                have hres : Hid (Con.actL st word.data.toList fs = .error 2) := Lib.hid (by unfold Con.actL; rw [HF.out]; dsimp only; rw [hok.2 rfl])
                clear hok
                go_wp2_with (go_at_call 20; refine (wrong_2 _).mono ?_; rintro e w2 ⟨rfl, rfl⟩)
                go_ret
                exact LPost.err hres.out hbz0 hBz hWz
            | some a0 =>
              have HSU := Lib.hid hsu; clear hsu
              go_wp2_with (go_at_call 46; refine (submit_some W.heap.size W _ (wr.heap.size + 1) _ fs a0 HSU.out (by have e := H10.out; subst e; exact blk_new2 _ _ _) (FS.belowRS HRS.out HFS.out ((hbW.alloc hbW.size _).alloc (by have := hbW.size; simp; omega) _)) ((hbW.alloc hbW.size _).alloc (by have := hbW.size; simp; omega) _) (by have := hbW.size; simp; omega) (by have := hbW.size; omega) HSZ.out hl).mono ?_; rintro e w2 ⟨rfl, hb2, hk2, v2, hh2, hr2⟩)
              rw [← hn1]
              have HN1 := Lib.hid hn1; clear hn1
              go_loopw [10, 11] (fun v10 v11 wr => ArgRel W n1 i wd ar fs v10 v11 wr) (fun _ v11 _ => ar.size - (intOf v11).toNat)
              case atStart =>
                exact ⟨0, true, rfl, rfl, Nat.zero_le _, hb2, (by rw [HN1.out]; exact hk2.blk (blk_alloc (blk_new _ _) _) (by omega) (by simp)), fun _ => ⟨a0, v2, by rw [HN1.out]; exact hh2, Kd.R_lower hr2 (by have := hbW.size; simp; omega), ((mk_ten H10.out _ _).trans HSU.out).trans (by rw [HAR.out]; rfl), fun h => by have := HARZ.out; omega⟩, fun h => (by cases h)⟩
              case round =>
                obtain ⟨j, ok, rfl, rfl, hj, hbz, h8, hok⟩ := hrel
                have hbz0 : Below base w0 wr := below_then hb hB hbz
                have hWz := hbz.size
                have hBz : base ≤ wr.heap.size := Nat.le_trans hB hWz
                have h80 : wr.cell? ⟨n1, 1, none⟩ = some (.string ar) := (blk_cell h8 1).trans rfl
                have HH8 := Lib.hid h8; clear h8
                obtain ⟨va, vc, hgbW, hSW, hRW, hbg⟩ := HRS.out
                have hgb := blk_below hgbW hbz
                have hS := Kd.S_old hSW hbz
                have hR := Kd.R_below hRW hbz
                clear hgbW hSW hRW
                obtain ⟨A4, c4, rfl⟩ := Kd.S_slice hS
                have hg4 : wr.cell? ⟨g, 4, none⟩ = some (.slice A4 st.acts.length c4) := (blk_cell hgb 4).trans rfl
                have HGB := Lib.hid hgb; have HS := Lib.hid hS; have HR := Lib.hid hR
                clear hgb hS hR
                cases ok with
                | false =>
                  have hres : Hid (Con.actL st word.data.toList fs = .error 2) := Lib.hid (by unfold Con.actL; rw [HF.out]; dsimp only; rw [hok.2 rfl])
                  clear hok
                  go_wp2_with (go_at_call 20; refine (wrong_2 _).mono ?_; rintro e w2 ⟨rfl, rfl⟩)
                  go_ret
                  exact LPost.err hres.out hbz0 hBz hWz
                | true =>
                  obtain ⟨a, vin, hh, hRi, hmf, hjl⟩ := hok.1 rfl
                  have HH := Lib.hid hh; have HRI := Lib.hid hRi; have HMF := Lib.hid hmf; have HJL := Lib.hid hjl
                  clear hok hh hRi hmf hjl
                  by_cases hlt2 : j < ar.size
                  · have hltz : decide ((j : Int) < (ar.size : Int)) = true := by simp; omega
                    obtain ⟨p, hp⟩ : ∃ p, fs[j]? = some p := ⟨fs[j]'(HJL.out hlt2), List.getElem?_eq_getElem (HJL.out hlt2)⟩
                    obtain ⟨b, o, c', cells, hv1, hc', hm', hblk, hx⟩ : ∃ b o c' cells, Value.slice A fs.length c = .slice (some ⟨b, o, none⟩) fs.length c' ∧ fs.length ≤ c' ∧ c' ≤ 9223372036854775807 ∧ W.heap[b]? = some (.cells cells 75 (0, 0)) ∧
                        ∀ (i : Nat) (p : ByteArray × Bool), fs[i]? = some p → cells[o + i * 2]? = some (.string p.1) ∧ cells[o + i * 2 + 1]? = some (.bool p.2) := by
                      rcases HFS.out with ⟨_, h2⟩ | h2
                      · rw [h2] at hp; cases hp
                      · exact h2
                    obtain ⟨rfl, rfl⟩ : A = some ⟨b, o, none⟩ ∧ c = c' := by injection hv1 with h1 _ h3; exact ⟨h1, h3⟩
                    have hjf : j < fs.length := HJL.out hlt2
                    have hblk2 := blk_below hblk hbz
                    obtain ⟨q1, q2⟩ := hx j p hp
                    have cp1 : wr.cell? ⟨b, o + j * 2, none⟩ = some (.string p.1) := (blk_cell hblk2 _).trans q1
                    have cp2 : wr.cell? ⟨b, o + j * 2 + 1, none⟩ = some (.bool p.2) := (blk_cell hblk2 _).trans q2
                    have hps : p.1.size ≤ 1073741824 := HSZ.out p (List.mem_of_getElem? hp)
                    have hdf : fs.drop j = p :: fs.drop (j + 1) := by
                      rw [List.drop_eq_getElem_cons hjf]
                      have := List.getElem?_eq_getElem hjf; rw [hp] at this; injection this with this; rw [← this]
                    have hmf := HMF.out
                    rw [drop_at ar j hlt2, hdf] at hmf
                    have hmf : Con.mkAct i ar.data.toList fs = (Con.fill a ar[j] p).bind fun a' => Con.fillL a' (ar.data.toList.drop (j + 1)) (fs.drop (j + 1)) := hmf
                    have HMF2 := Lib.hid hmf; have HP := Lib.hid hp
                    have hjl2 : Hid (j + 1 < ar.size → j + 1 < fs.length) := Lib.hid (by have := hlen2.out; omega)
                    have hhn : wr.heap.size > n1 + 1 := blk_lt HH.out
                    have hWn : W.heap.size ≤ n1 := by rw [HN1.out]; exact hbW.size
                    clear hv1 hx hblk2 q1 q2 hdf hmf hp hblk
                    by_cases hc112 : ar[j] = 112
                    · have e112 : ((ar[j].toNat : Int) == 112) = true := by rw [hc112]; rfl
                      have hfl : Con.fill a ar[j] p = some { a with path := p.1 } := by unfold Con.fill; simp [hc112]
                      have ch1 : wr.cell? ⟨n1 + 1, 1, none⟩ = some (.string a.path) := (blk_cell HH.out 1).trans rfl
                      have ch2 : wr.frozen? ⟨n1 + 1, 1, none⟩ = false := blk_frozen HH.out 1
                      have HFL := Lib.hid hfl; clear hfl hc112
                      go_wp2
                      go_roundw
                      case measure => simp [intOf]; omega
                      case rel =>
                        refine ⟨j + 1, true, by go_num, rfl, by omega, hbz.setCell (by show W.heap.size ≤ n1 + 1; omega) _, blk_far HH8.out (show n1 ≠ n1 + 1 by omega) _, fun _ => ⟨{ a with path := p.1 }, vin, blk_set HH.out 1 _, Kd.R_set HRI.out HH.out (by decide) 1 _, ?_, hjl2.out⟩, fun h => (by cases h)⟩
                        rw [HMF2.out, HFL.out]; rfl
                    have e112 : ((ar[j].toNat : Int) == 112) = false := by rw [beq_eq_false_iff_ne]; exact fun h => hc112 (u8_eq h (by decide))
                    by_cases hc113 : ar[j] = 113
                    · have e113 : ((ar[j].toNat : Int) == 113) = true := by rw [hc113]; rfl
                      have hfl : Con.fill a ar[j] p = some { a with dest := p.1 } := by unfold Con.fill; simp [hc113]
                      have ch1 : wr.cell? ⟨n1 + 1, 2, none⟩ = some (.string a.dest) := (blk_cell HH.out 2).trans rfl
                      have ch2 : wr.frozen? ⟨n1 + 1, 2, none⟩ = false := blk_frozen HH.out 2
                      have HFL := Lib.hid hfl; clear hfl hc113
                      go_wp2
                      go_roundw
                      case measure => simp [intOf]; omega
                      case rel =>
                        refine ⟨j + 1, true, by go_num, rfl, by omega, hbz.setCell (by show W.heap.size ≤ n1 + 1; omega) _, blk_far HH8.out (show n1 ≠ n1 + 1 by omega) _, fun _ => ⟨{ a with dest := p.1 }, vin, blk_set HH.out 2 _, Kd.R_set HRI.out HH.out (by decide) 2 _, ?_, hjl2.out⟩, fun h => (by cases h)⟩
                        rw [HMF2.out, HFL.out]; rfl
                    have e113 : ((ar[j].toNat : Int) == 113) = false := by rw [beq_eq_false_iff_ne]; exact fun h => hc113 (u8_eq h (by decide))
                    by_cases hc100 : ar[j] = 100
                    · have e100 : ((ar[j].toNat : Int) == 100) = true := by rw [hc100]; rfl
                      have hfl : Con.fill a ar[j] p = some { a with data := p.1 } := by unfold Con.fill; simp [hc100]
                      have ch1 : wr.cell? ⟨n1 + 1, 3, none⟩ = some (.string a.data) := (blk_cell HH.out 3).trans rfl
                      have ch2 : wr.frozen? ⟨n1 + 1, 3, none⟩ = false := blk_frozen HH.out 3
                      have HFL := Lib.hid hfl; clear hfl hc100
                      go_wp2
                      go_roundw
                      case measure => simp [intOf]; omega
                      case rel =>
                        refine ⟨j + 1, true, by go_num, rfl, by omega, hbz.setCell (by show W.heap.size ≤ n1 + 1; omega) _, blk_far HH8.out (show n1 ≠ n1 + 1 by omega) _, fun _ => ⟨{ a with data := p.1 }, vin, blk_set HH.out 3 _, Kd.R_set HRI.out HH.out (by decide) 3 _, ?_, hjl2.out⟩, fun h => (by cases h)⟩
                        rw [HMF2.out, HFL.out]; rfl
                    have e100 : ((ar[j].toNat : Int) == 100) = false := by rw [beq_eq_false_iff_ne]; exact fun h => hc100 (u8_eq h (by decide))
                    by_cases hc110 : ar[j] = 110
                    · have e110 : ((ar[j].toNat : Int) == 110) = true := by rw [hc110]; rfl
                      cases hfn : Con.fnum p with
                      | none =>
                        have HFN : Hid (Con.fnum (p.1, p.2) = none) := Lib.hid hfn
                        have hfl : Con.fill a ar[j] p = none := by unfold Con.fill; simp [hc110, hfn]
                        have HFL := Lib.hid hfl; clear hfl hfn hc112 hc113 hc100 hc110
                        go_wp2_with (go_at_call 23; refine (number_none _ _ _ hps HFN.out).mono ?_; rintro e w2 ⟨rfl, hb2⟩; have hg2 := Lib.hid (blk_below HH.out hb2); have hc2 : w2.cell? ⟨n1 + 1, 4, none⟩ = some (.int .i64 a.quota) := (blk_cell hg2.out 4).trans rfl; have hz2 : w2.frozen? ⟨n1 + 1, 4, none⟩ = false := blk_frozen hg2.out 4)
                        go_roundw
                        case measure => simp [intOf]; omega
                        case rel =>
                          refine ⟨j + 1, false, by go_num, rfl, by omega, (below_then hbz hbz.size hb2).setCell (by show W.heap.size ≤ n1 + 1; omega) _, blk_far (blk_below HH8.out hb2) (show n1 ≠ n1 + 1 by omega) _, fun h => (by cases h), fun _ => ?_⟩
                          rw [HMF2.out, HFL.out]; rfl
                      | some m =>
                        have HFN : Hid (Con.fnum (p.1, p.2) = some m) := Lib.hid hfn
                        have hfl : Con.fill a ar[j] p = some { a with quota := m } := by unfold Con.fill; simp [hc110, hfn]
                        have HFL := Lib.hid hfl; clear hfl hfn hc112 hc113 hc100 hc110
                        go_wp2_with (go_at_call 23; refine (number_some _ _ _ hps HFN.out).mono ?_; rintro e w2 ⟨rfl, hb2⟩; have hg2 := Lib.hid (blk_below HH.out hb2); have hc2 : w2.cell? ⟨n1 + 1, 4, none⟩ = some (.int .i64 a.quota) := (blk_cell hg2.out 4).trans rfl; have hz2 : w2.frozen? ⟨n1 + 1, 4, none⟩ = false := blk_frozen hg2.out 4)
                        go_roundw
                        case measure => simp [intOf]; omega
                        case rel =>
                          refine ⟨j + 1, true, by go_num, rfl, by omega, (below_then hbz hbz.size hb2).setCell (by show W.heap.size ≤ n1 + 1; omega) _, blk_far (blk_below HH8.out hb2) (show n1 ≠ n1 + 1 by omega) _, fun _ => ⟨{ a with quota := m }, vin, blk_set hg2.out 4 _, Kd.R_set (Kd.R_below HRI.out hb2) hg2.out (by decide) 4 _, ?_, hjl2.out⟩, fun h => (by cases h)⟩
                          rw [HMF2.out, HFL.out]; rfl
                    · have e110 : ((ar[j].toNat : Int) == 110) = false := by rw [beq_eq_false_iff_ne]; exact fun h => hc110 (u8_eq h (by decide))
                      have hfl : Con.fill a ar[j] p = some a := by unfold Con.fill; simp [hc112, hc113, hc100, hc110]
                      have HFL := Lib.hid hfl; clear hfl hc112 hc113 hc100 hc110
                      go_wp2
                      go_roundw
                      case measure => simp [intOf]; omega
                      case rel =>
                        refine ⟨j + 1, true, by go_num, rfl, by omega, hbz, HH8.out, fun _ => ⟨a, vin, HH.out, HRI.out, ?_, hjl2.out⟩, fun h => (by cases h)⟩
                        rw [HMF2.out, HFL.out]; rfl
                  · have hltz : decide ((j : Int) < (ar.size : Int)) = false := by simp; omega
                    have hmk : Hid (Con.mkAct i ar.data.toList fs = some a) := Lib.hid (by rw [HMF.out, List.drop_eq_nil_of_le (by have : ar.data.toList.length = ar.size := rfl; omega)]; rfl)
                    by_cases hac : st.acts = []
                    · have hln : ((st.acts.length : Int) == 0) = true := by rw [hac]; rfl
                      have hres : Hid (Con.actL st word.data.toList fs = .error 3) := Lib.hid (by unfold Con.actL; rw [HF.out]; dsimp only; rw [hmk.out]; exact if_pos hac)
                      clear hac
                      go_wp2_with (go_at_call 20; refine (wrong_3 _).mono ?_; rintro e w2 ⟨rfl, rfl⟩)
                      go_ret
                      exact LPost.err hres.out hbz0 hBz hWz
                    · have hln : ((st.acts.length : Int) == 0) = false := by rw [beq_eq_false_iff_ne]; have := List.length_pos_iff.2 hac; omega
                      have hres : Hid (Con.actL st word.data.toList fs = .ok { st with acts := Con.addAct a st.acts }) := Lib.hid (by unfold Con.actL; rw [HF.out]; dsimp only; rw [hmk.out]; exact if_neg hac)
                      have hpos : 0 < st.acts.length := List.length_pos_iff.2 hac
                      clear hac
                      obtain ⟨ga, last, A5, c5, oki, cells41, rfl, hlast, hga, hgac, hbga, hR41, hoki, hput⟩ := acts_lend HS.out hpos rfl
                      have hlm : last ∈ st.acts := by
                        rw [hlast, List.getD_eq_getElem?_getD, List.getElem?_eq_getElem (by omega)]
                        exact List.getElem_mem _
                      have hll : (last.length + 1) * 144 ≤ 140737488355328 := by have := HROOM.out last hlm; omega
                      have hN : n1 + 1 < wr.heap.size := blk_lt HH.out
                      have hp : kAct.M wr base (fun k => W.heap.size ≤ k) a [.int .i64 a.kind, .string a.path, .string a.dest, .string a.data, .int .i64 a.quota, .string a.program, .string a.output, vin, .int .i64 a.parts, .int .i64 a.split, .int .i64 a.spill] :=
                        kAct_mkM a (Kd.R_mono (Kd.R_lower (Kd.R_bound HRI.out) hB) (fun k hk => hk.2.1))
                      have hgg : g ≠ ga := by
                        intro e; rw [← e, HGB.out] at hga; injection hga with hga; injection hga with _ hga; exact absurd hga (by decide)
                      have k0 : wr.cell? ⟨n1 + 1, 0, none⟩ = some (.int .i64 a.kind) := (blk_cell HH.out 0).trans rfl
                      have k1 : wr.cell? ⟨n1 + 1, 1, none⟩ = some (.string a.path) := (blk_cell HH.out 1).trans rfl
                      have k2 : wr.cell? ⟨n1 + 1, 2, none⟩ = some (.string a.dest) := (blk_cell HH.out 2).trans rfl
                      have k3 : wr.cell? ⟨n1 + 1, 3, none⟩ = some (.string a.data) := (blk_cell HH.out 3).trans rfl
                      have k4 : wr.cell? ⟨n1 + 1, 4, none⟩ = some (.int .i64 a.quota) := (blk_cell HH.out 4).trans rfl
                      have k5 : wr.cell? ⟨n1 + 1, 5, none⟩ = some (.string a.program) := (blk_cell HH.out 5).trans rfl
                      have k6 : wr.cell? ⟨n1 + 1, 6, none⟩ = some (.string a.output) := (blk_cell HH.out 6).trans rfl
                      have k7 : wr.cell? ⟨n1 + 1, 7, none⟩ = some vin := (blk_cell HH.out 7).trans rfl
                      have k8 : wr.cell? ⟨n1 + 1, 8, none⟩ = some (.int .i64 a.parts) := (blk_cell HH.out 8).trans rfl
                      have k9 : wr.cell? ⟨n1 + 1, 9, none⟩ = some (.int .i64 a.split) := (blk_cell HH.out 9).trans rfl
                      have k10 : wr.cell? ⟨n1 + 1, 10, none⟩ = some (.int .i64 a.spill) := (blk_cell HH.out 10).trans rfl
                      have e1 : (st.acts.length : Int) - 1 = ((st.acts.length - 1 : Nat) : Int) := by omega
                      have hgalt : ga < wr.heap.size := blk_lt hga
                      have hglt : g < wr.heap.size := blk_lt HGB.out
                      have ew : IntKind.i64.wrap ((st.acts.length - 1 : Nat) : Int) = ((st.acts.length - 1 : Nat) : Int) := IntWalk.i64_in _ (by omega)
                      have e2 : decide (((st.acts.length - 1 : Nat) : Int) < (st.acts.length : Int)) = true := by simp; omega
                      have e3 : ((st.acts.length - 1 : Nat) : Int) < (st.acts.length : Int) := by omega
                      have e4 : st.acts.length - 1 < st.acts.length := by omega
                      have hv1 : vin.oneCell' = true := (Kd.R_val HRI.out).2
                      have HLAST := Lib.hid hlast; have HGA := Lib.hid hga; have HR41 := Lib.hid hR41; have HPUT := Lib.hid hput; have HOKI := Lib.hid hoki; have HPP := Lib.hid hp
                      clear hlast hga hR41 hput hoki hp hlm
                      go_wp2
                      go_region_law (first | (refine Kd.R_append_step kAct (w0 := w0) (W := wr.drew) base (by rfl) (.tmp 116) (.tmp 118) 41 46 _ 144 rfl Tryz.underlying41 info46 rfl (by decide) (by decide) (.slice A5 last.length c5) last a [.int .i64 a.kind, .string a.path, .string a.dest, .string a.data, .int .i64 a.quota, .string a.program, .string a.output, vin, .int .i64 a.parts, .int .i64 a.split, .int .i64 a.spill] (fun k => oki k ∨ W.heap.size ≤ k) (fun k => W.heap.size ≤ k) (by rfl) (by rfl) (kAct.M_move (fun _ _ => rfl) HPP.out) (fun k hk => ⟨.inr hk, fun he => by have := HOKI.out k (HR41.out.1 k he.symm); omega⟩) (fun k hk => .inr (Nat.le_trans hWz hk)) (Kd.R_drew (Kd.R_mono HR41.out (fun _ hk => .inl hk))) (below_drew hbz0) hBz hll ?_; intro v6 w6 hown6 hb6 hgr6 hat6; obtain ⟨A6, c6, rfl⟩ := Kd.R_slice hown6; have hg6 := Lib.hid (blk_grown (w := wr.drew) HGB.out hgr6 (Kd.R_ne (w := wr) HR41.out HGB.out (by decide))); have hg64 : w6.cell? ⟨g, 4, none⟩ = some (.slice (some ⟨ga, 0, none⟩) st.acts.length c4) := (blk_cell hg6.out 4).trans rfl; have hga6 := Lib.hid (blk_grown (w := wr.drew) HGA.out hgr6 (Kd.R_ne (w := wr) HR41.out HGA.out (by decide))); have hga6c : w6.cell? ⟨ga, st.acts.length - 1, none⟩ = some (.slice A5 last.length c5) := (blk_cell hga6.out _).trans ((blk_cell HGA.out _).symm.trans hgac); have hga6f : w6.frozen? ⟨ga, st.acts.length - 1, none⟩ = false := blk_frozen hga6.out _))
                      all_goals
                        go_wp2
                        go_ret
                        have hlast := HLAST.out
                        have hfin := HPUT.out w6 _ a hgr6 hga6.out hown6
                        have hty := Kd.R_typed HR41.out
                        refine ⟨hb6.setCell hbga _, by have := hgr6.size; simp at this ⊢; omega, ?_⟩
                        rw [hres.out]
                        refine ⟨rfl, ⟨_, vc, blk_far hg6.out hgg _, by simpa using hfin, ?_, hbg⟩, ?_⟩
                        · exact Kd.R_set (Kd.R_over' (Kd.R_drew HR.out) hty (by decide) hgr6) hga6.out (by decide) _ _
                        · exact ((KeptT.below g hbz).trans (KeptT.below g (below_drew (Below.refl _ _)))).trans ((KeptT.grown hgr6 hty (.inr (.inr rfl))).trans (KeptT.setTy hga6.out rfl _ _))
          · have e10 : ((i : Int) == 10) = false := by rw [beq_eq_false_iff_ne]; omega
            clear hz
            by_cases hlen : fs.length = ar.size
            · have el : ((fs.length : Int) == (ar.size : Int)) = true := by rw [hlen, beq_self_eq_true]
              have hlen2 : Hid (ar.size ≤ fs.length ∨ ar.size = 0) := Lib.hid (.inl (by omega))
              have HLEN := Lib.hid hlen; clear hlen
              go_wp2
              rw [← hn1]
              have HN1 := Lib.hid hn1; clear hn1
              go_loopw [10, 11] (fun v10 v11 wr => ArgRel W n1 i wd ar fs v10 v11 wr) (fun _ v11 _ => ar.size - (intOf v11).toNat)
              case atStart =>
                exact ⟨0, true, rfl, rfl, Nat.zero_le _, (hbW.alloc hbW.size _).alloc (by have := hbW.size; simp; omega) _, by rw [HN1.out]; exact blk_alloc (blk_new _ _) _, fun _ => ⟨Con.act0 i, .slice none 0 0, by rw [HN1.out]; exact blk_new2 _ _ _, Kd.R_nil _ _ _ _ _, Con.mk_fill HVB.out hne h10 fs HLEN.out, fun h => by rw [HLEN.out]; exact h⟩, fun h => (by cases h)⟩
              case round =>
                obtain ⟨j, ok, rfl, rfl, hj, hbz, h8, hok⟩ := hrel
                have hbz0 : Below base w0 wr := below_then hb hB hbz
                have hWz := hbz.size
                have hBz : base ≤ wr.heap.size := Nat.le_trans hB hWz
                have h80 : wr.cell? ⟨n1, 1, none⟩ = some (.string ar) := (blk_cell h8 1).trans rfl
                have HH8 := Lib.hid h8; clear h8
                obtain ⟨va, vc, hgbW, hSW, hRW, hbg⟩ := HRS.out
                have hgb := blk_below hgbW hbz
                have hS := Kd.S_old hSW hbz
                have hR := Kd.R_below hRW hbz
                clear hgbW hSW hRW
                obtain ⟨A4, c4, rfl⟩ := Kd.S_slice hS
                have hg4 : wr.cell? ⟨g, 4, none⟩ = some (.slice A4 st.acts.length c4) := (blk_cell hgb 4).trans rfl
                have HGB := Lib.hid hgb; have HS := Lib.hid hS; have HR := Lib.hid hR
                clear hgb hS hR
                cases ok with
                | false =>
                  have hres : Hid (Con.actL st word.data.toList fs = .error 2) := Lib.hid (by unfold Con.actL; rw [HF.out]; dsimp only; rw [hok.2 rfl])
                  clear hok
                  go_wp2_with (go_at_call 20; refine (wrong_2 _).mono ?_; rintro e w2 ⟨rfl, rfl⟩)
                  go_ret
                  exact LPost.err hres.out hbz0 hBz hWz
                | true =>
                  obtain ⟨a, vin, hh, hRi, hmf, hjl⟩ := hok.1 rfl
                  have HH := Lib.hid hh; have HRI := Lib.hid hRi; have HMF := Lib.hid hmf; have HJL := Lib.hid hjl
                  clear hok hh hRi hmf hjl
                  by_cases hlt2 : j < ar.size
                  · have hltz : decide ((j : Int) < (ar.size : Int)) = true := by simp; omega
                    obtain ⟨p, hp⟩ : ∃ p, fs[j]? = some p := ⟨fs[j]'(HJL.out hlt2), List.getElem?_eq_getElem (HJL.out hlt2)⟩
                    obtain ⟨b, o, c', cells, hv1, hc', hm', hblk, hx⟩ : ∃ b o c' cells, Value.slice A fs.length c = .slice (some ⟨b, o, none⟩) fs.length c' ∧ fs.length ≤ c' ∧ c' ≤ 9223372036854775807 ∧ W.heap[b]? = some (.cells cells 75 (0, 0)) ∧
                        ∀ (i : Nat) (p : ByteArray × Bool), fs[i]? = some p → cells[o + i * 2]? = some (.string p.1) ∧ cells[o + i * 2 + 1]? = some (.bool p.2) := by
                      rcases HFS.out with ⟨_, h2⟩ | h2
                      · rw [h2] at hp; cases hp
                      · exact h2
                    obtain ⟨rfl, rfl⟩ : A = some ⟨b, o, none⟩ ∧ c = c' := by injection hv1 with h1 _ h3; exact ⟨h1, h3⟩
                    have hjf : j < fs.length := HJL.out hlt2
                    have hblk2 := blk_below hblk hbz
                    obtain ⟨q1, q2⟩ := hx j p hp
                    have cp1 : wr.cell? ⟨b, o + j * 2, none⟩ = some (.string p.1) := (blk_cell hblk2 _).trans q1
                    have cp2 : wr.cell? ⟨b, o + j * 2 + 1, none⟩ = some (.bool p.2) := (blk_cell hblk2 _).trans q2
                    have hps : p.1.size ≤ 1073741824 := HSZ.out p (List.mem_of_getElem? hp)
                    have hdf : fs.drop j = p :: fs.drop (j + 1) := by
                      rw [List.drop_eq_getElem_cons hjf]
                      have := List.getElem?_eq_getElem hjf; rw [hp] at this; injection this with this; rw [← this]
                    have hmf := HMF.out
                    rw [drop_at ar j hlt2, hdf] at hmf
                    have hmf : Con.mkAct i ar.data.toList fs = (Con.fill a ar[j] p).bind fun a' => Con.fillL a' (ar.data.toList.drop (j + 1)) (fs.drop (j + 1)) := hmf
                    have HMF2 := Lib.hid hmf; have HP := Lib.hid hp
                    have hjl2 : Hid (j + 1 < ar.size → j + 1 < fs.length) := Lib.hid (by have := hlen2.out; omega)
                    have hhn : wr.heap.size > n1 + 1 := blk_lt HH.out
                    have hWn : W.heap.size ≤ n1 := by rw [HN1.out]; exact hbW.size
                    clear hv1 hx hblk2 q1 q2 hdf hmf hp hblk
                    by_cases hc112 : ar[j] = 112
                    · have e112 : ((ar[j].toNat : Int) == 112) = true := by rw [hc112]; rfl
                      have hfl : Con.fill a ar[j] p = some { a with path := p.1 } := by unfold Con.fill; simp [hc112]
                      have ch1 : wr.cell? ⟨n1 + 1, 1, none⟩ = some (.string a.path) := (blk_cell HH.out 1).trans rfl
                      have ch2 : wr.frozen? ⟨n1 + 1, 1, none⟩ = false := blk_frozen HH.out 1
                      have HFL := Lib.hid hfl; clear hfl hc112
                      go_wp2
                      go_roundw
                      case measure => simp [intOf]; omega
                      case rel =>
                        refine ⟨j + 1, true, by go_num, rfl, by omega, hbz.setCell (by show W.heap.size ≤ n1 + 1; omega) _, blk_far HH8.out (show n1 ≠ n1 + 1 by omega) _, fun _ => ⟨{ a with path := p.1 }, vin, blk_set HH.out 1 _, Kd.R_set HRI.out HH.out (by decide) 1 _, ?_, hjl2.out⟩, fun h => (by cases h)⟩
                        rw [HMF2.out, HFL.out]; rfl
                    have e112 : ((ar[j].toNat : Int) == 112) = false := by rw [beq_eq_false_iff_ne]; exact fun h => hc112 (u8_eq h (by decide))
                    by_cases hc113 : ar[j] = 113
                    · have e113 : ((ar[j].toNat : Int) == 113) = true := by rw [hc113]; rfl
                      have hfl : Con.fill a ar[j] p = some { a with dest := p.1 } := by unfold Con.fill; simp [hc113]
                      have ch1 : wr.cell? ⟨n1 + 1, 2, none⟩ = some (.string a.dest) := (blk_cell HH.out 2).trans rfl
                      have ch2 : wr.frozen? ⟨n1 + 1, 2, none⟩ = false := blk_frozen HH.out 2
                      have HFL := Lib.hid hfl; clear hfl hc113
                      go_wp2
                      go_roundw
                      case measure => simp [intOf]; omega
                      case rel =>
                        refine ⟨j + 1, true, by go_num, rfl, by omega, hbz.setCell (by show W.heap.size ≤ n1 + 1; omega) _, blk_far HH8.out (show n1 ≠ n1 + 1 by omega) _, fun _ => ⟨{ a with dest := p.1 }, vin, blk_set HH.out 2 _, Kd.R_set HRI.out HH.out (by decide) 2 _, ?_, hjl2.out⟩, fun h => (by cases h)⟩
                        rw [HMF2.out, HFL.out]; rfl
                    have e113 : ((ar[j].toNat : Int) == 113) = false := by rw [beq_eq_false_iff_ne]; exact fun h => hc113 (u8_eq h (by decide))
                    by_cases hc100 : ar[j] = 100
                    · have e100 : ((ar[j].toNat : Int) == 100) = true := by rw [hc100]; rfl
                      have hfl : Con.fill a ar[j] p = some { a with data := p.1 } := by unfold Con.fill; simp [hc100]
                      have ch1 : wr.cell? ⟨n1 + 1, 3, none⟩ = some (.string a.data) := (blk_cell HH.out 3).trans rfl
                      have ch2 : wr.frozen? ⟨n1 + 1, 3, none⟩ = false := blk_frozen HH.out 3
                      have HFL := Lib.hid hfl; clear hfl hc100
                      go_wp2
                      go_roundw
                      case measure => simp [intOf]; omega
                      case rel =>
                        refine ⟨j + 1, true, by go_num, rfl, by omega, hbz.setCell (by show W.heap.size ≤ n1 + 1; omega) _, blk_far HH8.out (show n1 ≠ n1 + 1 by omega) _, fun _ => ⟨{ a with data := p.1 }, vin, blk_set HH.out 3 _, Kd.R_set HRI.out HH.out (by decide) 3 _, ?_, hjl2.out⟩, fun h => (by cases h)⟩
                        rw [HMF2.out, HFL.out]; rfl
                    have e100 : ((ar[j].toNat : Int) == 100) = false := by rw [beq_eq_false_iff_ne]; exact fun h => hc100 (u8_eq h (by decide))
                    by_cases hc110 : ar[j] = 110
                    · have e110 : ((ar[j].toNat : Int) == 110) = true := by rw [hc110]; rfl
                      cases hfn : Con.fnum p with
                      | none =>
                        have HFN : Hid (Con.fnum (p.1, p.2) = none) := Lib.hid hfn
                        have hfl : Con.fill a ar[j] p = none := by unfold Con.fill; simp [hc110, hfn]
                        have HFL := Lib.hid hfl; clear hfl hfn hc112 hc113 hc100 hc110
                        go_wp2_with (go_at_call 23; refine (number_none _ _ _ hps HFN.out).mono ?_; rintro e w2 ⟨rfl, hb2⟩; have hg2 := Lib.hid (blk_below HH.out hb2); have hc2 : w2.cell? ⟨n1 + 1, 4, none⟩ = some (.int .i64 a.quota) := (blk_cell hg2.out 4).trans rfl; have hz2 : w2.frozen? ⟨n1 + 1, 4, none⟩ = false := blk_frozen hg2.out 4)
                        go_roundw
                        case measure => simp [intOf]; omega
                        case rel =>
                          refine ⟨j + 1, false, by go_num, rfl, by omega, (below_then hbz hbz.size hb2).setCell (by show W.heap.size ≤ n1 + 1; omega) _, blk_far (blk_below HH8.out hb2) (show n1 ≠ n1 + 1 by omega) _, fun h => (by cases h), fun _ => ?_⟩
                          rw [HMF2.out, HFL.out]; rfl
                      | some m =>
                        have HFN : Hid (Con.fnum (p.1, p.2) = some m) := Lib.hid hfn
                        have hfl : Con.fill a ar[j] p = some { a with quota := m } := by unfold Con.fill; simp [hc110, hfn]
                        have HFL := Lib.hid hfl; clear hfl hfn hc112 hc113 hc100 hc110
                        go_wp2_with (go_at_call 23; refine (number_some _ _ _ hps HFN.out).mono ?_; rintro e w2 ⟨rfl, hb2⟩; have hg2 := Lib.hid (blk_below HH.out hb2); have hc2 : w2.cell? ⟨n1 + 1, 4, none⟩ = some (.int .i64 a.quota) := (blk_cell hg2.out 4).trans rfl; have hz2 : w2.frozen? ⟨n1 + 1, 4, none⟩ = false := blk_frozen hg2.out 4)
                        go_roundw
                        case measure => simp [intOf]; omega
                        case rel =>
                          refine ⟨j + 1, true, by go_num, rfl, by omega, (below_then hbz hbz.size hb2).setCell (by show W.heap.size ≤ n1 + 1; omega) _, blk_far (blk_below HH8.out hb2) (show n1 ≠ n1 + 1 by omega) _, fun _ => ⟨{ a with quota := m }, vin, blk_set hg2.out 4 _, Kd.R_set (Kd.R_below HRI.out hb2) hg2.out (by decide) 4 _, ?_, hjl2.out⟩, fun h => (by cases h)⟩
                          rw [HMF2.out, HFL.out]; rfl
                    · have e110 : ((ar[j].toNat : Int) == 110) = false := by rw [beq_eq_false_iff_ne]; exact fun h => hc110 (u8_eq h (by decide))
                      have hfl : Con.fill a ar[j] p = some a := by unfold Con.fill; simp [hc112, hc113, hc100, hc110]
                      have HFL := Lib.hid hfl; clear hfl hc112 hc113 hc100 hc110
                      go_wp2
                      go_roundw
                      case measure => simp [intOf]; omega
                      case rel =>
                        refine ⟨j + 1, true, by go_num, rfl, by omega, hbz, HH8.out, fun _ => ⟨a, vin, HH.out, HRI.out, ?_, hjl2.out⟩, fun h => (by cases h)⟩
                        rw [HMF2.out, HFL.out]; rfl
                  · have hltz : decide ((j : Int) < (ar.size : Int)) = false := by simp; omega
                    have hmk : Hid (Con.mkAct i ar.data.toList fs = some a) := Lib.hid (by rw [HMF.out, List.drop_eq_nil_of_le (by have : ar.data.toList.length = ar.size := rfl; omega)]; rfl)
                    by_cases hac : st.acts = []
                    · have hln : ((st.acts.length : Int) == 0) = true := by rw [hac]; rfl
                      have hres : Hid (Con.actL st word.data.toList fs = .error 3) := Lib.hid (by unfold Con.actL; rw [HF.out]; dsimp only; rw [hmk.out]; exact if_pos hac)
                      clear hac
                      go_wp2_with (go_at_call 20; refine (wrong_3 _).mono ?_; rintro e w2 ⟨rfl, rfl⟩)
                      go_ret
                      exact LPost.err hres.out hbz0 hBz hWz
                    · have hln : ((st.acts.length : Int) == 0) = false := by rw [beq_eq_false_iff_ne]; have := List.length_pos_iff.2 hac; omega
                      have hres : Hid (Con.actL st word.data.toList fs = .ok { st with acts := Con.addAct a st.acts }) := Lib.hid (by unfold Con.actL; rw [HF.out]; dsimp only; rw [hmk.out]; exact if_neg hac)
                      have hpos : 0 < st.acts.length := List.length_pos_iff.2 hac
                      clear hac
                      obtain ⟨ga, last, A5, c5, oki, cells41, rfl, hlast, hga, hgac, hbga, hR41, hoki, hput⟩ := acts_lend HS.out hpos rfl
                      have hlm : last ∈ st.acts := by
                        rw [hlast, List.getD_eq_getElem?_getD, List.getElem?_eq_getElem (by omega)]
                        exact List.getElem_mem _
                      have hll : (last.length + 1) * 144 ≤ 140737488355328 := by have := HROOM.out last hlm; omega
                      have hN : n1 + 1 < wr.heap.size := blk_lt HH.out
                      have hp : kAct.M wr base (fun k => W.heap.size ≤ k) a [.int .i64 a.kind, .string a.path, .string a.dest, .string a.data, .int .i64 a.quota, .string a.program, .string a.output, vin, .int .i64 a.parts, .int .i64 a.split, .int .i64 a.spill] :=
                        kAct_mkM a (Kd.R_mono (Kd.R_lower (Kd.R_bound HRI.out) hB) (fun k hk => hk.2.1))
                      have hgg : g ≠ ga := by
                        intro e; rw [← e, HGB.out] at hga; injection hga with hga; injection hga with _ hga; exact absurd hga (by decide)
                      have k0 : wr.cell? ⟨n1 + 1, 0, none⟩ = some (.int .i64 a.kind) := (blk_cell HH.out 0).trans rfl
                      have k1 : wr.cell? ⟨n1 + 1, 1, none⟩ = some (.string a.path) := (blk_cell HH.out 1).trans rfl
                      have k2 : wr.cell? ⟨n1 + 1, 2, none⟩ = some (.string a.dest) := (blk_cell HH.out 2).trans rfl
                      have k3 : wr.cell? ⟨n1 + 1, 3, none⟩ = some (.string a.data) := (blk_cell HH.out 3).trans rfl
                      have k4 : wr.cell? ⟨n1 + 1, 4, none⟩ = some (.int .i64 a.quota) := (blk_cell HH.out 4).trans rfl
                      have k5 : wr.cell? ⟨n1 + 1, 5, none⟩ = some (.string a.program) := (blk_cell HH.out 5).trans rfl
                      have k6 : wr.cell? ⟨n1 + 1, 6, none⟩ = some (.string a.output) := (blk_cell HH.out 6).trans rfl
                      have k7 : wr.cell? ⟨n1 + 1, 7, none⟩ = some vin := (blk_cell HH.out 7).trans rfl
                      have k8 : wr.cell? ⟨n1 + 1, 8, none⟩ = some (.int .i64 a.parts) := (blk_cell HH.out 8).trans rfl
                      have k9 : wr.cell? ⟨n1 + 1, 9, none⟩ = some (.int .i64 a.split) := (blk_cell HH.out 9).trans rfl
                      have k10 : wr.cell? ⟨n1 + 1, 10, none⟩ = some (.int .i64 a.spill) := (blk_cell HH.out 10).trans rfl
                      have e1 : (st.acts.length : Int) - 1 = ((st.acts.length - 1 : Nat) : Int) := by omega
                      have hgalt : ga < wr.heap.size := blk_lt hga
                      have hglt : g < wr.heap.size := blk_lt HGB.out
                      have ew : IntKind.i64.wrap ((st.acts.length - 1 : Nat) : Int) = ((st.acts.length - 1 : Nat) : Int) := IntWalk.i64_in _ (by omega)
                      have e2 : decide (((st.acts.length - 1 : Nat) : Int) < (st.acts.length : Int)) = true := by simp; omega
                      have e3 : ((st.acts.length - 1 : Nat) : Int) < (st.acts.length : Int) := by omega
                      have e4 : st.acts.length - 1 < st.acts.length := by omega
                      have hv1 : vin.oneCell' = true := (Kd.R_val HRI.out).2
                      have HLAST := Lib.hid hlast; have HGA := Lib.hid hga; have HR41 := Lib.hid hR41; have HPUT := Lib.hid hput; have HOKI := Lib.hid hoki; have HPP := Lib.hid hp
                      clear hlast hga hR41 hput hoki hp hlm
                      go_wp2
                      go_region_law (first | (refine Kd.R_append_step kAct (w0 := w0) (W := wr.drew) base (by rfl) (.tmp 116) (.tmp 118) 41 46 _ 144 rfl Tryz.underlying41 info46 rfl (by decide) (by decide) (.slice A5 last.length c5) last a [.int .i64 a.kind, .string a.path, .string a.dest, .string a.data, .int .i64 a.quota, .string a.program, .string a.output, vin, .int .i64 a.parts, .int .i64 a.split, .int .i64 a.spill] (fun k => oki k ∨ W.heap.size ≤ k) (fun k => W.heap.size ≤ k) (by rfl) (by rfl) (kAct.M_move (fun _ _ => rfl) HPP.out) (fun k hk => ⟨.inr hk, fun he => by have := HOKI.out k (HR41.out.1 k he.symm); omega⟩) (fun k hk => .inr (Nat.le_trans hWz hk)) (Kd.R_drew (Kd.R_mono HR41.out (fun _ hk => .inl hk))) (below_drew hbz0) hBz hll ?_; intro v6 w6 hown6 hb6 hgr6 hat6; obtain ⟨A6, c6, rfl⟩ := Kd.R_slice hown6; have hg6 := Lib.hid (blk_grown (w := wr.drew) HGB.out hgr6 (Kd.R_ne (w := wr) HR41.out HGB.out (by decide))); have hg64 : w6.cell? ⟨g, 4, none⟩ = some (.slice (some ⟨ga, 0, none⟩) st.acts.length c4) := (blk_cell hg6.out 4).trans rfl; have hga6 := Lib.hid (blk_grown (w := wr.drew) HGA.out hgr6 (Kd.R_ne (w := wr) HR41.out HGA.out (by decide))); have hga6c : w6.cell? ⟨ga, st.acts.length - 1, none⟩ = some (.slice A5 last.length c5) := (blk_cell hga6.out _).trans ((blk_cell HGA.out _).symm.trans hgac); have hga6f : w6.frozen? ⟨ga, st.acts.length - 1, none⟩ = false := blk_frozen hga6.out _))
                      all_goals
                        go_wp2
                        go_ret
                        have hlast := HLAST.out
                        have hfin := HPUT.out w6 _ a hgr6 hga6.out hown6
                        have hty := Kd.R_typed HR41.out
                        refine ⟨hb6.setCell hbga _, by have := hgr6.size; simp at this ⊢; omega, ?_⟩
                        rw [hres.out]
                        refine ⟨rfl, ⟨_, vc, blk_far hg6.out hgg _, by simpa using hfin, ?_, hbg⟩, ?_⟩
                        · exact Kd.R_set (Kd.R_over' (Kd.R_drew HR.out) hty (by decide) hgr6) hga6.out (by decide) _ _
                        · exact ((KeptT.below g hbz).trans (KeptT.below g (below_drew (Below.refl _ _)))).trans ((KeptT.grown hgr6 hty (.inr (.inr rfl))).trans (KeptT.setTy hga6.out rfl _ _))
            · have el : ((fs.length : Int) == (ar.size : Int)) = false := by rw [beq_eq_false_iff_ne]; omega
              go_wp2
              rw [← hn1]
              have HN1 := Lib.hid hn1; clear hn1
              go_loopw [10, 11] (fun v10 v11 wr => ArgRel W n1 i wd ar fs v10 v11 wr ∧ v10 = .bool false) (fun _ v11 _ => ar.size - (intOf v11).toNat)
              case atStart => exact ⟨⟨0, false, rfl, rfl, Nat.zero_le _, (hbW.alloc hbW.size _).alloc (by have := hbW.size; simp; omega) _, by rw [HN1.out]; exact blk_alloc (blk_new _ _) _, fun h => (by cases h), fun _ => Con.mk_len HVB.out hne h10 fs hlen⟩, rfl⟩
              case round =>
                obtain ⟨⟨j, ok, rfl, rfl, hj, hbz, h8, hok⟩, hok2⟩ := hrel
                obtain rfl : ok = false := by injection hok2
                have hbz0 : Below base w0 wr := below_then hb hB hbz
                have hWz := hbz.size
                have hBz : base ≤ wr.heap.size := Nat.le_trans hB hWz
                obtain ⟨va, vc, hgb, hS, hR, hbg⟩ := HRS.out.below hbz
                obtain ⟨A4, c4, rfl⟩ := Kd.S_slice hS
                have hg4 : wr.cell? ⟨g, 4, none⟩ = some (.slice A4 st.acts.length c4) := (blk_cell hgb 4).trans rfl
                have HGB := Lib.hid hgb; have HS := Lib.hid hS; have HR := Lib.hid hR
                clear hgb hS hR h8
                have hres : Hid (Con.actL st word.data.toList fs = .error 2) := Lib.hid (by unfold Con.actL; rw [HF.out]; dsimp only; rw [hok.2 rfl])
                clear hok
                go_wp2_with (go_at_call 20; refine (wrong_2 _).mono ?_; rintro e w2 ⟨rfl, rfl⟩)
                go_ret
                exact LPost.err hres.out hbz0 hBz hWz
      · have hnx := Lib.hid (hnx fun u _ hu h => he (by
          have := HVB.out; rw [hu] at this; injection this with this; subst this; rw [Lib.toList_data, Lib.toList_data]; exact h))
        go_wp2
        go_roundw
        case measure => simp [intOf]; omega
        case rel => exact hnx.out
    · obtain rfl : i = 12 := by omega
      have hres : Hid (Con.actL st word.data.toList fs = .error 260) := Lib.hid (by unfold Con.actL; rw [Con.act_miss HN.out])
      go_wp2_with (go_at_call 20; refine (wrong_260 _).mono ?_; rintro e w2 ⟨rfl, rfl⟩)
      go_ret
      exact LPost.err hres.out hb0 (Nat.le_trans hB hbW.size) hbW.size
end Go.Proofs.YtkdofgbjebpmoaaGreatDoor

