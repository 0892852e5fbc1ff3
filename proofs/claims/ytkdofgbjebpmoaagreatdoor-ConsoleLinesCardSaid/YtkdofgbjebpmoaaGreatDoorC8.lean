import Derived.Test.YtkdofgbjebpmoaaGreatDoorC7
namespace Go.Proofs.YtkdofgbjebpmoaaGreatDoor
set_option linter.unusedVariables false
set_option linter.unusedSimpArgs false
open Go.RowKit Go.Proofs.YtkdofgbjebpmoaaGreatDoorW.PrintWords

theorem number_some (t : ByteArray) (q : Bool) (w : World) (hs : t.size ≤ 1073741824) {n : Int} (h : Con.fnum (t, q) = some n) :
    Calls Tryz.prog 23 #[.agg #[.string t, .bool q]] w fun e w' => e = .returned (.tuple #[.int .i64 n, .bool true]) ∧ Below w.heap.size w w' :=
  (number_any q t w hs).mono fun e w' ⟨he, hb⟩ => ⟨by rw [he, show Con.numOf q t.data.toList = some n from h], hb⟩
theorem number_none (t : ByteArray) (q : Bool) (w : World) (hs : t.size ≤ 1073741824) (h : Con.fnum (t, q) = none) :
    Calls Tryz.prog 23 #[.agg #[.string t, .bool q]] w fun e w' => e = .returned (.tuple #[.int .i64 0, .bool false]) ∧ Below w.heap.size w w' :=
  (number_any q t w hs).mono fun e w' ⟨he, hb⟩ => ⟨by rw [he, show Con.numOf q t.data.toList = none from h], hb⟩
theorem numsL_snoc (a : List Con.Fld) (p : Con.Fld) : ∀ l, Con.numsL a = some l → Con.numsL (a ++ [p]) = (Con.fnum p).map (l ++ [·]) := by
  induction a with
  | nil => intro l h; injection h with h; subst h; simp only [List.nil_append, Con.numsL]; cases Con.fnum p <;> rfl
  | cons f a ih =>
    intro l h
    simp only [List.cons_append, Con.numsL] at h ⊢
    cases hf : Con.fnum f with
    | none => rw [hf] at h; cases h
    | some n =>
      rw [hf] at h
      simp only [Option.map_eq_some_iff] at h ⊢
      obtain ⟨l2, h2, rfl⟩ := h
      rw [ih l2 h2]
      cases Con.fnum p <;> rfl
theorem numsL_stop (a b : List Con.Fld) (p : Con.Fld) (hp : Con.fnum p = none) : Con.numsL (a ++ p :: b) = none := by
  induction a with
  | nil => simp only [List.nil_append, Con.numsL, hp]
  | cons f a ih =>
    simp only [List.cons_append, Con.numsL]
    cases Con.fnum f with
    | none => rfl
    | some n => simp only [ih]; rfl
theorem numsL_length : ∀ (a : List Con.Fld) (l : List Int), Con.numsL a = some l → l.length = a.length
  | [], l, h => by injection h with h; subst h; rfl
  | f :: a, l, h => by
    simp only [Con.numsL] at h
    cases hf : Con.fnum f with
    | none => rw [hf] at h; cases h
    | some n =>
      rw [hf] at h
      simp only [Option.map_eq_some_iff] at h
      obtain ⟨l2, h2, rfl⟩ := h
      simp [numsL_length a l2 h2]

def ChRel (base : Nat) (w0 W : World) (g : Nat) (st : ScriptL) (fs : List Con.Fld) (v : Value) (wr : World) : Prop :=
  ∃ (i : Nat) (l : List Int), v = .int .i64 i ∧ i ≤ fs.length ∧ Con.numsL (fs.take i) = some l ∧ RS wr base g { st with choices := st.choices ++ l } ∧ KeptT W wr g ∧ Below base w0 wr
theorem wrong_2 (w : World) : Calls Tryz.prog 20 #[.int .i64 2] w fun e w' => e = .returned (.iface 58 (.pointer (some ⟨w.heap.size, 0, none⟩))) ∧ w' = w.alloc (.cells #[.int .i64 2, .int .i64 0] 29) := wrong_any 2 w
theorem LPost.err {base : Nat} {w0 W : World} {g : Nat} {r : Except Int ScriptL} {w' : World} {c : Int} (hr : r = .error c) (hb : Below base w0 w') (hB : base ≤ w'.heap.size) (hk : W.heap.size ≤ w'.heap.size) :
    LPost base w0 W g r (.returned (.iface 58 (.pointer (some ⟨w'.heap.size, 0, none⟩)))) (w'.alloc (.cells #[.int .i64 c, .int .i64 0] 29)) := by
  refine ⟨hb.alloc hB _, by simp; omega, ?_⟩
  rw [hr]
  exact ⟨_, rfl, blk_new _ _⟩

set_option maxRecDepth 100000 in
set_option maxHeartbeats 2000000 in
theorem choose_any (base : Nat) (w0 W : World) (g : Nat) (st : ScriptL) (v : Value) (fs : List Con.Fld) (hr : RS W base g st) (hf : FS W v fs) (hb : Below base w0 W) (hB : base ≤ W.heap.size)
    (hsz : ∀ p ∈ fs, p.1.size ≤ 1073741824) (hl : st.choices.length + fs.length ≤ 1073741824 * 4) :
    Calls Tryz.prog 24 #[.pointer (some ⟨g, 0, none⟩), v] W (LPost base w0 W g (Con.chooseL st fs)) := by
  rcases hf with ⟨rfl, rfl⟩ | ⟨b, o, c, cells, rfl, hc, hm, hblk, hx⟩
  · have hres : Hid (Con.chooseL st [] = .error 2) := Lib.hid rfl
    go_enter Tryz.func24, Tryz.ntmps24
    go_wp2
    go_loop [11] (fun i => i = .int .i64 0) (fun _ => 0)
    case atStart => rfl
    case round =>
      subst hrel
      go_wp2_with (go_at_call 20; refine (wrong_2 _).mono ?_; rintro e w2 ⟨rfl, rfl⟩)
      go_ret
      exact LPost.err hres.out hb hB (Nat.le_refl _)
  · have HX := Lib.hid hx; have HSZ := Lib.hid hsz; clear hx hsz
    have hgt : g ≠ b := by
      obtain ⟨va, vc, h1, _⟩ := hr
      rintro rfl
      rw [hblk] at h1
      exact absurd (by injection h1 with h1; injection h1) (show ¬ (75 = 49) by decide)
    go_enter Tryz.func24, Tryz.ntmps24
    go_wp2
    go_loopw [11] (fun i wr => ChRel base w0 W g st fs i wr) (fun i _ => fs.length - (intOf i).toNat)
    case atStart => exact ⟨0, [], rfl, Nat.zero_le _, rfl, by simpa using hr, KeptT.refl _ _, hb⟩
    case round =>
      obtain ⟨i, l, rfl, hi, hnl, hrs, hkt, hbw⟩ := hrel
      by_cases hlt : i < fs.length
      · obtain ⟨p, hp⟩ : ∃ p, fs[i]? = some p := ⟨fs[i], List.getElem?_eq_getElem hlt⟩
        obtain ⟨q1, q2⟩ := HX.out i p hp
        have hblk2 : wr.heap[b]? = some (.cells cells 75 (0, 0)) := hkt.2 b cells 75 (0, 0) hblk (Ne.symm hgt) (by decide) (by decide) (by decide)
        have c1 : wr.cell? ⟨b, o + i * 2, none⟩ = some (.string p.1) := (blk_cell hblk2 _).trans q1
        have c2 : wr.cell? ⟨b, o + i * 2 + 1, none⟩ = some (.bool p.2) := (blk_cell hblk2 _).trans q2
        have hps : p.1.size ≤ 1073741824 := HSZ.out p (List.mem_of_getElem? hp)
        have htake : fs.take (i + 1) = fs.take i ++ [p] := by rw [List.take_add_one, hp]; rfl
        have hB2 : base ≤ wr.heap.size := Nat.le_trans hB hkt.1
        have hK1 := hkt.1
        obtain ⟨va, vc, hgb, hS, hR, hbg⟩ := hrs
        have hll := numsL_length _ _ hnl
        rw [List.length_take, Nat.min_eq_left hi] at hll
        have hsn := numsL_snoc _ p l hnl
        rw [← htake] at hsn
        cases hfn : Con.fnum p with
        | none =>
          have hres : Hid (Con.chooseL st fs = .error 2) := Lib.hid (by
            unfold Con.chooseL
            have : fs = fs.take i ++ p :: fs.drop (i + 1) := by
              have h := List.take_append_drop i fs
              rw [List.drop_eq_getElem_cons hlt] at h
              have : fs[i] = p := by have := List.getElem?_eq_getElem hlt; rw [hp] at this; injection this with this; exact this.symm
              rw [this] at h; exact h.symm
            rw [this, numsL_stop _ _ _ hfn])
          have HF : Hid (Con.fnum (p.1, p.2) = none) := Lib.hid hfn
          have HGB := Lib.hid hgb; have HS := Lib.hid hS; have HR := Lib.hid hR
          clear hfn hsn htake hp q1 q2 hblk2 hnl hgb hS hR hll
          go_wp2_with (first | (go_at_call 23; refine (number_none _ _ _ hps HF.out).mono ?_; rintro e w2 ⟨rfl, hb2⟩) | (go_at_call 20; refine (wrong_2 _).mono ?_; rintro e w3 ⟨rfl, rfl⟩))
          go_ret
          refine LPost.err hres.out (below_then (hbw.alloc hB2 _) (by simp; omega) hb2) ?_ ?_
          · have := hb2.size; simp at this; omega
          · have := hb2.size; simp at this; omega
        | some m =>
          rw [hfn] at hsn
          have HF : Hid (Con.fnum (p.1, p.2) = some m) := Lib.hid hfn
          have HSN := Lib.hid hsn
          have HGB := Lib.hid hgb; have HS := Lib.hid hS; have HR := Lib.hid hR
          have hroom : ((st.choices ++ l).length + 1) * 8 ≤ 140737488355328 := by simp; omega
          clear hfn hsn htake hp q1 q2 hblk2 hnl hgb hS hR hll
          go_wp2_with (first | (go_at_call 23; refine (number_some _ _ _ hps HF.out).mono ?_; rintro e w2 ⟨rfl, hb2⟩; have hg2 := Lib.hid (blk_below (blk_alloc HGB.out _) hb2); have hg5 : w2.cell? ⟨g, 5, none⟩ = some vc := (blk_cell hg2.out 5).trans rfl) | (at_builtin; go_must (refine Kd.R_append kI (w0 := w0) base rfl (.tmp 28) (.tmp 30) 24 3 (.int .i64 0) 8 rfl Tryz.underlying24 info3 rfl (by decide) (by decide) vc (st.choices ++ l) m [.int .i64 m] (fun _ => True) (fun _ => False) rfl rfl rfl (fun _ h => h.elim) (fun _ _ => trivial) (Kd.R_below (Kd.R_alloc HR.out _) hb2) (below_then (hbw.alloc hB2 _) (by simp; omega) hb2) ?_ hroom ?_); (have := hb2.size; simp at this; omega); intro v1 w3 hown3 hb3 hgr3 hat3; obtain ⟨A3, c3, rfl⟩ := Kd.R_slice hown3; have hg3 := Lib.hid (blk_grown hg2.out hgr3 (Kd.R_ne (Kd.R_below (Kd.R_alloc HR.out _) hb2) hg2.out (by decide))); have hg35 : w3.cell? ⟨g, 5, none⟩ = some vc := (blk_cell hg3.out 5).trans rfl; have hg3f : w3.frozen? ⟨g, 5, none⟩ = false := blk_frozen hg3.out 5))
          have hlen : (st.choices ++ l ++ [m]).length = st.choices.length + (l.length + 1) := by simp [Nat.add_assoc]
          rw [hlen] at hown3
          have hRg2 := Kd.R_below (Kd.R_alloc HR.out (.cells #[.string p.1, .bool p.2] 75)) hb2
          have hSg2 := Kd.S_below (Kd.S_alloc HS.out (.cells #[.string p.1, .bool p.2] 75)) hb2
          have hSg3 := Kd.S_over' hSg2 (Kd.R_typed hRg2) (by decide) hgr3
          go_roundw
          case measure => simp [intOf]; omega
          case rel =>
            refine ⟨i + 1, l ++ [m], by go_num, by omega, HSN.out, ⟨va, _, blk_set hg3.out 5 _, Kd.S_set hSg3 hg3.out (by decide) 5 _, ?_, hbg⟩, ?_, ?_⟩
            · show Kd.R kI 3 _ base _ _ (st.choices ++ (l ++ [m]))
              rw [← List.append_assoc]
              exact Kd.R_set hown3 hg3.out (by decide) 5 _
            · exact ((hkt.trans (KeptT.below g (below_alloc (Below.refl _ _) _))).trans (KeptT.below g hb2)).trans ((KeptT.grown hgr3 (Kd.R_typed hRg2) (.inl rfl)).trans (KeptT.set 5 _))
            · exact hb3.setCell (by exact hbg) _
      · obtain rfl : i = fs.length := by omega
        rw [List.take_length] at hnl
        have HNL := Lib.hid hnl; have HRS := Lib.hid hrs; clear hnl hrs
        have hB2 : base ≤ wr.heap.size := Nat.le_trans hB hkt.1
        have hK1 := hkt.1
        by_cases h0 : fs.length = 0
        · have e0 : ((fs.length : Int) == 0) = true := by rw [h0]; rfl
          have hres : Hid (Con.chooseL st fs = .error 2) := Lib.hid (by unfold Con.chooseL; rw [HNL.out]; dsimp only; rw [if_pos (List.eq_nil_of_length_eq_zero h0)])
          clear h0
          go_wp2_with (go_at_call 20; refine (wrong_2 _).mono ?_; rintro e w2 ⟨rfl, rfl⟩)
          go_ret
          exact LPost.err hres.out hbw hB2 hK1
        · have e0 : ((fs.length : Int) == 0) = false := by rw [beq_eq_false_iff_ne]; omega
          have hres : Hid (Con.chooseL st fs = .ok { st with choices := st.choices ++ l }) := Lib.hid (by unfold Con.chooseL; rw [HNL.out]; dsimp only; rw [if_neg (fun h => h0 (by rw [h]; rfl))])
          clear h0
          go_wp2
          go_ret
          refine ⟨hbw, hK1, ?_⟩
          rw [hres.out]
          exact ⟨rfl, HRS.out, hkt⟩

end Go.Proofs.YtkdofgbjebpmoaaGreatDoor
