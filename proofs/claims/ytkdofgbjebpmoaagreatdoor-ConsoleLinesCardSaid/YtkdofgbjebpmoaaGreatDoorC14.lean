import Derived.Test.YtkdofgbjebpmoaaGreatDoorC12
import Derived.Test.YtkdofgbjebpmoaaGreatDoorC13
import Derived.Test.YtkdofgbjebpmoaaGreatDoorCPure4
namespace Go.Proofs.YtkdofgbjebpmoaaGreatDoor
set_option linter.unusedVariables false
set_option linter.unusedSimpArgs false
open Go.RowKit Go.Proofs.YtkdofgbjebpmoaaGreatDoorW.PrintWords

def scV (va vc : Value) (st : ScriptL) : Value := .agg #[.int .i64 st.nodes, .int .i64 st.replicas, .int .i64 st.block, .int .i64 st.room, va, vc, .int .i64 st.rounds, .bool st.flips]
def zeroV : Value := scV (.slice none 0 0) (.slice none 0 0) Con.script0
def ParsePost (s : ByteArray) (w : World) (e : Ending) (w' : World) : Prop :=
  Below w.heap.size w w' ∧ match Con.parseL s.data.toList with
  | .ok st => ∃ va vc, e = .returned (.tuple #[scV va vc st, .agg #[.int .i64 0, .int .i64 0]]) ∧ Kd.S kActs 41 w' w.heap.size (fun _ => True) va st.acts ∧ Kd.R kI 3 w' w.heap.size (fun _ => True) vc st.choices
  | .error (c, n) => e = .returned (.tuple #[zeroV, .agg #[.int .i64 c, .int .i64 n]])
/-- What Parse asks of memory: the verbs, error's type, MaxLen. -/
def CT (W : World) : Prop := VT W ∧ W.cell? ⟨0, 0, none⟩ = some (.iface 121 (.agg #[.pointer (some ⟨10, 54, none⟩)])) ∧ ∃ m, W.cell? ⟨2, 0, none⟩ = some (.int .i64 m)
theorem cell_below {W W1 : World} {a : Addr} {v : Value} (h : W.cell? a = some v) (hb : Below W.heap.size W W1) : W1.cell? a = some v := by
  have hlt := World.block_lt_of_cell? W _ h
  have := hb.block a.block hlt
  rw [← h]
  simp only [World.cell?, this]
theorem CT.below {W W1 : World} (h : CT W) (hb : Below W.heap.size W W1) : CT W1 :=
  ⟨h.1.below hb, cell_below h.2.1 hb, by obtain ⟨m, hm⟩ := h.2.2; exact ⟨m, cell_below hm hb⟩⟩

theorem blk_new_at {w : World} {A : Obj} {n : Nat} (h : w.heap.size = n) : (w.alloc A).heap[n]? = some A := by subst h; exact blk_new _ _
theorem blk_new3 (w : World) (A B C : Obj) : (((w.alloc A).alloc B).alloc C).heap[w.heap.size + 1 + 1]? = some C := blk_new_at (by simp)
theorem parse_ret {R : Ending → World → Prop} {tmps : Array Value} {w : World} {g2 g3 t2 t3 : Nat} {c2 c3 : Array Value} (e2 : tmps.getD 2 undef = .pointer (some ⟨g2, 0, none⟩)) (e3 : tmps.getD 3 undef = .pointer (some ⟨g3, 0, none⟩))
    (h2 : w.heap[g2]? = some (.cells c2 t2 (0, 0))) (h3 : w.heap[g3]? = some (.cells c3 t3 (0, 0))) (s2 : c2.size = 8) (s3 : c3.size = 2) (hR : R (.returned (.tuple #[.agg c2, .agg c3])) w) : bodyPost Tryz.prog Tryz.f6 R .ret ⟨tmps, []⟩ w := by
  have hr : Tryz.f6.results = #[.cell 2 26, .cell 3 29] := by kernel_rfl
  have l2 := run_loadVar_row (P := Tryz.prog) w g2 t2 26 c2 (0, 0) _ h2 Tryz.underlying26 rfl (by rw [s2]; kernel_rfl)
  have l3 := run_loadVar_row (P := Tryz.prog) w g3 t3 29 c3 (0, 0) _ h3 Tryz.underlying29 rfl (by rw [s3]; kernel_rfl)
  refine bodyPost_ret (v := .tuple #[.agg c2, .agg c3]) ?_ rfl hR
  have e2' : tmps[2]?.getD undef = .pointer (some ⟨g2, 0, none⟩) := by simpa using e2
  have e3' : tmps[3]?.getD undef = .pointer (some ⟨g3, 0, none⟩) := by simpa using e3
  simp [results, e2', e3', asAddr, l2, l3, Result.andThen]
/-- The lines, as they lie in memory. -/
theorem split_ex (s : ByteArray) (hs : s.size ≤ 1048576) : ∃ (init : List ByteArray) (last : ByteArray), (init ++ [last]).map (·.data.toList) = Con.lnL s.data.toList ∧ ∀ w, CT w →
    Calls Tryz.prog 9 #[.string s, .string ⟨#[10]⟩] w fun e w' => e = .returned (.slice (some ⟨w.heap.size, 0, none⟩) (init.length + 1) (init.length + 1)) ∧ w' = w.alloc (.cells ((init ++ [last]).map Value.string).toArray 9) := by
  obtain ⟨ls, h1, h2⟩ : ∃ ls : List ByteArray, ls.map (·.data.toList) = Con.lnL s.data.toList ∧ ∀ w, CT w → Calls Tryz.prog 9 #[.string s, .string ⟨#[10]⟩] w fun e w' => e = .returned (.slice (some ⟨w.heap.size, 0, none⟩) ls.length ls.length) ∧ w' = w.alloc (.cells (ls.map Value.string).toArray 9) := by
    refine ⟨Lib.splitB ⟨#[10]⟩ 0 (Lib.countB s ⟨#[10]⟩) s, ?_, fun w hc => ?_⟩
    · rw [Lib.splitB_data]; exact Con.split_lnL _
    · obtain ⟨m, hm⟩ := hc.2.2
      rw [Lib.splitB_all ⟨#[10]⟩ (by decide) 0 _ s rfl]
      exact Tryz.strings_Split s ⟨#[10]⟩ m w (by omega) hm (by decide)
  have hne : ls ≠ [] := by
    rintro rfl
    exact Con.lnL_ne _ h1.symm
  refine ⟨ls.dropLast, ls.getLast hne, by rw [List.dropLast_concat_getLast]; exact h1, fun w hc => ?_⟩
  have e : ls.dropLast.length + 1 = ls.length := by rw [List.length_dropLast]; have := List.length_pos_iff.2 hne; omega
  rw [e, List.dropLast_concat_getLast]
  exact h2 w hc

theorem FS.ofR {w : World} {base : Nat} {v : Value} {fs : List Con.Fld} (h : Kd.R kF 75 w base (fun _ => True) v fs) : FS w v fs := by
  obtain ⟨_, inner, ho, hr⟩ := h
  rcases ho.2 with ⟨hv, hn⟩ | ⟨g, cap, cur, hv, hb, hg, hn, hm, hsz, htk⟩
  · exact .inl ⟨hv, List.eq_nil_of_length_eq_zero hn⟩
  · refine .inr ⟨g, 0, cap, cur, hv, hn, hm, hg, fun i p hp => ?_⟩
    obtain ⟨a, b, h1, h2, h3⟩ := hr.2 i p hp
    have ha : a = [.string p.1] := h2
    have hb2 : b = [.bool p.2] := h3
    subst ha hb2
    have hil := (List.getElem?_eq_some_iff.1 hp).1
    have hk : kF.sz = 2 := rfl
    rw [hk] at h1 htk
    have key : ∀ j, j < 2 → cur[0 + i * 2 + j]? = ([Value.string p.1] ++ [Value.bool p.2])[j]? := by
      intro j hj
      rw [← h1, List.getElem?_take, if_pos hj, List.getElem?_drop, ← htk, List.getElem?_take, if_pos (by omega)]
      simp
    exact ⟨by have := key 0 (by decide); simpa using this, by have := key 1 (by decide); simpa using this⟩
theorem cut_none (s : ByteArray) (w : World) (hs : s.size ≤ 1073741824) (h : Con.cutL s.data.toList = none) :
    Calls Tryz.prog 11 #[.string s] w fun e w' => ∃ g, e = .returned (.tuple #[.slice none 0 0, .iface 58 (.pointer (some ⟨g, 0, none⟩))]) ∧ w'.heap[g]? = some (.cells #[.int .i64 160, .int .i64 0] 29 (0, 0)) ∧ w.heap.size ≤ g ∧ Below w.heap.size w w' :=
  (cut_any s w hs).mono fun e w' hp => by unfold CutPost at hp; rw [h] at hp; exact hp
theorem cut_some (s : ByteArray) (w : World) (hs : s.size ≤ 1073741824) {fs : List Con.Fld} (h : Con.cutL s.data.toList = some fs) :
    Calls Tryz.prog 11 #[.string s] w fun e w' => ∃ v, e = .returned (.tuple #[v, .nilIface]) ∧ FS w' v fs ∧ fs.length ≤ s.size ∧ Below w.heap.size w w' :=
  (cut_any s w hs).mono fun e w' hp => by
    unfold CutPost at hp; rw [h] at hp
    obtain ⟨v, h1, h2, h3, h4⟩ := hp
    exact ⟨v, h1, FS.ofR h2, h3, h4⟩
theorem as_new (e : Nat) (W : World) (hc : W.cell? ⟨0, 0, none⟩ = some (.iface 121 (.agg #[.pointer (some ⟨10, 54, none⟩)]))) :
    Calls Tryz.prog 13 #[.iface 58 (.pointer (some ⟨e, 0, none⟩)), .iface 60 (.pointer (some ⟨W.heap.size, 0, none⟩))] (W.alloc (.cells #[.pointer none] 58)) fun ev w' => ev = .returned (.bool true) ∧ Below W.heap.size W w' ∧ w'.cell? ⟨W.heap.size, 0, none⟩ = some (.pointer (some ⟨e, 0, none⟩)) := by
  have hlt := World.block_lt_of_cell? W _ hc
  refine (as_hit ⟨e, 0, none⟩ ⟨W.heap.size, 0, none⟩ (.pointer none) _ (by rw [World.cell?_alloc_lt _ _ ⟨0, 0, none⟩ hlt]; exact hc) (by simp) (by simp)).mono ?_
  rintro ev w' ⟨rfl, rfl⟩
  refine ⟨rfl, ?_, ?_⟩
  · exact ((((((Below.refl W.heap.size W).alloc (Nat.le_refl _) _).alloc (by simp) _).alloc (by simp; omega) _).alloc (by simp; omega) _).alloc (by simp; omega) _).setCell (Nat.le_refl _) _
  · have h0 : ((((((W.alloc (.cells #[.pointer none] 58)).alloc (.cells #[.pointer (some ⟨W.heap.size, 0, none⟩)] 60)).alloc (.cells #[.pointer (some ⟨10, 60, none⟩), .pointer (some ⟨(W.alloc (.cells #[.pointer none] 58)).heap.size, 0, none⟩), .int .u64 150] 85)).alloc (.cells #[.pointer (some ⟨10, 60, none⟩), .pointer (some ⟨(W.alloc (.cells #[.pointer none] 58)).heap.size, 0, none⟩), .int .u64 150] 85)).alloc (.cells #[.pointer (some ⟨e, 0, none⟩)] 58))).heap[W.heap.size]? = some (.cells #[.pointer none] 58 (0, 0)) :=
      blk_alloc (blk_alloc (blk_alloc (blk_alloc (blk_new _ _) _) _) _) _
    exact (blk_cell (blk_set h0 0 _) 0).trans rfl
theorem ten {w : World} {a b : Nat} (v0 v1 v2 v3 v4 v5 v6 v7 u0 u1 : Value) : ((w.setCells a 0 [v0, v1, v2, v3, v4, v5, v6, v7]).setCells b 0 [u0, u1]) = ((((((((((w.setCell ⟨a, 0, none⟩ v0).setCell ⟨a, 1, none⟩ v1).setCell ⟨a, 2, none⟩ v2).setCell ⟨a, 3, none⟩ v3).setCell ⟨a, 4, none⟩ v4).setCell ⟨a, 5, none⟩ v5).setCell ⟨a, 6, none⟩ v6).setCell ⟨a, 7, none⟩ v7).setCell ⟨b, 0, none⟩ u0).setCell ⟨b, 1, none⟩ u1) := rfl
/-- The two result blocks, written: what the rest reads. -/
theorem ten_far {w : World} {a b k : Nat} (v0 v1 v2 v3 v4 v5 v6 v7 u0 u1 : Value) (ha : k ≠ a) (hb : k ≠ b) : ((((((((((w.setCell ⟨a, 0, none⟩ v0).setCell ⟨a, 1, none⟩ v1).setCell ⟨a, 2, none⟩ v2).setCell ⟨a, 3, none⟩ v3).setCell ⟨a, 4, none⟩ v4).setCell ⟨a, 5, none⟩ v5).setCell ⟨a, 6, none⟩ v6).setCell ⟨a, 7, none⟩ v7).setCell ⟨b, 0, none⟩ u0).setCell ⟨b, 1, none⟩ u1).heap[k]? = w.heap[k]? := by
  rw [← ten, setCells_far _ _ k hb, setCells_far _ _ k ha]
theorem ten_a {w : World} {a b : Nat} {x0 x1 x2 x3 x4 x5 x6 x7 : Value} {t : Nat} (v0 v1 v2 v3 v4 v5 v6 v7 u0 u1 : Value) (hne : a ≠ b) (h : w.heap[a]? = some (.cells #[x0, x1, x2, x3, x4, x5, x6, x7] t (0, 0))) : ((((((((((w.setCell ⟨a, 0, none⟩ v0).setCell ⟨a, 1, none⟩ v1).setCell ⟨a, 2, none⟩ v2).setCell ⟨a, 3, none⟩ v3).setCell ⟨a, 4, none⟩ v4).setCell ⟨a, 5, none⟩ v5).setCell ⟨a, 6, none⟩ v6).setCell ⟨a, 7, none⟩ v7).setCell ⟨b, 0, none⟩ u0).setCell ⟨b, 1, none⟩ u1).heap[a]? = some (.cells #[v0, v1, v2, v3, v4, v5, v6, v7] t (0, 0)) := by
  have h8 := blk_set (blk_set (blk_set (blk_set (blk_set (blk_set (blk_set (blk_set h 0 v0) 1 v1) 2 v2) 3 v3) 4 v4) 5 v5) 6 v6) 7 v7
  rw [← ten, setCells_far _ _ a hne, World.setCells, World.setCells, World.setCells, World.setCells, World.setCells, World.setCells, World.setCells, World.setCells, World.setCells, h8]
  simp
theorem ten_b {w : World} {a b : Nat} {x0 x1 : Value} {t : Nat} (v0 v1 v2 v3 v4 v5 v6 v7 u0 u1 : Value) (hne : b ≠ a) (h : w.heap[b]? = some (.cells #[x0, x1] t (0, 0))) : ((((((((((w.setCell ⟨a, 0, none⟩ v0).setCell ⟨a, 1, none⟩ v1).setCell ⟨a, 2, none⟩ v2).setCell ⟨a, 3, none⟩ v3).setCell ⟨a, 4, none⟩ v4).setCell ⟨a, 5, none⟩ v5).setCell ⟨a, 6, none⟩ v6).setCell ⟨a, 7, none⟩ v7).setCell ⟨b, 0, none⟩ u0).setCell ⟨b, 1, none⟩ u1).heap[b]? = some (.cells #[u0, u1] t (0, 0)) := by
  have h0 : (w.setCells a 0 [v0, v1, v2, v3, v4, v5, v6, v7]).heap[b]? = some (.cells #[x0, x1] t (0, 0)) := by rw [setCells_far _ _ b hne]; exact h
  have h10 := blk_set (blk_set h0 0 u0) 1 u1
  rw [← ten, World.setCells, World.setCells, World.setCells, h10]
  simp
theorem ten_below {w w0 : World} {n a b : Nat} (v0 v1 v2 v3 v4 v5 v6 v7 u0 u1 : Value) (h : Below n w0 w) (ha : n ≤ a) (hb : n ≤ b) : Below n w0 ((((((((((w.setCell ⟨a, 0, none⟩ v0).setCell ⟨a, 1, none⟩ v1).setCell ⟨a, 2, none⟩ v2).setCell ⟨a, 3, none⟩ v3).setCell ⟨a, 4, none⟩ v4).setCell ⟨a, 5, none⟩ v5).setCell ⟨a, 6, none⟩ v6).setCell ⟨a, 7, none⟩ v7).setCell ⟨b, 0, none⟩ u0).setCell ⟨b, 1, none⟩ u1) :=
  ((((((((((h.setCell ha _).setCell ha _).setCell ha _).setCell ha _).setCell ha _).setCell ha _).setCell ha _).setCell ha _).setCell hb _).setCell hb _)

theorem parse_ret_d {R : Ending → World → Prop} {tmps : Array Value} {w : World} {g2 g3 t2 t3 : Nat} {c2 c3 : Array Value} (e2 : tmps.getD 2 undef = .pointer (some ⟨g2, 0, none⟩)) (e3 : tmps.getD 3 undef = .pointer (some ⟨g3, 0, none⟩))
    (h2 : w.heap[g2]? = some (.cells c2 t2 (0, 0))) (h3 : w.heap[g3]? = some (.cells c3 t3 (0, 0))) (s2 : c2.size = 8) (s3 : c3.size = 2) (hR : R (.returned (.tuple #[.agg c2, .agg c3])) w.drew) : bodyPost Tryz.prog Tryz.f6 R .ret ⟨tmps, []⟩ w.drew :=
  parse_ret (w := w.drew) e2 e3 h2 h3 s2 s3 hR
def w00 (w : World) : World := (w.alloc (.cells #[.int .i64 0, .int .i64 0, .int .i64 0, .int .i64 0, .slice none 0 0, .slice none 0 0, .int .i64 0, .bool false] 26)).alloc (.cells #[.int .i64 0, .int .i64 0] 29)
theorem w00_size (w : World) : (w00 w).heap.size = w.heap.size + 1 + 1 := by simp [w00]
theorem w00_a (w : World) : (w00 w).heap[w.heap.size]? = some (.cells #[.int .i64 0, .int .i64 0, .int .i64 0, .int .i64 0, .slice none 0 0, .slice none 0 0, .int .i64 0, .bool false] 26 (0, 0)) := heap_alloc2_old w _ _
theorem w00_b (w : World) : (w00 w).heap[w.heap.size + 1]? = some (.cells #[.int .i64 0, .int .i64 0] 29 (0, 0)) := heap_alloc2_new w _ _
theorem w00_below (w : World) : Below w.heap.size w (w00 w) := below_alloc (below_alloc (Below.refl _ _) _) _
theorem of_w00 {w wr : World} (h : Below (w.heap.size + 1 + 1) (w00 w) wr) : Below w.heap.size w wr := by
  have h1 := w00_below w
  have h2 : Below (w00 w).heap.size (w00 w) wr := by rw [w00_size]; exact h
  exact below_then h1 h1.size h2
theorem of_w00_a {w wr : World} (h : Below (w.heap.size + 1 + 1) (w00 w) wr) : wr.heap[w.heap.size]? = some (.cells #[.int .i64 0, .int .i64 0, .int .i64 0, .int .i64 0, .slice none 0 0, .slice none 0 0, .int .i64 0, .bool false] 26 (0, 0)) := by
  rw [h.block _ (by omega)]; exact w00_a w
theorem of_w00_b {w wr : World} (h : Below (w.heap.size + 1 + 1) (w00 w) wr) : wr.heap[w.heap.size + 1]? = some (.cells #[.int .i64 0, .int .i64 0] 29 (0, 0)) := by
  rw [h.block _ (by omega)]; exact w00_b w
theorem split_w00 (w : World) (A B : Obj) : Below (w.heap.size + 1 + 1) (w00 w) (((w00 w).alloc A).alloc B) := by
  have e := w00_size w
  have h := below_alloc (below_alloc (Below.refl (w00 w).heap.size (w00 w)) A) B
  rw [e] at h; exact h
theorem then_w00 {w wr w2 : World} (h : Below (w.heap.size + 1 + 1) (w00 w) wr) (hb : Below wr.heap.size wr w2) : Below (w.heap.size + 1 + 1) (w00 w) w2 :=
  below_then h (by have := h.size; rw [w00_size] at this; exact this) hb
def ParRel (w : World) (ls lp : List ByteArray) (r : Except (Int × Int) ScriptL) (v : Value) (wr : World) : Prop :=
  ∃ (i : Nat) (st : ScriptL), v = .int .i64 i ∧ i ≤ lp.length ∧ r = Con.runB st i ((lp.drop i).map (·.data.toList)) ∧ RS wr (w.heap.size + 1 + 1) (w.heap.size + 1 + 1) st ∧ Below (w.heap.size + 1 + 1) (w00 w) wr ∧
    wr.heap[w.heap.size + 1 + 1 + 1]? = some (.cells (ls.map Value.string).toArray 9 (0, 0)) ∧
    st.choices.length + Con.sumL ((lp.drop i).map (·.data.toList)) ≤ 1048577 ∧ st.acts.length ≤ i ∧ ∀ l ∈ st.acts, l.length ≤ i
/-- One line more. -/
theorem ParRel.next {w w2 : World} {ls lp : List ByteArray} {r : Except (Int × Int) ScriptL} {i : Nat} {st : ScriptL} (hi : i < lp.length) (hr : r = Con.runB st (i + 1) ((lp.drop (i + 1)).map (·.data.toList)))
    (hrs : RS w2 (w.heap.size + 1 + 1) (w.heap.size + 1 + 1) st) (hb : Below (w.heap.size + 1 + 1) (w00 w) w2) (h4 : w2.heap[w.heap.size + 1 + 1 + 1]? = some (.cells (ls.map Value.string).toArray 9 (0, 0)))
    (hc : st.choices.length + Con.sumL ((lp.drop (i + 1)).map (·.data.toList)) ≤ 1048577) (ha : st.acts.length ≤ i + 1) (hl : ∀ l ∈ st.acts, l.length ≤ i + 1) (v : Value) (hv : v = .int .i64 ((i + 1 : Nat) : Int)) : ParRel w ls lp r v w2 :=
  ⟨i + 1, st, hv, hi, hr, hrs, hb, h4, hc, ha, hl⟩
theorem cut_nil (s : ByteArray) (w : World) (hs : s.size ≤ 1073741824) (h : Con.cutL s.data.toList = some []) :
    Calls Tryz.prog 11 #[.string s] w fun e w' => ∃ A c, e = .returned (.tuple #[.slice A 0 c, .nilIface]) ∧ Below w.heap.size w w' :=
  (cut_any s w hs).mono fun e w' hp => by
    unfold CutPost at hp; rw [h] at hp
    obtain ⟨v, h1, h2, h3, h4⟩ := hp
    obtain ⟨A, c, rfl⟩ := Kd.R_slice h2
    exact ⟨A, c, h1, h4⟩
theorem cut_cons (s : ByteArray) (w : World) (hs : s.size ≤ 1073741824) {f : Con.Fld} {r : List Con.Fld} (h : Con.cutL s.data.toList = some (f :: r)) :
    Calls Tryz.prog 11 #[.string s] w fun e w' => ∃ A c, e = .returned (.tuple #[.slice A (r.length + 1) c, .nilIface]) ∧ FS w' (.slice A (r.length + 1) c) (f :: r) ∧ r.length + 1 ≤ s.size ∧ Below w.heap.size w w' :=
  (cut_any s w hs).mono fun e w' hp => by
    unfold CutPost at hp; rw [h] at hp
    obtain ⟨v, h1, h2, h3, h4⟩ := hp
    obtain ⟨A, c, rfl⟩ := Kd.R_slice h2
    exact ⟨A, c, h1, FS.ofR h2, h3, h4⟩
theorem line_ok {base : Nat} {w0 W : World} {g : Nat} {st st' : ScriptL} {v : Value} {f : Con.Fld} {rest : List Con.Fld} (h : Con.lineL st f rest = .ok st') (hc : Calls Tryz.prog 12 #[.pointer (some ⟨g, 0, none⟩), v] W (LPost base w0 W g (Con.lineL st f rest))) :
    Calls Tryz.prog 12 #[.pointer (some ⟨g, 0, none⟩), v] W fun e w' => e = .returned .nilIface ∧ Below base w0 w' ∧ W.heap.size ≤ w'.heap.size ∧ RS w' base g st' ∧ KeptT W w' g :=
  hc.mono fun e w' hp => by
    unfold LPost at hp; rw [h] at hp
    exact ⟨hp.2.2.1, hp.1, hp.2.1, hp.2.2.2.1, hp.2.2.2.2⟩
theorem line_err {base : Nat} {w0 W : World} {g : Nat} {st : ScriptL} {c : Int} {v : Value} {f : Con.Fld} {rest : List Con.Fld} (h : Con.lineL st f rest = .error c) (hc : Calls Tryz.prog 12 #[.pointer (some ⟨g, 0, none⟩), v] W (LPost base w0 W g (Con.lineL st f rest))) :
    Calls Tryz.prog 12 #[.pointer (some ⟨g, 0, none⟩), v] W fun e w' => ∃ b, e = .returned (.iface 58 (.pointer (some ⟨b, 0, none⟩))) ∧ Below base w0 w' ∧ W.heap.size ≤ w'.heap.size ∧ w'.heap[b]? = some (.cells #[.int .i64 c, .int .i64 0] 29 (0, 0)) :=
  hc.mono fun e w' hp => by
    unfold LPost at hp; rw [h] at hp
    obtain ⟨b, h1, h2⟩ := hp.2.2
    exact ⟨b, h1, hp.1, hp.2.1, h2⟩
end Go.Proofs.YtkdofgbjebpmoaaGreatDoor
