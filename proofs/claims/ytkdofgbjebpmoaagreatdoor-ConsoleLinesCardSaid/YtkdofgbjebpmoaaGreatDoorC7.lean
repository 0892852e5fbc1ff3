import Derived.Test.YtkdofgbjebpmoaaGreatDoorC6
import Derived.Test.YtkdofgbjebpmoaaGreatDoorCPure2
namespace Go.Proofs.YtkdofgbjebpmoaaGreatDoor
set_option linter.unusedVariables false
set_option linter.unusedSimpArgs false
open Go.RowKit Go.Proofs.YtkdofgbjebpmoaaGreatDoorW.PrintWords

/-! ### what memory says of a script -/
def kI : Kd Int := Kd.int .i64
def kT : Kd ByteArray := Kd.string
def kIn : Kd (List ByteArray) := Kd.slice 9 Kd.string
def kAct : Kd ActL := Kd.iso (Kd.pair kI (Kd.pair kT (Kd.pair kT (Kd.pair kT (Kd.pair kI (Kd.pair kT (Kd.pair kT (Kd.pair kIn (Kd.pair kI (Kd.pair kI kI))))))))))
  fun a => (a.kind, a.path, a.dest, a.data, a.quota, a.program, a.output, a.inputs, a.parts, a.split, a.spill)
def kActs : Kd (List ActL) := Kd.slice 46 kAct
theorem kAct_mkM {w : World} {base : Nat} {ok : Nat → Prop} {v : Value} (a : ActL) (h : Kd.R Kd.string 9 w base ok v a.inputs) :
    kAct.M w base ok a [.int .i64 a.kind, .string a.path, .string a.dest, .string a.data, .int .i64 a.quota, .string a.program, .string a.output, v, .int .i64 a.parts, .int .i64 a.split, .int .i64 a.spill] :=
  ⟨[_], _, rfl, rfl, [_], _, rfl, rfl, [_], _, rfl, rfl, [_], _, rfl, rfl, [_], _, rfl, rfl, [_], _, rfl, rfl, [_], _, rfl, rfl, [_], _, rfl, ⟨v, rfl, h⟩, [_], _, rfl, rfl, [_], _, rfl, rfl, rfl⟩
theorem info3 : (Tryz.prog.info? 3).map (fun i => (i.zero, i.size, i.bytes)) = some (some (.int .i64 0), 1, 8) := by kernel_rfl
theorem info9 : (Tryz.prog.info? 9).map (fun i => (i.zero, i.size, i.bytes)) = some (some (.string ⟨#[]⟩), 1, 16) := by kernel_rfl
theorem info41 : (Tryz.prog.info? 41).map (fun i => (i.zero, i.size, i.bytes)) = some (some (.slice none 0 0), 1, 24) := by kernel_rfl
theorem info46 : (Tryz.prog.info? 46).map (fun i => (i.zero, i.size, i.bytes)) = some (some (.agg #[.int .i64 0, .string ⟨#[]⟩, .string ⟨#[]⟩, .string ⟨#[]⟩, .int .i64 0, .string ⟨#[]⟩, .string ⟨#[]⟩, .slice none 0 0, .int .i64 0, .int .i64 0, .int .i64 0]), 11, 144) := by kernel_rfl

/-- The reader's block. -/
def rblk (va vc : Value) (st : ScriptL) : Obj :=
  .cells #[.int .i64 st.nodes, .int .i64 st.replicas, .int .i64 st.block, .int .i64 st.room, va, vc, .int .i64 st.rounds, .bool st.flips] 49 (0, 0)
def RS (W : World) (base g : Nat) (st : ScriptL) : Prop :=
  ∃ va vc, W.heap[g]? = some (rblk va vc st) ∧ Kd.S kActs 41 W base (fun _ => True) va st.acts ∧ Kd.R kI 3 W base (fun _ => True) vc st.choices ∧ base ≤ g
/-- A line's fields, as they lie in memory. -/
def FS (W : World) (v : Value) (fs : List (ByteArray × Bool)) : Prop :=
  (v = .slice none 0 0 ∧ fs = []) ∨ ∃ b o c cells, v = .slice (some ⟨b, o, none⟩) fs.length c ∧ fs.length ≤ c ∧ c ≤ 9223372036854775807 ∧ W.heap[b]? = some (.cells cells 75 (0, 0)) ∧
    ∀ (i : Nat) (p : ByteArray × Bool), fs[i]? = some p → cells[o + i * 2]? = some (.string p.1) ∧ cells[o + i * 2 + 1]? = some (.bool p.2)
/-- What stays: every block of another type than the script's own rows. -/
def KeptT (W w' : World) (g : Nat) : Prop := W.heap.size ≤ w'.heap.size ∧ ∀ (k : Nat) (cells : Array Value) (t : Nat) (fr : Nat × Nat), W.heap[k]? = some (.cells cells t fr) → k ≠ g → t ≠ 3 → t ≠ 41 → t ≠ 46 → w'.heap[k]? = some (.cells cells t fr)
theorem KeptT.refl (W : World) (g : Nat) : KeptT W W g := ⟨Nat.le_refl _, fun _ _ _ _ h _ _ _ _ => h⟩
theorem KeptT.trans {W w1 w2 : World} {g : Nat} (h : KeptT W w1 g) (k : KeptT w1 w2 g) : KeptT W w2 g :=
  ⟨Nat.le_trans h.1 k.1, fun b c t fr hb hg h3 h41 h46 => k.2 b c t fr (h.2 b c t fr hb hg h3 h41 h46) hg h3 h41 h46⟩
theorem KeptT.below {W w1 : World} (g : Nat) (h : Below W.heap.size W w1) : KeptT W w1 g := ⟨h.size, fun _ _ _ _ hb _ _ _ _ => blk_below hb h⟩
theorem KeptT.set {W : World} {g : Nat} (j : Nat) (u : Value) : KeptT W (W.setCell ⟨g, j, none⟩ u) g := by
  refine ⟨by simp, fun b c t fr hb hg _ _ _ => ?_⟩
  rw [Below.heap_setCell W ⟨g, j, none⟩ u b hg]; exact hb
theorem KeptT.grown {W w1 : World} {g : Nat} {v : Value} {e : Nat} (hg : W.grownBy w1 v.ownBlock) (hty : ∀ k, v.ownBlock = some k → ∃ cells, W.heap[k]? = some (.cells cells e (0, 0))) (he : e = 3 ∨ e = 41 ∨ e = 46) : KeptT W w1 g := by
  refine ⟨hg.size, fun b c t fr hb _ h3 h41 h46 => blk_grown hb hg fun h => ?_⟩
  obtain ⟨cells, hc⟩ := hty b h.symm
  rw [hb] at hc
  injection hc with hc; injection hc with _ hc
  rcases he with rfl | rfl | rfl
  · exact h3 hc
  · exact h41 hc
  · exact h46 hc
theorem FS.kept {W w1 : World} {g : Nat} {v : Value} {fs : List (ByteArray × Bool)} (h : FS W v fs) (k : KeptT W w1 g) (hg : ∀ cells fr, W.heap[g]? ≠ some (.cells cells 75 fr)) : FS w1 v fs := by
  rcases h with h | ⟨b, o, c, cells, hv, hc, hm, hb, hx⟩
  · exact .inl h
  · exact .inr ⟨b, o, c, cells, hv, hc, hm, k.2 b cells 75 (0, 0) hb (fun e => hg cells (0, 0) (e ▸ hb)) (by decide) (by decide) (by decide), hx⟩
def ErrAt (w' : World) (e : Ending) (c : Int) : Prop := ∃ b, e = .returned (.iface 58 (.pointer (some ⟨b, 0, none⟩))) ∧ w'.heap[b]? = some (.cells #[.int .i64 c, .int .i64 0] 29 (0, 0))
def LPost (base : Nat) (w0 W : World) (g : Nat) (r : Except Int ScriptL) (e : Ending) (w' : World) : Prop :=
  Below base w0 w' ∧ W.heap.size ≤ w'.heap.size ∧ match r with
    | .ok st => e = .returned .nilIface ∧ RS w' base g st ∧ KeptT W w' g
    | .error c => ErrAt w' e c
theorem RS.below {W w1 : World} {base g : Nat} {st : ScriptL} (h : RS W base g st) (hb : Below W.heap.size W w1) : RS w1 base g st := by
  obtain ⟨va, vc, h1, h2, h3, h4⟩ := h
  exact ⟨va, vc, blk_below h1 hb, Kd.S_below h2 hb, Kd.R_below h3 hb, h4⟩

end Go.Proofs.YtkdofgbjebpmoaaGreatDoor
