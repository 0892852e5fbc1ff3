import Derived.Test.YtkdofgbjebpmoaaGreatDoorC9
import Derived.Laws.Rows
namespace Go.Proofs.YtkdofgbjebpmoaaGreatDoor
set_option linter.unusedVariables false
set_option linter.unusedSimpArgs false
open Go.RowKit Go.Proofs.YtkdofgbjebpmoaaGreatDoorW.PrintWords

/-! ### the table of the verbs -/
namespace Con
def verbs0 : List (Nat × List UInt8 × List UInt8) := (0, [], []) :: verbs
/-- One argument's letter, filled in. -/
def fill (a : ActL) (c : UInt8) (f : Fld) : Option ActL :=
  if c = 112 then some { a with path := f.1 }
  else if c = 113 then some { a with dest := f.1 }
  else if c = 100 then some { a with data := f.1 }
  else if c = 110 then (fnum f).map fun m => { a with quota := m }
  else some a
def fillL (a : ActL) : List UInt8 → List Fld → Option ActL
  | [], _ => some a
  | _ :: _, [] => none
  | c :: cs, f :: fs => (fill a c f).bind fun a' => fillL a' cs fs
theorem verb_mem {i : Nat} {v : Nat × List UInt8 × List UInt8} (h : verbs0[i]? = some v) : v.1 = i ∧ v.2.2.length ≤ 2 ∧ (i = 10 → v.2.2 = []) ∧ i < 12 := by
  have hi : i < 12 := by
    have := (List.getElem?_eq_some_iff.1 h).1
    exact this
  match i, hi with
  | 0, _ | 1, _ | 2, _ | 3, _ | 4, _ | 5, _ | 6, _ | 7, _ | 8, _ | 9, _ | 10, _ | 11, _ =>
    injection h with h
    subst h
    exact ⟨rfl, by decide, by decide, by decide⟩
theorem mk_len {i : Nat} {v : Nat × List UInt8 × List UInt8} (h : verbs0[i]? = some v) (h0 : i ≠ 0) (h10 : i ≠ 10) (fs : List Fld) (hl : fs.length ≠ v.2.2.length) : mkAct i v.2.2 fs = none := by
  have hi : i < 12 := (verb_mem h).2.2.2
  unfold mkAct
  rw [if_neg h10]
  match i, hi, h0, h10 with
  | 1, _, _, _ | 2, _, _, _ | 3, _, _, _ | 4, _, _, _ | 5, _, _, _ | 6, _, _, _ | 7, _, _, _ | 8, _, _, _ | 9, _, _, _ | 11, _, _, _ =>
    injection h with h
    subst h
    match fs, hl with
    | [], _ => rfl
    | [_], hl => first | rfl | exact absurd rfl hl
    | [_, _], hl => first | rfl | exact absurd rfl hl
    | _ :: _ :: _ :: _, _ => rfl
theorem mk_fill {i : Nat} {v : Nat × List UInt8 × List UInt8} (h : verbs0[i]? = some v) (h0 : i ≠ 0) (h10 : i ≠ 10) (fs : List Fld) (hl : fs.length = v.2.2.length) : mkAct i v.2.2 fs = fillL (act0 i) v.2.2 fs := by
  have hi : i < 12 := (verb_mem h).2.2.2
  unfold mkAct
  rw [if_neg h10]
  match i, hi, h0, h10 with
  | 1, _, _, _ | 2, _, _, _ | 3, _, _, _ | 4, _, _, _ | 5, _, _, _ | 6, _, _, _ | 7, _, _, _ | 8, _, _, _ | 9, _, _, _ | 11, _, _, _ =>
    injection h with h
    subst h
    match fs, hl with
    | [], hl => exact absurd hl (by decide)
    | [p], hl => first | rfl | exact absurd (show 1 = 2 from hl) (by decide)
    | [p, q], hl => first | rfl | exact absurd (show 2 = 1 from hl) (by decide) | (show Option.map _ _ = Option.bind (some _) _; simp only [Option.bind_some]; show Option.map _ _ = Option.bind (Option.map _ _) _; cases fnum q <;> rfl)
    | _ :: _ :: _ :: _, hl => simp at hl
theorem act_hit {i : Nat} {v : Nat × List UInt8 × List UInt8} (h : verbs0[i]? = some v) (h0 : i ≠ 0) {word : List UInt8} (hw : v.2.1 = word) (hn : ∀ j, j < i → j ≠ 0 → ∀ u, verbs0[j]? = some u → u.2.1 ≠ word) :
    verbs.find? (fun v => v.2.1 == word) = some v := by
  obtain ⟨i, rfl⟩ : ∃ j, i = j + 1 := ⟨i - 1, by omega⟩
  have h' : verbs[i]? = some v := h
  rw [List.find?_eq_some_iff_getElem]
  obtain ⟨hl, he⟩ := List.getElem?_eq_some_iff.1 h'
  refine ⟨by simpa using hw, i, hl, he, fun j hj => ?_⟩
  have := hn (j + 1) (by omega) (by omega) verbs[j] (show verbs[j]? = _ from List.getElem?_eq_getElem (by omega))
  simpa using this
theorem act_miss {word : List UInt8} (hn : ∀ j, j < 12 → j ≠ 0 → ∀ u, verbs0[j]? = some u → u.2.1 ≠ word) : verbs.find? (fun v => v.2.1 == word) = none := by
  rw [List.find?_eq_none]
  intro v hv
  obtain ⟨i, hl, he⟩ := List.getElem_of_mem hv
  have := hn (i + 1) (by have : i < 11 := hl; omega) (by omega) v (show verbs[i]? = _ by rw [List.getElem?_eq_getElem hl, he])
  simpa using this
end Con
def verbCs : Array Value := #[.string ⟨#[]⟩, .string ⟨#[]⟩, .string ⟨#[109, 107, 100, 105, 114]⟩, .string ⟨#[112]⟩, .string ⟨#[99, 114, 101, 97, 116, 101]⟩, .string ⟨#[112]⟩, .string ⟨#[97, 112, 112, 101, 110, 100]⟩, .string ⟨#[112, 100]⟩, .string ⟨#[99, 108, 111, 115, 101]⟩, .string ⟨#[112]⟩, .string ⟨#[100, 101, 108, 101, 116, 101]⟩, .string ⟨#[112]⟩, .string ⟨#[114, 101, 110, 97, 109, 101]⟩, .string ⟨#[112, 113]⟩, .string ⟨#[108, 105, 109, 105, 116]⟩, .string ⟨#[112, 110]⟩, .string ⟨#[114, 101, 97, 100]⟩, .string ⟨#[112]⟩, .string ⟨#[108, 105, 115, 116]⟩, .string ⟨#[112]⟩, .string ⟨#[115, 117, 98, 109, 105, 116]⟩, .string ⟨#[]⟩, .string ⟨#[115, 116, 97, 116, 117, 115]⟩, .string ⟨#[112]⟩]
def VT (W : World) : Prop := ∀ j v, verbCs[j]? = some v → W.cell? ⟨1, j, none⟩ = some v
def verbsV : Value := .agg verbCs
theorem verb_at (i : Nat) (h : i < 12) : ∃ wd ar : ByteArray, (∀ w, (Instr.index 117 verbsV (.int .i64 (i : Int))).run Tryz.prog w = .ok (.agg #[.string wd, .string ar]) w) ∧ Con.verbs0[i]? = some (i, wd.data.toList, ar.data.toList) := by
  match i, h with
  | 0, _ => exact ⟨⟨#[]⟩, ⟨#[]⟩, fun w => by kernel_rfl, rfl⟩
  | 1, _ => exact ⟨⟨#[109, 107, 100, 105, 114]⟩, ⟨#[112]⟩, fun w => by kernel_rfl, rfl⟩
  | 2, _ => exact ⟨⟨#[99, 114, 101, 97, 116, 101]⟩, ⟨#[112]⟩, fun w => by kernel_rfl, rfl⟩
  | 3, _ => exact ⟨⟨#[97, 112, 112, 101, 110, 100]⟩, ⟨#[112, 100]⟩, fun w => by kernel_rfl, rfl⟩
  | 4, _ => exact ⟨⟨#[99, 108, 111, 115, 101]⟩, ⟨#[112]⟩, fun w => by kernel_rfl, rfl⟩
  | 5, _ => exact ⟨⟨#[100, 101, 108, 101, 116, 101]⟩, ⟨#[112]⟩, fun w => by kernel_rfl, rfl⟩
  | 6, _ => exact ⟨⟨#[114, 101, 110, 97, 109, 101]⟩, ⟨#[112, 113]⟩, fun w => by kernel_rfl, rfl⟩
  | 7, _ => exact ⟨⟨#[108, 105, 109, 105, 116]⟩, ⟨#[112, 110]⟩, fun w => by kernel_rfl, rfl⟩
  | 8, _ => exact ⟨⟨#[114, 101, 97, 100]⟩, ⟨#[112]⟩, fun w => by kernel_rfl, rfl⟩
  | 9, _ => exact ⟨⟨#[108, 105, 115, 116]⟩, ⟨#[112]⟩, fun w => by kernel_rfl, rfl⟩
  | 10, _ => exact ⟨⟨#[115, 117, 98, 109, 105, 116]⟩, ⟨#[]⟩, fun w => by kernel_rfl, rfl⟩
  | 11, _ => exact ⟨⟨#[115, 116, 97, 116, 117, 115]⟩, ⟨#[112]⟩, fun w => by kernel_rfl, rfl⟩
section
variable {P : Program} {ops : Array Oper} {rest : List Oper} {o : Oper} {a : Act} {w : World} {Q : Exit → Act → World → Prop}
theorem load_fact (hgd : o.guard = none) (ty : TypeId) (x : Operand) (ho : o.op = .load ty x) (g : Nat) (hx : a.eval x = .pointer (some ⟨g, 0, none⟩)) (v : Value) (hl : (loadVar ty ⟨g, 0, none⟩).run P w = .ok v w)
    (h : wpList P ops Q rest (a.put o.dst v) w) : wpList P ops Q (o :: rest) a w :=
  wpList_plain hgd fun K hK => by
    unfold Oper.wp execOp
    simp only [ho, hx, Instr.loadAt, Instr.sureAddr, Sem.run_bind, Sem.run_pure, Result.andThen_ok, hl]
    exact hK _ _ h
end
theorem load_verbs {W : World} (h : VT W) : (loadVar 117 ⟨1, 0, none⟩).run Tryz.prog W = .ok verbsV W := by
  have hl : (loadCells ⟨1, 0, none⟩ verbCs.toList.length).run Tryz.prog W = .ok verbCs.toList.toArray W :=
    run_loadCells_list (P := Tryz.prog) W ⟨1, 0, none⟩ verbCs.toList (fun j v hv => by
      have hadd : (⟨1, 0, none⟩ : Addr).add j = ⟨1, j, none⟩ := by unfold Addr.add; split <;> simp_all
      rw [hadd]
      exact h j v (by simpa using hv))
  have hagg : (isAgg 117).run Tryz.prog W = .ok true W := by kernel_rfl
  have hsz : (sizeOf 117).run Tryz.prog W = .ok 24 W := by kernel_rfl
  have hl2 : (loadCells ⟨1, 0, none⟩ 24).run Tryz.prog W = .ok verbCs W := hl
  unfold loadVar
  simp only [Sem.run_bind, hagg, Result.andThen, if_true, hsz, hl2]
  rfl
end Go.Proofs.YtkdofgbjebpmoaaGreatDoor
