/- What the listed variables give the walks, a start that meets the condition, and the wrap of a row. -/
import Derived.Test.YtkdofgbjebpmoaaGreatDoorC14
import Derived.Test.YtkdofgbjebpmoaaGreatDoorFlat
import Derived.Test.YtkdofgbjebpmoaaGreatDoorRows
import Derived.LaidMore
import Derived.Lay
import Derived.HandedShaped
import Derived.ProofKit
import Derived.Stop.Joined
import Derived.Shelf.Vars
namespace Go.Proofs.YtkdofgbjebpmoaaGreatDoor
set_option linter.unusedVariables false
set_option linter.unusedSimpArgs false
open Go.ChangeShapes Go.WideShapes Go.RowKit

theorem own : ownKnob Tryz.prog.godebug = none := by kernel_rfl
def laidL : List (String × DataW Unit) := Rows.consoleLinesRow.laid
def plainL : List (String × DataW Unit) := [("math/bits.deBruijn32tab", Rows.laid_math_bits_deBruijn32tab), ("math/bits.deBruijn64tab", Rows.laid_math_bits_deBruijn64tab), ("internal/strconv.uint64pow10", Rows.laid_internal_strconv_uint64pow10), ("unicode/utf8.acceptRanges", Rows.laid_unicode_utf8_acceptRanges), ("strconv.ErrRange", Rows.laid_strconv_ErrRange), ("strconv.ErrSyntax", Rows.laid_strconv_ErrSyntax), ("mahout/console.verbs", Rows.laid_mahout_console_verbs), ("unicode/utf8.first", Rows.laid_unicode_utf8_first)]
def handleL : List (String × DataW Unit) := [("errors.errorType", Rows.laid_errors_errorType)]
theorem laid_plain : (laidL.filter fun x => x.2.handleName?.isNone) = plainL := by kernel_rfl
theorem laid_handle : (laidL.filter fun x => x.2.handleName?.isSome) = handleL := by kernel_rfl
theorem laid_split {W : World} (h : laidMetH Tryz.prog laidL W) : laidMet Tryz.prog plainL W ∧ handlesMet Tryz.prog handleL W := by
  unfold laidMetH at h
  rw [laid_handle] at h
  have e : handleL = [("errors.errorType", Rows.laid_errors_errorType)] := rfl
  rw [e] at h
  dsimp only at h
  rw [laid_plain] at h
  exact h
theorem Tryz.rt : (Tryz.prog.cutTypes.find? (·.1 == "internal/reflectlite.rtype")).map (·.2) = some 121 := by kernel_rfl
theorem Tryz.oneRow : ((List.range 212).filter fun t => Tryz.prog.rowNamed t [101, 114, 114, 111, 114]) = [54] := by kernel_rfl
theorem Tryz.size : Tryz.prog.types.size = 212 := by kernel_rfl
theorem handle_of_laid {W : World} (h : handlesMet Tryz.prog handleL W) : W.cell? ⟨0, 0, none⟩ = some (.iface 121 (.agg #[.pointer (some ⟨10, 54, none⟩)])) := by
  obtain ⟨name, u, ty, e1, e2, e3, e4, e5⟩ := h _ (List.mem_singleton.2 rfl)
  have en : name = [101, 114, 114, 111, 114] := (Option.some.inj e1).symm
  subst en
  obtain rfl := Option.some.inj (Tryz.rt.symm.trans e2)
  have hm : ty ∈ (List.range 212).filter fun t => Tryz.prog.rowNamed t [101, 114, 114, 111, 114] := List.mem_filter.2 ⟨List.mem_range.2 (by rw [← Tryz.size]; exact e3), e4⟩
  rw [Tryz.oneRow] at hm
  obtain rfl := List.mem_singleton.1 hm
  have hh : typeHandle Tryz.prog 54 = .pointer (some ⟨10, 54, none⟩) := by kernel_rfl
  rw [hh] at e5
  simpa using World.var?_cell (show Tryz.prog.globalNamed "errors.errorType" = some 0 by kernel_rfl) e5 0
theorem verbs_flat : Flat.flat Rows.laid_mahout_console_verbs = verbCs.toList := by kernel_rfl
/-- What the condition gives the walks. -/
theorem ct_of {W : World} (h : laidMetH Tryz.prog laidL W) (hsh : W.ShapedOpen Tryz.prog) : CT W := by
  obtain ⟨h1, h2⟩ := laid_split h
  refine ⟨fun j v hv => ?_, handle_of_laid h2, ?_⟩
  · refine Flat.cell_of (Lib.laidMet.reads h1 (n := "mahout/console.verbs") (d := Rows.laid_mahout_console_verbs) (by simp [plainL])) (g := 1) (t := 117) (by kernel_rfl) (by kernel_rfl) (by kernel_rfl) j v ?_
    rw [verbs_flat]
    simpa using hv
  · exact cell_of_shapedOpen_int (P := Tryz.prog) (g := 2) (t := 3) (zero := #[.int .i64 0]) hsh (of_decide_eq_true (by kernel_rfl)) (by kernel_rfl) rfl (by kernel_rfl) (by kernel_rfl) Tryz.underlying3

/-- A start that meets it. -/
noncomputable def w0L (os : Os) : World :=
  let w0 := World.holding Tryz.prog os ⟨#[], #[], []⟩
  { w0 with heap := w0.heap.modify 0 fun
      | .cells _ t frozen => .cells #[.iface 121 (.agg #[.pointer (some ⟨10, 54, none⟩)])] t frozen
      | o => o }
noncomputable def startL (os : Os) : World := (w0L os).layVars Tryz.prog plainL
theorem plain_names : (plainL.filter fun x => (plainL.map (·.1)).contains x.1) = plainL := by kernel_rfl
theorem plain_none : (plainL.filter fun x => !(plainL.map (·.1)).contains x.1) = [] := by kernel_rfl
theorem start_met (os : Os) (args : Array Value) : laidMetH Tryz.prog laidL ((startL os).forCall (fun _ _ => 0) ⟨#[], args, []⟩).memory := by
  refine laidMetH_of_parts ?_ ?_
  · rw [laid_plain]
    have h : laidMet Tryz.prog plainL (startL os) := laidMet_layVars (w0 := w0L os) (plainL.map (·.1)) [] (by rw [plain_names]; rfl) (by rw [plain_names]; kernel_rfl) (by rw [plain_names]; kernel_rfl) (by rw [plain_none]; exact LaidIn.none)
    exact h.of_heap (by simp [World.memory, World.forCall, Input.heap])
  · rw [laid_handle]; kernel_rfl
theorem start_os (os : Os) : (startL os).os = os := World.layVars_os _ _ _
set_option maxRecDepth 100000 in
theorem start_shaped (os : Os) : (startL os).Shaped Tryz.prog := World.shaped_of_ZipB (by kernel_rfl) (by kernel_rfl)

theorem returns_of_change {H : Type} {enc : TypeId × Value → H} {a : Assume} {C : Checked} {os : Os} {f : FuncId} {fn : Func} {s : ChangeSpec} {conds : List PathCond} {apart fresh handsOn again : Bool} {X : World → Array Value → Prop}
    (hX : ∀ (w w' : World) (args : Array Value), w.heap = w'.heap → X w args → X w' args)
    (own : ownKnob C.prog.godebug = none) (started : os.Started) (noInit : C.prog.inits.idxOf? f = none) (hfn : C.prog.funcs[f]? = some fn)
    (witness : ∃ (w : World) (tape : Tape) (i : Input), w.os = os ∧ (w.forCall tape i).Shaped C.prog ∧ i.vars = [] ∧ Input.okWide C.prog (w.forCall tape i) .any w.heap.size f i ∧
      ((s.pre enc C.prog fn conds apart (w.forCall tape i).memory i.args ∧ X (w.forCall tape i).memory i.args) ∧ sizedMet enc C.prog fn (OpenSpec.ofChange s) apart (w.forCall tape i).memory i.args) ∧ a.holds C.prog (lone (Frame.enter C.prog f i.args .normal) [] (w.forCall tape i)))
    (contract : ∀ (W : World) (base : Nat) (args : Array Value) (ds gs : List (DataW H)) (before : List MemPlace),
      (∀ (j : Nat) t v, fn.params[j]? = some t → args[j]? = some v → Value.okWide C.prog W .any base t v) →
      DataW.Whole enc C.prog fn.params.toList s.vars apart W args.toList ds gs before →
      conds.all (PathCond.test C.prog ⟨fn.params.toList, ds, s.plain.varTypes C.prog, gs⟩) = true →
      (DataW.weightsEach C.prog (fn.params.toList ++ s.plain.varTypes C.prog) (ds ++ gs)).all (· ≤ reachBytes) = true → X W args → W.ShapedOpen C.prog →
      a.holds C.prog (lone (Frame.enter C.prog f args .normal) [] W) →
      Calls C.prog f args W fun e W' => ∃ v, e = .returned v ∧ s.post enc C.prog fn apart fresh handsOn again W args v W') :
    ReturnsInHanded a C os f .any (fun w args => (s.pre enc C.prog fn conds apart w args ∧ X w args) ∧ sizedMet enc C.prog fn (OpenSpec.ofChange s) apart w args) (s.post enc C.prog fn apart fresh handsOn again) := by
  refine returnsInHanded_of_calls own started noInit witness ?_
  intro w tape i _ hsh _ hok hpre hholds
  obtain ⟨_, _, _, fn', hfn', _, _, _, _, hval⟩ := hok
  have e : fn' = fn := Option.some.inj (hfn'.symm.trans hfn)
  subst e
  obtain ⟨⟨⟨ds, gs, before, hw, hc⟩, hx⟩, hz⟩ := hpre
  have hw' := DataW.Whole.of_heap (w' := w.forCall tape i) (by rfl) hw
  refine (contract (w.forCall tape i) w.heap.size i.args ds gs before hval hw' hc (hz.weights hw) (hX _ _ _ (by rfl) hx) hsh hholds).mono fun e W' ⟨v, he, hp⟩ => ?_
  subst he
  exact ChangeSpec.post_blind hp
end Go.Proofs.YtkdofgbjebpmoaaGreatDoor
