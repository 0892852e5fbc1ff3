/- A variable of plain data (numbers, texts, arrays, structs) that reads as a datum holds just that datum's cells, one behind the other. No program in sight. -/
import Derived.OpenShut
import Derived.ChangeArms
import Derived.Lib.LaidU8
namespace Go.Flat
set_option linter.unusedVariables false
set_option linter.unusedSimpArgs false
mutual
def flat : DataW Unit → List Value
  | .lit (.int k n) => [.int k n]
  | .lit (.string bs) => [.string ⟨bs.toArray⟩]
  | .agg ps => flatAll ps
  | _ => []
def flatAll : List (DataW Unit) → List Value
  | [] => []
  | d :: r => flat d ++ flatAll r
end
mutual
def fits (P : Program) (t : TypeId) : DataW Unit → Bool
  | .lit (.int k _) => (match P.underlying t with | some (.int k') => k == k' | _ => false)
  | .lit (.string _) => (match P.underlying t with | some .string => true | _ => false)
  | .agg ps => (match P.underlying t with
    | some (.array n e) => (P.cellsOf t == n * P.cellsOf e) && fitsAll P e ps
    | some (.struct fs) => fitsEach P (fs.toList.map fun f => (f.type, f.offset)) 0 (P.cellsOf t) ps
    | _ => false)
  | _ => false
def fitsAll (P : Program) (e : TypeId) : List (DataW Unit) → Bool
  | [] => true
  | d :: r => fits P e d && fitsAll P e r
def fitsEach (P : Program) : List (TypeId × Nat) → Nat → Nat → List (DataW Unit) → Bool
  | [], o, m, [] => o == m
  | f :: fs, o, m, d :: r => f.2 == o && fits P f.1 d && fitsEach P fs (o + P.cellsOf f.1) m r
  | _, _, _, _ => false
end
theorem chunks (c : Nat) : ∀ (ds : List (DataW Unit)) (cs : List Value), cs.length = ds.length * c → (∀ i d, ds[i]? = some d → (cs.drop (i * c)).take c = flat d) → cs = flatAll ds
  | [], cs, hl, _ => by simp at hl; subst hl; rfl
  | d :: r, cs, hl, h => by
    have h0 : cs.take c = flat d := by simpa using h 0 d rfl
    rw [flatAll, ← h0]
    have := chunks c r (cs.drop c) (by rw [List.length_drop, hl, List.length_cons, Nat.succ_mul]; omega) (fun i d' hi => by
      rw [List.drop_drop, ← h (i + 1) d' (by simpa using hi), Nat.succ_mul, Nat.add_comm])
    rw [← this, List.take_append_drop]
variable {P : Program} {w : World}
abbrev rdF (P : Program) (w : World) (fuel : Nat) (t : TypeId) (cs : List Value) := DataW.trod (fun _ => ()) P w 0 (fun _ => true) false fuel t cs
theorem flat_of : ∀ (fuel : Nat) (t : TypeId) (cs : List Value) (d : DataW Unit) (p : List MemPlace), rdF P w fuel t cs = some (d, p) → fits P t d = true → cs = flat d := by
  intro fuel
  induction fuel with
  | zero => intro t cs d p h _; simp [rdF, DataW.trod] at h
  | succ n ih =>
    intro t cs d p h hf
    match d, hf with
    | .lit (.int k z), hf =>
      unfold fits at hf
      split at hf
      · rename_i k' hu
        obtain ⟨z', e1, e2, _⟩ := DataW.trod_int hu h
        injection e2 with e2; injection e2 with e2; injection e2 with e2 e3
        subst e2 e3
        rw [e1]; rfl
      · cases hf
    | .lit (.string bs), hf =>
      unfold fits at hf
      split at hf
      · rename_i hu
        obtain ⟨s, e1, e2, _⟩ := DataW.trod_string hu h
        injection e2 with e2; injection e2 with e2; injection e2 with e2
        subst e2
        rw [e1]; rfl
      · cases hf
    | .agg ps, hf =>
      unfold fits at hf
      split at hf
      · rename_i m e hu
        simp only [Bool.and_eq_true, beq_iff_eq] at hf
        obtain ⟨xs, m', hm, hx, hl, hxl, hall⟩ := DataW.trod_array hu h
        obtain rfl : n = m' := by omega
        injection hx with hx _
        injection hx with hx
        subst hx
        rw [flat]
        refine chunks (P.cellsOf e) _ cs (by rw [hl, hf.1, List.length_map, hxl]) fun i d hd => ?_
        have hi : i < m := by have := (List.getElem?_eq_some_iff.1 hd).1; simpa [hxl] using this
        have h1 := hall i hi
        rw [List.getElem?_map] at hd
        cases hxi : xs[i]? with
        | none => rw [hxi] at hd; cases hd
        | some x =>
          rw [hxi] at hd h1
          injection hd with hd
          subst hd
          have hfi : fits P e x.1 = true := by
            have : ∀ (l : List (DataW Unit)), fitsAll P e l = true → ∀ d ∈ l, fits P e d = true := by
              intro l
              induction l with
              | nil => intro _ d hd; cases hd
              | cons a l ihl =>
                intro h d hd
                simp only [fitsAll, Bool.and_eq_true] at h
                rcases List.mem_cons.1 hd with rfl | hd
                · exact h.1
                · exact ihl h.2 d hd
            exact this _ hf.2 _ (List.mem_map.2 ⟨x, List.mem_of_getElem? hxi, rfl⟩)
          exact ih e _ x.1 x.2 h1 hfi
      · rename_i fs hu
        obtain ⟨xs, m', hm, hx, hl, hxl, hall⟩ := DataW.trod_struct hu h
        obtain rfl : n = m' := by omega
        injection hx with hx _
        injection hx with hx
        subst hx
        rw [flat]
        have key : ∀ (gs : List (TypeId × Nat)) (o : Nat) (ys : List (DataW Unit × List MemPlace)), fitsEach P gs o (P.cellsOf t) (ys.map (·.1)) = true →
            (∀ (i : Nat) (g : TypeId × Nat), gs[i]? = some g → rdF P w n g.1 ((cs.drop g.2).take (P.cellsOf g.1)) = ys[i]?) → cs.drop o = flatAll (ys.map (·.1)) := by
          intro gs
          induction gs with
          | nil =>
            intro o ys hfe _
            cases ys with
            | nil =>
              simp [fitsEach] at hfe
              rw [hfe, ← hl, List.drop_length]; rfl
            | cons y ys => simp [fitsEach] at hfe
          | cons g gs ihg =>
            intro o ys hfe hr
            cases ys with
            | nil => simp [fitsEach] at hfe
            | cons y ys =>
              simp only [List.map_cons, fitsEach, Bool.and_eq_true, beq_iff_eq] at hfe
              have h0 := hr 0 g rfl
              have e0 := ih g.1 _ y.1 y.2 h0 hfe.1.2
              rw [hfe.1.1] at e0
              have e1 := ihg (o + P.cellsOf g.1) ys hfe.2 (fun i g' hg => by simpa using hr (i + 1) g' (by simpa using hg))
              rw [List.map_cons, flatAll, ← e0, ← e1, ← List.drop_drop, List.take_append_drop]
        have := key _ 0 xs hf (fun i g hg => by
          rw [List.getElem?_map] at hg
          cases hgi : fs.toList[i]? with
          | none => rw [hgi] at hg; cases hg
          | some f =>
            rw [hgi] at hg
            injection hg with hg
            subst hg
            exact hall i f (by simpa using hgi))
        simpa using this
      · cases hf
/-- What a listed variable's cells hold. -/
theorem var_of {n : String} {d : DataW Unit} {g : Nat} {t : TypeId} (h : Lib.VarReads P w n d) (hg : P.globalNamed n = some g) (ht : (P.globals[g]?).map (·.type) = some t) (hf : fits P t d = true) :
    w.var? P n = some (flat d).toArray := by
  obtain ⟨g', t', cs, fuel, p, h1, h2, h3, h4⟩ := h
  obtain rfl := Option.some.inj (hg.symm.trans h1)
  obtain rfl := Option.some.inj (ht.symm.trans h2)
  rw [h3, ← flat_of fuel t cs.toList d p h4 hf]
theorem cell_of {n : String} {d : DataW Unit} {g : Nat} {t : TypeId} (h : Lib.VarReads P w n d) (hg : P.globalNamed n = some g) (ht : (P.globals[g]?).map (·.type) = some t) (hf : fits P t d = true) (j : Nat) (v : Value) (hv : (flat d)[j]? = some v) :
    w.cell? ⟨g, j, none⟩ = some v := by
  have := World.var?_cell hg (var_of h hg ht hf) j
  rw [this]
  simpa using hv
end Go.Flat
