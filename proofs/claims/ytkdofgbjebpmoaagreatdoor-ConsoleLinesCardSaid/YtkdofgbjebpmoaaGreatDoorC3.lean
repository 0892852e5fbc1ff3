import Derived.Test.YtkdofgbjebpmoaaGreatDoorC2
import Derived.Laws.RangeAny
import Derived.Laws.Runes
import Derived.WalkMore
import Derived.ScopeJumps
import Derived.Deep.LoopGhost
namespace Go.Proofs.YtkdofgbjebpmoaaGreatDoor
set_option linter.unusedVariables false
set_option linter.unusedSimpArgs false
open Go.RowKit Go.Proofs.YtkdofgbjebpmoaaGreatDoorW.PrintWords

def sepB : ByteArray := ⟨#[32, 34]⟩
theorem sepB_def : sepB = ⟨#[32, 34]⟩ := rfl

theorem ret_key {R : Ending → World → Prop} {v : Value} (A : Act) (W : World) (hd : A.defers = []) (hv : A.tmps.getD 4 undef = v) (hr : R (.returned v) W) :
    bodyPost Tryz.prog Tryz.f39 R Exit.ret A W := by
  refine bodyPost_ret (results_tmp rfl _ _ _) hd ?_
  rw [hv]; exact hr
set_option maxRecDepth 100000 in
set_option maxHeartbeats 1000000 in
theorem indexRune_hi (r : Int) (w : World) (h0 : 128 ≤ r) (h1 : r ≤ 2147483647) :
    Calls Tryz.prog 39 #[.string ⟨#[32, 34]⟩, .int .i32 r] w fun e w' => e = .returned (.int .i64 (-1)) ∧ Below w.heap.size w w' := by
  have t1 : decide (r < 128) = false := by simp; omega
  have t0 : decide (0 ≤ r) = true := by simp; omega
  by_cases he : r = 65533
  · subst he
    go_enter Tryz.func39, Tryz.ntmps39
    go_wp2_with fail
    go_loopg [5] 2 (fun g _ wx => ∃ i : Nat, i + g = 2 ∧ wx = w.iter ⟨#[32, 34]⟩ i)
    case atStart => exact ⟨0, by omega, rfl⟩
    case round =>
      obtain ⟨i, hig, rfl⟩ := hrel
      cases gk with
      | zero =>
        obtain rfl : i = 2 := by omega
        have hnx := fun ty => run_next_end (P := Tryz.prog) w ⟨#[32, 34]⟩ 2 ty (by decide)
        go_wp2
        go_ret
        exact ⟨rfl, below_alloc (Below.refl _ _) _⟩
      | succ g =>
        have hi : i = 0 ∨ i = 1 := by omega
        rcases hi with rfl | rfl
        · have hnx := fun ty => run_next_ascii (P := Tryz.prog) w ⟨#[32, 34]⟩ 0 ty (by decide) (by decide)
          go_wp2
          go_roundg g
          case measure => omega
          case rel => exact ⟨1, by omega, rfl⟩
        · have hnx := fun ty => run_next_ascii (P := Tryz.prog) w ⟨#[32, 34]⟩ 1 ty (by decide) (by decide)
          go_wp2
          go_roundg g
          case measure => omega
          case rel => exact ⟨2, by omega, rfl⟩
  · have t2 : (r == 65533) = false := by simpa using he
    cases hv : Lib.validRune r with
    | false =>
      have HV := Lib.hid hv; clear hv he
      go_enter Tryz.func39, Tryz.ntmps39
      go_wp2_with (go_at_call 55; refine (Tryz.utf8_ValidRune _ _).mono ?_; rintro e w' ⟨rfl, rfl⟩; rw [HV.out])
      go_ret
      exact ⟨rfl, Below.refl _ _⟩
    | true =>
      obtain ⟨E, hE⟩ : ∃ E, Utf8.encode r = E := ⟨_, rfl⟩
      obtain ⟨f1, f2, f3⟩ := encode_facts r (by rw [validRune_eq]; exact hv) h0
      rw [hE] at f1 f2 f3
      have HV := Lib.hid hv; clear hv he
      by_cases hn : E.size = 2
      · obtain ⟨a, b, rfl⟩ : ∃ a b : UInt8, E = ⟨#[a, b]⟩ := by
          obtain ⟨⟨l⟩⟩ := E
          match l, hn with
          | [a, b], _ => exact ⟨a, b, rfl⟩
        have f4 : 128 ≤ b.toNat := f3 (by show 1 < 2; decide)
        have t3 : (((34 : Int)) != ((b.toNat : Nat) : Int)) = true := by rw [bne_iff_ne]; omega
        have t4 : (((34 : Int)) == ((b.toNat : Nat) : Int)) = false := by rw [beq_eq_false_iff_ne]; omega
        have t5 : ((((⟨#[32, 34]⟩ : ByteArray)[1]'(by show 1 < 2; decide)).toNat : Int) != (((⟨#[a, b]⟩ : ByteArray)[1]'(by show 1 < 2; decide)).toNat : Int)) = true := t3
        clear hn f3
        go_enter Tryz.func39, Tryz.ntmps39
        go_wp2_with (go_at_call 55; refine (Tryz.utf8_ValidRune _ _).mono ?_; rintro e w' ⟨rfl, rfl⟩; rw [HV.out])
        go_step3
        go_wp2
        refine wp_loop_once ?_
        go_wp2
        go_step3
        go_wp2
        go_quiet (fail)
        go_wp2
        have hbz : Below w'.heap.size w' (w'.drewN nq) := pw_below_drewN (Below.refl _ _) _
        generalize w'.drewN nq = wz at *
        go_quiet ((go_at_call 38; exact Calls.quiet_of_same (ib_any _ _ (-1) _ (by rfl))))
        go_wp2
        exact ret_key (R := fun e w1 => e = .returned (.int .i64 (-1)) ∧ Below w'.heap.size w' w1) (v := .int .i64 (-1)) _ _ rfl rfl ⟨rfl, pw_below_drewN hbz _⟩
      · have h3 : 3 ≤ E.size := by omega
        clear hn f3
        go_enter Tryz.func39, Tryz.ntmps39
        go_wp2_with (go_at_call 55; refine (Tryz.utf8_ValidRune _ _).mono ?_; rintro e w' ⟨rfl, rfl⟩; rw [HV.out])
        have t3 : decide (((E.size : Nat) : Int) - 1 < 2) = false := by simp; omega
        go_step3
        go_wp2
        refine wp_loop_once ?_
        go_wp2
        exact ret_key (R := fun e w1 => e = .returned (.int .i64 (-1)) ∧ Below w'.heap.size w' w1) (v := .int .i64 (-1)) _ _ rfl rfl ⟨rfl, Below.refl _ _⟩

end Go.Proofs.YtkdofgbjebpmoaaGreatDoor
