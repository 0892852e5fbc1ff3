import Derived.Test.YtkdofgbjebpmoaaGreatDoorProg
import Derived.Test.YtkdofgbjebpmoaaGreatDoorCPure
import Derived.Test.YtkdofgbjebpmoaaGreatDoorWWords
import Derived.Test.YtkdofgbjebpmoaaGreatDoorShelf
import Derived.WalkKit
import Derived.WalkSpells
import Derived.WalkLawsBesides
import Derived.Lib.Hide
import Derived.Outline
import Derived.Deep.QuietTactic
import Derived.BigQuiet
import Derived.IntWalk
import Derived.Deep.DeepMust
namespace Go.Proofs.YtkdofgbjebpmoaaGreatDoor
set_option linter.unusedVariables false
set_option linter.unusedSimpArgs false
open Go.RowKit Go.Proofs.YtkdofgbjebpmoaaGreatDoorW.PrintWords

def bI (l : List UInt8) : List Int := l.map fun b => (b.toNat : Int)
theorem bI_snoc (l : List UInt8) (b : UInt8) : bI (l ++ [b]) = bI l ++ [(b.toNat : Int)] := by simp [bI]
theorem str_bI (l : List UInt8) : strOfNums (bI l) = ⟨l.toArray⟩ := by
  simp [strOfNums, bI, Function.comp_def]

theorem info5 : (Tryz.prog.info? 5).map (fun i => (i.zero, i.size, i.bytes)) = some (some (.int .u8 0), 1, 1) := by kernel_rfl

theorem bI_length (l : List UInt8) : (bI l).length = l.length := by simp [bI]
theorem drop_at (s : ByteArray) (k : Nat) (h : k < s.size) : s.data.toList.drop k = s[k] :: s.data.toList.drop (k + 1) := by
  rw [List.drop_eq_getElem_cons (by simpa using h)]
  rfl
theorem u8_eq {a : UInt8} {n : Nat} (h : (a.toNat : Int) = n) (hn : n < 256) : a = UInt8.ofNat n := by
  apply UInt8.toNat_inj.1
  simp
  omega
theorem u8_lt {a : UInt8} {n : Nat} (hn : n < 256) : (a < UInt8.ofNat n) ↔ (a.toNat : Int) < n := by
  rw [UInt8.lt_iff_toNat_lt]
  simp
  omega

theorem hp_any (s p : ByteArray) (b : Bool) (w : World) (h : Lib.hasPrefix s.data.toList p.data.toList = b) :
    Calls Tryz.prog 10 #[.string s, .string p] w fun e w' => e = .returned (.bool b) ∧ w' = w := by
  rw [← h]; exact Tryz.strings_HasPrefix s p w
theorem ib_any (s : ByteArray) (c : UInt8) (A : Int) (w : World) (h : Lib.indexByte s.data.toList c = A) :
    Calls Tryz.prog 38 #[.string s, .int .u8 c.toNat] w fun e w' => e = .returned (.int .i64 A) ∧ w' = w := by
  refine (Tryz.strings_IndexByte s c.toNat w).mono ?_
  rintro e w' ⟨rfl, rfl⟩
  refine ⟨?_, rfl⟩
  simp only [Int.toNat_natCast]
  rw [← h]
  simp
theorem indexByte_lt (l : List UInt8) (c : UInt8) (h : 0 < l.length) : Lib.indexByte l c ≤ l.length - 1 := by
  induction l with
  | nil => simp at h
  | cons b l ih =>
    unfold Lib.indexByte
    split
    · simp
    · split
      · simp
      · rename_i h2
        cases l with
        | nil => simp [Lib.indexByte] at h2
        | cons d l => have := ih (by simp); simp at this ⊢; omega
theorem ib_le (s : ByteArray) (c : UInt8) (h : s.data.toList.length = 16 := by rfl) : Lib.indexByte s.data.toList c ≤ 15 := by
  have := indexByte_lt s.data.toList c (by omega)
  omega
theorem bits_or_all : ∀ a b : Fin 16, bits .or .i64 ((a.val : Int) * 16) (b.val : Int) % 256 = (a.val : Int) * 16 + b.val := by decide
theorem bits_or_hex {A B : Int} (a0 : 0 ≤ A) (a1 : A ≤ 15) (b0 : 0 ≤ B) (b1 : B ≤ 15) : bits .or .i64 (A * 16) B % 256 = (((A * 16 + B).toNat.toUInt8).toNat : Int) := by
  have h := bits_or_all ⟨A.toNat, by omega⟩ ⟨B.toNat, by omega⟩
  simp only [Int.toNat_of_nonneg a0, Int.toNat_of_nonneg b0] at h
  rw [h]
  simp
  omega
theorem own_drewN {w : World} {base n : Nat} {e : TypeId} {size : Nat} {v : Value} {xs : List Value} (h : w.ownsRow base e size v n xs) (m : Nat) : (w.drewN m).ownsRow base e size v n xs := h
theorem hp_cons (l : List UInt8) (a : UInt8) : Lib.hasPrefix (92 :: l) [92, a] = (l.head? == some a) := by
  cases l with
  | nil => simp [Lib.hasPrefix, List.isPrefixOf]
  | cons x l => simp only [Lib.hasPrefix, List.isPrefixOf, beq_self_eq_true, Bool.true_and, Bool.and_true, List.head?_cons]; rw [BEq.comm]; rfl
/-- What unquote hands back. -/
def unqV : Option (List UInt8 × Nat) → Value
  | some (b, k) => .tuple #[.string ⟨b.toArray⟩, .int .i64 k, .bool true]
  | none => .tuple #[.string ⟨#[]⟩, .int .i64 0, .bool false]
/-- The loop's relation. -/
def UnqRel (s : ByteArray) (w : World) (v i : Value) (wr : World) : Prop :=
  ∃ (k : Nat) (out : List UInt8), k ≤ s.size ∧ i = .int .i64 k ∧ wr.ownsRow w.heap.size 5 1 v (bI out).length (nums .u8 (bI out)) ∧ Below w.heap.size w wr ∧ out.length ≤ k ∧
    Con.unq s.data.toList = (Con.unq (s.data.toList.drop k)).map fun p => (out ++ p.1, k + p.2)
def UnqPost (s : ByteArray) (w : World) (e : Ending) (w' : World) : Prop := e = .returned (unqV (Con.unq s.data.toList)) ∧ Below w.heap.size w w'
theorem UnqPost.none {s : ByteArray} {w w' : World} (hu : Con.unq s.data.toList = Option.none) (hb : Below w.heap.size w w') :
    UnqPost s w (.returned (.tuple #[.string ⟨#[]⟩, .int .i64 0, .bool false])) w' := ⟨by rw [hu]; rfl, hb⟩
theorem UnqRel.next {s : ByteArray} {w w' : World} {v i : Value} {k : Nat} (d : Nat) {out : List UInt8} {b : UInt8} (hi : i = .int .i64 ((k + d : Nat) : Int)) (hk : k + d ≤ s.size) (hd : 1 ≤ d)
    (hown : w'.ownsRow w.heap.size 5 1 v (bI out ++ [(b.toNat : Int)]).length (nums .u8 (bI out ++ [(b.toNat : Int)]))) (hb : Below w.heap.size w w') (hol : out.length ≤ k)
    (hun : Con.unq s.data.toList = (Con.unq (s.data.toList.drop k)).map fun p => (out ++ p.1, k + p.2))
    (hst : Con.unq (s.data.toList.drop k) = (Con.unq (s.data.toList.drop (k + d))).map fun p => (b :: p.1, p.2 + d)) :
    UnqRel s w v i w' := by
  refine ⟨k + d, out ++ [b], hk, hi, by rw [bI_snoc]; exact hown, hb, by simp; omega, ?_⟩
  rw [hun, hst, Option.map_map]
  congr 1
  funext p
  simp
  omega

set_option maxRecDepth 100000 in
set_option maxHeartbeats 1000000 in
theorem unquote_any (s : ByteArray) (w : World) (hs : s.size ≤ 1073741824) :
    Calls Tryz.prog 19 #[.string s] w (UnqPost s w) := by
  go_enter Tryz.func19, Tryz.ntmps19
  go_wp2
  go_loopw [5, 6] (fun v i wr => UnqRel s w v i wr) (fun _ i _ => s.size - (intOf i).toNat)
  case atStart => exact ⟨0, [], by omega, rfl, own_nil _ _ _ _, Below.refl _ _, by simp, by simp⟩
  case round =>
    obtain ⟨k, out, hk, rfl, hown, hb, hol, hun⟩ := hrel
    have HU := Lib.hid hun; clear hun
    have HO := Lib.hid hown; clear hown
    have hB := hb.size
    have hroom : ((bI out).length + 1) * 1 ≤ 140737488355328 := by rw [bI_length]; omega
    by_cases hlt : k < s.size
    · have hd := drop_at s k hlt
      have hex := Lib.extract_to_end s k
      by_cases h34 : s[k] = 34
      · have t1 : ((s[k].toNat : Int) == 34) = true := by rw [h34]; rfl
        have hun : Con.unq s.data.toList = some (out, k + 1) := by rw [HU.out, hd, h34, Con.unq_quote]; simp
        have HN := Lib.hid hun; clear hun hd h34 hex
        have hcv := own_string (dst := 9) Tryz.underlying94 Tryz.underlying5 Tryz.underlying9 HO.out
        rw [str_bI] at hcv
        go_wp2
        go_ret3
        exact ⟨by rw [HN.out]; rfl, hb⟩
      · have t1 : ((s[k].toNat : Int) == 34) = false := by
          rw [beq_eq_false_iff_ne]; intro h; exact h34 (u8_eq (n := 34) h (by decide))
        by_cases hlo : (s[k].toNat : Int) < 32
        · have hun : Con.unq s.data.toList = none := by
            rw [HU.out, hd, Con.unq_bad h34 (.inl ((u8_lt (n := 32) (by decide)).2 hlo))]; rfl
          have HN := Lib.hid hun; clear hun hd h34 hex
          go_wp2
          go_ret3
          exact UnqPost.none HN.out hb
        by_cases hhi : 126 < (s[k].toNat : Int)
        · have hun : Con.unq s.data.toList = none := by
            rw [HU.out, hd, Con.unq_bad h34 (.inr (by rw [UInt8.lt_iff_toNat_lt]; show 126 < _; omega))]; rfl
          have HN := Lib.hid hun; clear hun hd h34 hex
          go_wp2
          go_ret3
          exact UnqPost.none HN.out hb
        have hnb : ¬ (s[k] < 32 ∨ 126 < s[k]) := by
          rintro (h | h)
          · exact hlo ((u8_lt (n := 32) (by decide)).1 h)
          · rw [UInt8.lt_iff_toNat_lt] at h; apply hhi; exact_mod_cast h
        by_cases h92 : s[k] = 92
        · have t2 : ((s[k].toNat : Int) != 92) = false := by rw [h92]; rfl
          rw [h92] at hd
          by_cases hk1 : k + 1 < s.size
          · have hd1 := drop_at s (k + 1) hk1
            obtain ⟨d, hdd⟩ : ∃ d, d = s[k + 1] := ⟨_, rfl⟩
            rw [← hdd] at hd1
            rw [hd1] at hd
            have p34 : Lib.hasPrefix (s.extract k s.size).data.toList (⟨#[92, 34]⟩ : ByteArray).data.toList = (d == 34) := by rw [hex, hd]; exact hp_cons _ _
            have p92 : Lib.hasPrefix (s.extract k s.size).data.toList (⟨#[92, 92]⟩ : ByteArray).data.toList = (d == 92) := by rw [hex, hd]; exact hp_cons _ _
            have p120 : Lib.hasPrefix (s.extract k s.size).data.toList (⟨#[92, 120]⟩ : ByteArray).data.toList = (d == 120) := by rw [hex, hd]; exact hp_cons _ _
            by_cases hesc : d = 34 ∨ d = 92
            · have hst : Con.unq (s.data.toList.drop k) = (Con.unq (s.data.toList.drop (k + 2))).map fun p => (s[k + 1] :: p.1, p.2 + 2) := by rw [hd, Con.unq_esc hesc, ← hdd]
              have HS := Lib.hid hst; clear hst
              rcases hesc with rfl | rfl
              · have H34 := Lib.hid p34; clear p34 p92 p120 hd hd1 hdd hex h92 h34 hnb
                go_wp2_with (first | (go_at_call 10; (with_reducible refine (hp_any _ ⟨#[92, 34]⟩ true _ H34.out).mono ?_); rintro e w' ⟨rfl, rfl⟩) | (at_builtin; go_must (refine print_append_num (w0 := w) w.heap.size rfl (.tmp 53) (.tmp 57) 94 5 .u8 1 rfl Tryz.underlying94 info5 (by decide) u5 (bI out) (s[k + 1].toNat : Int) rfl rfl HO.out hb hB hroom ?_); intro v1 w1 hown1 hb1 hg1 hat1))
                go_roundw
                case measure => simp [intOf]; omega
                case rel => exact UnqRel.next 2 (by go_num) (by omega) (by omega) hown1 hb1 hol HU.out HS.out
              · have H34 := Lib.hid p34; have H92 := Lib.hid p92; clear p34 p92 p120 hd hd1 hdd hex h92 h34 hnb
                go_wp2_with (first | (go_at_call 10; (with_reducible refine (hp_any _ ⟨#[92, 34]⟩ false _ H34.out).mono ?_); rintro e w' ⟨rfl, rfl⟩) | (go_at_call 10; (with_reducible refine (hp_any _ ⟨#[92, 92]⟩ true _ H92.out).mono ?_); rintro e w' ⟨rfl, rfl⟩) | (at_builtin; go_must (refine print_append_num (w0 := w) w.heap.size rfl (.tmp 53) (.tmp 57) 94 5 .u8 1 rfl Tryz.underlying94 info5 (by decide) u5 (bI out) (s[k + 1].toNat : Int) rfl rfl HO.out hb hB hroom ?_); intro v1 w1 hown1 hb1 hg1 hat1))
                go_roundw
                case measure => simp [intOf]; omega
                case rel => exact UnqRel.next 2 (by go_num) (by omega) (by omega) hown1 hb1 hol HU.out HS.out
            · have e34 : (d == 34) = false := by simpa using fun h => hesc (.inl h)
              have e92 : (d == 92) = false := by simpa using fun h => hesc (.inr h)
              rw [e34] at p34
              rw [e92] at p92
              have H34 := Lib.hid p34; have H92 := Lib.hid p92
              by_cases hx : d = 120
              · have ex : (d == 120) = true := by simpa using hx
                rw [ex] at p120
                have H120 := Lib.hid p120
                by_cases hk4 : k + 4 ≤ s.size
                · have hd2 := drop_at s (k + 2) (by omega)
                  have hd3 := drop_at s (k + 3) (by omega)
                  obtain ⟨A, hA⟩ : ∃ A, Lib.indexByte (⟨#[48, 49, 50, 51, 52, 53, 54, 55, 56, 57, 65, 66, 67, 68, 69, 70]⟩ : ByteArray).data.toList s[k + 2] = A := ⟨_, rfl⟩
                  obtain ⟨B, hB2⟩ : ∃ B, Lib.indexByte (⟨#[48, 49, 50, 51, 52, 53, 54, 55, 56, 57, 65, 66, 67, 68, 69, 70]⟩ : ByteArray).data.toList s[k + 3] = B := ⟨_, rfl⟩
                  have HA := Lib.hid hA; have HB := Lib.hid hB2
                  have s2 : IntKind.i64.wrap ((k : Int) + 2) = (k : Int) + 2 := IntWalk.i64_in _ (by omega)
                  have s3 : IntKind.i64.wrap ((k : Int) + 3) = (k : Int) + 3 := IntWalk.i64_in _ (by omega)
                  have q2 : (0 : Int) ≤ (k : Int) + 2 := by omega
                  have q3 : (0 : Int) ≤ (k : Int) + 3 := by omega
                  have r2 : ((k : Int) + 2).toNat = k + 2 := by omega
                  have r3 : ((k : Int) + 3).toNat = k + 3 := by omega
                  have u2 : (k : Int) + 2 < s.size := by omega
                  have u3 : (k : Int) + 3 < s.size := by omega
                  have HD := Lib.hid hd; have HD1 := Lib.hid hd1; have HD2 := Lib.hid hd2; have HD3 := Lib.hid hd3
                  have hdA : s.data.toList.drop k = 92 :: 120 :: s[k + 2] :: s[k + 3] :: s.data.toList.drop (k + 4) := by rw [hd, hx, hd2, hd3]
                  have hhx : Con.hex2 s[k + 2] s[k + 3] = if 0 ≤ A ∧ 0 ≤ B then some (A * 16 + B).toNat.toUInt8 else none := by rw [← hA, ← hB2]; rfl
                  have HH := Lib.hid hhx; have HD := Lib.hid hdA
                  have bA : A ≤ 15 := hA ▸ ib_le _ _
                  have bB : B ≤ 15 := hB2 ▸ ib_le _ _
                  clear hd hd1 hd2 hd3 hdd hex h92 h34 hnb p34 p92 p120 hesc hx hA hB2 hhx hdA
                  by_cases hA0 : A < 0
                  · have hun : Con.unq s.data.toList = none := by rw [HU.out, HD.out, Con.unq_xbad (by rw [HH.out, if_neg (by omega)])]; rfl
                    have HN := Lib.hid hun; clear hun
                    go_wp2_with (first | (go_at_call 10; (with_reducible refine (hp_any _ ⟨#[92, 34]⟩ false _ H34.out).mono ?_); rintro e w' ⟨rfl, rfl⟩) | (go_at_call 10; (with_reducible refine (hp_any _ ⟨#[92, 92]⟩ false _ H92.out).mono ?_); rintro e w' ⟨rfl, rfl⟩) | (go_at_call 10; (with_reducible refine (hp_any _ ⟨#[92, 120]⟩ true _ H120.out).mono ?_); rintro e w' ⟨rfl, rfl⟩))
                    go_quiet ((go_at_call 38; exact Calls.quiet_of_same (ib_any _ _ _ _ (by first | exact HA.out | exact HB.out))))
                    go_wp2
                    go_ret3
                    exact UnqPost.none HN.out (pw_below_drewN hb _)
                  by_cases hB0 : B < 0
                  · have hun : Con.unq s.data.toList = none := by rw [HU.out, HD.out, Con.unq_xbad (by rw [HH.out, if_neg (by omega)])]; rfl
                    have HN := Lib.hid hun; clear hun
                    go_wp2_with (first | (go_at_call 10; (with_reducible refine (hp_any _ ⟨#[92, 34]⟩ false _ H34.out).mono ?_); rintro e w' ⟨rfl, rfl⟩) | (go_at_call 10; (with_reducible refine (hp_any _ ⟨#[92, 92]⟩ false _ H92.out).mono ?_); rintro e w' ⟨rfl, rfl⟩) | (go_at_call 10; (with_reducible refine (hp_any _ ⟨#[92, 120]⟩ true _ H120.out).mono ?_); rintro e w' ⟨rfl, rfl⟩))
                    go_quiet ((go_at_call 38; exact Calls.quiet_of_same (ib_any _ _ _ _ (by first | exact HA.out | exact HB.out))))
                    go_wp2
                    go_ret3
                    exact UnqPost.none HN.out (pw_below_drewN hb _)
                  have hst : Con.unq (s.data.toList.drop k) = (Con.unq (s.data.toList.drop (k + 4))).map fun p => ((A * 16 + B).toNat.toUInt8 :: p.1, p.2 + 4) := by
                    rw [HD.out, Con.unq_x (by rw [HH.out, if_pos (by omega)])]
                  have HS := Lib.hid hst; clear hst
                  go_wp2_with (first | (go_at_call 10; (with_reducible refine (hp_any _ ⟨#[92, 34]⟩ false _ H34.out).mono ?_); rintro e w' ⟨rfl, rfl⟩) | (go_at_call 10; (with_reducible refine (hp_any _ ⟨#[92, 92]⟩ false _ H92.out).mono ?_); rintro e w' ⟨rfl, rfl⟩) | (go_at_call 10; (with_reducible refine (hp_any _ ⟨#[92, 120]⟩ true _ H120.out).mono ?_); rintro e w' ⟨rfl, rfl⟩))
                  go_quiet ((go_at_call 38; exact Calls.quiet_of_same (ib_any _ _ _ _ (by first | exact HA.out | exact HB.out))))
                  have hor := bits_or_hex (by omega : 0 ≤ A) bA (by omega : 0 ≤ B) bB
                  have HOR := Lib.hid hor; clear hor
                  go_wp2_with (at_builtin; rw [HOR.out]; go_must (refine print_append_num (w0 := w) w.heap.size rfl (.tmp 87) (.tmp 93) 94 5 .u8 1 rfl Tryz.underlying94 info5 (by decide) u5 (bI out) (((A * 16 + B).toNat.toUInt8).toNat : Int) rfl rfl (own_drewN HO.out nq) (pw_below_drewN hb nq) hB hroom ?_); intro v1 w1 hown1 hb1 hg1 hat1)
                  go_roundw
                  case measure => simp [intOf]; omega
                  case rel => exact UnqRel.next 4 (by go_num) (by omega) (by omega) hown1 hb1 hol HU.out HS.out
                · have hun : Con.unq s.data.toList = none := by
                    rw [HU.out, hd, hx]
                    have hl : (s.data.toList.drop (k + 1 + 1)).length < 2 := by simp; omega
                    match hq : s.data.toList.drop (k + 1 + 1), hl with
                    | [], _ => rw [Con.unq_x0]; rfl
                    | [z], _ => rw [Con.unq_x1]; rfl
                  have HN := Lib.hid hun; clear hun hd hd1 hdd hex h92 h34 hnb p34 p92 p120 hesc hx
                  go_wp2_with (first | (go_at_call 10; (with_reducible refine (hp_any _ ⟨#[92, 34]⟩ false _ H34.out).mono ?_); rintro e w' ⟨rfl, rfl⟩) | (go_at_call 10; (with_reducible refine (hp_any _ ⟨#[92, 92]⟩ false _ H92.out).mono ?_); rintro e w' ⟨rfl, rfl⟩) | (go_at_call 10; (with_reducible refine (hp_any _ ⟨#[92, 120]⟩ true _ H120.out).mono ?_); rintro e w' ⟨rfl, rfl⟩))
                  go_ret3
                  exact UnqPost.none HN.out hb
              · have ex : (d == 120) = false := by simpa using hx
                rw [ex] at p120
                have H120 := Lib.hid p120
                have hun : Con.unq s.data.toList = none := by rw [HU.out, hd, Con.unq_other hesc hx]; rfl
                have HN := Lib.hid hun; clear hun hd hd1 hdd hex h92 h34 hnb p34 p92 p120 hesc hx
                go_wp2_with (first | (go_at_call 10; (with_reducible refine (hp_any _ ⟨#[92, 34]⟩ false _ H34.out).mono ?_); rintro e w' ⟨rfl, rfl⟩) | (go_at_call 10; (with_reducible refine (hp_any _ ⟨#[92, 92]⟩ false _ H92.out).mono ?_); rintro e w' ⟨rfl, rfl⟩) | (go_at_call 10; (with_reducible refine (hp_any _ ⟨#[92, 120]⟩ false _ H120.out).mono ?_); rintro e w' ⟨rfl, rfl⟩))
                go_ret3
                exact UnqPost.none HN.out hb
          · have hnil : s.data.toList.drop (k + 1) = [] := List.drop_eq_nil_of_le (by simp; omega)
            rw [hnil] at hd
            have H34 : Hid (Lib.hasPrefix (s.extract k s.size).data.toList (⟨#[92, 34]⟩ : ByteArray).data.toList = false) := Lib.hid (by rw [hex, hd]; rfl)
            have H92 : Hid (Lib.hasPrefix (s.extract k s.size).data.toList (⟨#[92, 92]⟩ : ByteArray).data.toList = false) := Lib.hid (by rw [hex, hd]; rfl)
            have H120 : Hid (Lib.hasPrefix (s.extract k s.size).data.toList (⟨#[92, 120]⟩ : ByteArray).data.toList = false) := Lib.hid (by rw [hex, hd]; rfl)
            have hun : Con.unq s.data.toList = none := by rw [HU.out, hd, Con.unq_end]; rfl
            have HN := Lib.hid hun; clear hun hd hex h92 h34 hnb hnil
            go_wp2_with (first | (go_at_call 10; (with_reducible refine (hp_any _ ⟨#[92, 34]⟩ false _ H34.out).mono ?_); rintro e w' ⟨rfl, rfl⟩) | (go_at_call 10; (with_reducible refine (hp_any _ ⟨#[92, 92]⟩ false _ H92.out).mono ?_); rintro e w' ⟨rfl, rfl⟩) | (go_at_call 10; (with_reducible refine (hp_any _ ⟨#[92, 120]⟩ false _ H120.out).mono ?_); rintro e w' ⟨rfl, rfl⟩))
            go_ret3
            exact UnqPost.none HN.out hb
        · have t2 : ((s[k].toNat : Int) != 92) = true := by
            rw [bne_iff_ne]; intro h; exact h92 (u8_eq (n := 92) h (by decide))
          have hst : Con.unq (s.data.toList.drop k) = (Con.unq (s.data.toList.drop (k + 1))).map fun p => (s[k] :: p.1, p.2 + 1) := by rw [hd, Con.unq_plain h34 hnb h92]
          have HS := Lib.hid hst; clear hst hd h34 hex hnb h92
          go_wp2_with (at_builtin; go_must (refine print_append_num (w0 := w) w.heap.size rfl (.tmp 36) (.tmp 38) 94 5 .u8 1 rfl Tryz.underlying94 info5 (by decide) u5 (bI out) (s[k].toNat : Int) rfl rfl HO.out hb hB hroom ?_); intro v1 w1 hown1 hb1 hg1 hat1)
          go_roundw
          case measure => simp [intOf]; omega
          case rel => exact UnqRel.next 1 (by go_num) (by omega) (by omega) hown1 hb1 hol HU.out HS.out
    · have hun : Con.unq s.data.toList = none := by
        rw [HU.out, List.drop_eq_nil_of_le (by simp; omega)]; rfl
      have HN := Lib.hid hun; clear hun
      go_wp2
      go_ret3
      exact UnqPost.none HN.out hb

end Go.Proofs.YtkdofgbjebpmoaaGreatDoor
