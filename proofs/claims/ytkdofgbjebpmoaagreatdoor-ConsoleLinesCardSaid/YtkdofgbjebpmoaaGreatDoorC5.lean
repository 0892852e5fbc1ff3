import Derived.Test.YtkdofgbjebpmoaaGreatDoorC0
import Derived.Test.YtkdofgbjebpmoaaGreatDoorC4
import Derived.Test.YtkdofgbjebpmoaaGreatDoorCL
namespace Go.Proofs.YtkdofgbjebpmoaaGreatDoor
set_option linter.unusedVariables false
set_option linter.unusedSimpArgs false
open Go.RowKit Go.Proofs.YtkdofgbjebpmoaaGreatDoorW.PrintWords

theorem wp_scope_jumps1 {P : Program} {a : Act} {w : World} {Q : Exit → Act → World → Prop} {c x : Code} (l : Nat) (J : Act → World → Prop) (μ : Act → World → Nat) (hf : findLabel c l = some (Code.seq Code.skip x))
    (pass : ∀ a w, J a w → x.wp P (Exit.jump l (fun a' w' => J a' w' ∧ μ a' w' < μ a w) Q) a w)
    (first : (∀ a w, J a w → x.wp P (Exit.jump l J Q) a w) → c.wp P (Exit.jump l J Q) a w) : (Code.scope c).wp P Q a w :=
  wp_scope_jumps l J μ hf (first fun a w h => wp_mono (pass a w h) fun e a w q => by
    cases e with
    | goto l' => exact ⟨q.1, q.2.1⟩
    | _ => exact q) fun a w h => wp_seq (wp_skip (pass a w h))

/-- A field: a text, and whether it was quoted. -/
def kF : Kd (ByteArray × Bool) := Kd.pair Kd.string Kd.bool
theorem kF_mkM (w : World) (base : Nat) (ok : Nat → Prop) (t : ByteArray) (q : Bool) : kF.M w base ok (t, q) [.string t, .bool q] := ⟨[.string t], [.bool q], rfl, rfl, rfl⟩
theorem info75 : (Tryz.prog.info? 75).map (fun i => (i.zero, i.size, i.bytes)) = some (some (.agg #[.string ⟨#[]⟩, .bool false]), 2, 24) := by kernel_rfl

def CutJ (s : ByteArray) (w : World) (a' : Act) (w' : World) : Prop :=
  ∃ (k n : Nat) (v : Value) (out : List (ByteArray × Bool)) (L : List Value),
    a' = ⟨(Value.string s :: undef :: Value.slice none 0 0 :: Value.nilIface :: v :: Value.int .i64 k :: L).toArray, []⟩ ∧ L.length = 96 ∧ k ≤ s.size ∧ s.size - k < n ∧
    Kd.R kF 75 w' w.heap.size (fun _ => True) v out ∧ out.length ≤ k ∧ Below w.heap.size w w' ∧ Con.cutL s.data.toList = (Con.cutF n (s.data.toList.drop k)).map (out ++ ·)
def CutPost (s : ByteArray) (w : World) (e : Ending) (w' : World) : Prop :=
  match Con.cutL s.data.toList with
  | some fs => ∃ v, e = .returned (.tuple #[v, .nilIface]) ∧ Kd.R kF 75 w' w.heap.size (fun _ => True) v fs ∧ fs.length ≤ s.size ∧ Below w.heap.size w w'
  | none => ∃ g, e = .returned (.tuple #[.slice none 0 0, .iface 58 (.pointer (some ⟨g, 0, none⟩))]) ∧ w'.heap[g]? = some (.cells #[.int .i64 160, .int .i64 0] 29 (0, 0)) ∧ w.heap.size ≤ g ∧ Below w.heap.size w w'

theorem cutPost_some {s : ByteArray} {w w' : World} {v : Value} {fs : List (ByteArray × Bool)} (h : Con.cutL s.data.toList = some fs) (h1 : Kd.R kF 75 w' w.heap.size (fun _ => True) v fs) (h2 : fs.length ≤ s.size) (h3 : Below w.heap.size w w') :
    CutPost s w (.returned (.tuple #[v, .nilIface])) w' := by
  unfold CutPost; rw [h]; exact ⟨v, rfl, h1, h2, h3⟩
theorem cutPost_none {s : ByteArray} {w w' : World} {g : Nat} (h : Con.cutL s.data.toList = none) (h1 : w'.heap[g]? = some (.cells #[.int .i64 160, .int .i64 0] 29 (0, 0))) (h2 : w.heap.size ≤ g) (h3 : Below w.heap.size w w') :
    CutPost s w (.returned (.tuple #[.slice none 0 0, .iface 58 (.pointer (some ⟨g, 0, none⟩))])) w' := by
  unfold CutPost; rw [h]; exact ⟨g, rfl, h1, h2, h3⟩
theorem unquote_some (s : ByteArray) (w : World) (hs : s.size ≤ 1073741824) {b : List UInt8} {m : Nat} (h : Con.unq s.data.toList = some (b, m)) :
    Calls Tryz.prog 19 #[.string s] w fun e w' => e = .returned (.tuple #[.string ⟨b.toArray⟩, .int .i64 m, .bool true]) ∧ Below w.heap.size w w' :=
  (unquote_any s w hs).mono fun e w' ⟨he, hb⟩ => ⟨by rw [he, h]; rfl, hb⟩
theorem unquote_none (s : ByteArray) (w : World) (hs : s.size ≤ 1073741824) (h : Con.unq s.data.toList = none) :
    Calls Tryz.prog 19 #[.string s] w fun e w' => e = .returned (.tuple #[.string ⟨#[]⟩, .int .i64 0, .bool false]) ∧ Below w.heap.size w w' :=
  (unquote_any s w hs).mono fun e w' ⟨he, hb⟩ => ⟨by rw [he, h]; rfl, hb⟩
theorem ia_val (s : ByteArray) (A : Int) (w : World) (hs : s.size ≤ 1073741824) (h : Lib.indexAny s.data.toList Con.seps = A) :
    Calls Tryz.prog 21 #[.string s, .string ⟨#[32, 34]⟩] w fun e w' => e = .returned (.int .i64 A) ∧ Below w.heap.size w w' :=
  (indexAny_any s w hs).mono fun e w' ⟨he, hb⟩ => ⟨by rw [he, ← h]; rfl, hb⟩
theorem wrong_160 (w : World) : Calls Tryz.prog 20 #[.int .i64 160] w fun e w' => e = .returned (.iface 58 (.pointer (some ⟨w.heap.size, 0, none⟩))) ∧ w' = w.alloc (.cells #[.int .i64 160, .int .i64 0] 29) := wrong_any 160 w

set_option maxRecDepth 100000 in
set_option maxHeartbeats 2000000 in
theorem cut_any (s : ByteArray) (w : World) (hs : s.size ≤ 1073741824) :
    Calls Tryz.prog 11 #[.string s] w (CutPost s w) := by
  go_enter Tryz.func11, Tryz.ntmps11
  go_wp2
  refine wp_scope_jumps1 0 (CutJ s w) (fun a' _ => s.size - (intOf (a'.tmps.getD 5 undef)).toNat) rfl ?pass ?first
  case first =>
    intro hp
    go_wp2
    go_step3
    go_step
    go_step
    refine hp _ _ ⟨0, s.size + 1, .slice none 0 0, [], _, rfl, rfl, by omega, by omega, Kd.R_nil _ _ _ _ _, by simp, Below.refl _ _, ?_⟩
    simp [Con.cutL]
  case pass =>
    rintro a' wr ⟨k, n, v, out, L, rfl, hL, hk, hn, HO, hol, hb, hc⟩
    obtain ⟨f, rfl⟩ := list96 L hL
    clear hL
    have HC := Lib.hid hc; have HR := Lib.hid HO; clear hc HO
    have hB := hb.size
    go_wp2
    go_loop [5] (fun i => ∃ j : Nat, k ≤ j ∧ j ≤ s.size ∧ i = .int .i64 j ∧ Hid ((s.data.toList.drop k).dropWhile (· == 32) = (s.data.toList.drop j).dropWhile (· == 32))) (fun i => s.size - (intOf i).toNat)
    case atStart => exact ⟨k, Nat.le_refl _, hk, rfl, Lib.hid rfl⟩
    case round =>
      obtain ⟨j, hkj, hj, rfl, HD⟩ := hrel
      by_cases hlt : j < s.size
      · have hd := drop_at s j hlt
        by_cases h32 : s[j] = 32
        · have t1 : ((s[j].toNat : Int) == 32) = true := by rw [h32]; rfl
          have HD2 : Hid ((s.data.toList.drop k).dropWhile (· == 32) = (s.data.toList.drop (j + 1)).dropWhile (· == 32)) := Lib.hid (by rw [HD.out, hd, List.dropWhile_cons, h32]; rfl)
          clear hd h32 HD
          go_wp2
          go_round
          case measure => simp [intOf]; omega
          case rel => exact ⟨j + 1, by omega, by omega, by go_num, HD2⟩
        · have t1 : ((s[j].toNat : Int) == 32) = false := by
            rw [beq_eq_false_iff_ne]; intro h; exact h32 (u8_eq (n := 32) h (by decide))
          have t2 : ((j : Int) == (s.size : Int)) = false := by rw [beq_eq_false_iff_ne]; omega
          have hdw : (s.data.toList.drop k).dropWhile (· == 32) = s[j] :: s.data.toList.drop (j + 1) := by
            rw [HD.out, hd, List.dropWhile_cons, if_neg (by simpa using h32)]
          have hex := Lib.extract_to_end s (j + 1)
          by_cases h34 : s[j] = 34
          · have t3 : ((s[j].toNat : Int) == 34) = true := by rw [h34]; rfl
            rw [h34] at hdw
            cases hu : Con.unq (s.data.toList.drop (j + 1)) with
            | none =>
              have hres : Con.cutL s.data.toList = none := by
                rw [HC.out]
                obtain ⟨n, rfl⟩ : ∃ m, n = m + 1 := ⟨n - 1, by omega⟩
                rw [Con.cutF_bad (Con.field_unq_none hdw hu)]; rfl
              have hu2 : Con.unq (s.extract (j + 1) s.size).data.toList = none := by rw [hex]; exact hu
              have HN := Lib.hid hres; have HU := Lib.hid hu2; clear hres hu2 hu hdw hex hd h34 h32 HD
              have hsz : (s.extract (j + 1) s.size).size ≤ 1073741824 := by simp; omega
              go_wp2_with (first | (go_at_call 19; refine (unquote_none _ _ hsz HU.out).mono ?_; rintro e w1 ⟨rfl, hb1⟩) | (go_at_call 20; refine (wrong_160 _).mono ?_; rintro e w2 ⟨rfl, rfl⟩))
              simp only [Exit.jump]
              go_ret2
              have hb2 := below_then hb hB hb1
              exact cutPost_none HN.out (blk_new _ _) (by have := hb2.size; omega) (below_alloc hb2 _)
            | some q =>
              obtain ⟨b, m⟩ := q
              have hu2 : Con.unq (s.extract (j + 1) s.size).data.toList = some (b, m) := by rw [hex]; exact hu
              have hm := Con.unq_le _ _ _ _ (Nat.le_refl _) hu
              have hl : (s.data.toList.drop (j + 1)).length = s.size - (j + 1) := by simp
              have hsz : (s.extract (j + 1) s.size).size ≤ 1073741824 := by simp; omega
              have hdd : (s.data.toList.drop (j + 1)).drop m = s.data.toList.drop (j + (1 + m)) := by rw [List.drop_drop, Nat.add_assoc]
              have hat : j + (1 + m) ≤ s.size := by omega
              have hroom : (out.length + 1) * 24 ≤ 140737488355328 := by omega
              by_cases hok : ((s.data.toList.drop (j + 1)).drop m).head?.getD 32 = 32
              · have hres : Con.cutL s.data.toList = (Con.cutF (n - 1) (s.data.toList.drop (j + (1 + m)))).map (out ++ [(⟨b.toArray⟩, true)] ++ ·) := by
                  rw [HC.out]
                  obtain ⟨n, rfl⟩ : ∃ m, n = m + 1 := ⟨n - 1, by omega⟩
                  rw [Con.cutF_got (Con.field_unq hdw hu hok), hdd, Option.map_map]
                  simp [Function.comp_def]
                have HN := Lib.hid hres; have HU := Lib.hid hu2; clear hres hu2 hu hdw hex hd h34 h32 HD
                by_cases hend : j + (1 + m) < s.size
                · have hd2 := drop_at s (j + (1 + m)) hend
                  have hsp : s[j + (1 + m)] = 32 := by rw [hdd, hd2] at hok; simpa using hok
                  have t4 : ((s[j + (1 + m)].toNat : Int) != 32) = false := by rw [hsp]; rfl
                  clear hdd hok hd2 hsp hl
                  go_wp2_with (first | (go_at_call 19; refine (unquote_some _ _ hsz HU.out).mono ?_; rintro e w1 ⟨rfl, hb1⟩) | (at_builtin; go_must (refine Kd.R_append kF (w0 := w) w.heap.size rfl (.tmp 59) (.tmp 62) 52 75 (.agg #[.string ⟨#[]⟩, .bool false]) 24 rfl Tryz.underlying52 info75 rfl (by decide) (by decide) v out (⟨b.toArray⟩, true) [.string ⟨b.toArray⟩, .bool true] (fun _ => True) (fun _ => False) rfl rfl (kF_mkM _ _ _ _ _) (fun _ h => h.elim) (fun _ _ => trivial) (Kd.R_below HR.out hb1) (below_then hb hB hb1) ?_ hroom ?_); (have := hb1.size; omega); intro v1 w2 hown2 hb2 hg2 hat2))
                  go_step3
                  refine ⟨rfl, ⟨j + (1 + m), n - 1, v1, out ++ [(⟨b.toArray⟩, true)], _, rfl, rfl, by omega, by omega, hown2, by simp; omega, hb2, HN.out⟩, ?_⟩
                  simp [intOf]
                  omega

                · clear hdd hok hl
                  go_wp2_with (first | (go_at_call 19; refine (unquote_some _ _ hsz HU.out).mono ?_; rintro e w1 ⟨rfl, hb1⟩) | (at_builtin; go_must (refine Kd.R_append kF (w0 := w) w.heap.size rfl (.tmp 59) (.tmp 62) 52 75 (.agg #[.string ⟨#[]⟩, .bool false]) 24 rfl Tryz.underlying52 info75 rfl (by decide) (by decide) v out (⟨b.toArray⟩, true) [.string ⟨b.toArray⟩, .bool true] (fun _ => True) (fun _ => False) rfl rfl (kF_mkM _ _ _ _ _) (fun _ h => h.elim) (fun _ _ => trivial) (Kd.R_below HR.out hb1) (below_then hb hB hb1) ?_ hroom ?_); (have := hb1.size; omega); intro v1 w2 hown2 hb2 hg2 hat2))
                  go_step3
                  refine ⟨rfl, ⟨j + (1 + m), n - 1, v1, out ++ [(⟨b.toArray⟩, true)], _, rfl, rfl, by omega, by omega, hown2, by simp; omega, hb2, HN.out⟩, ?_⟩
                  simp [intOf]
                  omega

              · have hres : Con.cutL s.data.toList = none := by
                  rw [HC.out]
                  obtain ⟨n, rfl⟩ : ∃ m, n = m + 1 := ⟨n - 1, by omega⟩
                  rw [Con.cutF_bad (Con.field_unq_bad hdw hu hok)]; rfl
                have hend : j + (1 + m) < s.size := by
                  rcases Nat.lt_or_ge (j + (1 + m)) s.size with h | h
                  · exact h
                  · rw [hdd, List.drop_eq_nil_of_le (by simp; omega)] at hok
                    exact absurd rfl hok
                have hd2 := drop_at s (j + (1 + m)) hend
                have hsp : s[j + (1 + m)] ≠ 32 := by rw [hdd, hd2] at hok; simpa using hok
                have t4 : ((s[j + (1 + m)].toNat : Int) != 32) = true := by rw [bne_iff_ne]; intro h; exact hsp (u8_eq (n := 32) h (by decide))
                have HN := Lib.hid hres; have HU := Lib.hid hu2; clear hres hu2 hu hdw hex hd h34 h32 HD hdd hok hd2 hsp hl
                go_wp2_with (first | (go_at_call 19; refine (unquote_some _ _ hsz HU.out).mono ?_; rintro e w1 ⟨rfl, hb1⟩) | (go_at_call 20; refine (wrong_160 _).mono ?_; rintro e w2 ⟨rfl, rfl⟩))
                simp only [Exit.jump]
                go_ret2
                have hb2 := below_then hb hB hb1
                exact cutPost_none HN.out (blk_new _ _) (by have := hb2.size; omega) (below_alloc hb2 _)
          · have t3 : ((s[j].toNat : Int) == 34) = false := by
              rw [beq_eq_false_iff_ne]; intro h; exact h34 (u8_eq (n := 34) h (by decide))
            have hexj := Lib.extract_to_end s j
            obtain ⟨W, hW⟩ : ∃ W, W = (Con.word (s.data.toList.drop j)).length := ⟨_, rfl⟩
            have hl : (s.data.toList.drop j).length = s.size - j := by simp
            have hW1 : 1 ≤ W := by
              rw [hW, hd]
              refine Con.word_pos ?_
              rw [← Bool.not_eq_true]
              intro hc
              have := List.contains_iff_mem.1 hc
              simp only [Con.seps, List.mem_cons, List.not_mem_nil, or_false] at this
              rcases this with h | h
              · exact h32 h
              · exact h34 h
            have hW2 : W ≤ s.size - j := by rw [hW, ← hl]; exact Con.word_le _
            have hia := Con.word_index (s.data.toList.drop j)
            rw [← hW, hl, ← hexj] at hia
            have htx : s.extract j (j + W) = ⟨(Con.word (s.data.toList.drop j)).toArray⟩ := by
              rw [Con.word_take (s.data.toList.drop j), ← hW]
              have := Lib.extract_data s j (j + W)
              rw [Nat.add_sub_cancel_left] at this
              rw [← this]
            have hdd : (s.data.toList.drop j).drop W = s.data.toList.drop (j + W) := by rw [List.drop_drop]
            have hdw2 : (s.data.toList.drop k).dropWhile (· == 32) = s[j] :: s.data.toList.drop (j + 1) := hdw
            rw [← hd] at hdw2
            have hszj : (s.extract j s.size).size ≤ 1073741824 := by simp; omega
            have hroom : (out.length + 1) * 24 ≤ 140737488355328 := by omega
            have hgood : ¬ (s.data.toList.drop (j + W)).head? = some 34 → Con.cutL s.data.toList = (Con.cutF (n - 1) (s.data.toList.drop (j + W))).map (out ++ [(s.extract j (j + W), false)] ++ ·) := by
              intro hne
              rw [HC.out]
              obtain ⟨n, rfl⟩ : ∃ m, n = m + 1 := ⟨n - 1, by omega⟩
              have hf := Con.field_word (l := s.data.toList.drop k) (c := s[j]) (r := s.data.toList.drop (j + 1)) hdw h34 (by rw [← hd, ← hW, hdd]; exact hne)
              rw [← hd, ← hW, hdd, ← htx] at hf
              rw [Con.cutF_got hf, Option.map_map]
              simp [Function.comp_def]
            by_cases hend : j + W < s.size
            · have hA : Lib.indexAny (s.extract j s.size).data.toList Con.seps = (W : Int) := by rw [hia, if_neg (by omega)]
              have hd2 := drop_at s (j + W) hend
              have HA := Lib.hid hA
              by_cases hq : s[j + W] = 34
              · have t4 : ((s[j + W].toNat : Int) == 34) = true := by rw [hq]; rfl
                have hres : Con.cutL s.data.toList = none := by
                  rw [HC.out]
                  obtain ⟨n, rfl⟩ : ∃ m, n = m + 1 := ⟨n - 1, by omega⟩
                  rw [Con.cutF_bad (Con.field_word_bad (l := s.data.toList.drop k) (c := s[j]) (r := s.data.toList.drop (j + 1)) hdw h34 (by rw [← hd, ← hW, hdd, hd2, hq]; rfl))]
                  rfl
                have HN := Lib.hid hres
                clear hres hdw hex hd h34 h32 HD hexj hW hl hia htx hdd hdw2 hgood hA hd2 hq
                go_wp2_with (first | (go_at_call 21; refine (ia_val _ _ _ hszj HA.out).mono ?_; rintro e w1 ⟨rfl, hb1⟩) | (go_at_call 20; refine (wrong_160 _).mono ?_; rintro e w2 ⟨rfl, rfl⟩))
                simp only [Exit.jump]
                go_ret2
                have hb2 := below_then hb hB hb1
                exact cutPost_none HN.out (blk_new _ _) (by have := hb2.size; omega) (below_alloc hb2 _)
              · have t4 : ((s[j + W].toNat : Int) == 34) = false := by rw [beq_eq_false_iff_ne]; intro h; exact hq (u8_eq (n := 34) h (by decide))
                have HN := Lib.hid (hgood (by rw [hd2]; simpa using hq))
                clear hdw hex hd h34 h32 HD hexj hW hl hia htx hdd hdw2 hgood hA hd2 hq
                go_wp2_with (first | (go_at_call 21; refine (ia_val _ _ _ hszj HA.out).mono ?_; rintro e w1 ⟨rfl, hb1⟩) | (at_builtin; go_must (refine Kd.R_append kF (w0 := w) w.heap.size rfl (.tmp 89) (.tmp 97) 52 75 (.agg #[.string ⟨#[]⟩, .bool false]) 24 rfl Tryz.underlying52 info75 rfl (by decide) (by decide) v out (s.extract j (j + W), false) [.string (s.extract j (j + W)), .bool false] (fun _ => True) (fun _ => False) rfl rfl (kF_mkM _ _ _ _ _) (fun _ h => h.elim) (fun _ _ => trivial) (Kd.R_below HR.out hb1) (below_then hb hB hb1) ?_ hroom ?_); (have := hb1.size; omega); intro v1 w2 hown2 hb2 hg2 hat2))
                go_step3
                refine ⟨rfl, ⟨j + W, n - 1, v1, out ++ [(s.extract j (j + W), false)], _, rfl, rfl, by omega, by omega, hown2, by simp; omega, hb2, HN.out⟩, ?_⟩
                simp [intOf]
                omega

            · have hA : Lib.indexAny (s.extract j s.size).data.toList Con.seps = -1 := by rw [hia, if_pos (by omega)]
              have HA := Lib.hid hA
              have HN := Lib.hid (hgood (by rw [List.drop_eq_nil_of_le (by simp; omega)]; simp))
              have hWs : W = s.size - j := by omega
              have eW : (s.size : Int) - (j : Int) = (W : Int) := by omega
              clear hdw hex hd h34 h32 HD hexj hW hl hia htx hdd hdw2 hgood hA hWs
              go_wp2_with (first | (go_at_call 21; refine (ia_val _ _ _ hszj HA.out).mono ?_; rintro e w1 ⟨rfl, hb1⟩) | (at_builtin; go_must (refine Kd.R_append kF (w0 := w) w.heap.size rfl (.tmp 89) (.tmp 97) 52 75 (.agg #[.string ⟨#[]⟩, .bool false]) 24 rfl Tryz.underlying52 info75 rfl (by decide) (by decide) v out (s.extract j (j + W), false) [.string (s.extract j (j + W)), .bool false] (fun _ => True) (fun _ => False) rfl rfl (kF_mkM _ _ _ _ _) (fun _ h => h.elim) (fun _ _ => trivial) (Kd.R_below HR.out hb1) (below_then hb hB hb1) ?_ hroom ?_); (have := hb1.size; omega); intro v1 w2 hown2 hb2 hg2 hat2))
              go_step3
              refine ⟨rfl, ⟨j + W, n - 1, v1, out ++ [(s.extract j (j + W), false)], _, rfl, rfl, by omega, by omega, hown2, by simp; omega, hb2, HN.out⟩, ?_⟩
              simp [intOf]
              omega
      · obtain rfl : j = s.size := by omega
        have hfin : Con.fieldL (s.data.toList.drop k) = .fin := Con.field_fin (by rw [HD.out, List.drop_eq_nil_of_le (by simp)]; rfl)
        have hres : Con.cutL s.data.toList = some out := by
          rw [HC.out]
          obtain ⟨n, rfl⟩ : ∃ m, n = m + 1 := ⟨n - 1, by omega⟩
          rw [Con.cutF_fin hfin]; simp
        have HN := Lib.hid hres; clear hfin hres
        go_wp2
        simp only [Exit.jump]
        go_ret2
        exact cutPost_some HN.out HR.out (by omega) hb

end Go.Proofs.YtkdofgbjebpmoaaGreatDoor
