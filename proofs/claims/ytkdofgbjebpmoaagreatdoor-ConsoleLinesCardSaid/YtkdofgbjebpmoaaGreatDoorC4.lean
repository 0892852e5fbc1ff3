import Derived.Test.YtkdofgbjebpmoaaGreatDoorC3
import Derived.Lib.OthersKept
namespace Go.Proofs.YtkdofgbjebpmoaaGreatDoor
set_option linter.unusedVariables false
set_option linter.unusedSimpArgs false
open Go.RowKit Go.Lib Go.Proofs.YtkdofgbjebpmoaaGreatDoorW.PrintWords

theorem get_bang (s : ByteArray) (i : Nat) (h : i < s.size) : s.get! i = s[i] := by
  obtain ⟨a⟩ := s
  simp only [ByteArray.get!]
  exact getElem!_pos a i h

def decodeN (b0 a1 a2 a3 : Nat) (d1 d2 d3 : Bool) : Nat × Nat :=
  if b0 < 0x80 then (b0, 1)
  else if b0 / 32 == 6 && d1 then
    if b0 % 32 * 64 + a1 % 64 ≥ 0x80 then (b0 % 32 * 64 + a1 % 64, 2) else (Utf8.runeError, 1)
  else if b0 / 16 == 14 && d1 && d2 then
    if (b0 % 16 * 4096 + a1 % 64 * 64 + a2 % 64 ≥ 0x800 && Utf8.valid (b0 % 16 * 4096 + a1 % 64 * 64 + a2 % 64 : Nat)) = true then (b0 % 16 * 4096 + a1 % 64 * 64 + a2 % 64, 3) else (Utf8.runeError, 1)
  else if b0 / 8 == 30 && d1 && d2 && d3 then
    if (b0 % 8 * 262144 + a1 % 64 * 4096 + a2 % 64 * 64 + a3 % 64 ≥ 0x10000 && Utf8.valid (b0 % 8 * 262144 + a1 % 64 * 4096 + a2 % 64 * 64 + a3 % 64 : Nat)) = true then (b0 % 8 * 262144 + a1 % 64 * 4096 + a2 % 64 * 64 + a3 % 64, 4) else (Utf8.runeError, 1)
  else (Utf8.runeError, 1)
def contAt (s : ByteArray) (pos k : Nat) : Bool := decide (pos + k < s.size) && (s.get! (pos + k)).toNat / 64 == 2
theorem decode_eq (s : ByteArray) (pos : Nat) : Utf8.decode s pos = decodeN (s.get! (pos + 0)).toNat (s.get! (pos + 1)).toNat (s.get! (pos + 2)).toNat (s.get! (pos + 3)).toNat (contAt s pos 1) (contAt s pos 2) (contAt s pos 3) := rfl
theorem decodeN_hi (b0 a1 a2 a3 : Nat) (d1 d2 d3 : Bool) (h : 128 ≤ b0) : 128 ≤ (decodeN b0 a1 a2 a3 d1 d2 d3).1 ∧ 1 ≤ (decodeN b0 a1 a2 a3 d1 d2 d3).2 ∧ (decodeN b0 a1 a2 a3 d1 d2 d3).2 ≤ 4 ∧
    (2 ≤ (decodeN b0 a1 a2 a3 d1 d2 d3).2 → d1 = true) ∧ (3 ≤ (decodeN b0 a1 a2 a3 d1 d2 d3).2 → d2 = true) ∧ (4 ≤ (decodeN b0 a1 a2 a3 d1 d2 d3).2 → d3 = true) := by
  have e : 128 ≤ Utf8.runeError := by decide
  unfold decodeN
  rw [if_neg (by omega)]
  have err : 128 ≤ Utf8.runeError ∧ 1 ≤ 1 ∧ 1 ≤ 4 ∧ (2 ≤ 1 → d1 = true) ∧ (3 ≤ 1 → d2 = true) ∧ (4 ≤ 1 → d3 = true) := ⟨e, Nat.le_refl _, by decide, fun h => absurd h (by decide), fun h => absurd h (by decide), fun h => absurd h (by decide)⟩
  split
  · rename_i h2
    rw [Bool.and_eq_true] at h2
    split
    · rename_i h3
      exact ⟨h3, by dsimp only; omega, by dsimp only; omega, fun _ => h2.2, fun h => by dsimp only at h; omega, fun h => by dsimp only at h; omega⟩
    · exact err
  · split
    · rename_i h2
      rw [Bool.and_eq_true, Bool.and_eq_true] at h2
      split
      · rename_i h3
        rw [Bool.and_eq_true, decide_eq_true_eq] at h3
        exact ⟨Nat.le_trans (by decide) h3.1, by dsimp only; omega, by dsimp only; omega, fun _ => h2.1.2, fun _ => h2.2, fun h => by dsimp only at h; omega⟩
      · exact err
    · split
      · rename_i h2
        rw [Bool.and_eq_true, Bool.and_eq_true, Bool.and_eq_true] at h2
        split
        · rename_i h3
          rw [Bool.and_eq_true, decide_eq_true_eq] at h3
          exact ⟨Nat.le_trans (by decide) h3.1, by dsimp only; omega, by dsimp only; omega, fun _ => h2.1.1.2, fun _ => h2.1.2, fun _ => h2.2⟩
        · exact err
      · exact err
theorem contAt_hi {s : ByteArray} {pos k : Nat} (hk : contAt s pos k = true) : pos + k < s.size ∧ ∀ b, s.data.toList[pos + k]? = some b → 128 ≤ b.toNat := by
  unfold contAt at hk
  rw [Bool.and_eq_true, decide_eq_true_eq] at hk
  refine ⟨hk.1, fun b hb' => ?_⟩
  rw [Lib.data_getElem? s (pos + k) hk.1] at hb'
  injection hb' with hb'
  have := beq_iff_eq.1 hk.2
  rw [get_bang s _ hk.1, hb'] at this
  omega
/-- A byte beyond ASCII: the rune is none of ASCII, and neither is any of its bytes. -/
theorem decode_hi (s : ByteArray) (pos : Nat) (h : pos < s.size) (hb : 128 ≤ (s[pos]'h).toNat) :
    128 ≤ (Utf8.decode s pos).1 ∧ 1 ≤ (Utf8.decode s pos).2 ∧ pos + (Utf8.decode s pos).2 ≤ s.size ∧
      ∀ j b, pos ≤ j → j < pos + (Utf8.decode s pos).2 → s.data.toList[j]? = some b → 128 ≤ b.toNat := by
  rw [decode_eq]
  obtain ⟨q1, q2, q3, q4, q5, q6⟩ := decodeN_hi (s.get! (pos + 0)).toNat (s.get! (pos + 1)).toNat (s.get! (pos + 2)).toNat (s.get! (pos + 3)).toNat (contAt s pos 1) (contAt s pos 2) (contAt s pos 3)
    (by rw [Nat.add_zero, get_bang s pos h]; exact hb)
  generalize decodeN (s.get! (pos + 0)).toNat (s.get! (pos + 1)).toNat (s.get! (pos + 2)).toNat (s.get! (pos + 3)).toNat (contAt s pos 1) (contAt s pos 2) (contAt s pos 3) = D at *
  have hle : pos + D.2 ≤ s.size := by
    rcases Nat.lt_or_ge D.2 2 with h2 | h2
    · omega
    · rcases Nat.lt_or_ge D.2 3 with h3 | h3
      · have := (contAt_hi (q4 h2)).1; omega
      · rcases Nat.lt_or_ge D.2 4 with h4 | h4
        · have := (contAt_hi (q5 h3)).1; omega
        · have := (contAt_hi (q6 h4)).1; omega
  refine ⟨q1, q2, hle, fun j b j1 j2 hj => ?_⟩
  by_cases e0 : j = pos
  · subst e0
    rw [Lib.data_getElem? s j h] at hj
    injection hj with hj
    rw [← hj]; exact hb
  · by_cases e1 : j = pos + 1
    · subst e1; exact (contAt_hi (q4 (by omega))).2 b hj
    · by_cases e2 : j = pos + 2
      · subst e2; exact (contAt_hi (q5 (by omega))).2 b hj
      · obtain rfl : j = pos + 3 := by omega
        exact (contAt_hi (q6 (by omega))).2 b hj

def seps : List UInt8 := [32, 34]
def IaPost (s : ByteArray) (w : World) (e : Ending) (w' : World) : Prop := e = .returned (.int .i64 (Lib.indexAny s.data.toList seps)) ∧ Below w.heap.size w w'
def IaRel (s : ByteArray) (w : World) (g : Nat) (wx : World) : Prop :=
  ∃ i : Nat, i + g = s.size ∧ wx.heap[w.heap.size]? = some (.stringIter s i) ∧ Below w.heap.size w wx ∧ Lib.NoAny s.data.toList seps i
theorem seps_hi {b : UInt8} (h : 128 ≤ b.toNat) : seps.contains b = false := by
  rw [← Bool.not_eq_true]
  intro hc
  have := List.contains_iff_mem.1 hc
  simp only [seps, List.mem_cons, List.not_mem_nil, or_false] at this
  rcases this with rfl | rfl <;> exact absurd h (by decide)
theorem iterAt_below {w wx : World} {s : ByteArray} {p p' : Nat} (hb : Below w.heap.size w wx) (_hk : wx.heap[w.heap.size]? = some (.stringIter s p)) : Below w.heap.size w (wx.iterAt w.heap.size s p') := by
  refine ⟨hb.os, hb.tape, hb.output, by simp [World.iterAt]; exact hb.size, fun i hi => ?_⟩
  rw [← hb.block i hi]
  simp [World.iterAt, Array.getElem?_setIfInBounds]
  omega

theorem idx_ascii (x : UInt8) (w : World) (h : x.toNat < 128) :
    Calls Tryz.prog 39 #[.string ⟨#[32, 34]⟩, .int .i32 x.toNat] w fun e w' => e = .returned (.int .i64 (Lib.indexByte seps x)) ∧ w' = w := by
  refine (Tryz.strings_IndexRune_ascii ⟨#[32, 34]⟩ x.toNat w (by omega) (by omega)).mono ?_
  rintro e w' ⟨rfl, rfl⟩
  refine ⟨?_, rfl⟩
  have : ((x.toNat : Int)).toNat.toUInt8 = x := by simp
  rw [this]; rfl
set_option maxRecDepth 100000 in
set_option maxHeartbeats 1000000 in
theorem indexAny_short (s : ByteArray) (w : World) (h8 : s.size ≤ 8) :
    Calls Tryz.prog 21 #[.string s, .string ⟨#[32, 34]⟩] w (IaPost s w) := by
  have h8z : decide ((8 : Int) < (s.size : Int)) = false := decide_eq_false (by omega)
  go_enter Tryz.func21, Tryz.ntmps21
  go_wp2_with (go_at_call 40; refine (Tryz.strings_shouldUseASCIISet _ _).mono ?_; rintro e w' ⟨rfl, rfl⟩; rw [h8z])
  go_loopg [9, 10] s.size (fun g _ _ wx => IaRel s w' g wx)
  case atStart => exact ⟨0, by omega, World.iter_heap _ _ _, below_alloc (Below.refl _ _) _, Lib.NoAny.zero _ _⟩
  case round =>
    obtain ⟨i, hig, hk, hb, hno⟩ := hrel
    by_cases hlt : i < s.size
    · by_cases ha : (s[i]'hlt).toNat < 128
      · have hnx := fun ty => run_next_ascii_at (P := Tryz.prog) wr _ s i ty hk hlt ha
        obtain ⟨x, hx⟩ : ∃ x : UInt8, s[i]'hlt = x := ⟨_, rfl⟩
        have hxl : s.data.toList[i]? = some x := by rw [← hx]; exact Lib.data_getElem? s i hlt
        rw [hx] at hnx ha
        have hb2 := iterAt_below (p' := i + 1) hb hk
        have hk2 := iterAt_heap wr _ s i (i + 1) hk
        have hcon := Lib.contains_iff_indexByte seps x
        have Hx := Lib.hid hxl; have HN := Lib.hid hno; have HK := Lib.hid hk2
        clear hxl hno hk2 hk hx
        cases hin : seps.contains x
        · rw [hin] at hcon
          have hlt2 : Lib.indexByte seps x < 0 := by have := of_decide_eq_false hcon.symm; omega
          have HI := Lib.hid hin; clear hcon hin
          go_wp2_with (go_at_call 39; refine (idx_ascii x _ ha).mono ?_; rintro e w1 ⟨rfl, rfl⟩)
          go_roundg (gk - 1)
          case measure => omega
          case rel => exact ⟨i + 1, by omega, HK.out, hb2, HN.out.succ Hx.out HI.out⟩
        · rw [hin] at hcon
          have hge : (0 : Int) ≤ Lib.indexByte seps x := of_decide_eq_true hcon.symm
          have hres := Lib.indexAny_hit HN.out Hx.out hin
          have HR := Lib.hid hres; clear hcon hin hres
          go_wp2_with (go_at_call 39; refine (idx_ascii x _ ha).mono ?_; rintro e w1 ⟨rfl, rfl⟩)
          go_ret
          exact ⟨by rw [HR.out]; rfl, hb2⟩
      · have hnx := fun ty => run_next_any_at (P := Tryz.prog) wr _ s i ty hk hlt
        obtain ⟨q1, q2, q3, q4⟩ := decode_hi s i hlt (by omega)
        have q5 := decode_le s i
        have hb2 := iterAt_below (p' := i + (Utf8.decode s i).2) hb hk
        have hk2 := iterAt_heap wr _ s i (i + (Utf8.decode s i).2) hk
        have hno2 : Lib.NoAny s.data.toList seps (i + (Utf8.decode s i).2) := fun j b hj hjb => by
          rcases Nat.lt_or_ge j i with h | h
          · exact hno j b h hjb
          · exact seps_hi (q4 j b h hj hjb)
        generalize hD1 : (Utf8.decode s i).1 = r at *
        generalize hD2 : (Utf8.decode s i).2 = d at *
        have HN := Lib.hid hno2; have HK := Lib.hid hk2
        clear hno hno2 hk2 hk q4 hD1 hD2
        go_wp2_with (go_at_call 39; refine (indexRune_hi r _ (by omega) (by omega)).mono ?_; rintro e w1 ⟨rfl, hb3⟩)
        go_roundg (gk - d)
        case measure => omega
        case rel =>
          refine ⟨i + d, by omega, blk_below HK.out hb3, below_then hb2 ?_ hb3, HN.out⟩
          have := hb2.size; omega
    · obtain rfl : i = s.size := by omega
      have hnx := fun ty => run_next_end_at (P := Tryz.prog) wr _ s s.size ty hk (by omega)
      have hres := Lib.indexAny_none (by rw [← Lib.size_eq]; exact hno)
      have HR := Lib.hid hres; have HK := Lib.hid hk; clear hres hno hk
      go_wp2
      go_ret
      exact ⟨by rw [HR.out]; rfl, hb⟩

theorem info107 : (Tryz.prog.info? 107).map (fun i => (i.zero, i.size)) = some (some (.agg (Array.replicate 256 (.bool false))), 256) := by kernel_rfl
theorem indexAny_any (s : ByteArray) (w : World) (hs : s.size ≤ 1073741824) :
    Calls Tryz.prog 21 #[.string s, .string ⟨#[32, 34]⟩] w (IaPost s w) := by
  rcases Nat.lt_or_ge 8 s.size with h | h
  · refine (Tryz.strings_IndexAny_long (zero_of_info info107).1 s ⟨#[32, 34]⟩ w (by decide) h (by omega) (by decide) (ascii_of_all (by decide))).mono ?_
    rintro e w' ⟨rfl, rfl⟩
    exact ⟨rfl, below_alloc (below_alloc (Below.refl _ _) _) _⟩
  · exact indexAny_short s w h

end Go.Proofs.YtkdofgbjebpmoaaGreatDoor
