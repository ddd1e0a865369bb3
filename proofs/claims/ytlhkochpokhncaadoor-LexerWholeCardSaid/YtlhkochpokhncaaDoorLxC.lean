/- begins, until, hole, within, whole walked. -/
import Derived.Test.YtlhkochpokhncaaDoorLxB
namespace Go.Proofs.YtlhkochpokhncaaDoor.Lexer
open Go.RowKit Go.Proofs.YtlhkochpokhncaaDoor Go.Proofs.YtlhkochpokhncaaDoor.Hp
set_option linter.unusedVariables false
attribute [local go_sem] Oper.semAt_some

theorem q0 (c : UInt8) : (((c.toNat : Nat) : Int) == 0) = (c == 0) := u8_lit c 0 (by decide)
theorem q9 (c : UInt8) : (((c.toNat : Nat) : Int) == 9) = (c == 9) := u8_lit c 9 (by decide)
theorem q10 (c : UInt8) : (((c.toNat : Nat) : Int) == 10) = (c == 10) := u8_lit c 10 (by decide)
theorem q32 (c : UInt8) : (((c.toNat : Nat) : Int) == 32) = (c == 32) := u8_lit c 32 (by decide)
theorem q34 (c : UInt8) : (((c.toNat : Nat) : Int) == 34) = (c == 34) := u8_lit c 34 (by decide)
theorem q35 (c : UInt8) : (((c.toNat : Nat) : Int) == 35) = (c == 35) := u8_lit c 35 (by decide)
theorem q39 (c : UInt8) : (((c.toNat : Nat) : Int) == 39) = (c == 39) := u8_lit c 39 (by decide)
theorem q40 (c : UInt8) : (((c.toNat : Nat) : Int) == 40) = (c == 40) := u8_lit c 40 (by decide)
theorem q41 (c : UInt8) : (((c.toNat : Nat) : Int) == 41) = (c == 41) := u8_lit c 41 (by decide)
theorem q92 (c : UInt8) : (((c.toNat : Nat) : Int) == 92) = (c == 92) := u8_lit c 92 (by decide)
theorem q96 (c : UInt8) : (((c.toNat : Nat) : Int) == 96) = (c == 96) := u8_lit c 96 (by decide)
theorem q123 (c : UInt8) : (((c.toNat : Nat) : Int) == 123) = (c == 123) := u8_lit c 123 (by decide)
theorem q125 (c : UInt8) : (((c.toNat : Nat) : Int) == 125) = (c == 125) := u8_lit c 125 (by decide)
theorem hol_one (l : Bytes) : ∃ a b c : Bool, a = ([36, 40] : Bytes).isPrefixOf l ∧ b = ([36, 123] : Bytes).isPrefixOf l ∧ c = ([96] : Bytes).isPrefixOf l ∧ hol l = (a || b || c) := ⟨_, _, _, rfl, rfl, rfl, hol_pre l⟩
def BPost (v : Bool) (w : World) (e : Ending) (w' : World) : Prop := e = .returned (.bool v) ∧ Below w.heap.size w w'
set_option maxHeartbeats 4000000 in
theorem begins_calls (s : ByteArray) (i : Nat) (w : World) (hi : i ≤ s.size) (hs : (s.size : Int) ≤ 9223372036854775807) :
    Calls Tryd.prog 36 #[.string s, .int .i64 (i : Int)] w (BPost (hol ((bs s).drop i)) w) := by
  have hiI : (i : Int) ≤ s.size := by omega
  have h0 : (0 : Int) ≤ i := by omega
  obtain ⟨x, hx⟩ : ∃ x, s.extract i s.size = x := ⟨_, rfl⟩
  have hxb : (bs s).drop i = bs x := by rw [← hx, bs_tail]
  have hxs : (x.size : Int) ≤ 9223372036854775807 := by rw [← hx, size_tail]; omega
  rw [hxb]
  obtain ⟨a, b, c, ha, hb, hc, hh⟩ := hol_one (bs x)
  rw [hh]
  have A := Lib.hid fun w => pre_calls x ⟨#[36, 40]⟩ w hxs (by decide)
  have B := Lib.hid fun w => pre_calls x ⟨#[36, 123]⟩ w hxs (by decide)
  have C := Lib.hid fun w => pre_calls x ⟨#[96]⟩ w hxs (by decide)
  have ea : (bs { data := #[36, 40] }).isPrefixOf (bs x) = a := ha.symm
  have eb : (bs { data := #[36, 123] }).isPrefixOf (bs x) = b := hb.symm
  have ec : (bs { data := #[96] }).isPrefixOf (bs x) = c := hc.symm
  rw [ea] at A
  rw [eb] at B
  rw [ec] at C
  clear ha hb hc ea eb ec hh hxb
  go_enter Tryd.func36, Tryd.ntmps36
  go_wp2_with fail
  refine (A.out _).mono ?_
  rintro e w1 ⟨rfl, rfl⟩
  cases a
  · go_wp2_with fail
    refine (B.out _).mono ?_
    rintro e w1 ⟨rfl, rfl⟩
    cases b
    · go_wp2_with fail
      refine (C.out _).mono ?_
      rintro e w1 ⟨rfl, rfl⟩
      go_wp2_with fail
      go_ret
      exact ⟨rfl, Below.refl _ _⟩
    · go_wp2_with fail
      go_ret
      exact ⟨rfl, Below.refl _ _⟩
  · go_wp2_with fail
    go_ret
    exact ⟨rfl, Below.refl _ _⟩
/-- The place behind: what is left is known. -/
def pl (n : Nat) (o : Option Bytes) : Int := match o with | none => -1 | some r => (n : Int) - r.length
/-- A place, or none: what is left. -/
inductive At (s : ByteArray) : Option Bytes → Int → Prop
  | no : At s none (-1)
  | yes (k : Nat) (h : k ≤ s.size) : At s (some ((bs s).drop k)) (k : Int)
theorem at_of (s : ByteArray) {o : Option Bytes} (h : ∀ r, o = some r → r <:+ bs s) : At s o (pl s.size o) := by
  cases o with
  | none => exact .no
  | some r =>
    have h1 := h r rfl
    have h2 := h1.length_le
    rw [bs_length] at h2
    have h3 := List.suffix_iff_eq_drop.1 h1
    rw [bs_length] at h3
    have e : pl s.size (some r) = ((s.size - r.length : Nat) : Int) := by show (s.size : Int) - (r.length : Int) = _; omega
    rw [e]
    conv => arg 2; rw [h3]
    exact .yes _ (by omega)
theorem drop_suf (s : ByteArray) (k : Nat) {r : Bytes} (h : r <:+ (bs s).drop k) : r <:+ bs s := h.trans (List.drop_suffix k _)
/-- The contracts of the four that call one another, up to a length of what is left. -/
def UntilC (s : ByteArray) (n : Nat) : Prop := ∀ (i : Nat) (w : World), i ≤ s.size → s.size - i ≤ n →
  Calls Tryd.prog 51 #[.string s, .int .i64 (i : Int), .int .u8 34, .bool true] w (NPost (pl s.size (M [34] ((bs s).drop i))) w) ∧
  Calls Tryd.prog 51 #[.string s, .int .i64 (i : Int), .int .u8 96, .bool false] w (NPost (pl s.size (M [96] ((bs s).drop i))) w)
def WithinC (s : ByteArray) (n : Nat) : Prop := ∀ (i : Nat) (w : World), i ≤ s.size → s.size - i ≤ n →
  Calls Tryd.prog 52 #[.string s, .int .i64 (i : Int), .int .u8 40, .int .u8 41] w (NPost (pl s.size (M [40] ((bs s).drop i))) w) ∧
  Calls Tryd.prog 52 #[.string s, .int .i64 (i : Int), .int .u8 0, .int .u8 125] w (NPost (pl s.size (M [123] ((bs s).drop i))) w)
def HoleC (s : ByteArray) (n : Nat) : Prop := ∀ (i : Nat) (w : World), i ≤ s.size → s.size - i ≤ n → hol ((bs s).drop i) = true →
  Calls Tryd.prog 37 #[.string s, .int .i64 (i : Int)] w (NPost (pl s.size (holeL ((bs s).drop i))) w)
/-- The place behind a whole; where there is none, the place itself. -/
def whI (s : ByteArray) (i : Nat) : Int := match wh ((bs s).drop i) with | none => (i : Int) | some o => pl s.size o
def WholeC (s : ByteArray) (n : Nat) : Prop := ∀ (i : Nat) (w : World), i < s.size → s.size - i ≤ n →
  Calls Tryd.prog 47 #[.string s, .int .i64 (i : Int)] w (NPost (whI s i) w)
def Small (s : ByteArray) : Prop := (s.size : Int) ≤ 1000000
theorem toNat_ne {c : UInt8} {k : Nat} (hk : k < 256) (h : c ≠ UInt8.ofNat k) : (((c.toNat : Nat) : Int) == (k : Int)) = false := by
  rw [u8_lit c k hk]; exact beq_eq_false_iff_ne.2 h
set_option maxRecDepth 100000 in
set_option maxHeartbeats 4000000 in
theorem hole_of (s : ByteArray) (n : Nat) (hs : Small s) (HU : UntilC s n) (HW : WithinC s n) : HoleC s (n + 1) := by
  intro i w hi hn hh
  have hsz : (s.size : Int) ≤ 9223372036854775807 := by have := hs; unfold Small at this; omega
  have hi1 : i < s.size := by
    rcases Nat.lt_or_ge i s.size with h | h
    · exact h
    · rw [List.drop_eq_nil_of_le (by rw [bs_length]; exact h)] at hh; cases hh
  have hi1I : (i : Int) < s.size := by omega
  have h0 : (0 : Int) ≤ i := by omega
  have hbI : (i : Int) ≤ 1000000 := by unfold Small at hs; omega
  have hd := bs_drop s i hi1
  rw [hd] at hh
  rw [hd, holeL_cons]
  by_cases c96 : s[i] = 96
  · rw [if_pos c96]
    have b96 : (((s[i].toNat : Nat) : Int) == 96) = true := by rw [q96, c96]; rfl
    have HH := (HU (i + 1) w (by omega) (by omega)).2
    rw [show ((i + 1 : Nat) : Int) = (i : Int) + 1 by omega] at HH
    have HH := Lib.hid HH
    clear hd hh HU HW c96
    go_enter Tryd.func37, Tryd.ntmps37
    go_wp2_with fail
    refine HH.out.mono ?_
    rintro e w1 ⟨rfl, hB⟩
    go_wp2_with fail
    go_ret
    exact ⟨rfl, hB⟩
  · rw [if_neg c96]
    have b96 : (((s[i].toNat : Nat) : Int) == 96) = false := by rw [q96]; simpa using c96
    have hi2 : i + 1 < s.size := by
      rcases Nat.lt_or_ge (i + 1) s.size with h | h
      · exact h
      · rw [List.drop_eq_nil_of_le (by rw [bs_length]; exact h)] at hh
        unfold hol at hh; simp [c96] at hh
    have hi2I : (i : Int) + 1 < s.size := by omega
    have hd2 := bs_drop s (i + 1) hi2
    have hx : (bs s)[i + 1]? = some s[i + 1] := bs_get s (i + 1) hi2
    rw [hd2] at hh
    have hc : s[i + 1] = 40 ∨ s[i + 1] = 123 := by
      unfold hol at hh; simp [c96] at hh; exact hh.2
    rw [hd2]
    show Calls _ _ _ _ (NPost (pl s.size (M [s[i + 1]] ((bs s).drop (i + 1 + 1)))) w)
    have HH := HW (i + 2) w (by omega) (by omega)
    rw [show ((i + 2 : Nat) : Int) = (i : Int) + 2 by omega] at HH
    have HH := Lib.hid HH
    obtain ⟨d, hdd⟩ : ∃ d, d = s[i + 1] := ⟨_, rfl⟩
    rw [← hdd] at hc
    rw [← hdd]
    clear hd hd2 hh HU HW c96 hx
    rcases hc with rfl | rfl
    · have d1 : (((s[i + 1].toNat : Nat) : Int) == 123) = false := by rw [q123, ← hdd]; rfl
      clear hdd
      go_enter Tryd.func37, Tryd.ntmps37
      go_wp2_with fail
      refine HH.out.1.mono ?_
      rintro e w1 ⟨rfl, hB⟩
      go_wp2_with fail
      go_ret
      exact ⟨rfl, hB⟩
    · have d1 : (((s[i + 1].toNat : Nat) : Int) == 123) = true := by rw [q123, ← hdd]; rfl
      clear hdd
      go_enter Tryd.func37, Tryd.ntmps37
      go_wp2_with fail
      refine HH.out.2.mono ?_
      rintro e w1 ⟨rfl, hB⟩
      go_wp2_with fail
      go_ret
      exact ⟨rfl, hB⟩
end Go.Proofs.YtlhkochpokhncaaDoor.Lexer
