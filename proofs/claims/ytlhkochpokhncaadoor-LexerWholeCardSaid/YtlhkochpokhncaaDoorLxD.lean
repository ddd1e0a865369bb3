/- until, whole, within walked. -/
import Derived.Test.YtlhkochpokhncaaDoorLxC
namespace Go.Proofs.YtlhkochpokhncaaDoor.Lexer
open Go.RowKit Go.Proofs.YtlhkochpokhncaaDoor Go.Proofs.YtlhkochpokhncaaDoor.Hp
set_option linter.unusedVariables false
attribute [local go_sem] Oper.semAt_some

/-- A loop's place: what is left is known. -/
def PlRel (s : ByteArray) (F : Bytes → Option Bytes) (T : Option Bytes) (w : World) (lo : Nat) (g : Nat) (iv : Value) (wr : World) : Prop :=
  ∃ z : Int, iv = .int .i64 z ∧ Below w.heap.size w wr ∧ ((∃ k : Nat, z = (k : Int) ∧ lo ≤ k ∧ k ≤ s.size ∧ s.size - k + 1 ≤ g ∧ T = F ((bs s).drop k)) ∨ (z = -1 ∧ T = none))
theorem drop_end (s : ByteArray) (k : Nat) (h : s.size ≤ k) : (bs s).drop k = [] := List.drop_eq_nil_of_le (by rw [bs_length]; exact h)
theorem esc_rel {s : ByteArray} {F : Bytes → Option Bytes} {T : Option Bytes} {w wr : World} {lo g k : Nat} (hlo : lo ≤ k) (hB : Below w.heap.size w wr) (hk : k < s.size) (hg : s.size - k + 1 ≤ g)
    (hT : T = match (bs s).drop (k + 1) with | [] => none | _ :: r => F r) : PlRel s F T w lo (g - 1) (.int .i64 (if (s.size : Int) < (k : Int) + 2 then -1 else (k : Int) + 2)) wr := by
  by_cases h : (s.size : Int) < (k : Int) + 2
  · rw [if_pos h]
    rw [drop_end s (k + 1) (by omega)] at hT
    exact ⟨-1, rfl, hB, .inr ⟨rfl, hT⟩⟩
  · rw [if_neg h]
    rw [bs_drop s (k + 1) (by omega)] at hT
    exact ⟨(k : Int) + 2, rfl, hB, .inl ⟨k + 2, by omega, by omega, by omega, by omega, hT⟩⟩
theorem bind_rel {s : ByteArray} {F : Bytes → Option Bytes} {T o : Option Bytes} {w wr : World} {lo g k : Nat} (hlo : lo ≤ k) (hB : Below w.heap.size w wr) (hk : k < s.size) (hg : s.size - k + 1 ≤ g)
    (hs : ∀ r, o = some r → r <:+ (bs s).drop k ∧ r.length < ((bs s).drop k).length) (hT : T = o.bind F) : PlRel s F T w lo (g - 1) (.int .i64 (pl s.size o)) wr := by
  have ha := at_of s (o := o) fun r h => drop_suf s k (hs r h).1
  cases o with
  | none => exact ⟨-1, rfl, hB, .inr ⟨rfl, hT⟩⟩
  | some r =>
    obtain ⟨h1, h2⟩ := hs r rfl
    rw [List.length_drop, bs_length] at h2
    have h3 := List.suffix_iff_eq_drop.1 (drop_suf s k h1)
    rw [bs_length] at h3
    refine ⟨pl s.size (some r), rfl, hB, .inl ⟨s.size - r.length, ?_, by omega, by omega, by omega, ?_⟩⟩
    · show (s.size : Int) - (r.length : Int) = _; omega
    · rw [hT]; show F r = _; rw [← h3]
theorem next_rel {s : ByteArray} {F : Bytes → Option Bytes} {T : Option Bytes} {w wr : World} {lo g k : Nat} (hlo : lo ≤ k) (hB : Below w.heap.size w wr) (hk : k < s.size) (hg : s.size - k + 1 ≤ g) (hT : T = F ((bs s).drop (k + 1))) : PlRel s F T w lo (g - 1) (.int .i64 ((k : Int) + 1)) wr :=
  ⟨(k : Int) + 1, rfl, hB, .inl ⟨k + 1, by omega, by omega, by omega, by omega, hT⟩⟩
theorem hole_suf2 {l : Bytes} : ∀ r, holeL l = some r → r <:+ l ∧ r.length < l.length := fun r h => ⟨hole_suf h, hole_len h⟩
theorem pl_next (s : ByteArray) (k : Nat) (hk : k < s.size) : pl s.size (some ((bs s).drop (k + 1))) = (k : Int) + 1 := by
  show (s.size : Int) - ((((bs s).drop (k + 1)).length : Nat) : Int) = _
  rw [List.length_drop, bs_length]; omega
set_option maxRecDepth 100000 in
set_option maxHeartbeats 8000000 in
theorem until34_of (s : ByteArray) (n : Nat) (hs : Small s) (HH : HoleC s n) (i : Nat) (w : World) (hi : i ≤ s.size) (hn : s.size - i ≤ n) :
    Calls Tryd.prog 51 #[.string s, .int .i64 (i : Int), .int .u8 34, .bool true] w (NPost (pl s.size (M [34] ((bs s).drop i))) w) := by
  have hsz : (s.size : Int) ≤ 1000000 := hs
  obtain ⟨T, hT⟩ : ∃ T, T = M [34] ((bs s).drop i) := ⟨_, rfl⟩
  rw [← hT]
  have HT := Lib.hid hT
  have HHi := Lib.hid HH
  have Hin := Lib.hid (And.intro hi hn)
  clear hT HH hi hn hs
  go_enter Tryd.func51, Tryd.ntmps51
  go_wp2_with fail
  go_loopg [1] (s.size - i + 1) (PlRel s (M [34]) T w i)
  case atStart => exact ⟨(i : Int), rfl, Below.refl _ _, .inl ⟨i, rfl, Nat.le_refl _, Hin.out.1, Nat.le_refl _, HT.out⟩⟩
  case round =>
    obtain ⟨z, rfl, hB, hz⟩ := hrel
    rcases hz with ⟨k, rfl, hik, hk, hg, hTk⟩ | ⟨rfl, hTn⟩
    · have hkn : s.size - k ≤ n := by have := Hin.out.2; omega
      have hk0 : (0 : Int) ≤ k := by omega
      have Hik := Lib.hid (And.intro hik hkn)
      clear hkn
      by_cases hlt : k < s.size
      · have hltI : (k : Int) < s.size := by omega
        have hd := bs_drop s k hlt
        rw [hd] at hTk
        obtain ⟨c, hc⟩ : ∃ c, c = s[k] := ⟨_, rfl⟩
        rw [← hc] at hTk hd
        rw [M_quote] at hTk
        by_cases cE : c = 34
        · rw [if_pos cE] at hTk
          have bE : (((s[k].toNat : Nat) : Int) == 34) = true := by rw [q34, ← hc, cE]; rfl
          have hv : pl s.size T = (k : Int) + 1 := by rw [hTk]; exact pl_next s k hlt
          rw [hv]
          clear hd hTk hc hg cE hv
          go_wp2_with fail
          go_ret
          exact ⟨rfl, hB⟩
        · rw [if_neg cE] at hTk
          have bE : (((s[k].toNat : Nat) : Int) == 34) = false := by rw [q34, ← hc]; exact beq_eq_false_iff_ne.2 cE
          by_cases c92 : c = 92
          · rw [if_pos c92] at hTk
            have b92 : (((s[k].toNat : Nat) : Int) == 92) = true := by rw [q92, ← hc, c92]; rfl
            have HE := Lib.hid (fun W (h : Below w.heap.size w W) => esc_rel (F := M [34]) (wr := W) hik h hlt hg hTk)
            have Hg := Lib.hid hg
            clear hd hTk hc hg cE c92
            go_wp2_with fail
            refine (escaped_calls s k wr hk0 (by omega) (by omega)).mono ?_
            rintro e w1 ⟨rfl, hB1⟩
            have HB := Lib.hid (hB.trans (hB1.mono hB.size))
            have hrel2 := Lib.hid (HE.out w1 HB.out)
            clear HE hB hB1
            obtain ⟨z, hz⟩ : ∃ z, z = (if (s.size : Int) < (k : Int) + 2 then -1 else (k : Int) + 2) := ⟨_, rfl⟩
            rw [← hz]
            rw [← hz] at hrel2
            clear hz
            go_wp2_with fail
            go_roundg (gk - 1)
            case measure => have := Hg.out; omega
            case rel => exact hrel2.out
          · rw [if_neg c92] at hTk
            have b92 : (((s[k].toNat : Nat) : Int) == 92) = false := by rw [q92, ← hc]; exact beq_eq_false_iff_ne.2 c92
            by_cases hh : hol (c :: (bs s).drop (k + 1)) = true
            · rw [if_pos hh, ← hd] at hTk
              rw [← hd] at hh
              have HB0 := Lib.hid (begins_calls s k wr hk (by omega))
              rw [hh] at HB0
              have HC := Lib.hid (fun w => HHi.out k w hk Hik.out.2 hh)
              have HR := Lib.hid (fun W (h : Below w.heap.size w W) => bind_rel (F := M [34]) (wr := W) hik h hlt hg hole_suf2 hTk)
              have Hg := Lib.hid hg
              clear hd hTk hc hg cE c92 hh
              go_wp2_with fail
              refine HB0.out.mono ?_
              rintro e w1 ⟨rfl, hB1⟩
              have hB2 := hB.trans (hB1.mono hB.size)
              clear HB0 hB1 hB
              go_wp2_with fail
              refine (HC.out _).mono ?_
              rintro e w2 ⟨rfl, hB3⟩
              have hB4 := Lib.hid (hB2.trans (Below.mono (h := hB3) hB2.size))
              have hrel2 := Lib.hid (HR.out w2 hB4.out)
              obtain ⟨z, hz⟩ : ∃ z, z = pl s.size (holeL ((bs s).drop k)) := ⟨_, rfl⟩
              rw [← hz]
              rw [← hz] at hrel2
              clear hz HC HR hB2 hB3
              go_wp2_with fail
              go_roundg (gk - 1)
              case measure => have := Hg.out; omega
              case rel => exact hrel2.out
            · rw [if_neg hh] at hTk
              rw [← hd] at hh
              have hh2 : hol ((bs s).drop k) = false := by simpa using hh
              have HB0 := Lib.hid (begins_calls s k wr hk (by omega))
              rw [hh2] at HB0
              have HR := Lib.hid (fun W (h : Below w.heap.size w W) => next_rel (F := M [34]) (wr := W) hik h hlt hg hTk)
              have Hg := Lib.hid hg
              clear hd hTk hc hg cE c92 hh hh2
              go_wp2_with fail
              refine HB0.out.mono ?_
              rintro e w1 ⟨rfl, hB1⟩
              have hB2 := Lib.hid (hB.trans (hB1.mono hB.size))
              clear HB0 hB1 hB
              go_wp2_with fail
              go_roundg (gk - 1)
              case measure => have := Hg.out; omega
              case rel => exact HR.out _ hB2.out
      · have hltI : ¬ ((k : Int) < s.size) := by omega
        rw [drop_end s k (by omega)] at hTk
        have hv : pl s.size T = -1 := by rw [hTk]; show pl s.size (M [34] []) = _; rw [M_frame_nil]; rfl
        have HV := Lib.hid hv
        clear hTk hg hv
        go_wp2_with fail
        go_ret
        exact ⟨by rw [HV.out]; rfl, hB⟩
    · have hv : pl s.size T = -1 := by rw [hTn]; rfl
      have HV := Lib.hid hv
      clear hTn hv
      go_wp2_with fail
      go_ret
      exact ⟨by rw [HV.out]; rfl, hB⟩
set_option maxRecDepth 100000 in
set_option maxHeartbeats 8000000 in
theorem until96_of (s : ByteArray) (n : Nat) (hs : Small s) (HH : HoleC s n) (i : Nat) (w : World) (hi : i ≤ s.size) (hn : s.size - i ≤ n) :
    Calls Tryd.prog 51 #[.string s, .int .i64 (i : Int), .int .u8 96, .bool false] w (NPost (pl s.size (M [96] ((bs s).drop i))) w) := by
  have hsz : (s.size : Int) ≤ 1000000 := hs
  obtain ⟨T, hT⟩ : ∃ T, T = M [96] ((bs s).drop i) := ⟨_, rfl⟩
  rw [← hT]
  have HT := Lib.hid hT
  have HHi := Lib.hid HH
  have Hin := Lib.hid (And.intro hi hn)
  clear hT HH hi hn hs
  go_enter Tryd.func51, Tryd.ntmps51
  go_wp2_with fail
  go_loopg [1] (s.size - i + 1) (PlRel s (M [96]) T w i)
  case atStart => exact ⟨(i : Int), rfl, Below.refl _ _, .inl ⟨i, rfl, Nat.le_refl _, Hin.out.1, Nat.le_refl _, HT.out⟩⟩
  case round =>
    obtain ⟨z, rfl, hB, hz⟩ := hrel
    rcases hz with ⟨k, rfl, hik, hk, hg, hTk⟩ | ⟨rfl, hTn⟩
    · have hkn : s.size - k ≤ n := by have := Hin.out.2; omega
      have hk0 : (0 : Int) ≤ k := by omega
      have Hik := Lib.hid (And.intro hik hkn)
      clear hkn
      by_cases hlt : k < s.size
      · have hltI : (k : Int) < s.size := by omega
        have hd := bs_drop s k hlt
        rw [hd] at hTk
        obtain ⟨c, hc⟩ : ∃ c, c = s[k] := ⟨_, rfl⟩
        rw [← hc] at hTk hd
        rw [M_tick] at hTk
        by_cases cE : c = 96
        · rw [if_pos cE] at hTk
          have bE : (((s[k].toNat : Nat) : Int) == 96) = true := by rw [q96, ← hc, cE]; rfl
          have hv : pl s.size T = (k : Int) + 1 := by rw [hTk]; exact pl_next s k hlt
          rw [hv]
          clear hd hTk hc hg cE hv
          go_wp2_with fail
          go_ret
          exact ⟨rfl, hB⟩
        · rw [if_neg cE] at hTk
          have bE : (((s[k].toNat : Nat) : Int) == 96) = false := by rw [q96, ← hc]; exact beq_eq_false_iff_ne.2 cE
          by_cases c92 : c = 92
          · rw [if_pos c92] at hTk
            have b92 : (((s[k].toNat : Nat) : Int) == 92) = true := by rw [q92, ← hc, c92]; rfl
            have HE := Lib.hid (fun W (h : Below w.heap.size w W) => esc_rel (F := M [96]) (wr := W) hik h hlt hg hTk)
            have Hg := Lib.hid hg
            clear hd hTk hc hg cE c92
            go_wp2_with fail
            refine (escaped_calls s k wr hk0 (by omega) (by omega)).mono ?_
            rintro e w1 ⟨rfl, hB1⟩
            have HB := Lib.hid (hB.trans (hB1.mono hB.size))
            have hrel2 := Lib.hid (HE.out w1 HB.out)
            clear HE hB hB1
            obtain ⟨z, hz⟩ : ∃ z, z = (if (s.size : Int) < (k : Int) + 2 then -1 else (k : Int) + 2) := ⟨_, rfl⟩
            rw [← hz]
            rw [← hz] at hrel2
            clear hz
            go_wp2_with fail
            go_roundg (gk - 1)
            case measure => have := Hg.out; omega
            case rel => exact hrel2.out
          · rw [if_neg c92] at hTk
            have b92 : (((s[k].toNat : Nat) : Int) == 92) = false := by rw [q92, ← hc]; exact beq_eq_false_iff_ne.2 c92
            have HR := Lib.hid (fun W (h : Below w.heap.size w W) => next_rel (F := M [96]) (wr := W) hik h hlt hg hTk)
            have Hg := Lib.hid hg
            clear hd hTk hc hg cE c92
            go_wp2_with fail
            go_roundg (gk - 1)
            case measure => have := Hg.out; omega
            case rel => exact HR.out _ hB
      · have hltI : ¬ ((k : Int) < s.size) := by omega
        rw [drop_end s k (by omega)] at hTk
        have hv : pl s.size T = -1 := by rw [hTk]; show pl s.size (M [96] []) = _; rw [M_frame_nil]; rfl
        have HV := Lib.hid hv
        clear hTk hg hv
        go_wp2_with fail
        go_ret
        exact ⟨by rw [HV.out]; rfl, hB⟩
    · have hv : pl s.size T = -1 := by rw [hTn]; rfl
      have HV := Lib.hid hv
      clear hTn hv
      go_wp2_with fail
      go_ret
      exact ⟨by rw [HV.out]; rfl, hB⟩
theorem until_of (s : ByteArray) (n : Nat) (hs : Small s) (HH : HoleC s n) : UntilC s n := fun i w hi hn => ⟨until34_of s n hs HH i w hi hn, until96_of s n hs HH i w hi hn⟩
end Go.Proofs.YtlhkochpokhncaaDoor.Lexer
