/- within walked; the four that call one another, joined; word. -/
import Derived.Test.YtlhkochpokhncaaDoorLxE
namespace Go.Proofs.YtlhkochpokhncaaDoor.Lexer
open Go.RowKit Go.Proofs.YtlhkochpokhncaaDoor Go.Proofs.YtlhkochpokhncaaDoor.Hp
set_option linter.unusedVariables false
attribute [local go_sem] Oper.semAt_some

def WiRel (s : ByteArray) (a : UInt8) (T : Option Bytes) (w : World) (lo : Nat) (g : Nat) (iv dv : Value) (wr : World) : Prop :=
  ∃ (d : Nat) (z : Int), iv = .int .i64 z ∧ dv = .int .i64 (d : Int) ∧ Below w.heap.size w wr ∧ 1 ≤ d ∧ (d : Int) ≤ 1000001 ∧
    ((∃ k : Nat, z = (k : Int) ∧ lo ≤ k ∧ k ≤ s.size ∧ s.size - k + 1 ≤ g ∧ d ≤ k + 1 ∧ (a = 123 → d = 1) ∧ T = M (List.replicate d a) ((bs s).drop k)) ∨ (z = -1 ∧ T = none))
theorem wi_of {s : ByteArray} {a : UInt8} {T : Option Bytes} {w wr : World} {lo k g d : Nat} {iv : Value} (h : PlRel s (M (List.replicate d a)) T w k g iv wr) (hlo : lo ≤ k) (h1 : 1 ≤ d) (h2 : d ≤ k + 1) (h3 : a = 123 → d = 1) (hs : Small s) (hk : k ≤ s.size) : WiRel s a T w lo g iv (.int .i64 (d : Int)) wr := by
  obtain ⟨z, rfl, hB, hz⟩ := h
  refine ⟨d, z, rfl, rfl, hB, h1, by unfold Small at hs; omega, ?_⟩
  rcases hz with ⟨k', rfl, h4, h5, h6, h7⟩ | h
  · exact .inl ⟨k', rfl, by omega, h5, h6, by omega, h3, h7⟩
  · exact .inr h
theorem wh_suf2 {l : Bytes} {o : Option Bytes} (h : wh l = some o) : ∀ r, o = some r → r <:+ l ∧ r.length < l.length := fun r hr => by subst hr; exact ⟨wh_suf h, wh_len h⟩
theorem pl_ne {s : ByteArray} {k : Nat} {o : Option Bytes} (hk : k < s.size) (h : ∀ r, o = some r → r <:+ (bs s).drop k ∧ r.length < ((bs s).drop k).length) : (pl s.size o != (k : Int)) = true := by
  rw [bne_iff_ne]
  cases o with
  | none => show (-1 : Int) ≠ _; omega
  | some r =>
    have := (h r rfl).2
    rw [List.length_drop, bs_length] at this
    show (s.size : Int) - (r.length : Int) ≠ _
    omega
set_option maxRecDepth 100000 in
set_option maxHeartbeats 8000000 in
theorem within40_of (s : ByteArray) (n : Nat) (hs : Small s) (HW : WholeC s n) (i : Nat) (w : World) (hi : i ≤ s.size) (hn : s.size - i ≤ n) :
    Calls Tryd.prog 52 #[.string s, .int .i64 (i : Int), .int .u8 40, .int .u8 41] w (NPost (pl s.size (M [40] ((bs s).drop i))) w) := by
  have hsz : (s.size : Int) ≤ 1000000 := hs
  obtain ⟨T, hT⟩ : ∃ T, T = M [40] ((bs s).drop i) := ⟨_, rfl⟩
  rw [← hT]
  have HT := Lib.hid hT
  have HWi := Lib.hid HW
  have Hin := Lib.hid (And.intro hi (And.intro hn hs))
  clear hT HW hi hn hs
  go_enter Tryd.func52, Tryd.ntmps52
  go_wp2_with fail
  go_loopg [1, 9, 10] (s.size - i + 1) (fun g iv dv _ wr => WiRel s 40 T w i g iv dv wr)
  case atStart => exact ⟨1, (i : Int), rfl, rfl, Below.refl _ _, Nat.le_refl _, by decide, .inl ⟨i, rfl, Nat.le_refl _, Hin.out.1, Nat.le_refl _, by omega, fun _ => rfl, HT.out⟩⟩
  case round =>
    obtain ⟨d, z, rfl, rfl, hB, hd1, hd2, hz⟩ := hrel
    have hd1I : (1 : Int) ≤ d := by omega
    rcases hz with ⟨k, rfl, hik, hk, hg, hdk, ha, hTk⟩ | ⟨rfl, hTn⟩
    · have hkn : s.size - k ≤ n := by have := Hin.out.2; omega
      have hk0 : (0 : Int) ≤ k := by omega
      by_cases hlt : k < s.size
      · have hltI : (k : Int) < s.size := by omega
        have hd := bs_drop s k hlt
        have hTk0 := hTk
        obtain ⟨f, rfl⟩ : ∃ f, d = f + 1 := ⟨d - 1, by omega⟩
        rw [List.replicate_succ, hd, M_frame 40 (by decide)] at hTk
        have hw := HWi.out k wr hlt hkn
        have hwI : whI s k = (match wh ((bs s).drop k) with | none => (k : Int) | some o => pl s.size o) := rfl
        rw [← hd] at hTk
        match hwh : wh ((bs s).drop k) with
        | some o =>
          rw [hwh] at hTk hwI
          have hTk2 : T = o.bind (M (List.replicate (f + 1) 40)) := hTk
          have hne := pl_ne hlt (wh_suf2 hwh)
          have hwI2 : whI s k = pl s.size o := hwI
          rw [hwI2] at hw
          have HR := Lib.hid (fun W (h : Below w.heap.size w W) => wi_of (bind_rel (F := M (List.replicate (f + 1) 40)) (wr := W) (Nat.le_refl k) h hlt hg (wh_suf2 hwh) hTk2) hik hd1 hdk ha Hin.out.2.2 hk)
          have Hw := Lib.hid hw
          have Hg := Lib.hid hg
          obtain ⟨v, hv⟩ : ∃ v, v = pl s.size o := ⟨_, rfl⟩
          rw [← hv] at Hw HR hne
          clear hv hw hwI hwI2 hTk hTk2 hTk0 hd hwh ha hg
          go_wp2_with fail
          refine Hw.out.mono ?_
          rintro e w1 ⟨rfl, hB1⟩
          have hB2 := Lib.hid (hB.trans (Below.mono (h := hB1) hB.size))
          clear Hw hB hB1
          go_wp2_with fail
          go_roundg (gk - 1)
          case measure => have := Hg.out; omega
          case rel => exact HR.out _ hB2.out
        | none =>
          rw [hwh] at hTk hwI
          have hwI2 : whI s k = (k : Int) := hwI
          rw [hwI2] at hw
          have Hw := Lib.hid hw
          obtain ⟨c, hc⟩ : ∃ c, c = s[k] := ⟨_, rfl⟩
          have hTk2 : T = (if (40 : UInt8) = 40 ∧ s[k] = 40 then M (40 :: 40 :: List.replicate f 40) ((bs s).drop (k + 1)) else if ((40 : UInt8) = 40 ∧ s[k] = 41) ∨ ((40 : UInt8) = 123 ∧ s[k] = 125) then M (List.replicate f 40) ((bs s).drop (k + 1)) else M (40 :: List.replicate f 40) ((bs s).drop (k + 1))) := hTk
          rw [← hc] at hTk2
          clear hTk hwI hwI2 hw hwh hd hTk0
          have Hg := Lib.hid hg
          clear hg
          by_cases cM : c = 40
          · rw [if_pos ⟨rfl, cM⟩] at hTk2
            have bM : (((s[k].toNat : Nat) : Int) == 40) = true := by rw [q40, ← hc, cM]; rfl
            have bE : (((s[k].toNat : Nat) : Int) == 41) = false := by rw [q41, ← hc, cM]; rfl
            have HT2 := Lib.hid hTk2
            have hf9 : ((f : Int) + 1 + 1 == 0) = false := by rw [beq_eq_false_iff_ne]; omega
            clear hTk2 hc cM ha
            go_wp2_with fail
            refine Hw.out.mono ?_
            rintro e w1 ⟨rfl, hB1⟩
            have hB2 := Lib.hid (hB.trans (Below.mono (h := hB1) hB.size))
            clear Hw hB hB1
            go_wp2_with fail
            go_roundg (gk - 1)
            case measure => have := Hg.out; omega
            case rel => exact ⟨f + 1 + 1, (k : Int) + 1, rfl, by go_num, hB2.out, by omega, by omega, .inl ⟨k + 1, by omega, by omega, by omega, by have := Hg.out; omega, by omega, (fun h => by cases h), HT2.out⟩⟩
          · rw [if_neg (fun h => cM h.2)] at hTk2
            have bM : (((s[k].toNat : Nat) : Int) == 40) = false := by rw [q40, ← hc]; exact beq_eq_false_iff_ne.2 cM
            by_cases cE : c = 41
            · rw [if_pos (.inl ⟨rfl, cE⟩)] at hTk2
              have bE : (((s[k].toNat : Nat) : Int) == 41) = true := by rw [q41, ← hc, cE]; rfl
              by_cases hf : f = 0
              · subst hf
                have hv : pl s.size T = (k : Int) + 1 := by rw [hTk2, List.replicate_zero, M_nil]; exact pl_next s k hlt
                have HV := Lib.hid hv
                clear hTk2 hc cE hv ha
                go_wp2_with fail
                refine Hw.out.mono ?_
                rintro e w1 ⟨rfl, hB1⟩
                have hB2 := Lib.hid (hB.trans (Below.mono (h := hB1) hB.size))
                clear Hw hB hB1
                go_wp2_with fail
                go_ret
                exact ⟨by rw [HV.out]; rfl, hB2.out⟩
              · have hf1 : (1 : Int) ≤ f := by omega
                have HT2 := Lib.hid hTk2
                have hf9 : ((f : Int) == 0) = false := by rw [beq_eq_false_iff_ne]; omega
                clear hTk2 hc cE ha
                go_wp2_with fail
                refine Hw.out.mono ?_
                rintro e w1 ⟨rfl, hB1⟩
                have hB2 := Lib.hid (hB.trans (Below.mono (h := hB1) hB.size))
                clear Hw hB hB1
                go_wp2_with fail
                go_roundg (gk - 1)
                case measure => have := Hg.out; omega
                case rel => exact ⟨f, (k : Int) + 1, rfl, by go_num, hB2.out, by omega, by omega, .inl ⟨k + 1, by omega, by omega, by omega, by have := Hg.out; omega, by omega, (fun h => by cases h), HT2.out⟩⟩
            · rw [if_neg (fun h => (by rcases h with h | h; exact cE h.2; cases h.1))] at hTk2
              have bE : (((s[k].toNat : Nat) : Int) == 41) = false := by rw [q41, ← hc]; exact beq_eq_false_iff_ne.2 cE
              have HT2 := Lib.hid hTk2
              have Ha := Lib.hid ha
              have hf9 : ((f : Int) + 1 == 0) = false := by rw [beq_eq_false_iff_ne]; omega
              clear hTk2 hc cE ha
              go_wp2_with fail
              refine Hw.out.mono ?_
              rintro e w1 ⟨rfl, hB1⟩
              have hB2 := Lib.hid (hB.trans (Below.mono (h := hB1) hB.size))
              clear Hw hB hB1
              go_wp2_with fail
              go_roundg (gk - 1)
              case measure => have := Hg.out; omega
              case rel => exact ⟨f + 1, (k : Int) + 1, rfl, rfl, hB2.out, by omega, by omega, .inl ⟨k + 1, by omega, by omega, by omega, by have := Hg.out; omega, by omega, (fun h => by cases h), HT2.out⟩⟩
      · have hltI : ¬ ((k : Int) < s.size) := by omega
        rw [drop_end s k (by omega)] at hTk
        obtain ⟨f, rfl⟩ : ∃ f, d = f + 1 := ⟨d - 1, by omega⟩
        have hv : pl s.size T = -1 := by rw [hTk, List.replicate_succ, M_frame_nil]; rfl
        have HV := Lib.hid hv
        clear hTk hg hv ha
        go_wp2_with fail
        go_ret
        exact ⟨by rw [HV.out]; rfl, hB⟩
    · have hv : pl s.size T = -1 := by rw [hTn]; rfl
      have HV := Lib.hid hv
      clear hTn hv
      go_wp2_with fail
      go_ret
      exact ⟨by rw [HV.out]; rfl, hB⟩
set_option maxRecDepth 100000 in
set_option maxHeartbeats 8000000 in
theorem within123_of (s : ByteArray) (n : Nat) (hs : Small s) (HW : WholeC s n) (i : Nat) (w : World) (hi : i ≤ s.size) (hn : s.size - i ≤ n) :
    Calls Tryd.prog 52 #[.string s, .int .i64 (i : Int), .int .u8 0, .int .u8 125] w (NPost (pl s.size (M [123] ((bs s).drop i))) w) := by
  have hsz : (s.size : Int) ≤ 1000000 := hs
  obtain ⟨T, hT⟩ : ∃ T, T = M [123] ((bs s).drop i) := ⟨_, rfl⟩
  rw [← hT]
  have HT := Lib.hid hT
  have HWi := Lib.hid HW
  have Hin := Lib.hid (And.intro hi (And.intro hn hs))
  clear hT HW hi hn hs
  go_enter Tryd.func52, Tryd.ntmps52
  go_wp2_with fail
  go_loopg [1, 9, 10] (s.size - i + 1) (fun g iv dv _ wr => WiRel s 123 T w i g iv dv wr)
  case atStart => exact ⟨1, (i : Int), rfl, rfl, Below.refl _ _, Nat.le_refl _, by decide, .inl ⟨i, rfl, Nat.le_refl _, Hin.out.1, Nat.le_refl _, by omega, fun _ => rfl, HT.out⟩⟩
  case round =>
    obtain ⟨d, z, rfl, rfl, hB, hd1, hd2, hz⟩ := hrel
    have hd1I : (1 : Int) ≤ d := by omega
    rcases hz with ⟨k, rfl, hik, hk, hg, hdk, ha, hTk⟩ | ⟨rfl, hTn⟩
    · have hkn : s.size - k ≤ n := by have := Hin.out.2; omega
      have hk0 : (0 : Int) ≤ k := by omega
      by_cases hlt : k < s.size
      · have hltI : (k : Int) < s.size := by omega
        have hd := bs_drop s k hlt
        have hTk0 := hTk
        obtain ⟨f, rfl⟩ : ∃ f, d = f + 1 := ⟨d - 1, by omega⟩
        rw [List.replicate_succ, hd, M_frame 123 (by decide)] at hTk
        have hw := HWi.out k wr hlt hkn
        have hwI : whI s k = (match wh ((bs s).drop k) with | none => (k : Int) | some o => pl s.size o) := rfl
        rw [← hd] at hTk
        match hwh : wh ((bs s).drop k) with
        | some o =>
          rw [hwh] at hTk hwI
          have hTk2 : T = o.bind (M (List.replicate (f + 1) 123)) := hTk
          have hne := pl_ne hlt (wh_suf2 hwh)
          have hwI2 : whI s k = pl s.size o := hwI
          rw [hwI2] at hw
          have HR := Lib.hid (fun W (h : Below w.heap.size w W) => wi_of (bind_rel (F := M (List.replicate (f + 1) 123)) (wr := W) (Nat.le_refl k) h hlt hg (wh_suf2 hwh) hTk2) hik hd1 hdk ha Hin.out.2.2 hk)
          have Hw := Lib.hid hw
          have Hg := Lib.hid hg
          obtain ⟨v, hv⟩ : ∃ v, v = pl s.size o := ⟨_, rfl⟩
          rw [← hv] at Hw HR hne
          clear hv hw hwI hwI2 hTk hTk2 hTk0 hd hwh ha hg
          go_wp2_with fail
          refine Hw.out.mono ?_
          rintro e w1 ⟨rfl, hB1⟩
          have hB2 := Lib.hid (hB.trans (Below.mono (h := hB1) hB.size))
          clear Hw hB hB1
          go_wp2_with fail
          go_roundg (gk - 1)
          case measure => have := Hg.out; omega
          case rel => exact HR.out _ hB2.out
        | none =>
          rw [hwh] at hTk hwI
          have hwI2 : whI s k = (k : Int) := hwI
          rw [hwI2] at hw
          have Hw := Lib.hid hw
          obtain ⟨c, hc⟩ : ∃ c, c = s[k] := ⟨_, rfl⟩
          have hTk2 : T = (if (123 : UInt8) = 40 ∧ s[k] = 40 then M (40 :: 123 :: List.replicate f 123) ((bs s).drop (k + 1)) else if ((123 : UInt8) = 40 ∧ s[k] = 41) ∨ ((123 : UInt8) = 123 ∧ s[k] = 125) then M (List.replicate f 123) ((bs s).drop (k + 1)) else M (123 :: List.replicate f 123) ((bs s).drop (k + 1))) := hTk
          rw [← hc] at hTk2
          clear hTk hwI hwI2 hw hwh hd hTk0
          have Hg := Lib.hid hg
          clear hg
          · rw [if_neg (fun h => by cases h.1)] at hTk2
            have bN : ((0 : Int) != 0) = false := rfl
            have hall : (((s[k].toNat : Nat) : Int) == 0) = true ∨ (((s[k].toNat : Nat) : Int) == 0) = false := by cases (((s[k].toNat : Nat) : Int) == 0) <;> simp
            by_cases cE : c = 125
            · rw [if_pos (.inr ⟨rfl, cE⟩)] at hTk2
              have bE : (((s[k].toNat : Nat) : Int) == 125) = true := by rw [q125, ← hc, cE]; rfl
              by_cases hf : f = 0
              · subst hf
                have hv : pl s.size T = (k : Int) + 1 := by rw [hTk2, List.replicate_zero, M_nil]; exact pl_next s k hlt
                have HV := Lib.hid hv
                clear hTk2 hc cE hv ha
                rcases hall with bM | bM
                all_goals
                  go_wp2_with fail
                  refine Hw.out.mono ?_
                  rintro e w1 ⟨rfl, hB1⟩
                  have hB2 := Lib.hid (hB.trans (Below.mono (h := hB1) hB.size))
                  clear Hw hB hB1
                  go_wp2_with fail
                  go_ret
                  exact ⟨by rw [HV.out]; rfl, hB2.out⟩
              · exact absurd (ha rfl) (by omega)
            · rw [if_neg (fun h => (by rcases h with h | h; cases h.1; exact cE h.2))] at hTk2
              have bE : (((s[k].toNat : Nat) : Int) == 125) = false := by rw [q125, ← hc]; exact beq_eq_false_iff_ne.2 cE
              have HT2 := Lib.hid hTk2
              have Ha := Lib.hid ha
              have hf9 : ((f : Int) + 1 == 0) = false := by rw [beq_eq_false_iff_ne]; omega
              clear hTk2 hc cE ha
              rcases hall with bM | bM
              all_goals
                go_wp2_with fail
                refine Hw.out.mono ?_
                rintro e w1 ⟨rfl, hB1⟩
                have hB2 := Lib.hid (hB.trans (Below.mono (h := hB1) hB.size))
                clear Hw hB hB1
                go_wp2_with fail
                go_roundg (gk - 1)
                case measure => have := Hg.out; omega
                case rel => exact ⟨f + 1, (k : Int) + 1, rfl, rfl, hB2.out, by omega, by omega, .inl ⟨k + 1, by omega, by omega, by omega, by have := Hg.out; omega, by omega, (fun _ => Ha.out trivial), HT2.out⟩⟩
      · have hltI : ¬ ((k : Int) < s.size) := by omega
        rw [drop_end s k (by omega)] at hTk
        obtain ⟨f, rfl⟩ : ∃ f, d = f + 1 := ⟨d - 1, by omega⟩
        have hv : pl s.size T = -1 := by rw [hTk, List.replicate_succ, M_frame_nil]; rfl
        have HV := Lib.hid hv
        clear hTk hg hv ha
        go_wp2_with fail
        go_ret
        exact ⟨by rw [HV.out]; rfl, hB⟩
    · have hv : pl s.size T = -1 := by rw [hTn]; rfl
      have HV := Lib.hid hv
      clear hTn hv
      go_wp2_with fail
      go_ret
      exact ⟨by rw [HV.out]; rfl, hB⟩
theorem within_of (s : ByteArray) (n : Nat) (hs : Small s) (HW : WholeC s n) : WithinC s n := fun i w hi hn => ⟨within40_of s n hs HW i w hi hn, within123_of s n hs HW i w hi hn⟩
/-- All four. -/
theorem all_of (s : ByteArray) (hs : Small s) (n : Nat) : HoleC s n ∧ WholeC s n ∧ UntilC s n ∧ WithinC s n := by
  induction n with
  | zero =>
    have hH : HoleC s 0 := fun i w hi hn hh => by
      rw [drop_end s i (by omega)] at hh; cases hh
    have hW : WholeC s 0 := fun i w hi hn => by omega
    exact ⟨hH, hW, until_of s 0 hs hH, within_of s 0 hs hW⟩
  | succ n ih =>
    have hH := hole_of s n hs ih.2.2.1 ih.2.2.2
    have hW := whole_of s n hs ih.2.2.1 hH
    exact ⟨hH, hW, until_of s (n + 1) hs hH, within_of s (n + 1) hs hW⟩
theorem hole_calls (s : ByteArray) (hs : Small s) (i : Nat) (w : World) (hi : i ≤ s.size) (hh : hol ((bs s).drop i) = true) :
    Calls Tryd.prog 37 #[.string s, .int .i64 (i : Int)] w (NPost (pl s.size (holeL ((bs s).drop i))) w) := (all_of s hs (s.size - i)).1 i w hi (Nat.le_refl _) hh
theorem whole_calls (s : ByteArray) (hs : Small s) (i : Nat) (w : World) (hi : i < s.size) :
    Calls Tryd.prog 47 #[.string s, .int .i64 (i : Int)] w (NPost (whI s i) w) := (all_of s hs (s.size - i)).2.1 i w hi (Nat.le_refl _)
end Go.Proofs.YtlhkochpokhncaaDoor.Lexer
