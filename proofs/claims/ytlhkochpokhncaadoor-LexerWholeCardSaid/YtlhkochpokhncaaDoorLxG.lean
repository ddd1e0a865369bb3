/- word, skip, may walked. -/
import Derived.Test.YtlhkochpokhncaaDoorLxF
namespace Go.Proofs.YtlhkochpokhncaaDoor.Lexer
open Go.RowKit Go.Proofs.YtlhkochpokhncaaDoor Go.Proofs.YtlhkochpokhncaaDoor.Hp
set_option linter.unusedVariables false
attribute [local go_sem] Oper.semAt_some

/-- Is a byte a blank, a tab or a line feed? -/
def blankB (c : UInt8) : Bool := c == 32 || c == 9 || c == 10
theorem blank_ixb (c : UInt8) : decide (0 ≤ Lib.indexByte (bs ⟨#[32, 9, 10]⟩) c) = blankB c := by
  rw [in_ixb]
  unfold inL blankB
  show ([32, 9, 10] : Bytes).any (fun x => x == c) = _
  simp only [List.any_cons, List.any_nil, Bool.or_false]
  rw [bq 32 c, bq 9 c, bq 10 c]
  cases c == 32 <;> cases c == 9 <;> cases c == 10 <;> rfl
theorem opN_le (l : Bytes) : opN l ≤ l.length := by rw [← opP_eq]; exact (opP_le l).1
theorem op_ne (x : ByteArray) : (!(x.extract 0 (opN (bs x))).toList == ([] : List UInt8)) = decide (0 < opN (bs x)) := by
  rw [ByteArray.toList_eq]
  have e : (x.extract 0 (opN (bs x))).data.toList = (bs x).take (opN (bs x)) := by
    have := bs_extract x 0 (opN (bs x))
    rw [List.drop_zero, Nat.sub_zero] at this
    exact this
  rw [e]
  have hl := opN_le (bs x)
  by_cases h : 0 < opN (bs x)
  · rw [decide_eq_true h]
    have : (bs x).take (opN (bs x)) ≠ [] := by
      intro h2
      have := congrArg List.length h2
      rw [List.length_take] at this
      simp at this
      rcases this with h3 | h3
      · omega
      · have h4 : (bs x).length = 0 := by rw [h3]; rfl
        omega
    rw [beq_eq_false_iff_ne.2 this]; rfl
  · rw [decide_eq_false h]
    have : opN (bs x) = 0 := by omega
    rw [this]; rfl
theorem stops_cons (c : UInt8) (t : Bytes) : stops (c :: t) = (blankB c || decide (0 < opN (c :: t))) := by
  unfold stops blankB
  simp only [List.head?_cons]
  rfl
set_option maxRecDepth 100000 in
set_option maxHeartbeats 8000000 in
theorem word_calls (s : ByteArray) (hs : Small s) (i : Nat) (w : World) (hi : i ≤ s.size) :
    Calls Tryd.prog 31 #[.string s, .int .i64 (i : Int)] w (NPost (pl s.size (Wd ((bs s).drop i))) w) := by
  have hsz : (s.size : Int) ≤ 1000000 := hs
  obtain ⟨T, hT⟩ : ∃ T, T = Wd ((bs s).drop i) := ⟨_, rfl⟩
  rw [← hT]
  have HT := Lib.hid hT
  have Hs := Lib.hid hs
  have Hin := Lib.hid hi
  clear hT hs hi
  go_enter Tryd.func31, Tryd.ntmps31
  go_wp2_with fail
  go_loopg [1, 5] (s.size - i + 1) (fun g iv _ wr => PlRel s Wd T w i g iv wr)
  case atStart => exact ⟨(i : Int), rfl, Below.refl _ _, .inl ⟨i, rfl, Nat.le_refl _, Hin.out, Nat.le_refl _, HT.out⟩⟩
  case round =>
    obtain ⟨z, rfl, hB, hz⟩ := hrel
    rcases hz with ⟨k, rfl, hik, hk, hg, hTk⟩ | ⟨rfl, hTn⟩
    · have hk0 : (0 : Int) ≤ k := by omega
      by_cases hlt : k < s.size
      · have hltI : (k : Int) < s.size := by omega
        have hd := bs_drop s k hlt
        have hTk0 := hTk
        rw [hd] at hTk
        obtain ⟨x, hx⟩ : ∃ x, s.extract k s.size = x := ⟨_, rfl⟩
        have hxb : (bs s).drop k = bs x := by rw [← hx, bs_tail]
        have hst := stops_cons s[k] ((bs s).drop (k + 1))
        rw [← hd, hxb] at hst
        have HX := Lib.hid (fun w => six_calls ⟨#[32, 9, 10]⟩ ((s[k].toNat : Nat) : Int) w)
        have hbl := blank_ixb s[k]
        have e8 : ((s[k].toNat : Nat) : Int).toNat.toUInt8 = s[k] := by simp
        rw [e8] at HX
        obtain ⟨ix, hix⟩ : ∃ ix, ix = Lib.indexByte (bs ⟨#[32, 9, 10]⟩) s[k] := ⟨_, rfl⟩
        rw [show Lib.indexByte (ByteArray.mk #[32, 9, 10]).data.toList s[k] = ix from hix.symm] at HX
        rw [← hix] at hbl
        have HO := Lib.hid (fun w => op_calls x w (by rw [← hx, size_tail]; omega))
        have hon := op_ne x
        obtain ⟨y, hy⟩ : ∃ y, y = x.extract 0 (opN (bs x)) := ⟨_, rfl⟩
        rw [← hy] at hon HO
        have hEnd : stops (bs x) = true → pl s.size T = (k : Int) := fun h => by
          rw [hTk, Wd_stop (by rw [← hd, hxb]; exact h)]
          show (s.size : Int) - (((s[k] :: (bs s).drop (k + 1)).length : Nat) : Int) = _
          rw [← hd, List.length_drop, bs_length]; omega
        by_cases hb : blankB s[k] = true
        · rw [hb] at hbl hst
          have HE := Lib.hid (hEnd hst)
          have hge : 0 ≤ ix := of_decide_eq_true hbl
          clear hTk hTk0 hd hxb hst hon hy HO hbl hb hix e8 hEnd hg
          go_wp2_with fail
          refine (HX.out _).mono ?_
          rintro e w1 ⟨rfl, rfl⟩
          go_wp2_with fail
          go_ret
          exact ⟨by rw [HE.out]; rfl, hB⟩
        · have hb2 : blankB s[k] = false := by simpa using hb
          rw [hb2, Bool.false_or] at hst
          rw [hb2] at hbl
          have hge : ¬ (0 ≤ ix) := of_decide_eq_false hbl
          have hge2 : ix < 0 := by omega
          rw [← hst] at hon
          by_cases hop : stops (bs x) = true
          · rw [hop] at hon
            have HE := Lib.hid (hEnd hop)
            have hon2 : (y.toList == []) = false := by simpa using hon
            clear hTk hTk0 hd hxb hst hy hbl hb hb2 hix e8 hEnd hg hop hon hge
            go_wp2_with fail
            refine (HX.out _).mono ?_
            rintro e w1 ⟨rfl, rfl⟩
            go_wp2_with fail
            refine (HO.out _).mono ?_
            rintro e w1 ⟨rfl, hB1⟩
            have hB2 := hB.trans (Below.mono (h := hB1) hB.size)
            clear hB hB1
            go_wp2_with fail
            go_ret
            exact ⟨by rw [HE.out]; rfl, hB2⟩
          · have hop2 : stops (bs x) = false := by simpa using hop
            rw [hop2] at hon
            have hon2 : (y.toList == []) = true := by simpa using hon
            have hstop : stops (s[k] :: (bs s).drop (k + 1)) = false := by rw [← hd, hxb]; exact hop2
            have hw := whole_calls s Hs.out k
            have hwI : whI s k = (match wh ((bs s).drop k) with | none => (k : Int) | some o => pl s.size o) := rfl
            match hwh : wh ((bs s).drop k) with
            | some o =>
              rw [hwh] at hwI
              have hwI2 : whI s k = pl s.size o := hwI
              have hTk2 : T = o.bind Wd := by rw [hTk]; exact Wd_some hstop (by rw [← hd]; exact hwh)
              have hne := pl_ne hlt (wh_suf2 hwh)
              have HR := Lib.hid (fun W (h : Below w.heap.size w W) => bind_rel (F := Wd) (wr := W) hik h hlt hg (wh_suf2 hwh) hTk2)
              have Hw := Lib.hid (fun w => hw w hlt)
              rw [hwI2] at Hw
              have Hg := Lib.hid hg
              obtain ⟨v, hv⟩ : ∃ v, v = pl s.size o := ⟨_, rfl⟩
              rw [← hv] at Hw HR hne
              clear hv hw hwI hwI2 hTk hTk2 hTk0 hd hwh hg hxb hst hy hbl hb hb2 hix e8 hEnd hop hop2 hon hge hstop
              go_wp2_with fail
              refine (HX.out _).mono ?_
              rintro e w1 ⟨rfl, rfl⟩
              go_wp2_with fail
              refine (HO.out _).mono ?_
              rintro e w1 ⟨rfl, hB1⟩
              have hB2 := hB.trans (Below.mono (h := hB1) hB.size)
              clear hB hB1
              go_wp2_with fail
              refine (Hw.out _).mono ?_
              rintro e w2 ⟨rfl, hB1⟩
              have hB3 := Lib.hid (hB2.trans (Below.mono (h := hB1) hB2.size))
              clear hB2 hB1
              go_wp2_with fail
              go_roundg (gk - 1)
              case measure => have := Hg.out; omega
              case rel => exact HR.out _ hB3.out
            | none =>
              rw [hwh] at hwI
              have hwI2 : whI s k = (k : Int) := hwI
              have hTk2 : T = Wd ((bs s).drop (k + 1)) := by rw [hTk]; exact Wd_none hstop (by rw [← hd]; exact hwh)
              have HR := Lib.hid (fun W (h : Below w.heap.size w W) => next_rel (F := Wd) (wr := W) hik h hlt hg hTk2)
              have Hw := Lib.hid (fun w => hw w hlt)
              rw [hwI2] at Hw
              have Hg := Lib.hid hg
              clear hw hwI hwI2 hTk hTk2 hTk0 hd hwh hg hxb hst hy hbl hb hb2 hix e8 hEnd hop hop2 hon hge hstop
              go_wp2_with fail
              refine (HX.out _).mono ?_
              rintro e w1 ⟨rfl, rfl⟩
              go_wp2_with fail
              refine (HO.out _).mono ?_
              rintro e w1 ⟨rfl, hB1⟩
              have hB2 := hB.trans (Below.mono (h := hB1) hB.size)
              clear hB hB1
              go_wp2_with fail
              refine (Hw.out _).mono ?_
              rintro e w2 ⟨rfl, hB1⟩
              have hB3 := Lib.hid (hB2.trans (Below.mono (h := hB1) hB2.size))
              clear hB2 hB1
              go_wp2_with fail
              go_roundg (gk - 1)
              case measure => have := Hg.out; omega
              case rel => exact HR.out _ hB3.out
      · have hltI : ¬ ((k : Int) < s.size) := by omega
        rw [drop_end s k (by omega), Wd_nil] at hTk
        have hv : pl s.size T = (k : Int) := by rw [hTk]; show (s.size : Int) - ((([] : Bytes).length : Nat) : Int) = _; simp; omega
        have HV := Lib.hid hv
        clear hTk hg hv
        go_wp2_with fail
        go_ret
        exact ⟨by rw [HV.out]; rfl, hB⟩
    · have hv : pl s.size T = -1 := by rw [hTn]; rfl
      have HV := Lib.hid hv
      clear hTn hv
      go_wp2_with fail
      go_ret
      exact ⟨by rw [HV.out]; rfl, hB⟩
/-- What is wrong with a text and a place. -/
def mayE (n : Nat) (a : Int) : Int := if 4096 < (n : Int) then 21 else if a < 0 ∨ (n : Int) < a then 1 else 0
theorem may_calls (s : ByteArray) (a : Int) (w : World) (h63 : (s.size : Int) ≤ 9223372036854775807) :
    Calls Tryd.prog 23 #[.string s, .int .i64 a] w fun e w' => e = .returned (.int .i64 (mayE s.size a)) ∧ w = w' := by
  unfold mayE
  by_cases h1 : 4096 < (s.size : Int)
  · rw [if_pos h1]
    go_enter Tryd.func23, Tryd.ntmps23
    go_wp2_with fail
    go_ret
    exact ⟨rfl, rfl⟩
  · rw [if_neg h1]
    by_cases h2 : a < 0
    · rw [if_pos (.inl h2)]
      go_enter Tryd.func23, Tryd.ntmps23
      go_wp2_with fail
      go_ret
      exact ⟨rfl, rfl⟩
    · by_cases h3 : (s.size : Int) < a
      · rw [if_pos (.inr h3)]
        go_enter Tryd.func23, Tryd.ntmps23
        go_wp2_with fail
        go_ret
        exact ⟨rfl, rfl⟩
      · rw [if_neg (by omega)]
        go_enter Tryd.func23, Tryd.ntmps23
        go_wp2_with fail
        go_ret
        exact ⟨rfl, rfl⟩
end Go.Proofs.YtlhkochpokhncaaDoor.Lexer
