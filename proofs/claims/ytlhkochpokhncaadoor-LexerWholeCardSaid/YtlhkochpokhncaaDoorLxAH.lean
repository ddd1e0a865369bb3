/- The law's nothing: bytes that are no thing. -/
import Derived.Test.YtlhkochpokhncaaDoorLxAG
namespace Go.Proofs.YtlhkochpokhncaaDoor.Lexer
open Go.RowKit Go.Proofs.YtlhkochpokhncaaDoor Go.Proofs.YtlhkochpokhncaaDoor.Hp
set_option linter.unusedVariables false
attribute [local go_sem] Oper.semAt_some

def NtPost (b : Bool) (w : World) (e : Ending) (w' : World) : Prop := e = .returned (.bool b) ∧ Below w.heap.size w w'
def NRel (s : ByteArray) (R : Bool) (w : World) (g : Nat) (iv : Value) (wr : World) : Prop :=
  ∃ k : Nat, iv = .int .i64 (k : Int) ∧ k ≤ s.size ∧ s.size - k + 1 ≤ g ∧ R = nothL ((bs s).drop k) ∧ Below w.heap.size w wr
def NcRel (s : ByteArray) (R : Bool) (w : World) (g : Nat) (iv : Value) (wr : World) : Prop :=
  ∃ k : Nat, iv = .int .i64 (k : Int) ∧ k ≤ s.size ∧ s.size - k + 1 ≤ g ∧ R = (((bs s).drop k).dropWhile (fun x => x != 10) == []) ∧ Below w.heap.size w wr
set_option maxRecDepth 100000 in
set_option maxHeartbeats 8000000 in
theorem nothing_calls (s : ByteArray) (hs : Small s) (w : World) :
    Calls Tryd.prog 18 #[.string s] w (NtPost (nothL (bs s)) w) := by
  have hsz : (s.size : Int) ≤ 1000000 := hs
  obtain ⟨R, hR⟩ : ∃ R, R = nothL (bs s) := ⟨_, rfl⟩
  rw [← hR]
  have HR := Lib.hid hR
  clear hR hs
  go_enter Tryd.func18, Tryd.ntmps18
  go_wp2_with fail
  go_loopg [3] (s.size + 1) (fun g iv wr => NRel s R w g iv wr)
  case atStart => exact ⟨0, rfl, Nat.zero_le _, Nat.le_refl _, HR.out, Below.refl _ _⟩
  case round =>
    obtain ⟨k, rfl, hk, hg, hRk, hB⟩ := hrel
    have hk0 : (0 : Int) ≤ k := by omega
    by_cases hlt : k < s.size
    · have hltI : (k : Int) < s.size := by omega
      have hd := bs_drop s k hlt
      have hRk0 := hRk
      rw [hd, nothL_cons] at hRk
      obtain ⟨c, hc⟩ : ∃ c, c = s[k] := ⟨_, rfl⟩
      rw [← hc] at hRk hd
      by_cases cN : c = 92 ∧ ((bs s).drop (k + 1)).head? = some 10
      · rw [if_pos cN, List.tail_drop] at hRk
        have hk2 : k + 1 < s.size := by
          rcases Nat.lt_or_ge (k + 1) s.size with h | h
          · exact h
          · rw [drop_end s (k + 1) h] at cN; cases cN.2
        have hk2I : (k : Int) + 1 < s.size := by omega
        have b92 : (((s[k].toNat : Nat) : Int) == 92) = true := by rw [q92, ← hc, cN.1]; rfl
        have b10 : (((s[k + 1].toNat : Nat) : Int) == 10) = true := by
          have := cN.2
          rw [bs_drop s (k + 1) hk2] at this
          rw [q10, Option.some.inj this]; rfl
        have HRk := Lib.hid hRk
        have Hg := Lib.hid hg
        clear hRk hRk0 hd hc hg cN
        go_wp2_with fail
        go_roundg (gk - 1)
        case measure => have := Hg.out; omega
        case rel => exact ⟨k + 2, by go_num, by omega, by have := Hg.out; omega, HRk.out, hB⟩
      · rw [if_neg cN] at hRk
        have hway : ((((s[k].toNat : Nat) : Int) == 92) = false) ∨ ((((s[k].toNat : Nat) : Int) == 92) = true ∧ ¬ ((k : Int) + 1 < s.size)) ∨ ((((s[k].toNat : Nat) : Int) == 92) = true ∧ (k : Int) + 1 < s.size ∧ ∃ h : k + 1 < s.size, (((s[k + 1].toNat : Nat) : Int) == 10) = false) := by
          by_cases h92 : c = 92
          · have b92 : (((s[k].toNat : Nat) : Int) == 92) = true := by rw [q92, ← hc, h92]; rfl
            rcases Nat.lt_or_ge (k + 1) s.size with h | h
            · refine .inr (.inr ⟨b92, by omega, h, ?_⟩)
              rw [q10]
              refine beq_eq_false_iff_ne.2 fun he => cN ⟨h92, ?_⟩
              rw [bs_drop s (k + 1) h, he]; rfl
            · exact .inr (.inl ⟨b92, by omega⟩)
          · exact .inl (by rw [q92, ← hc]; exact beq_eq_false_iff_ne.2 h92)
        by_cases c35 : c = 35
        · rw [if_pos c35] at hRk
          have b35 : (((s[k].toNat : Nat) : Int) == 35) = true := by rw [q35, ← hc, c35]; rfl
          have b92 : (((s[k].toNat : Nat) : Int) == 92) = false := by rw [q92, ← hc, c35]; rfl
          have hRk2 : R = (((bs s).drop k).dropWhile (fun x => x != 10) == []) := by
            rw [hRk, hd, List.dropWhile_cons, if_pos (by rw [c35]; rfl)]
          have HRk := Lib.hid hRk2
          have Hg := Lib.hid hg
          have HB := Lib.hid hB
          clear hRk hRk0 hRk2 hd hc hg cN c35 hway hB
          go_wp2_with fail
          go_loopg [3] (s.size - k + 1) (fun g iv wr => NcRel s R w g iv wr)
          case atStart => exact ⟨k, rfl, hk, Nat.le_refl _, HRk.out, HB.out⟩
          case round =>
            obtain ⟨j, rfl, hj, hgj, hRj, hBj⟩ := hrel
            have hj0 : (0 : Int) ≤ j := by omega
            by_cases hlj : j < s.size
            · have hljI : (j : Int) < s.size := by omega
              have hdj := bs_drop s j hlj
              have hneI : ((j : Int) == (s.size : Int)) = false := beq_eq_false_iff_ne.2 (by omega)
              obtain ⟨d, hd⟩ : ∃ d, d = s[j] := ⟨_, rfl⟩
              rw [hdj, ← hd, List.dropWhile_cons] at hRj
              by_cases d10 : d = 10
              · have b10 : (((s[j].toNat : Nat) : Int) == 10) = true := by rw [q10, ← hd, d10]; rfl
                rw [if_neg (by rw [d10]; decide)] at hRj
                have hRF : R = false := by rw [hRj]; rfl
                have HRF := Lib.hid hRF
                clear hRj hRF hdj hd d10 hgj
                go_wp2_with fail
                go_ret
                have e := HRF.out; subst e; exact ⟨rfl, hBj⟩
              · have b10 : (((s[j].toNat : Nat) : Int) == 10) = false := by rw [q10, ← hd]; exact beq_eq_false_iff_ne.2 d10
                rw [if_pos (by simpa using d10)] at hRj
                have HRj := Lib.hid hRj
                have Hgj := Lib.hid hgj
                clear hRj hdj hd d10 hgj
                go_wp2_with fail
                go_roundg (gk - 1)
                case measure => have := Hgj.out; omega
                case rel => exact ⟨j + 1, by go_num, by omega, by have := Hgj.out; omega, HRj.out, hBj⟩
            · have hjI : ¬ ((j : Int) < s.size) := by omega
              have hjE : (j : Int) = s.size := by omega
              have hRT : R = true := by rw [hRj, drop_end s j (by omega)]; rfl
              have HRT := Lib.hid hRT
              clear hRj hRT hgj
              go_wp2_with fail
              go_ret
              have e := HRT.out; subst e; exact ⟨rfl, hBj⟩
        · rw [if_neg c35] at hRk
          have b35 : (((s[k].toNat : Nat) : Int) == 35) = false := by rw [q35, ← hc]; exact beq_eq_false_iff_ne.2 c35
          by_cases cb : c = 32 ∨ c = 9
          · rw [if_pos cb] at hRk
            have b92 : (((s[k].toNat : Nat) : Int) == 92) = false := by rw [q92, ← hc]; rcases cb with h | h <;> rw [h] <;> rfl
            have HRk := Lib.hid hRk
            have Hg := Lib.hid hg
            rcases cb with h | h
            · have b32 : (((s[k].toNat : Nat) : Int) == 32) = true := by rw [q32, ← hc, h]; rfl
              have m32 : (((s[k].toNat : Nat) : Int) != 32) = false := by rw [bne, b32]; rfl
              clear hRk hRk0 hd hc hg cN c35 hway h
              go_wp2_with fail
              go_roundg (gk - 1)
              case measure => have := Hg.out; omega
              case rel => exact ⟨k + 1, by go_num, by omega, by have := Hg.out; omega, HRk.out, hB⟩
            · have b32 : (((s[k].toNat : Nat) : Int) == 32) = false := by rw [q32, ← hc, h]; rfl
              have m32 : (((s[k].toNat : Nat) : Int) != 32) = true := by rw [bne, b32]; rfl
              have b9 : (((s[k].toNat : Nat) : Int) == 9) = true := by rw [q9, ← hc, h]; rfl
              have m9 : (((s[k].toNat : Nat) : Int) != 9) = false := by rw [bne, b9]; rfl
              clear hRk hRk0 hd hc hg cN c35 hway h
              go_wp2_with fail
              go_roundg (gk - 1)
              case measure => have := Hg.out; omega
              case rel => exact ⟨k + 1, by go_num, by omega, by have := Hg.out; omega, HRk.out, hB⟩
          · rw [if_neg cb] at hRk
            have b32 : (((s[k].toNat : Nat) : Int) == 32) = false := by rw [q32, ← hc]; exact beq_eq_false_iff_ne.2 fun h => cb (.inl h)
            have b9 : (((s[k].toNat : Nat) : Int) == 9) = false := by rw [q9, ← hc]; exact beq_eq_false_iff_ne.2 fun h => cb (.inr h)
            have m32 : (((s[k].toNat : Nat) : Int) != 32) = true := by rw [bne, b32]; rfl
            have m9 : (((s[k].toNat : Nat) : Int) != 9) = true := by rw [bne, b9]; rfl
            have HRk := Lib.hid hRk
            clear hRk hRk0 hd hc hg cN c35 cb
            rcases hway with b92 | ⟨b92, hn⟩ | ⟨b92, hn, hn', b10⟩
            all_goals
              go_wp2_with fail
              go_ret
              have e := HRk.out; subst e; exact ⟨rfl, hB⟩
    · have hltI : ¬ ((k : Int) < s.size) := by omega
      have hRT : R = true := by rw [hRk, drop_end s k (by omega), nothL_nil]
      have HRT := Lib.hid hRT
      clear hRk hRT hg
      go_wp2_with fail
      go_ret
      have e := HRT.out; subst e; exact ⟨rfl, hB⟩
end Go.Proofs.YtlhkochpokhncaaDoor.Lexer
