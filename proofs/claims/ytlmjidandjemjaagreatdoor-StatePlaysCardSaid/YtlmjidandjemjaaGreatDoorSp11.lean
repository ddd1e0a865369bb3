/- HandlesPlays, part 11 of 29: the texts SvE SvEa SvF StEq, joined by a program. -/
import Derived.Test.YtlmjidandjemjaaGreatDoorSp9
import Derived.Test.YtlmjidandjemjaaGreatDoorSp10
import Derived.Laws.StructEq
import Derived.ChangeKeysEq
namespace Go.Proofs.YtlmjidandjemjaaGreatDoor.State
open Go.RowKit Go.Proofs.YtlmjidandjemjaaGreatDoor Go.Proofs.YtlmjidandjemjaaGreatDoor.Hp Go.Proofs.YtlmjidandjemjaaGreatDoor.Undo
set_option linter.unusedVariables false
attribute [local go_sem] Oper.semAt_some

/-- A letter, or _. -/
def letterR (b : UInt8) : Bool := letter b || decide (b = 95)
theorem letR_all : ∀ n : Fin 256, letterR (UInt8.ofNat n.val) = decide ((97 ≤ n.val ∧ n.val ≤ 122) ∨ (65 ≤ n.val ∧ n.val ≤ 90) ∨ n.val = 95) := by decide +kernel
theorem letR_int (b : UInt8) : letterR b = decide ((97 ≤ ((b.toNat : Nat) : Int) ∧ ((b.toNat : Nat) : Int) ≤ 122) ∨ (65 ≤ ((b.toNat : Nat) : Int) ∧ ((b.toNat : Nat) : Int) ≤ 90) ∨ ((b.toNat : Nat) : Int) = 95) := by
  have h := letR_all ⟨b.toNat, b.toNat_lt⟩
  rw [show UInt8.ofNat (⟨b.toNat, b.toNat_lt⟩ : Fin 256).val = b by simp] at h
  rw [h, decide_eq_decide]
  show (97 ≤ b.toNat ∧ b.toNat ≤ 122) ∨ (65 ≤ b.toNat ∧ b.toNat ≤ 90) ∨ b.toNat = 95 ↔ _
  omega
set_option maxRecDepth 100000 in
set_option maxHeartbeats 2000000 in
theorem rletter_calls (b : UInt8) (w : World) :
    Calls Tryz.prog 125 #[.int .u8 ((b.toNat : Nat) : Int)] w fun e w' => e = .returned (.bool (letterR b)) ∧ w = w' := by
  rw [letR_int]
  obtain ⟨x, hx⟩ : ∃ x : Int, x = ((b.toNat : Nat) : Int) := ⟨_, rfl⟩
  rw [← hx]
  clear hx
  by_cases c1 : 97 ≤ x
  all_goals by_cases c2 : x ≤ 122
  all_goals by_cases c3 : 65 ≤ x
  all_goals by_cases c4 : x ≤ 90
  all_goals by_cases c5 : x = 95
  all_goals first
    | (exfalso; omega)
    | (first
        | rw [decide_eq_true (show (97 ≤ x ∧ x ≤ 122) ∨ (65 ≤ x ∧ x ≤ 90) ∨ x = 95 by omega)]
        | rw [decide_eq_false (show ¬ ((97 ≤ x ∧ x ≤ 122) ∨ (65 ≤ x ∧ x ≤ 90) ∨ x = 95) by omega)]
       go_enter Tryz.func125, Tryz.ntmps125
       go_wp2_with fail
       go_ret
       first | exact ⟨rfl, rfl⟩ | (refine ⟨?_, rfl⟩; show Ending.returned (Value.bool (x == 95)) = _; rw [show (x == 95) = false from beq_false_of_ne c5]))
set_option maxRecDepth 100000 in
set_option maxHeartbeats 2000000 in
theorem rdigit_calls (b : UInt8) (w : World) :
    Calls Tryz.prog 126 #[.int .u8 ((b.toNat : Nat) : Int)] w fun e w' => e = .returned (.bool (digit b)) ∧ w = w' := by
  rw [digit_int]
  obtain ⟨x, hx⟩ : ∃ x : Int, x = ((b.toNat : Nat) : Int) := ⟨_, rfl⟩
  rw [← hx]
  clear hx
  by_cases c1 : 48 ≤ x
  all_goals by_cases c2 : x ≤ 57
  all_goals first
    | (exfalso; omega)
    | (first
        | rw [decide_eq_true (show 48 ≤ x ∧ x ≤ 57 by omega)]
        | rw [decide_eq_false (show ¬ (48 ≤ x ∧ x ≤ 57) by omega)]
       go_enter Tryz.func126, Tryz.ntmps126
       go_wp2_with fail
       go_ret
       exact ⟨rfl, rfl⟩)
/-- A name, byte by byte. -/
def nmR : Bool → List UInt8 → Bool
  | true, [] => false
  | false, [] => true
  | f, b :: l => (letterR b || (!f && digit b)) && nmR false l
theorem nmR_false : ∀ l : List UInt8, nmR false l = l.all fun b => letterR b || digit b
  | [] => rfl
  | b :: l => by rw [List.all_cons, ← nmR_false l]; show ((letterR b || (!false && digit b)) && nmR false l) = _; rw [Bool.not_false, Bool.true_and]
theorem okB_under (b : UInt8) : okB under b = (letterR b || digit b) := by
  have h : decide (b ∈ bs under) = decide (b = 95) := by
    rw [decide_eq_decide]
    show b ∈ ([95] : List UInt8) ↔ _
    simp
  unfold okB letterR
  rw [h]
  cases letter b <;> cases digit b <;> cases decide (b = 95) <;> rfl
theorem letD_all : ∀ n : Fin 256, (letterR (UInt8.ofNat n.val) && digit (UInt8.ofNat n.val)) = false := by decide +kernel
theorem letD (b : UInt8) : (letterR b && digit b) = false := by
  have h := letD_all ⟨b.toNat, b.toNat_lt⟩
  rw [show UInt8.ofNat (⟨b.toNat, b.toNat_lt⟩ : Fin 256).val = b by simp] at h
  exact h
theorem isName_nmR (s : ByteArray) : isName s = nmR true (bs s) := by
  unfold isName
  rw [ofB_eq]
  show (((bs s).all (okB under) && !(bs s).isEmpty) && !firstDigit (bs s)) = _
  cases h : bs s with
  | nil => rfl
  | cons b l =>
    rw [List.all_cons]
    show (((okB under b && l.all (okB under)) && !false) && !digit b) = ((letterR b || (!true && digit b)) && nmR false l)
    rw [nmR_false, okB_under]
    have e : l.all (okB under) = l.all fun b => letterR b || digit b := by congr 1; funext x; exact okB_under x
    rw [e]
    have hd := letD b
    cases h1 : letterR b <;> cases h2 : digit b <;> rw [h1, h2] at hd <;> simp_all
set_option maxRecDepth 100000 in
set_option maxHeartbeats 4000000 in
theorem rname_calls (s : ByteArray) (w : World) (hs : s.size ≤ 1000000) :
    Calls Tryz.prog 94 #[.string s] w fun e w' => e = .returned (.bool (isName s)) ∧ w = w' := by
  rw [isName_nmR]
  have hsI : (s.size : Int) ≤ 1000000 := by omega
  have hnil := beq_nil s
  have hemp := bs_empty s
  obtain ⟨r, hr⟩ : ∃ r, r = nmR true (bs s) := ⟨_, rfl⟩
  rw [← hr]
  have HR := Lib.hid hr
  have Hnil := Lib.hid hnil
  have Hemp := Lib.hid hemp
  clear hr hnil hemp
  go_enter Tryz.func94, Tryz.ntmps94
  go_wp2_with fail
  go_loopg [3] (s.size) (fun (g : Nat) (iv : Value) (wr : World) => ∃ i : Nat, iv = .int .i64 (i : Int) ∧ i + g = s.size ∧ r = nmR (decide (i = 0)) ((bs s).drop i) ∧ w = wr)
  case atStart => exact ⟨0, rfl, by omega, by rw [List.drop_zero]; exact HR.out, rfl⟩
  case round =>
    obtain ⟨i, rfl, hg, hall, rfl⟩ := hrel
    by_cases hlt : i < s.size
    · have hltI : (i : Int) < s.size := by omega
      have hi0 : (0 : Int) ≤ i := by omega
      rw [bs_drop s i hlt] at hall
      have hL := Lib.hid (fun w => rletter_calls s[i] w)
      have hD := Lib.hid (fun w => rdigit_calls s[i] w)
      have hstep : r = ((letterR s[i] || (!(decide (i = 0)) && digit s[i])) && nmR false ((bs s).drop (i + 1))) := by
        rw [hall]
        cases decide (i = 0) <;> rfl
      clear hall HR Hnil Hemp
      cases h1 : letterR s[i] with
      | true =>
        rw [h1] at hL hstep
        have hs2 : r = nmR false ((bs s).drop (i + 1)) := by rw [hstep]; simp
        have Hs := Lib.hid hs2
        clear h1 hstep hs2
        go_wp2_with fail
        refine (hL.out _).mono ?_
        rintro e w1 ⟨rfl, rfl⟩
        go_wp2_with fail
        go_roundg (gk - 1)
        case rel => exact ⟨i + 1, by simp, by omega, by rw [decide_eq_false (by omega)]; exact Hs.out, rfl⟩
        case measure => omega
      | false =>
        rw [h1] at hL hstep
        rw [Bool.false_or] at hstep
        by_cases hi : i = 0
        · subst hi
          rw [decide_eq_true rfl] at hstep
          have hrf : r = false := by rw [hstep]; rfl
          subst hrf
          clear h1 hstep
          go_wp2_with fail
          refine (hL.out _).mono ?_
          rintro e w1 ⟨rfl, rfl⟩
          go_wp2_with fail
          go_ret
          exact ⟨rfl, rfl⟩
        · have hiI : ¬ (i : Int) = 0 := by omega
          rw [decide_eq_false hi] at hstep
          cases h2 : digit s[i] with
          | true =>
            rw [h2] at hD hstep
            have hs2 : r = nmR false ((bs s).drop (i + 1)) := by rw [hstep]; simp
            have Hs := Lib.hid hs2
            clear h1 h2 hstep hs2
            go_wp2_with fail
            refine (hL.out _).mono ?_
            rintro e w1 ⟨rfl, rfl⟩
            go_wp2_with fail
            refine (hD.out _).mono ?_
            rintro e w1 ⟨rfl, rfl⟩
            go_wp2_with fail
            go_roundg (gk - 1)
            case rel => exact ⟨i + 1, by simp, by omega, by rw [decide_eq_false (by omega)]; exact Hs.out, rfl⟩
            case measure => omega
          | false =>
            rw [h2] at hD hstep
            have hrf : r = false := by rw [hstep]; rfl
            subst hrf
            clear h1 h2 hstep
            go_wp2_with fail
            refine (hL.out _).mono ?_
            rintro e w1 ⟨rfl, rfl⟩
            go_wp2_with fail
            refine (hD.out _).mono ?_
            rintro e w1 ⟨rfl, rfl⟩
            go_wp2_with fail
            go_ret
            exact ⟨rfl, rfl⟩
    · have hge : i = s.size := by omega
      subst hge
      rw [List.drop_of_length_le (by rw [bs_length]; exact Nat.le_refl _)] at hall
      have hr : r = !decide (s.size = 0) := by rw [hall]; cases decide (s.size = 0) <;> rfl
      have Hr := Lib.hid hr
      clear hall HR hr
      go_wp2_with fail
      go_ret
      refine ⟨?_, rfl⟩
      rw [Hr.out]
      show Ending.returned (Value.bool (!s.toList.isEmpty)) = _
      rw [toList_empty]
def aliR (b : UInt8) : Bool := letterR b || digit b || decide (b = 33) || decide (b = 37) || decide (b = 44) || decide (b = 64)
theorem okB_alias (b : UInt8) : okB aliasB b = aliR b := by
  have h : decide (b ∈ bs aliasB) = (decide (b = 95) || decide (b = 33) || decide (b = 37) || decide (b = 44) || decide (b = 64)) := by
    show decide (b ∈ ([95, 33, 37, 44, 64] : List UInt8)) = _
    rw [Bool.eq_iff_iff]
    simp [or_assoc]
  unfold okB aliR letterR
  rw [h]
  cases letter b <;> cases digit b <;> cases decide (b = 95) <;> rfl
theorem u8_eq_int (b : UInt8) (n : Nat) (hn : n < 256) : decide (b = UInt8.ofNat n) = decide (((b.toNat : Nat) : Int) = (n : Int)) := by
  rw [decide_eq_decide]
  constructor
  · rintro rfl
    simp; omega
  · intro h
    have h2 : b.toNat = n := by omega
    rw [← h2]; simp
set_option maxRecDepth 100000 in
set_option maxHeartbeats 2000000 in
theorem rsignal_calls (k : ByteArray) (w : World) :
    Calls Tryz.prog 123 #[.string k] w fun e w' => e = .returned (.bool (isSignal k)) ∧ w = w' := by
  have h1 := tol k [69, 88, 73, 84]
  have h2 := tol k [72, 85, 80]
  have h3 := tol k [73, 78, 84]
  have h4 := tol k [84, 69, 82, 77]
  have h5 := tol k [85, 83, 82, 49]
  have hs : isSignal k = (decide (k = ⟨#[69, 88, 73, 84]⟩) || decide (k = ⟨#[72, 85, 80]⟩) || decide (k = ⟨#[73, 78, 84]⟩) || decide (k = ⟨#[84, 69, 82, 77]⟩) || decide (k = ⟨#[85, 83, 82, 49]⟩)) := rfl
  rw [hs]
  clear hs
  rw [show ([69, 88, 73, 84] : List UInt8).toArray = #[69, 88, 73, 84] from rfl] at h1
  rw [show ([72, 85, 80] : List UInt8).toArray = #[72, 85, 80] from rfl] at h2
  rw [show ([73, 78, 84] : List UInt8).toArray = #[73, 78, 84] from rfl] at h3
  rw [show ([84, 69, 82, 77] : List UInt8).toArray = #[84, 69, 82, 77] from rfl] at h4
  rw [show ([85, 83, 82, 49] : List UInt8).toArray = #[85, 83, 82, 49] from rfl] at h5
  generalize decide (k = ⟨#[69, 88, 73, 84]⟩) = b1 at *
  generalize decide (k = ⟨#[72, 85, 80]⟩) = b2 at *
  generalize decide (k = ⟨#[73, 78, 84]⟩) = b3 at *
  generalize decide (k = ⟨#[84, 69, 82, 77]⟩) = b4 at *
  generalize decide (k = ⟨#[85, 83, 82, 49]⟩) = b5 at *
  cases b1
  · cases b2
    · cases b3
      · cases b4
        · cases b5
          all_goals
            go_enter Tryz.func123, Tryz.ntmps123
            go_wp2_with fail
            go_ret
            exact ⟨rfl, rfl⟩
        · go_enter Tryz.func123, Tryz.ntmps123
          go_wp2_with fail
          go_ret
          exact ⟨rfl, rfl⟩
      · go_enter Tryz.func123, Tryz.ntmps123
        go_wp2_with fail
        go_ret
        exact ⟨rfl, rfl⟩
    · go_enter Tryz.func123, Tryz.ntmps123
      go_wp2_with fail
      go_ret
      exact ⟨rfl, rfl⟩
  · go_enter Tryz.func123, Tryz.ntmps123
    go_wp2_with fail
    go_ret
    exact ⟨rfl, rfl⟩
end Go.Proofs.YtlmjidandjemjaaGreatDoor.State

namespace Go.Proofs.YtlmjidandjemjaaGreatDoor.State
open Go.RowKit Go.Proofs.YtlmjidandjemjaaGreatDoor Go.Proofs.YtlmjidandjemjaaGreatDoor.Hp Go.Proofs.YtlmjidandjemjaaGreatDoor.Undo
set_option linter.unusedVariables false
attribute [local go_sem] Oper.semAt_some

set_option maxRecDepth 100000 in
set_option maxHeartbeats 400000 in
theorem raliased_calls (s : ByteArray) (w : World) (hs : s.size ≤ 1000000) :
    Calls Tryz.prog 119 #[.string s] w fun e w' => e = .returned (.bool (isAlias s)) ∧ w = w' := by
  have hsI : (s.size : Int) ≤ 1000000 := by omega
  have hnil := beq_nil s
  have hemp := bs_empty s
  obtain ⟨r, hr⟩ : ∃ r, r = isAlias s := ⟨_, rfl⟩
  rw [← hr]
  have hr2 : r = ((bs s).all aliR && !decide (s.size = 0)) := by
    rw [hr, ← hemp]
    unfold isAlias
    rw [ofB_eq]
    have e : (bs s).all (okB aliasB) = (bs s).all aliR := by congr 1; funext x; exact okB_alias x
    rw [e]
  have HR := Lib.hid hr2
  have Hnil := Lib.hid hnil
  have Hemp := Lib.hid hemp
  clear hr hr2 hnil hemp
  go_enter Tryz.func119, Tryz.ntmps119
  go_wp2_with fail
  go_loopg [3, 4] (s.size) (fun (g : Nat) (iv bv : Value) (wr : World) => ∃ i : Nat, iv = .int .i64 (i : Int) ∧ i + g = s.size ∧ r = (((bs s).drop i).all aliR && !decide (s.size = 0)) ∧ w = wr)
  case atStart => exact ⟨0, rfl, by omega, by rw [List.drop_zero]; exact HR.out, rfl⟩
  case round =>
    obtain ⟨i, rfl, hg, hall, rfl⟩ := hrel
    by_cases hlt : i < s.size
    · have hltI : (i : Int) < s.size := by omega
      have hi0 : (0 : Int) ≤ i := by omega
      rw [bs_drop s i hlt, List.all_cons] at hall
      have hL := Lib.hid (fun w => rletter_calls s[i] w)
      have hD := Lib.hid (fun w => rdigit_calls s[i] w)
      have e1 := u8_eq_int s[i] 33 (by omega)
      have e2 := u8_eq_int s[i] 37 (by omega)
      have e3 := u8_eq_int s[i] 44 (by omega)
      have e4 := u8_eq_int s[i] 64 (by omega)
      have ea : aliR s[i] = (letterR s[i] || digit s[i] || decide (((s[i].toNat : Nat) : Int) = 33) || decide (((s[i].toNat : Nat) : Int) = 37) || decide (((s[i].toNat : Nat) : Int) = 44) || decide (((s[i].toNat : Nat) : Int) = 64)) := by
        unfold aliR
        rw [show decide (s[i] = 33) = decide (((s[i].toNat : Nat) : Int) = 33) from e1, show decide (s[i] = 37) = decide (((s[i].toNat : Nat) : Int) = 37) from e2, show decide (s[i] = 44) = decide (((s[i].toNat : Nat) : Int) = 44) from e3, show decide (s[i] = 64) = decide (((s[i].toNat : Nat) : Int) = 64) from e4]
      have hnext : aliR s[i] = true → r = (((bs s).drop (i + 1)).all aliR && !decide (s.size = 0)) := fun h => by rw [hall, h, Bool.true_and]
      have hstop : aliR s[i] = false → r = false := fun h => by rw [hall, h, Bool.false_and, Bool.false_and]
      clear hall HR e1 e2 e3 e4
      cases h1 : letterR s[i] with
      | true =>
        rw [h1] at hL ea
        have Hs := Lib.hid (hnext (by rw [ea]; rfl))
        clear h1 ea hnext hstop
        go_wp2_with fail
        refine (hL.out _).mono ?_
        rintro e w1 ⟨rfl, rfl⟩
        go_wp2_with fail
        go_roundg (gk - 1)
        case rel => exact ⟨i + 1, by simp, by omega, Hs.out, rfl⟩
        case measure => omega
      | false =>
        rw [h1] at hL ea
        cases h2 : digit s[i] with
        | true =>
          rw [h2] at hD ea
          have Hs := Lib.hid (hnext (by rw [ea]; rfl))
          clear h1 h2 ea hnext hstop
          go_wp2_with fail
          refine (hL.out _).mono ?_
          rintro e w1 ⟨rfl, rfl⟩
          go_wp2_with fail
          refine (hD.out _).mono ?_
          rintro e w1 ⟨rfl, rfl⟩
          go_wp2_with fail
          go_roundg (gk - 1)
          case rel => exact ⟨i + 1, by simp, by omega, Hs.out, rfl⟩
          case measure => omega
        | false =>
          rw [h2] at hD ea
          clear h1 h2
          by_cases c1 : ((s[i].toNat : Nat) : Int) = 33
          · have Hs := Lib.hid (hnext (by rw [ea, decide_eq_true c1]; simp))
            clear ea hnext hstop
            rw [c1] at hL hD
            go_wp2_with fail
            refine (hL.out _).mono ?_
            rintro e w1 ⟨rfl, rfl⟩
            go_wp2_with fail
            refine (hD.out _).mono ?_
            rintro e w1 ⟨rfl, rfl⟩
            go_wp2_with fail
            go_roundg (gk - 1)
            case rel => exact ⟨i + 1, by simp, by omega, Hs.out, rfl⟩
            case measure => omega
          by_cases c2 : ((s[i].toNat : Nat) : Int) = 37
          · have Hs := Lib.hid (hnext (by rw [ea, decide_eq_true c2]; simp))
            clear ea hnext hstop
            rw [c2] at hL hD
            go_wp2_with fail
            refine (hL.out _).mono ?_
            rintro e w1 ⟨rfl, rfl⟩
            go_wp2_with fail
            refine (hD.out _).mono ?_
            rintro e w1 ⟨rfl, rfl⟩
            go_wp2_with fail
            go_roundg (gk - 1)
            case rel => exact ⟨i + 1, by simp, by omega, Hs.out, rfl⟩
            case measure => omega
          by_cases c3 : ((s[i].toNat : Nat) : Int) = 44
          · have Hs := Lib.hid (hnext (by rw [ea, decide_eq_true c3]; simp))
            clear ea hnext hstop
            rw [c3] at hL hD
            go_wp2_with fail
            refine (hL.out _).mono ?_
            rintro e w1 ⟨rfl, rfl⟩
            go_wp2_with fail
            refine (hD.out _).mono ?_
            rintro e w1 ⟨rfl, rfl⟩
            go_wp2_with fail
            go_roundg (gk - 1)
            case rel => exact ⟨i + 1, by simp, by omega, Hs.out, rfl⟩
            case measure => omega
          by_cases c4 : ((s[i].toNat : Nat) : Int) = 64
          · have Hs := Lib.hid (hnext (by rw [ea, decide_eq_true c4]; simp))
            clear ea hnext hstop
            rw [c4] at hL hD
            go_wp2_with fail
            refine (hL.out _).mono ?_
            rintro e w1 ⟨rfl, rfl⟩
            go_wp2_with fail
            refine (hD.out _).mono ?_
            rintro e w1 ⟨rfl, rfl⟩
            go_wp2_with fail
            go_roundg (gk - 1)
            case rel => exact ⟨i + 1, by simp, by omega, Hs.out, rfl⟩
            case measure => omega
          have hrf := hstop (by rw [ea, decide_eq_false c1, decide_eq_false c2, decide_eq_false c3, decide_eq_false c4]; rfl)
          subst hrf
          have d1 : (((s[i].toNat : Nat) : Int) != 33) = true := bne_iff_ne.2 c1
          have d2 : (((s[i].toNat : Nat) : Int) != 37) = true := bne_iff_ne.2 c2
          have d3 : (((s[i].toNat : Nat) : Int) != 44) = true := bne_iff_ne.2 c3
          have d4 : (((s[i].toNat : Nat) : Int) != 64) = true := bne_iff_ne.2 c4
          clear ea hnext hstop c1 c2 c3 c4
          go_wp2_with fail
          refine (hL.out _).mono ?_
          rintro e w1 ⟨rfl, rfl⟩
          go_wp2_with fail
          refine (hD.out _).mono ?_
          rintro e w1 ⟨rfl, rfl⟩
          go_wp2_with fail
          go_ret
          exact ⟨rfl, rfl⟩
    · have hge : i = s.size := by omega
      subst hge
      rw [List.drop_of_length_le (by rw [bs_length]; exact Nat.le_refl _), List.all_nil, Bool.true_and] at hall
      have Hr := Lib.hid hall
      clear hall HR
      go_wp2_with fail
      go_ret
      refine ⟨?_, rfl⟩
      rw [Hr.out]
      show Ending.returned (Value.bool (!s.toList.isEmpty)) = _
      rw [toList_empty]
end Go.Proofs.YtlmjidandjemjaaGreatDoor.State

namespace Go.Proofs.YtlmjidandjemjaaGreatDoor.State
open Go.RowKit Go.Proofs.YtlmjidandjemjaaGreatDoor Go.Proofs.YtlmjidandjemjaaGreatDoor.Hp Go.Proofs.YtlmjidandjemjaaGreatDoor.Undo
set_option linter.unusedVariables false
attribute [local go_sem] Oper.semAt_some

set_option maxRecDepth 100000 in
set_option maxHeartbeats 2000000 in
theorem roption_calls (b : Nat) (s : Sr) (c : UInt8) (w : World) (R : Hp) (ho : s.o.size ≤ 1000000) (h : Sat w (pts b (srO s) * R)) :
    Calls Tryz.prog 118 #[pp b, .int .u8 ((c.toNat : Nat) : Int)] w fun e w' => e = .returned (.bool (decide (c ∈ s.o.data.toList))) ∧ w = w' := by
  have hsI : (s.o.size : Int) ≤ 1000000 := by omega
  obtain ⟨-, -, -, -, s4, -⟩ := sr_cells h
  obtain ⟨o, hoo⟩ : ∃ o, o = s.o := ⟨_, rfl⟩
  rw [← hoo] at s4 hsI ⊢
  obtain ⟨r, hr⟩ : ∃ r, r = decide (c ∈ bs o) := ⟨_, rfl⟩
  rw [show decide (c ∈ o.data.toList) = r from hr.symm]
  have HR := Lib.hid hr
  clear hr h hoo ho
  go_enter Tryz.func118, Tryz.ntmps118
  go_wp2_with fail
  go_loopg [5] (o.size) (fun (g : Nat) (iv : Value) (wr : World) => ∃ i : Nat, iv = .int .i64 (i : Int) ∧ i + g = o.size ∧ r = decide (c ∈ (bs o).drop i) ∧ w = wr)
  case atStart => exact ⟨0, rfl, by omega, by rw [List.drop_zero]; exact HR.out, rfl⟩
  case round =>
    clear HR
    obtain ⟨i, rfl, hg, hall, rfl⟩ := hrel
    by_cases hlt : i < o.size
    · have hltI : (i : Int) < o.size := by omega
      have hi0 : (0 : Int) ≤ i := by omega
      rw [bs_drop o i hlt] at hall
      by_cases hc : o[i] = c
      · have hrt : r = true := by rw [hall]; exact decide_eq_true (by rw [hc]; exact List.mem_cons_self)
        subst hrt
        subst hc
        clear hall
        go_wp2_with fail
        go_ret
        exact ⟨rfl, rfl⟩
      · have hrn : r = decide (c ∈ (bs o).drop (i + 1)) := by
          rw [hall, decide_eq_decide, List.mem_cons]
          exact ⟨fun h => h.resolve_left fun e => hc e.symm, .inr⟩
        have hcI : ¬ ((o[i].toNat : Nat) : Int) = ((c.toNat : Nat) : Int) := fun e => hc (UInt8.toNat_inj.1 (by omega))
        have Hr := Lib.hid hrn
        clear hall hc hrn
        go_wp2_with fail
        go_roundg (gk - 1)
        case rel => exact ⟨i + 1, by simp, by omega, Hr.out, rfl⟩
        case measure => omega
    · have hge : i = o.size := by omega
      subst hge
      rw [List.drop_of_length_le (by rw [bs_length]; exact Nat.le_refl _)] at hall
      have hr : r = false := by rw [hall]; simp
      subst hr
      clear hall
      go_wp2_with fail
      go_ret
      exact ⟨rfl, rfl⟩
theorem rd_vr {R S : Hp} {p : Option Addr} {cap : Nat} {L : List (Pa VM.T)} (h : RdR vrC 5 R p cap L) {w : World} (hw : Sat w (S * R)) (i : Nat) (hi : i < L.length) : ∃ b o, p = some ⟨b, o, none⟩ ∧ w.cell? ⟨b, o + i * 5, none⟩ = some (.string L[i].1) ∧ w.cell? ⟨b, o + i * 5 + 1, none⟩ = some (.string L[i].2.val) ∧ w.cell? ⟨b, o + i * 5 + 2, none⟩ = some (.bool L[i].2.set) ∧ w.cell? ⟨b, o + i * 5 + 3, none⟩ = some (.bool L[i].2.exp) ∧ w.cell? ⟨b, o + i * 5 + 4, none⟩ = some (.bool L[i].2.fix) := by
  obtain ⟨b, o, hb, hc⟩ := h.cells w S hw i hi
  exact ⟨b, o, hb, hc 0 (by omega), hc 1 (by omega), hc 2 (by omega), hc 3 (by omega), hc 4 (by omega)⟩
/-- A variable as the document tells it. -/
def vrV (x : Pa VM.T) : Value := .agg #[.string x.1, .string x.2.val, .bool x.2.set, .bool x.2.exp, .bool x.2.fix]
abbrev vrZO : Obj := .cells #[.string ⟨#[]⟩, .string ⟨#[]⟩, .bool false, .bool false, .bool false] 125 (0, 0)
def vrZ : Pa VM.T := (⟨#[]⟩, ⟨⟨#[]⟩, false, false, false⟩)
def vrG (M : ByteArray → Option VM.T) (k : ByteArray) : Pa VM.T := match M k with
  | some v => (k, v)
  | none => vrZ
theorem vrO_cells {w : World} {b : Nat} {x : Pa VM.T} {S : Hp} (h : Sat w (pts b (vrO x) * S)) : w.cell? ⟨b, 0, none⟩ = some (.string x.1) ∧ w.cell? ⟨b, 1, none⟩ = some (.string x.2.val) ∧ w.cell? ⟨b, 2, none⟩ = some (.bool x.2.set) ∧ w.cell? ⟨b, 3, none⟩ = some (.bool x.2.exp) ∧ w.cell? ⟨b, 4, none⟩ = some (.bool x.2.fix) := by
  have hb := h.get
  refine ⟨?_, ?_, ?_, ?_, ?_⟩ <;> rw [cell_at hb] <;> rfl
set_option maxRecDepth 100000 in
set_option maxHeartbeats 2000000 in
theorem rvar_calls (b : Nat) (s : Sr) (M : ByteArray → Option VM.T) (k : ByteArray) (w : World) (R : Hp) (hn : s.V.length ≤ 1000000) (hV : BagOf M s.V) (hr : RdR vrC 5 R s.vp s.vc s.V) (h : Sat w (pts b (srO s) * R)) :
    Calls Tryz.prog 117 #[pp b, .string k] w fun e w' => e = .returned (vrV (vrG M k)) ∧ Below w.heap.size w w' := by
  have hnn : (s.V.length : Int) ≤ 1000000 := by omega
  have hcl := hr.len
  have hct := hr.top
  have hcI : (s.vc : Int) ≤ 9223372036854775807 := by unfold maxLen at hct; omega
  have hclI : (s.V.length : Int) ≤ (s.vc : Int) := by omega
  have S1 := h.alloc vrZO
  obtain ⟨p, cap, L, hp, hcap, hL⟩ : ∃ p cap L, p = s.vp ∧ cap = s.vc ∧ L = s.V := ⟨_, _, _, rfl, rfl, rfl⟩
  obtain ⟨s0, -⟩ := sr_cells (S1.perm (show _ = pts b (srO s) * (pts w.heap.size vrZO * R) by ac_rfl))
  have hr2 : RdR vrC 5 R p cap L := by rw [hp, hcap, hL]; exact hr
  rw [← hp, ← hcap, ← hL] at s0
  rw [← hcap] at hcI hclI
  rw [← hL] at hclI hnn hV
  have Hp := Lib.hid (fun (i : Nat) (hi : i < L.length) => rd_vr hr2 (S1.perm (show _ = (pts w.heap.size vrZO * pts b (srO s)) * R by ac_rfl)) i hi)
  have H := Lib.hid h
  clear hr hr2 h hcl hct hp hcap hL S1
  obtain ⟨X, hX⟩ : ∃ X, X = vrG M k := ⟨_, rfl⟩
  rw [← hX]
  have HX := Lib.hid hX
  clear hX
  go_enter Tryz.func117, Tryz.ntmps117
  go_upto_region 1 with fail
  cases hM : M k with
  | none =>
    have hno := Lib.hid (bag_none hV hM)
    have hX0 : X = vrZ := by rw [HX.out]; unfold vrG; rw [hM]
    subst hX0
    clear hV hM HX
    obtain ⟨r0, r1, r2, r3, r4⟩ := vrO_cells (x := vrZ) (H.out.alloc vrZO)
    have B := Lib.hid ((Below.refl _ w).alloc (Nat.le_refl _) vrZO)
    dsimp only [vrZ] at r0 r1 r2 r3 r4
    go_wp2_with fail
    go_loopg [5] (L.length) (fun (g : Nat) (iv : Value) (wr : World) => ∃ i : Nat, i + g = L.length ∧ iv = .int .i64 (i : Int) ∧ wr = w.alloc vrZO)
    case atStart => exact ⟨0, by omega, rfl, rfl⟩
    case round =>
      obtain ⟨i, hik, rfl, rfl⟩ := hrel
      have hi0 : (0 : Int) ≤ i := by omega
      by_cases hi : i < L.length
      · obtain ⟨b2, o, rfl, p0, p1, p2, p3, p4⟩ := Hp.out i hi
        have hne := toList_ne (hno.out L[i] (List.getElem_mem hi))
        have hlt : (i : Int) < L.length := by omega
        obtain ⟨x, hx⟩ : ∃ x, x = L[i].1 := ⟨_, rfl⟩
        rw [← hx] at p0 hne
        have Hik := Lib.hid hik
        clear hik p1 p2 p3 p4 hx
        go_wp2_with fail
        go_roundg (gk - 1)
        case measure => have := Hik.out; omega
        case rel => exact ⟨i + 1, by have := Hik.out; omega, rfl, rfl⟩
      · have hge : ¬ ((i : Int) < L.length) := by omega
        clear hik
        go_wp2_with fail
        exact bodyPost_ret (v := vrV vrZ) (by simp [results, Tryz.results117, go_sem, r0, r1, r2, r3, r4, vrV, vrZ]) rfl ⟨rfl, B.out⟩
  | some v =>
    obtain ⟨j, hj, hjk, hjv, hot⟩ := bag_some hV hM
    have Hot := Lib.hid hot
    have hX0 : X = (k, v) := by rw [HX.out]; unfold vrG; rw [hM]
    subst hX0
    clear hV hM HX hot
    obtain ⟨r0, r1, r2, r3, r4⟩ := vrO_cells (x := (k, v)) (H.out.alloc (vrO (k, v)))
    have B := Lib.hid ((Below.refl _ w).alloc (Nat.le_refl _) (vrO (k, v)))
    dsimp only at r0 r1 r2 r3 r4
    go_wp2_with fail
    go_loopg [5] (j + 1) (fun (g : Nat) (iv : Value) (wr : World) => ∃ i : Nat, i + g = j + 1 ∧ 0 < g ∧ iv = .int .i64 (i : Int) ∧ wr = w.alloc vrZO)
    case atStart => exact ⟨0, by omega, by omega, rfl, rfl⟩
    case round =>
      obtain ⟨i, hik, hk0, rfl, rfl⟩ := hrel
      have hi : i < L.length := by omega
      have hlt : (i : Int) < L.length := by omega
      have hi0 : (0 : Int) ≤ i := by omega
      obtain ⟨b2, o, rfl, p0, p1, p2, p3, p4⟩ := Hp.out i hi
      by_cases hij : i = j
      · subst hij
        rw [hjk] at p0
        rw [hjv] at p1 p2 p3 p4
        have heq : (k.toList == k.toList) = true := (toListS_iff _ _).2 rfl
        clear hjk hjv hik
        go_wp2_with fail
        exact bodyPost_ret (v := vrV (k, v)) (by simp [results, Tryz.results117, go_sem, r0, r1, r2, r3, r4, vrV]) rfl ⟨rfl, B.out⟩
      · have hne := toList_ne (Hot.out i hi hij)
        clear hjk hjv
        obtain ⟨x, hx⟩ : ∃ x, x = L[i].1 := ⟨_, rfl⟩
        rw [← hx] at p0 hne
        have Hik := Lib.hid hik
        clear hik p1 p2 p3 p4 hx
        go_wp2_with fail
        go_roundg (gk - 1)
        case measure => omega
        case rel => exact ⟨i + 1, by have := Hik.out; omega, by have := Hik.out; omega, rfl, rfl⟩
end Go.Proofs.YtlmjidandjemjaaGreatDoor.State

namespace Go.Proofs.YtlmjidandjemjaaGreatDoor.State
open Go.RowKit Go.Proofs.YtlmjidandjemjaaGreatDoor Go.Proofs.YtlmjidandjemjaaGreatDoor.Hp Go.Proofs.YtlmjidandjemjaaGreatDoor.Undo
set_option linter.unusedVariables false
attribute [local go_sem] Oper.semAt_some
theorem fieldsVar : Tryz.prog.underlying 44 = some (.struct (Tryz.prog.fieldsOf 44)) := by kernel_rfl
end Go.Proofs.YtlmjidandjemjaaGreatDoor.State

