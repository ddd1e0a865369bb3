/- HandlesPlays, part 20 of 29: the texts StTl StAw StO StW StX StDo, joined by a program. -/
import Derived.Test.YtlmjidandjemjaaGreatDoorSp16
import Derived.Test.YtlmjidandjemjaaGreatDoorSp19
import Derived.Test.YtlmjidandjemjaaGreatDoorSp12
import Derived.Test.YtlmjidandjemjaaGreatDoorRows
import Derived.ProofKit
import Derived.OpenShut
import Derived.ShutString
import Derived.ChangeOld
import Derived.Deep.Slices
import Derived.Lib.SmallJoins
import Derived.Deep.Strs
import Derived.LaidMore
import Derived.Lay
import Derived.Handed
import Derived.Shelf.Strings.Shaped
namespace Go.Proofs.YtlmjidandjemjaaGreatDoor.State
open Go.RowKit Go.Proofs.YtlmjidandjemjaaGreatDoor Go.Proofs.YtlmjidandjemjaaGreatDoor.Hp Go.Proofs.YtlmjidandjemjaaGreatDoor.Undo
set_option linter.unusedVariables false
attribute [local go_sem] Oper.semAt_some

theorem keys_one {α : Type} {ks : List ByteArray} {k : ByteArray} {v : α} (h : KeysOf (putM (fun _ => none) k v) ks) : ks = [k] := by
  have hm : ∀ x, x ∈ ks ↔ x = k := fun x => by
    rw [h.2 x]; unfold putM
    by_cases c : x = k
    · rw [if_pos c]; simp [c]
    · rw [if_neg c]; simp [c]
  have hr := h.1
  cases ks with
  | nil => exact absurd ((hm k).2 rfl) (by simp)
  | cons a t =>
    have ha : a = k := (hm a).1 List.mem_cons_self
    subst ha
    cases t with
    | nil => rfl
    | cons b u =>
      have hb : b = a := (hm b).1 (by simp)
      subst hb
      have := (List.pairwise_cons.1 hr).1 b List.mem_cons_self
      exact absurd this (List.lt_irrefl _)
/-- Enter without an open mark: what does something is gone. -/
theorem enterL_free (most : Int) : ∀ (ks : List ByteArray) (n : Now), n.ms = [] → (Now.enterL most ks n).1 = 0 ∧ ((∀ k, k ∈ ks → ¬ ((n.s.T k).getD ⟨#[]⟩).size = 0 → (Now.enterL most ks n).2.s.T k = none) ∧ (∀ k, (k ∉ ks ∨ ((n.s.T k).getD ⟨#[]⟩).size = 0) → (Now.enterL most ks n).2.s.T k = n.s.T k)) ∧
    (Now.enterL most ks n).2.ms = [] ∧ (Now.enterL most ks n).2.N ≤ n.N + 2 * ks.length
  | [], n, h => ⟨rfl, ⟨fun k hk => absurd hk (by simp), fun k _ => rfl⟩, h, Nat.le_refl _⟩
  | k :: ks, n, h => by
    rw [enterL_cons]
    by_cases hz : ((n.s.T k).getD ⟨#[]⟩).size = 0
    · rw [if_pos hz]
      obtain ⟨h1, ⟨h2, h2'⟩, h3, h5⟩ := enterL_free most ks n h
      refine ⟨h1, ⟨fun x hx hn => ?_, fun x hx => ?_⟩, h3, by simp; omega⟩
      · rcases List.mem_cons.1 hx with rfl | hx
        · exact absurd hz hn
        · exact h2 x hx hn
      · rcases hx with hx | hx
        · exact h2' x (.inl fun h => hx (List.mem_cons_of_mem _ h))
        · exact h2' x (.inr hx)
    · rw [if_neg hz]
      have hsome : (n.s.T k).isSome = true := by
        cases hc : n.s.T k with
        | none => rw [hc] at hz; exact absurd rfl hz
        | some _ => rfl
      have hd : n.delT most k = n.put most { n.s with T := delM n.s.T k } := by
        unfold Now.delT
        rw [if_neg (by rw [hsome]; decide)]
      rw [hd]
      have he : tE most n.hist n.ms = 0 := by unfold tE; rw [if_pos h]
      have hp1 : (n.put most { n.s with T := delM n.s.T k }).1 = 0 := he
      have hp2 : (n.put most { n.s with T := delM n.s.T k }).2.s = { n.s with T := delM n.s.T k } := by
        show (if tE most n.hist n.ms = 0 then _ else _) = _
        rw [if_pos he]
      rw [if_pos hp1]
      obtain ⟨h1, ⟨h2, h2'⟩, h3, h5⟩ := enterL_free most ks (n.put most { n.s with T := delM n.s.T k }).2 h
      rw [hp2] at h2 h2'
      have hdel : ∀ x, delM n.s.T k x = if x = k then none else n.s.T x := fun x => rfl
      refine ⟨h1, ⟨fun x hx hn => ?_, fun x hx => ?_⟩, h3, ?_⟩
      · by_cases hxk : x = k
        · subst hxk
          rw [h2' x (.inr (by show ((delM n.s.T x x).getD ⟨#[]⟩).size = 0; rw [hdel, if_pos rfl]; rfl))]
          show delM n.s.T x x = none
          rw [hdel, if_pos rfl]
        · rcases List.mem_cons.1 hx with hx | hx
          · exact absurd hx hxk
          · exact h2 x hx (by show ¬ ((delM n.s.T k x).getD ⟨#[]⟩).size = 0; rw [hdel, if_neg hxk]; exact hn)
      · have hxk : x ≠ k := by
          rintro rfl
          rcases hx with hx | hx
          · exact hx List.mem_cons_self
          · exact hz hx
        have hs : delM n.s.T k x = n.s.T x := by rw [hdel, if_neg hxk]
        have := h2' x (by
          rcases hx with hx | hx
          · exact .inl fun h => hx (List.mem_cons_of_mem _ h)
          · exact .inr (by show ((delM n.s.T k x).getD ⟨#[]⟩).size = 0; rw [hs]; exact hx))
        rw [this]
        exact hs
      · have : (n.put most { n.s with T := delM n.s.T k }).2.N = n.N + 2 := rfl
        rw [this] at h5
        rw [List.length_cons]
        omega
/-- The row of arguments that awake hands in. -/
theorem row3 {w : World} {b : Nat} {x y z : ByteArray} (h : w.heap[b]? = some (.cells #[.string x, .string y, .string z] 9 (0, 0))) : StrsAt w (some ⟨b, 0, none⟩) [x, y, z] := by
  refine .inr ⟨b, 0, rfl, fun j hj => ?_⟩
  rw [Nat.zero_add, cell_at h]
  match j, hj with
  | 0, _ => rfl
  | 1, _ => rfl
  | 2, _ => rfl
theorem row1_cell {w : World} {S : Hp} {p : Option Addr} {cap : Nat} {x : ByteArray} (h : Sat w (arr 9 1 p 1 cap [.string x] * S)) : ∃ b o, p = some ⟨b, o, none⟩ ∧ w.cell? ⟨b, o, none⟩ = some (.string x) := by
  obtain ⟨b, o, rfl⟩ := h.arr_addr (by have := h.arr_len.2.1; omega)
  refine ⟨b, o, rfl, ?_⟩
  have := h.arr_cell 0 (by simp)
  simpa using this
end Go.Proofs.YtlmjidandjemjaaGreatDoor.State

namespace Go.Proofs.YtlmjidandjemjaaGreatDoor.State
open Go.RowKit Go.Proofs.YtlmjidandjemjaaGreatDoor Go.Proofs.YtlmjidandjemjaaGreatDoor.Hp Go.Proofs.YtlmjidandjemjaaGreatDoor.Undo
set_option linter.unusedVariables false
attribute [local go_sem] Oper.semAt_some

abbrev bA : ByteArray := ⟨#[97]⟩
abbrev bB : ByteArray := ⟨#[98]⟩
abbrev bC : ByteArray := ⟨#[99]⟩
abbrev bX : ByteArray := ⟨#[120]⟩
abbrev bY : ByteArray := ⟨#[121]⟩
abbrev b1 : ByteArray := ⟨#[49]⟩
abbrev b2 : ByteArray := ⟨#[50]⟩
abbrev b0 : ByteArray := ⟨#[]⟩
abbrev bINT : ByteArray := ⟨#[73, 78, 84]⟩
abbrev bEXIT : ByteArray := ⟨#[69, 88, 73, 84]⟩
def am1 : Now := (n0.setO 10 97 true).2
def am2 : Now := (am1.setP 10 bX b1).2
def am3 : Now := (am2.markP 10 bX false true).2
def am4 : Now := (am3.setG 10 [bA, bB, bC]).2
def am5 : Now := (am4.shiftP 10 2).2
def am6 : Now := (am5.setT 10 bINT b0).2
def am7 : Now := (am6.setT 10 bEXIT bY).2
abbrev o3 : Obj := .cells #[.string bA, .string bB, .string bC] 9 (0, 0)
theorem am1o : OOk n0.s.o := by unfold OOk; decide
theorem am2V : am2.s.V = putM (fun _ => none) bX ⟨b1, true, true, false⟩ := by rfl
theorem am2ok : VOk am2.s := by
  intro k hk
  rw [am2V] at hk
  have h : k = bX := by
    unfold putM at hk
    by_cases c : k = bX
    · exact c
    · rw [if_neg c] at hk; cases hk
  subst h
  decide
theorem am2env {ks : List ByteArray} (h : KeysOf am2.s.V ks) : envL am2.s ks = [⟨#[120, 61, 49]⟩] := by
  rw [am2V] at h
  have := keys_one h
  subst this
  decide
theorem am3s : am3.setP 10 bX b2 = (26, am3) := by
  have h1 : isName bX = true := by decide
  have h2 : ¬ (4096 < b2.size) := by decide
  have h3 : (am3.s.var bX).fix = true := by decide
  unfold Now.setP
  rw [if_neg (by rw [h1]; decide), if_neg h2, if_pos h3]
theorem am5l : am5.s.l = [bC] := by rfl
theorem am5s : am5.shiftP 10 2 = (1, am5) := by
  unfold Now.shiftP
  rw [am5l, if_pos (Or.inr (by decide))]
theorem am7ms : am7.ms = [] := by rfl
theorem am7T (k : ByteArray) (h : (am7.s.T k).isSome = true) : k = bEXIT ∨ k = bINT := by
  have hT : am7.s.T = putM (putM (fun _ => none) bINT b0) bEXIT bY := by rfl
  rw [hT] at h
  unfold putM at h
  by_cases c : k = bEXIT
  · exact .inl c
  · rw [if_neg c] at h
    by_cases c2 : k = bINT
    · exact .inr c2
    · rw [if_neg c2] at h; cases h
theorem keys_two {α : Type} {M : ByteArray → Option α} {a b : ByteArray} (hM : ∀ k, (M k).isSome = true → k = a ∨ k = b) {ks : List ByteArray} (h : KeysOf M ks) : ks.length ≤ 2 := by
  obtain ⟨hr, hm⟩ := h
  match ks, hr, hm with
  | [], _, _ => simp
  | [_], _, _ => simp
  | [_, _], _, _ => simp
  | x :: y :: z :: t, hr, hm =>
    exfalso
    have e1 := hM x ((hm x).1 (by simp))
    have e2 := hM y ((hm y).1 (by simp))
    have e3 := hM z ((hm z).1 (by simp))
    have p1 := List.pairwise_cons.1 hr
    have p2 := List.pairwise_cons.1 p1.2
    have l1 := p1.1 y (by simp)
    have l2 := p1.1 z (by simp)
    have l3 := p2.1 z (by simp)
    rcases e1 with rfl | rfl <;> rcases e2 with rfl | rfl <;> rcases e3 with rfl | rfl <;> first | exact List.lt_irrefl _ l1 | exact List.lt_irrefl _ l2 | exact List.lt_irrefl _ l3
set_option maxRecDepth 100000 in
set_option maxHeartbeats 8000000 in
theorem awake_calls (w : World) (R : Hp) (hg : Glob R) (h : Sat w R) :
    Calls Tryz.prog 9 #[] w fun e w' => (e = .returned (.bool true) ∧ Sat w' R) ∧ Ran w w' := by
  have HB := Lib.hid (begun_calls 10 (by decide) (by decide) w R h)
  have HG := Lib.hid hg
  clear h hg
  go_enter Tryz.func9, Tryz.ntmps9
  go_wp2_with fail
  refine HB.out.mono ?_
  rintro e w1 ⟨⟨K, hm, -, rfl, S1⟩, R1⟩
  have HM := Lib.hid hm
  have S1 := Lib.hid S1
  have R1 := Lib.hid R1
  clear hm HB

  have HC := SetOption_calls K n0 97 true w1 (R) am1o HG.out (by decide) (by decide) S1.out
  rw [HM.out] at HC
  have HC := Lib.hid HC
  go_wp2_with fail
  refine HC.out.mono ?_
  rintro e w2 ⟨⟨rfl, S⟩, Rn⟩
  have S2 : Hid (SAt K w2 am1 (R)) := Lib.hid S
  have R2 := Lib.hid (Below.trans R1.out Rn)
  clear S Rn S1 R1 HC
  have HC := Set_calls K am1 bX b1 w2 (R) (by decide) (by decide) (by decide) (by decide) S2.out
  rw [HM.out] at HC
  have HC := Lib.hid HC
  go_wp2_with fail
  refine HC.out.mono ?_
  rintro e w3 ⟨⟨rfl, S⟩, Rn⟩
  have S3 : Hid (SAt K w3 am2 (R)) := Lib.hid S
  have R3 := Lib.hid (Below.trans R2.out Rn)
  clear S Rn S2 R2 HC
  have HC := Lib.hid (Environ_calls K am2 w3 (R) (by decide) am2ok S3.out)
  go_wp2_with fail
  refine HC.out.mono ?_
  rintro e w4 ⟨⟨lp, lc, ks, rfl, hk, S⟩, Rn⟩
  rw [am2env hk] at S ⊢
  have S4 : Hid (SAt K w4 am2 (arr 9 1 lp 1 lc [.string ⟨#[120, 61, 49]⟩] * R)) := Lib.hid S
  have R4 := Lib.hid (Below.trans R3.out Rn)
  clear S Rn S3 R3 HC hk
  rw [show ([(⟨#[120, 61, 49]⟩ : ByteArray)] : List ByteArray).length = 1 from rfl]
  have HC := Mark_calls K am2 bX false true w4 (arr 9 1 lp 1 lc [.string ⟨#[120, 61, 49]⟩] * R) (by decide) (by decide) (by decide) S4.out
  rw [HM.out] at HC
  have HC := Lib.hid HC
  go_wp2_with fail
  refine HC.out.mono ?_
  rintro e w5 ⟨⟨rfl, S⟩, Rn⟩
  have S5 : Hid (SAt K w5 am3 (arr 9 1 lp 1 lc [.string ⟨#[120, 61, 49]⟩] * R)) := Lib.hid S
  have R5 := Lib.hid (Below.trans R4.out Rn)
  clear S Rn S4 R4 HC
  have HC := Set_calls K am3 bX b2 w5 (arr 9 1 lp 1 lc [.string ⟨#[120, 61, 49]⟩] * R) (by decide) (by decide) (by decide) (by decide) S5.out
  rw [HM.out, am3s] at HC
  have HC := Lib.hid HC
  go_wp2_with fail
  refine HC.out.mono ?_
  rintro e w6 ⟨⟨rfl, S⟩, Rn⟩
  have S6 : Hid (SAt K w6 am3 (arr 9 1 lp 1 lc [.string ⟨#[120, 61, 49]⟩] * R)) := Lib.hid S
  have R6 := Lib.hid (Below.trans R5.out Rn)
  clear S Rn S5 R5 HC
  have SA := S6.out.alloc o3
  have RA := Lib.hid (Ran.new R6.out o3)
  have HC := SetArgs_calls K am3 [bA, bB, bC] (some ⟨w6.heap.size, 0, none⟩) 3 (w6.alloc o3) _ (by decide) (row3 (heap_alloc_new w6 o3)) (by decide) (by decide) SA
  rw [HM.out] at HC
  have HC := Lib.hid HC
  clear SA
  go_wp2_with fail
  refine HC.out.mono ?_
  rintro e w7 ⟨⟨rfl, S⟩, Rn⟩
  have S7 : Hid (SAt K w7 am4 (arr 9 1 lp 1 lc [.string ⟨#[120, 61, 49]⟩] * R)) := Lib.hid (SAt.right S)
  have R7 := Lib.hid (Below.trans RA.out Rn)
  clear S Rn S6 R6 RA HC
  have HC := Shift_calls K am4 2 w7 (arr 9 1 lp 1 lc [.string ⟨#[120, 61, 49]⟩] * R) (by decide) (by decide) (by decide) S7.out
  rw [HM.out] at HC
  have HC := Lib.hid HC
  go_wp2_with fail
  refine HC.out.mono ?_
  rintro e w8 ⟨⟨rfl, S⟩, Rn⟩
  have S8 : Hid (SAt K w8 am5 (arr 9 1 lp 1 lc [.string ⟨#[120, 61, 49]⟩] * R)) := Lib.hid S
  have R8 := Lib.hid (Below.trans R7.out Rn)
  clear S Rn S7 R7 HC
  have HC := Shift_calls K am5 2 w8 (arr 9 1 lp 1 lc [.string ⟨#[120, 61, 49]⟩] * R) (by decide) (by decide) (by decide) S8.out
  rw [HM.out, am5s] at HC
  have HC := Lib.hid HC
  go_wp2_with fail
  refine HC.out.mono ?_
  rintro e w9 ⟨⟨rfl, S⟩, Rn⟩
  have S9 : Hid (SAt K w9 am5 (arr 9 1 lp 1 lc [.string ⟨#[120, 61, 49]⟩] * R)) := Lib.hid S
  have R9 := Lib.hid (Below.trans R8.out Rn)
  clear S Rn S8 R8 HC
  have HC := Args_calls K am5 w9 (arr 9 1 lp 1 lc [.string ⟨#[120, 61, 49]⟩] * R) (by decide) S9.out
  have HC := Lib.hid HC
  go_wp2_with fail
  refine HC.out.mono ?_
  rintro e w10 ⟨⟨ap, ac, rfl, S⟩, Rn⟩
  rw [am5l] at S ⊢
  have S10 : Hid (SAt K w10 am5 (arr 9 1 ap 1 ac [.string bC] * (arr 9 1 lp 1 lc [.string ⟨#[120, 61, 49]⟩] * R))) := Lib.hid S
  have R10 := Lib.hid (Below.trans R9.out (Rn.mono (Nat.zero_le _)))
  clear S Rn S9 R9 HC
  rw [show ([bC] : List ByteArray).length = 1 from rfl]
  have HC := SetTrap_calls K am5 bINT b0 (by decide) w10 (arr 9 1 ap 1 ac [.string bC] * (arr 9 1 lp 1 lc [.string ⟨#[120, 61, 49]⟩] * R)) (by decide) (by decide) (by decide) S10.out
  rw [HM.out] at HC
  have HC := Lib.hid HC
  go_wp2_with fail
  refine HC.out.mono ?_
  rintro e w11 ⟨⟨rfl, S⟩, Rn⟩
  have S11 : Hid (SAt K w11 am6 (arr 9 1 ap 1 ac [.string bC] * (arr 9 1 lp 1 lc [.string ⟨#[120, 61, 49]⟩] * R))) := Lib.hid S
  have R11 := Lib.hid (Below.trans R10.out Rn)
  clear S Rn S10 R10 HC
  have HC := SetTrap_calls K am6 bEXIT bY (by decide) w11 (arr 9 1 ap 1 ac [.string bC] * (arr 9 1 lp 1 lc [.string ⟨#[120, 61, 49]⟩] * R)) (by decide) (by decide) (by decide) S11.out
  rw [HM.out] at HC
  have HC := Lib.hid HC
  go_wp2_with fail
  refine HC.out.mono ?_
  rintro e w12 ⟨⟨rfl, S⟩, Rn⟩
  have S12 : Hid (SAt K w12 am7 (arr 9 1 ap 1 ac [.string bC] * (arr 9 1 lp 1 lc [.string ⟨#[120, 61, 49]⟩] * R))) := Lib.hid S
  have R12 := Lib.hid (Below.trans R11.out Rn)
  clear S Rn S11 R11 HC
  have HC := Enter_calls K am7 w12 (arr 9 1 ap 1 ac [.string bC] * (arr 9 1 lp 1 lc [.string ⟨#[120, 61, 49]⟩] * R)) (by decide) (by decide) (fun ks hk => ⟨Nat.le_trans (keys_two am7T hk) (by decide), fun k hkm => by rcases am7T k ((hk.2 k).1 hkm) with rfl | rfl <;> decide⟩) S12.out
  unfold EnterSays at HC
  rw [HM.out] at HC
  have HC := Lib.hid HC
  go_wp2_with fail
  refine HC.out.mono ?_
  rintro e w13 ⟨⟨ks, hk, rfl, S⟩, Rn⟩
  obtain ⟨hz, ⟨hg1, hg2⟩, -, -⟩ := enterL_free 10 ks am7 am7ms
  have hE : (Now.enterL 10 ks am7).2.s.T bEXIT = none := hg1 bEXIT ((hk.2 bEXIT).2 (by decide)) (by decide)
  have hI : (Now.enterL 10 ks am7).2.s.T bINT = some b0 := by rw [hg2 bINT (.inr (by decide))]; decide
  obtain ⟨m8, hm8⟩ : ∃ m8, m8 = (Now.enterL 10 ks am7).2 := ⟨_, rfl⟩
  rw [← hm8] at S hE hI
  have S13 : Hid (SAt K w13 m8 (arr 9 1 ap 1 ac [.string bC] * (arr 9 1 lp 1 lc [.string ⟨#[120, 61, 49]⟩] * R))) := Lib.hid S
  have R13 := Lib.hid (Below.trans R12.out Rn)
  clear S Rn S12 R12 HC hk hz hg1 hg2 hm8
  have HC := Trap_calls K m8 bINT w13 (arr 9 1 ap 1 ac [.string bC] * (arr 9 1 lp 1 lc [.string ⟨#[120, 61, 49]⟩] * R)) (by decide) S13.out
  rw [hI] at HC
  have HC := Lib.hid HC
  go_wp2_with fail
  refine HC.out.mono ?_
  rintro e w14 ⟨rfl, Rn⟩
  have S14 := Lib.hid (S13.out.below Rn)
  have R14 := Lib.hid (Below.trans R13.out (Rn.mono (Nat.zero_le _)))
  clear Rn S13 R13 HC
  have HC := Trap_calls K m8 bEXIT w14 (arr 9 1 ap 1 ac [.string bC] * (arr 9 1 lp 1 lc [.string ⟨#[120, 61, 49]⟩] * R)) (by decide) S14.out
  rw [hE] at HC
  have HC := Lib.hid HC
  go_wp2_with fail
  refine HC.out.mono ?_
  rintro e w15 ⟨rfl, Rn⟩
  have S15 := Lib.hid (S14.out.below Rn)
  have R15 := Lib.hid (Below.trans R14.out (Rn.mono (Nat.zero_le _)))
  clear Rn S14 R14 HC
  rw [show ((none : Option ByteArray).isSome) = false from rfl, show ((some b0 : Option ByteArray).isSome) = true from rfl] at *
  obtain ⟨ab, ao, rfl, hca⟩ := row1_cell S15.out.rest
  obtain ⟨lb, lo, rfl, hcl⟩ := row1_cell S15.out.rest.right
  have hfin := S15.out.rest.right.right
  have Hfin := Lib.hid hfin
  clear hfin S15 hI hE
  go_wp2_with fail
  go_ret
  exact ⟨⟨rfl, Hfin.out⟩, R15.out⟩
end Go.Proofs.YtlmjidandjemjaaGreatDoor.State

namespace Go.Proofs.YtlmjidandjemjaaGreatDoor.State
open Go.ChangeShapes Go.WideShapes Go.ChangeAt Go.ChangeMaps Go.RowKit Go.Proofs.YtlmjidandjemjaaGreatDoor Go.Proofs.YtlmjidandjemjaaGreatDoor.Hp
set_option linter.unusedVariables false

theorem cellsStr : Tryz.prog.cellsOf 9 = 1 := by kernel_rfl
/-- Texts of a slice, read in a world that is there. -/
def TextsAt (w : World) (p : Option Addr) (l : List ByteArray) : Prop := ∀ i (h : i < l.length), l[i].size ≤ maxLen ∧ ∃ b o, p = some ⟨b, o, none⟩ ∧ b < w.heap.size ∧ w.cell? ⟨b, o + i, none⟩ = some (.string l[i])
theorem TextsAt.strs {w : World} {p : Option Addr} {l : List ByteArray} (h : TextsAt w p l) : StrsAt w p l := by
  cases l with
  | nil => exact .inl rfl
  | cons x t =>
    obtain ⟨_, b, o, hp, _, _⟩ := h 0 (by simp)
    refine .inr ⟨b, o, hp, fun j hj => ?_⟩
    obtain ⟨_, b', o', hp', _, hc⟩ := h j hj
    rw [hp] at hp'
    injection hp' with hp'
    injection hp' with e1 e2
    subst e1 e2
    exact hc
theorem maxlen_cell (w : World) (h : w.ShapedOpen Tryz.prog) : ∃ m, w.cell? ⟨0, 0, none⟩ = some (.int .i64 m) :=
  Go.Proofs.cell_of_shapedOpen_int (zero := #[.int .i64 0]) (t := 3) h (of_decide_eq_true (by kernel_rfl)) (by kernel_rfl) rfl (by kernel_rfl) (by kernel_rfl) Tryz.underlying3
theorem glob_keep {W : World} (h : W.ShapedOpen Tryz.prog) : Glob (keep W) := by
  obtain ⟨m, hm⟩ := maxlen_cell W h
  refine ⟨m, fun w S hS => ?_⟩
  rw [← hm]
  exact World.cell?_of_block (w := W) (hS.right.kept 0 (World.block_lt_of_cell? _ _ hm))
/-- The wrap of a law's row that keeps what is laid and the world's shape. -/
theorem handed_shaped {H : Type} {enc : TypeId × Value → H} {a : Assume} {C : Checked} {os : Os} {f : FuncId} {fn : Func} {s : ChangeSpec} {conds : List PathCond} {apart fresh handsOn again : Bool} {X : World → Array Value → Prop}
    (hX : ∀ (w w' : World) (args : Array Value), w.heap = w'.heap → X w args → X w' args)
    (own : ownKnob C.prog.godebug = none) (started : os.Started) (noInit : C.prog.inits.idxOf? f = none) (hfn : C.prog.funcs[f]? = some fn)
    (witness : ∃ (w : World) (tape : Tape) (i : Input), w.os = os ∧ (w.forCall tape i).Shaped C.prog ∧ i.vars = [] ∧ Input.okWide C.prog (w.forCall tape i) .any w.heap.size f i ∧
      ((s.pre enc C.prog fn conds apart (w.forCall tape i).memory i.args ∧ X (w.forCall tape i).memory i.args) ∧ sizedMet enc C.prog fn (OpenSpec.ofChange s) apart (w.forCall tape i).memory i.args) ∧ a.holds C.prog (lone (Frame.enter C.prog f i.args .normal) [] (w.forCall tape i)))
    (contract : ∀ (W : World) (base : Nat) (args : Array Value) (ds gs : List (DataW H)) (before : List MemPlace),
      (∀ (j : Nat) t v, fn.params[j]? = some t → args[j]? = some v → Value.okWide C.prog W .any base t v) →
      DataW.Whole enc C.prog fn.params.toList s.vars apart W args.toList ds gs before →
      conds.all (PathCond.test C.prog ⟨fn.params.toList, ds, s.plain.varTypes C.prog, gs⟩) = true →
      (DataW.weightsEach C.prog (fn.params.toList ++ s.plain.varTypes C.prog) (ds ++ gs)).all (· ≤ reachBytes) = true → X W args →
      W.ShapedOpen C.prog →
      Calls C.prog f args W fun e W' => ∃ v, e = .returned v ∧ s.post enc C.prog fn apart fresh handsOn again W args v W') :
    ReturnsInHanded a C os f .any (fun w args => (s.pre enc C.prog fn conds apart w args ∧ X w args) ∧ sizedMet enc C.prog fn (OpenSpec.ofChange s) apart w args) (s.post enc C.prog fn apart fresh handsOn again) := by
  refine returnsInHanded_of_calls own started noInit witness ?_
  intro w tape i _ hsh _ hok hpre hholds
  obtain ⟨_, _, _, fn', hfn', _, _, _, _, hval⟩ := hok
  have e : fn' = fn := Option.some.inj (hfn'.symm.trans hfn)
  subst e
  obtain ⟨⟨⟨ds, gs, before, hw, hc⟩, hx⟩, hz⟩ := hpre
  have hw' := DataW.Whole.of_heap (w' := w.forCall tape i) (by rfl) hw
  refine (contract (w.forCall tape i) w.heap.size i.args ds gs before hval hw' hc (hz.weights hw) (hX _ _ _ (by rfl) hx) hsh).mono fun e W' ⟨v, he, hp⟩ => ?_
  subst he
  exact ChangeSpec.post_blind hp
end Go.Proofs.YtlmjidandjemjaaGreatDoor.State

namespace Go.Proofs.YtlmjidandjemjaaGreatDoor.State
open Go.ChangeShapes Go.WideShapes Go.ChangeAt Go.ChangeMaps Go.RowKit Go.Proofs.YtlmjidandjemjaaGreatDoor Go.Proofs.YtlmjidandjemjaaGreatDoor.Hp Go.Proofs.YtlmjidandjemjaaGreatDoor.Undo
set_option linter.unusedVariables false
attribute [local go_sem] Oper.semAt_some

theorem cellsI : Tryz.prog.cellsOf 3 = 1 := by kernel_rfl
theorem cellsLs : Tryz.prog.cellsOf 22 = 1 := by kernel_rfl
theorem cellsOp : Tryz.prog.cellsOf 41 = 5 := by kernel_rfl
/-- A call of the laws; p, c: where its texts lie. -/
structure Opr where
  ask : Int
  k : ByteArray
  t : ByteArray
  n : Int
  L : List ByteArray
  p : Option Addr
  c : Nat
instance : Inhabited Opr := ⟨⟨0, ⟨#[]⟩, ⟨#[]⟩, 0, [], none, 0⟩⟩
def OkOp (w : World) (o : Opr) : Prop := I64 o.ask ∧ o.k.size ≤ maxLen ∧ o.t.size ≤ maxLen ∧ I64 o.n ∧ TextsAt w o.p o.L
def OpsAt (w : World) (ao : Option Addr) (l : List Opr) : Prop :=
  ∀ i (h : i < l.length), OkOp w l[i] ∧ ∃ b o, ao = some ⟨b, o, none⟩ ∧ b < w.heap.size ∧ w.cell? ⟨b, o + i * 5, none⟩ = some (.int .i64 l[i].ask) ∧ w.cell? ⟨b, o + i * 5 + 1, none⟩ = some (.string l[i].k) ∧
    w.cell? ⟨b, o + i * 5 + 2, none⟩ = some (.string l[i].t) ∧ w.cell? ⟨b, o + i * 5 + 3, none⟩ = some (.int .i64 l[i].n) ∧ w.cell? ⟨b, o + i * 5 + 4, none⟩ = some (.slice l[i].p l[i].L.length l[i].c)
theorem TextsAt.keep {w W : World} {p : Option Addr} {l : List ByteArray} (h : TextsAt W p l) (hk : ∀ k, k < W.heap.size → w.heap[k]? = W.heap[k]?) (hz : W.heap.size ≤ w.heap.size) : TextsAt w p l := fun i hi => by
  obtain ⟨ho, b, o, e, hb, h0⟩ := h i hi
  exact ⟨ho, b, o, e, Nat.lt_of_lt_of_le hb hz, by rw [← h0]; exact World.cell?_of_block (w := W) (hk b hb)⟩
theorem OpsAt.keep {w W : World} {ao : Option Addr} {l : List Opr} (h : OpsAt W ao l) (hk : ∀ k, k < W.heap.size → w.heap[k]? = W.heap[k]?) (hz : W.heap.size ≤ w.heap.size) : OpsAt w ao l := fun i hi => by
  obtain ⟨ho, b, o, e, hb, h0, h1, h2, h3, h4⟩ := h i hi
  have hc : ∀ j, w.cell? ⟨b, j, none⟩ = W.cell? ⟨b, j, none⟩ := fun j => World.cell?_of_block (w := W) (hk b hb)
  exact ⟨⟨ho.1, ho.2.1, ho.2.2.1, ho.2.2.2.1, ho.2.2.2.2.keep hk hz⟩, b, o, e, Nat.lt_of_lt_of_le hb hz, by rw [hc]; exact h0, by rw [hc]; exact h1, by rw [hc]; exact h2, by rw [hc]; exact h3, by rw [hc]; exact h4⟩
section
variable {H : Type} {enc : TypeId × Value → H} {P : Program} {w : World} {base : Nat} {spare : Nat → Bool} {held : Bool}
theorem trod_struct5 {t : TypeId} {f0 f1 f2 f3 f4 : Field} {fuel : Nat} {cs : List Value} {x : DataW H × List MemPlace} (ht : P.underlying t = some (.struct #[f0, f1, f2, f3, f4])) (h : DataW.trod enc P w base spare held fuel t cs = some x) :
    ∃ y0 y1 y2 y3 y4 n, cs.length = P.cellsOf t ∧ DataW.trod enc P w base spare held n f0.type ((cs.drop f0.offset).take (P.cellsOf f0.type)) = some y0 ∧
      DataW.trod enc P w base spare held n f1.type ((cs.drop f1.offset).take (P.cellsOf f1.type)) = some y1 ∧ DataW.trod enc P w base spare held n f2.type ((cs.drop f2.offset).take (P.cellsOf f2.type)) = some y2 ∧
      DataW.trod enc P w base spare held n f3.type ((cs.drop f3.offset).take (P.cellsOf f3.type)) = some y3 ∧ DataW.trod enc P w base spare held n f4.type ((cs.drop f4.offset).take (P.cellsOf f4.type)) = some y4 := by
  obtain ⟨xs, n, _, rfl, hl, hlen, hf⟩ := DataW.trod_struct ht h
  match xs, hlen with
  | [y0, y1, y2, y3, y4], _ => exact ⟨y0, y1, y2, y3, y4, n, hl, by simpa using hf 0 f0 rfl, by simpa using hf 1 f1 rfl, by simpa using hf 2 f2 rfl, by simpa using hf 3 f3 rfl, by simpa using hf 4 f4 rfl⟩
end
set_option maxRecDepth 100000 in
theorem strs_trod {H : Type} {enc : TypeId × Value → H} {W : World} {base : Nat} {spare : Nat → Bool} {held : Bool} {fuel : Nat} {c : Value} {y : DataW H × List MemPlace} (hf : DataW.trod enc Tryz.prog W base spare held fuel 22 [c] = some y) :
    ∃ ao l cap, c = .slice ao (List.length l) cap ∧ TextsAt W ao l := by
  rcases Deep.open_slice Tryz.underlying22 hf with ⟨hcs, _⟩ | ⟨a, len', cap', m, n, D, Pl, hcs, _, hl, _, hm, _, hx⟩
  · simp only [List.cons.injEq, and_true] at hcs
    exact ⟨none, [], 0, hcs, fun i hi => by simp at hi⟩
  · simp only [List.cons.injEq, and_true] at hcs
    subst hcs
    have hlm : len' ≤ m := by rw [hm]; split <;> omega
    have key : ∀ i, i < len' → ∃ x : ByteArray, x.size ≤ maxLen ∧ W.cell? ((a.add (i * 1)).add 0) = some (.string x) := fun i hi => by
      obtain ⟨cs, hc, ht⟩ := hx i (by omega)
      rw [cellsStr] at hc
      obtain ⟨_, hlen, hat⟩ := World.cells?_some hc
      match cs, hlen, ht with
      | [c0], _, ht =>
        obtain ⟨x, e0, _, w0⟩ := DataW.trod_string Tryz.underlying9 ht
        simp only [List.cons.injEq, and_true] at e0
        exact ⟨x, w0, by rw [hat 0 (by omega)]; simp [e0]⟩
    obtain ⟨f, hfx⟩ := Deep.choose_lt key
    refine ⟨some a, (List.range len').map f, cap', by simp, fun i hi => ?_⟩
    have hi' : i < len' := by simpa using hi
    obtain ⟨b, o, s⟩ := a
    have hs : s = none := by
      have h00 := (hfx 0 (by omega)).2
      simp [Addr.add] at h00
      simpa using World.cell?_spot h00
    subst hs
    obtain ⟨ok, h0⟩ := hfx i hi'
    have e : ((List.range len').map f)[i] = f i := by simp
    rw [e]
    simp only [Addr.add_lit, Nat.mul_one, Nat.add_zero] at h0
    exact ⟨ok, b, o, rfl, World.block_lt_of_cell? W _ h0, h0⟩
theorem op_open {H : Type} {enc : TypeId × Value → H} {W : World} {base : Nat} {spare : Nat → Bool} {held : Bool} {n : Nat} {c0 c1 c2 c3 c4 : Value} {y : DataW H × List MemPlace} (h : DataW.trod enc Tryz.prog W base spare held n 41 [c0, c1, c2, c3, c4] = some y) :
    ∃ x : Opr, OkOp W x ∧ c0 = .int .i64 x.ask ∧ c1 = .string x.k ∧ c2 = .string x.t ∧ c3 = .int .i64 x.n ∧ c4 = .slice x.p x.L.length x.c := by
  obtain ⟨y0, y1, y2, y3, y4, m, _, h0, h1, h2, h3, h4⟩ := trod_struct5 Tryz.underlying41 h
  simp only [cellsI, cellsStr, cellsLs, List.drop_zero, List.drop_succ_cons, List.take_succ_cons, List.take_zero] at h0 h1 h2 h3 h4
  obtain ⟨a0, e0, _, w0⟩ := DataW.trod_int Tryz.underlying3 h0
  obtain ⟨s1, e1, _, w1⟩ := DataW.trod_string Tryz.underlying9 h1
  obtain ⟨s2, e2, _, w2⟩ := DataW.trod_string Tryz.underlying9 h2
  obtain ⟨a3, e3, _, w3⟩ := DataW.trod_int Tryz.underlying3 h3
  obtain ⟨p, L, c, e4, w4⟩ := strs_trod h4
  simp only [List.cons.injEq, and_true] at e0 e1 e2 e3
  exact ⟨⟨a0, s1, s2, a3, L, p, c⟩, ⟨i64_of w0, w1, w2, i64_of w3, w4⟩, e0, e1, e2, e3, e4⟩
set_option maxRecDepth 100000 in
theorem ops_open {H : Type} {enc : TypeId × Value → H} {W : World} {r : Reach} {b0 base : Nat} {spare : Nat → Bool} {held : Bool} {v : Value} {d : DataW H} {p : List MemPlace} (hv : Value.okWide Tryz.prog W r b0 33 v)
    (h : DataW.Trod enc Tryz.prog W base spare held 33 v d p) : ∃ ao l cap, v = .slice ao (List.length l) cap ∧ OpsAt W ao l := by
  obtain ⟨ao, len, cap, rfl⟩ := okWide_slice Tryz.underlying33 hv
  obtain ⟨fuel, hf⟩ := h
  rcases Deep.open_slice Tryz.underlying33 hf with ⟨hcs, _⟩ | ⟨a, len', cap', m, n, D, Pl, hcs, _, hl, _, hm, _, hx⟩
  · simp [Value.cells] at hcs
    obtain ⟨rfl, rfl, rfl⟩ := hcs
    exact ⟨none, [], 0, rfl, fun i hi => by simp at hi⟩
  · simp [Value.cells] at hcs
    obtain ⟨rfl, rfl, rfl⟩ := hcs
    have hlm : len ≤ m := by rw [hm]; split <;> omega
    have key : ∀ i, i < len → ∃ x : Opr, OkOp W x ∧ W.cell? ((a.add (i * 5)).add 0) = some (.int .i64 x.ask) ∧ W.cell? ((a.add (i * 5)).add 1) = some (.string x.k) ∧ W.cell? ((a.add (i * 5)).add 2) = some (.string x.t) ∧ W.cell? ((a.add (i * 5)).add 3) = some (.int .i64 x.n) ∧ W.cell? ((a.add (i * 5)).add 4) = some (.slice x.p x.L.length x.c) := fun i hi => by
      obtain ⟨cs, hc, ht⟩ := hx i (by omega)
      rw [cellsOp] at hc
      obtain ⟨_, hlen, hat⟩ := World.cells?_some hc
      match cs, hlen, ht with
      | [c0, c1, c2, c3, c4], _, ht =>
        obtain ⟨x, ok, rfl, rfl, rfl, rfl, rfl⟩ := op_open ht
        exact ⟨x, ok, hat 0 (by omega), hat 1 (by omega), hat 2 (by omega), hat 3 (by omega), hat 4 (by omega)⟩
    obtain ⟨f, hfx⟩ := Deep.choose_lt key
    refine ⟨some a, (List.range len).map f, cap, by simp, fun i hi => ?_⟩
    have hi' : i < len := by simpa using hi
    obtain ⟨b, o, s⟩ := a
    have hs : s = none := by
      have h00 := (hfx 0 (by omega)).2.1
      simp [Addr.add] at h00
      simpa using World.cell?_spot h00
    subst hs
    obtain ⟨ok, h0, h1, h2, h3, h4⟩ := hfx i hi'
    have e : ((List.range len).map f)[i] = f i := by simp
    rw [e]
    simp only [Addr.add_lit, Nat.add_zero] at h0 h1 h2 h3 h4
    exact ⟨ok, b, o, rfl, World.block_lt_of_cell? W _ h0, h0, h1, h2, h3, h4⟩
end Go.Proofs.YtlmjidandjemjaaGreatDoor.State

namespace Go.Proofs.YtlmjidandjemjaaGreatDoor.State
open Go.RowKit Go.Proofs.YtlmjidandjemjaaGreatDoor Go.Proofs.YtlmjidandjemjaaGreatDoor.Hp Go.Proofs.YtlmjidandjemjaaGreatDoor.Undo
set_option linter.unusedVariables false
attribute [local go_sem] Oper.semAt_some

def FewO (o : Opr) : Prop := o.k.size ≤ 200 ∧ o.t.size ≤ 5000 ∧ o.L.length ≤ 1100 ∧ ∀ x ∈ o.L, x.size ≤ 5000
def FewP (l : List Opr) : Prop := l.length ≤ 50 ∧ ∀ o ∈ l, FewO o
def FewSays (l : List Opr) (w : World) (e : Ending) (w' : World) : Prop := (∃ r, e = .returned (.bool r) ∧ (r = true → FewP l)) ∧ w = w'
def FwRel (l : List Opr) (w : World) (g : Nat) (v3 v4 v5 : Value) (wr : World) : Prop :=
  ∃ i : Nat, v3 = .int .i64 (i : Int) ∧ i + g = l.length ∧ (∀ j (h : j < l.length), j < i → FewO l[j]) ∧ w = wr
def FwRel2 (L : List ByteArray) (w : World) (g : Nat) (v5 : Value) (wr : World) : Prop :=
  ∃ j : Nat, v5 = .int .i64 (j : Int) ∧ j + g = L.length ∧ (∀ q (h : q < L.length), q < j → L[q].size ≤ 5000) ∧ w = wr
set_option maxRecDepth 100000 in
set_option maxHeartbeats 16000000 in
theorem few_calls (l : List Opr) (ao : Option Addr) (cap : Nat) (w : World) (hl : OpsAt w ao l) (hlen : l.length ≤ 9223372036854775807) :
    Calls Tryz.prog 13 #[.slice ao l.length cap] w (FewSays l w) := by
  have HL := Lib.hid hl
  have hlI : (l.length : Int) ≤ 9223372036854775807 := by omega
  clear hl
  by_cases h50 : 50 < l.length
  · have h50I : (50 : Int) < l.length := by omega
    go_enter Tryz.func13, Tryz.ntmps13
    go_wp2_with fail
    go_ret
    exact ⟨⟨false, rfl, fun h => by cases h⟩, rfl⟩
  have h50I : (l.length : Int) ≤ 50 := by omega
  have H50 := Lib.hid (show l.length ≤ 50 by omega)
  go_enter Tryz.func13, Tryz.ntmps13
  go_wp2_with fail
  go_loopg [3, 4, 5] (l.length) (FwRel l w)
  case atStart => exact ⟨0, rfl, by omega, fun j _ h => absurd h (Nat.not_lt_zero _), rfl⟩
  case round =>
    obtain ⟨i, rfl, hg, hok, rfl⟩ := hrel
    obtain ⟨go1, hgo1⟩ : ∃ g, g = gk := ⟨_, rfl⟩
    by_cases hlt : i < l.length
    · have hltI : (i : Int) < l.length := by omega
      have hi0 : (0 : Int) ≤ i := by omega
      obtain ⟨okx, b, o, rfl, hb, e0, e1, e2, e3, e4⟩ := HL.out i hlt
      obtain ⟨x, hx⟩ : ∃ x, x = l[i] := ⟨_, rfl⟩
      rw [← hx] at okx e0 e1 e2 e3 e4
      have HT := Lib.hid okx.2.2.2.2
      have Hx := Lib.hid hx
      have Hok := Lib.hid hok
      have hk : (x.k.size : Int) ≤ 9223372036854775807 := by have := okx.2.1; unfold maxLen at this; omega
      have ht : (x.t.size : Int) ≤ 9223372036854775807 := by have := okx.2.2.1; unfold maxLen at this; omega
      clear okx hx hok hb e0
      go_wp2_with fail
      all_goals
        first
          | (go_ret; exact ⟨⟨false, rfl, fun h => by cases h⟩, rfl⟩)
          | (have hL11 : x.L.length ≤ 1100 := by omega
             have hk2 : x.k.size ≤ 200 := by omega
             have ht5 : x.t.size ≤ 5000 := by omega
             have HF := Lib.hid (And.intro hL11 (And.intro hk2 ht5))
             have hL11I : (x.L.length : Int) ≤ 1100 := by omega
             go_loopg [5] (x.L.length) (FwRel2 x.L w)
             case atStart => exact ⟨0, rfl, by omega, fun j _ h => absurd h (Nat.not_lt_zero _), rfl⟩
             case round =>
               obtain ⟨j, rfl, hg2, hok2, rfl⟩ := hrel
               by_cases hlt2 : j < x.L.length
               · have hlt2I : (j : Int) < x.L.length := by omega
                 have hj0 : (0 : Int) ≤ j := by omega
                 obtain ⟨hys, b2, o2, hp, hb2, c2⟩ := HT.out j hlt2
                 rw [hp] at e4
                 obtain ⟨y, hy⟩ : ∃ y, y = x.L[j] := ⟨_, rfl⟩
                 rw [← hy] at hys c2
                 have Hy := Lib.hid hy
                 have Hok2 := Lib.hid hok2
                 have hysI : (y.size : Int) ≤ 9223372036854775807 := by unfold maxLen at hys; omega
                 clear hy hok2 hys hb2 hp
                 go_wp2_with fail
                 all_goals
                   first
                     | (go_ret; exact ⟨⟨false, rfl, fun h => by cases h⟩, rfl⟩)
                     | (have hy5 : y.size ≤ 5000 := by omega
                        go_roundg (gk - 1)
                        case rel =>
                          refine ⟨j + 1, by simp, by omega, fun q hq hqj => ?_, rfl⟩
                          by_cases hqe : q < j
                          · exact Hok2.out q hq hqe
                          · have : q = j := by omega
                            subst this
                            rw [← Hy.out]; exact hy5
                        case measure => omega)
               · have hge : j = x.L.length := by omega
                 subst hge
                 have Hok2 := Lib.hid hok2
                 clear hok2
                 go_wp2_with fail
                 go_roundg (go1 - 1)
                 case rel =>
                   refine ⟨i + 1, by simp, by omega, fun q hq hqi => ?_, rfl⟩
                   by_cases hqe : q < i
                   · exact Hok.out q hq hqe
                   · have : q = i := by omega
                     subst this
                     rw [← Hx.out]
                     exact ⟨HF.out.2.1, HF.out.2.2, HF.out.1, fun z hz => by
                       obtain ⟨q2, hq2, rfl⟩ := List.getElem_of_mem hz
                       exact Hok2.out q2 hq2 hq2⟩
                 case measure => omega)
    · have hge : i = l.length := by omega
      subst hge
      have Hok := Lib.hid hok
      clear hok
      go_wp2_with fail
      go_ret
      refine ⟨⟨true, rfl, fun _ => ⟨H50.out, fun o ho => ?_⟩⟩, rfl⟩
      obtain ⟨q, hq, rfl⟩ := List.getElem_of_mem ho
      exact Hok.out q hq hq
end Go.Proofs.YtlmjidandjemjaaGreatDoor.State

namespace Go.Proofs.YtlmjidandjemjaaGreatDoor.State
open Go.RowKit Go.Proofs.YtlmjidandjemjaaGreatDoor Go.Proofs.YtlmjidandjemjaaGreatDoor.Hp Go.Proofs.YtlmjidandjemjaaGreatDoor.Undo
set_option linter.unusedVariables false
attribute [local go_sem] Oper.semAt_some

abbrev opA (o : Opr) : Value := .agg #[.int .i64 o.ask, .string o.k, .string o.t, .int .i64 o.n, .slice o.p o.L.length o.c]
abbrev opO (o : Opr) : Obj := .cells #[.int .i64 o.ask, .string o.k, .string o.t, .int .i64 o.n, .slice o.p o.L.length o.c] 41 (0, 0)
theorem op_cells {w : World} {b : Nat} {o : Opr} {S : Hp} (h : Sat w (pts b (opO o) * S)) : w.cell? ⟨b, 0, none⟩ = some (.int .i64 o.ask) ∧ w.cell? ⟨b, 1, none⟩ = some (.string o.k) ∧ w.cell? ⟨b, 2, none⟩ = some (.string o.t) ∧ w.cell? ⟨b, 3, none⟩ = some (.int .i64 o.n) ∧ w.cell? ⟨b, 4, none⟩ = some (.slice o.p o.L.length o.c) :=
  ⟨by rw [cell_at h.get]; rfl, by rw [cell_at h.get]; rfl, by rw [cell_at h.get]; rfl, by rw [cell_at h.get]; rfl, by rw [cell_at h.get]; rfl⟩
/-- Which call it is. -/
def askI (o : Opr) : Int := o.ask % 20
theorem askI_cases (o : Opr) : askI o = 0 ∨ askI o = 1 ∨ askI o = 2 ∨ askI o = 3 ∨ askI o = 4 ∨ askI o = 5 ∨ askI o = 6 ∨ askI o = 7 ∨ askI o = 8 ∨ askI o = 9 ∨ askI o = 10 ∨ askI o = 11 ∨ askI o = 12 ∨ askI o = 13 ∨ askI o = 14 ∨ askI o = 15 ∨ askI o = 16 ∨ askI o = 17 ∨ askI o = 18 ∨ askI o = 19 := by
  unfold askI
  omega
theorem ask_math (x : Int) : (x.tmod 20 + 20).tmod 20 = x % 20 := by
  rcases Int.lt_or_le x 0 with h | h
  · obtain ⟨n, rfl⟩ : ∃ n : Nat, x = -(n : Int) := ⟨x.natAbs, by omega⟩
    rw [Int.neg_tmod]
    have h1 : ((n : Int)).tmod 20 = ((n % 20 : Nat) : Int) := by rw [Int.tmod_eq_emod_of_nonneg (by omega)]; omega
    rw [h1, Int.tmod_eq_emod_of_nonneg (by omega)]
    omega
  · rw [Int.tmod_eq_emod_of_nonneg h, Int.tmod_eq_emod_of_nonneg (by omega)]
    omega
set_option maxRecDepth 100000 in
set_option maxHeartbeats 4000000 in
theorem ask_calls (o : Opr) (w : World) (ho : I64 o.ask) :
    Calls Tryz.prog 18 #[opA o] w fun e w' => e = .returned (.int .i64 (askI o)) ∧ Below w.heap.size w w' := by
  have H := op_cells ((Sat.start w).alloc (opO o))
  obtain ⟨c0, c1, c2, c3, c4⟩ := H
  have hm := ask_math o.ask
  have hr1 : -20 < o.ask.tmod 20 ∧ o.ask.tmod 20 < 20 := by
    have := Int.tmod_lt_of_pos o.ask (show (0 : Int) < 20 by decide)
    have h2 : -20 < o.ask.tmod 20 := by
      have := Int.tmod_lt_of_pos (-o.ask) (show (0 : Int) < 20 by decide)
      rw [Int.neg_tmod] at this; omega
    exact ⟨h2, this⟩
  obtain ⟨q, hq⟩ : ∃ q, q = o.ask.tmod 20 := ⟨_, rfl⟩
  rw [← hq] at hm hr1
  have w1 : IntKind.i64.wrap q = q := IntWalk.i64_in _ (by omega)
  have w2 : IntKind.i64.wrap (q + 20) = q + 20 := IntWalk.i64_in _ (by omega)
  have w3 : IntKind.i64.wrap ((q + 20).tmod 20) = (q + 20).tmod 20 := IntWalk.i64_in _ (by rw [hm]; omega)
  have HM := Lib.hid hm
  have HQ := Lib.hid hq
  go_enter Tryz.func18, Tryz.ntmps18
  go_wp2_with fail
  go_ret
  refine ⟨?_, (Below.refl _ _).alloc (Nat.le_refl _) _⟩
  have h := HM.out
  rw [Int.tmod_eq_emod_of_nonneg (by omega), HQ.out] at h
  show Ending.returned (Value.int .i64 ((o.ask.tmod 20 + 20) % 20)) = _
  rw [h]
  rfl
/-- A text's first byte; of none 0. -/
def firstB (t : ByteArray) : UInt8 := if h : 0 < t.size then t[0] else 0
theorem first_calls (t : ByteArray) (w : World) (ht : t.size ≤ maxLen) :
    Calls Tryz.prog 56 #[.string t] w fun e w' => e = .returned (.int .u8 (((firstB t).toNat : Nat) : Int)) ∧ w = w' := by
  have hn := beq_nil t
  by_cases h : 0 < t.size
  · have hI : (0 : Int) < t.size := by omega
    rw [decide_eq_false (by omega)] at hn
    have hf : firstB t = t[0] := by unfold firstB; rw [dif_pos h]
    rw [hf]
    clear hf
    go_enter Tryz.func56, Tryz.ntmps56
    go_wp2_with fail
    go_ret
    exact ⟨rfl, rfl⟩
  · rw [decide_eq_true (by omega)] at hn
    have hf : firstB t = 0 := by unfold firstB; rw [dif_neg h]
    rw [hf]
    clear hf h
    go_enter Tryz.func56, Tryz.ntmps56
    go_wp2_with fail
    go_ret
    exact ⟨rfl, rfl⟩
theorem node_calls (t : ByteArray) (w : World) :
    Calls Tryz.prog 51 #[.string t] w fun e w' => e = .returned (.agg #[.int .i64 6, .bool false, .string t, .bool false, .slice none 0 0, .slice none 0 0, .slice none 0 0, .slice none 0 0, .slice none 0 0]) ∧ Below w.heap.size w w' := by
  obtain ⟨r0, r1, r2, r3, r4, r5, r6, r7, r8⟩ := NM.box_cells (x := ⟨6, t⟩) ((Sat.start w).alloc (NM.boxO ⟨6, t⟩))
  go_enter Tryz.func51, Tryz.ntmps51
  go_wp2_with fail
  refine bodyPost_ret (v := .agg #[.int .i64 6, .bool false, .string t, .bool false, .slice none 0 0, .slice none 0 0, .slice none 0 0, .slice none 0 0, .slice none 0 0]) (by simp [results, Tryz.results51, go_sem, r0, r1, r2, r3, r4, r5, r6, r7, r8]) rfl ⟨rfl, ?_⟩
  exact (Below.refl _ _).alloc (Nat.le_refl _) _
end Go.Proofs.YtlmjidandjemjaaGreatDoor.State

