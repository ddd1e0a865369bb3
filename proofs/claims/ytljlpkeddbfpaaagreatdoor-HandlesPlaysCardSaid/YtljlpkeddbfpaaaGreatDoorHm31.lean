/- HandlesPlays, part 31 of 34: the texts HdQk HdQl HdQm HdQn, joined by a program. -/
import Derived.Test.YtljlpkeddbfpaaaGreatDoorHm29
import Derived.Test.YtljlpkeddbfpaaaGreatDoorHm30
import Derived.Test.YtljlpkeddbfpaaaGreatDoorIter
import Derived.Test.YtljlpkeddbfpaaaGreatDoorShr
import Derived.Lib.ReplaceLaws
namespace Go.Proofs.YtljlpkeddbfpaaaGreatDoor.Hd
open Go.RowKit Go.Maps Go.Proofs.YtljlpkeddbfpaaaGreatDoor Go.Proofs.YtljlpkeddbfpaaaGreatDoor.Hp
set_option linter.unusedVariables false
attribute [local go_sem] Oper.semAt_some

abbrev dz : DN := ⟨0, ⟨#[]⟩, none, 0, 0, 0, 0, 0⟩
abbrev mkL (p : Option Addr) (n c : Nat) (x2 x3 x4 x5 : DN) : List DN := [dz, ⟨1, ⟨#[]⟩, p, n, c, 1, 0, 0⟩, x2, x3, x4, x5, dz, dz, dz]
abbrev d2 : DN := ⟨2, xyz, none, 0, 0, 0, 1, 0⟩
abbrev d3 : DN := ⟨2, ⟨#[]⟩, none, 0, 0, 0, 1, 0⟩
abbrev d4 : DN := ⟨3, nm 97, none, 0, 0, 0, 1, 0⟩
abbrev d5 : DN := ⟨1, ⟨#[]⟩, none, 0, 0, 1, 1, 0⟩
abbrev E1 : List EN := [⟨nm 97, 2⟩]
abbrev E2 : List EN := [⟨nm 97, 2⟩, ⟨nm 98, 3⟩]
abbrev E3 : List EN := [⟨nm 97, 2⟩, ⟨nm 98, 3⟩, ⟨nm 108, 4⟩]
theorem fresh_of {E : List EN} {ch : UInt8} (h : (E.all fun z => !(z.name.toList == (nm ch).toList)) = true) : (∀ k (hk : k < E.length), (E[k].name.toList == (nm ch).toList) = false) ∧ (∀ z ∈ E, ¬ z.name.toList = (nm ch).toList) := by
  have h2 := List.all_eq_true.1 h
  refine ⟨fun k hk => ?_, fun z hz => ?_⟩
  · have := h2 _ (List.getElem_mem hk)
    simpa using this
  · have := h2 z hz
    simpa using this
theorem ins1 : insE ⟨nm 97, ((2 : Nat) : Int)⟩ [] false = E1 := rfl
theorem ins2 : insE ⟨nm 98, ((3 : Nat) : Int)⟩ E1 false = E2 := by kernel_rfl
theorem ins3 : insE ⟨nm 108, ((4 : Nat) : Int)⟩ E2 false = E3 := by kernel_rfl
theorem ins4 : insE ⟨nm 100, ((5 : Nat) : Int)⟩ E3 false = kidsE := by kernel_rfl
theorem mk1 (fb lb : Nat) (p : Option Addr) (c : Nat) : MkOk ⟨fb, lb, 8, 60⟩ (mkL p 0 c dz dz dz dz) [] 97 2 xyz 2 where
  simple := (.inl rfl)
  root := ⟨by show 1 < 9; omega, rfl, rfl⟩
  few := ⟨by show 0 ≤ 100000; omega, by show 9 ≤ 2000; omega⟩
  new := (fresh_of (by kernel_rfl)).1
  new2 := (fresh_of (by kernel_rfl)).2
  free := ⟨by show 2 < 9; omega, Int.le_refl _⟩
  pos := by omega
  least j hj h1 h2 := by
    have : j = 1 := by omega
    rcases this with rfl
    all_goals exact of_decide_eq_true rfl
  cnt := by show ((1 : Nat) : Int) < 8; omega
  siz := ⟨by show 0 ≤ 1000000; omega, by show 3 ≤ 1000; omega, by show ((0 : Nat) : Int) + ((3 : Nat) : Int) ≤ 60; omega⟩
  one := fun h => (by cases h)
theorem mk2 (fb lb : Nat) (p : Option Addr) (c : Nat) : MkOk ⟨fb, lb, 8, 60⟩ (mkL p 1 c d2 dz dz dz) E1 98 2 ⟨#[]⟩ 3 where
  simple := (.inr (.inl rfl))
  root := ⟨by show 1 < 9; omega, rfl, rfl⟩
  few := ⟨by show 1 ≤ 100000; omega, by show 9 ≤ 2000; omega⟩
  new := (fresh_of (by kernel_rfl)).1
  new2 := (fresh_of (by kernel_rfl)).2
  free := ⟨by show 3 < 9; omega, Int.le_refl _⟩
  pos := by omega
  least j hj h1 h2 := by
    have : j = 1 ∨ j = 2 := by omega
    rcases this with rfl | rfl
    all_goals exact of_decide_eq_true rfl
  cnt := by show ((2 : Nat) : Int) < 8; omega
  siz := ⟨by show 3 ≤ 1000000; omega, by show 0 ≤ 1000; omega, by show ((3 : Nat) : Int) + ((0 : Nat) : Int) ≤ 60; omega⟩
  one := fun h => (by cases h)
theorem mk3 (fb lb : Nat) (p : Option Addr) (c : Nat) : MkOk ⟨fb, lb, 8, 60⟩ (mkL p 2 c d2 d3 dz dz) E2 108 3 (nm 97) 4 where
  simple := (.inr (.inr (.inl rfl)))
  root := ⟨by show 1 < 9; omega, rfl, rfl⟩
  few := ⟨by show 2 ≤ 100000; omega, by show 9 ≤ 2000; omega⟩
  new := (fresh_of (by kernel_rfl)).1
  new2 := (fresh_of (by kernel_rfl)).2
  free := ⟨by show 4 < 9; omega, Int.le_refl _⟩
  pos := by omega
  least j hj h1 h2 := by
    have : j = 1 ∨ j = 2 ∨ j = 3 := by omega
    rcases this with rfl | rfl | rfl
    all_goals exact of_decide_eq_true rfl
  cnt := by show ((3 : Nat) : Int) < 8; omega
  siz := ⟨by show 3 ≤ 1000000; omega, by show 1 ≤ 1000; omega, by show ((3 : Nat) : Int) + ((1 : Nat) : Int) ≤ 60; omega⟩
  one := fun h => (by cases h)
theorem mk4 (fb lb : Nat) (p : Option Addr) (c : Nat) : MkOk ⟨fb, lb, 8, 60⟩ (mkL p 3 c d2 d3 d4 dz) E3 100 1 ⟨#[]⟩ 5 where
  simple := (.inr (.inr (.inr rfl)))
  root := ⟨by show 1 < 9; omega, rfl, rfl⟩
  few := ⟨by show 3 ≤ 100000; omega, by show 9 ≤ 2000; omega⟩
  new := (fresh_of (by kernel_rfl)).1
  new2 := (fresh_of (by kernel_rfl)).2
  free := ⟨by show 5 < 9; omega, Int.le_refl _⟩
  pos := by omega
  least j hj h1 h2 := by
    have : j = 1 ∨ j = 2 ∨ j = 3 ∨ j = 4 := by omega
    rcases this with rfl | rfl | rfl | rfl
    all_goals exact of_decide_eq_true rfl
  cnt := by show ((4 : Nat) : Int) < 8; omega
  siz := ⟨by show 4 ≤ 1000000; omega, by show 0 ≤ 1000; omega, by show ((4 : Nat) : Int) + ((0 : Nat) : Int) ≤ 60; omega⟩
  one := fun _ => rfl
def PlainPost (R : Hp) (e : Ending) (w' : World) : Prop := ∃ tb fb lb rp kp kc, e = .returned (pp tb) ∧ Sat w' (DgHp ⟨⟨tb, fb, rp, none, 0, none, 0⟩, ⟨fb, lb, 8, 60⟩, [], mkL kp 4 kc d2 d3 d4 d5, [], 0, none, kp, kc⟩ * R)
set_option maxRecDepth 100000 in
set_option maxHeartbeats 8000000 in
theorem plain_calls (w : World) (R : Hp) (h : Sat w R) :
    Calls Tryz.prog 31 #[] w fun e w' => PlainPost R e w' ∧ Ran w w' := by
  have HN := Lib.hid (dnew_calls w R h)
  clear h
  go_enter Tryz.func31, Tryz.ntmps31
  go_wp2_with fail
  refine HN.out.mono ?_
  rintro e w1 ⟨fb, lb, rfl, S1, R1⟩
  have S1 : Sat w1 (rfHp ⟨fb, lb, 8, 60⟩ (mkL none 0 0 dz dz dz dz) * R) := root_hp S1
  have S1 : Sat w1 (rfHp ⟨fb, lb, 8, 60⟩ (mkL none 0 0 dz dz dz dz) * (enA none 0 [] * R)) := (S1.nil_arr 174 2).perm (by show arr _ _ _ _ _ _ * _ = _ * (arr _ _ _ _ _ _ * _); ac_rfl)
  have R1 := Lib.hid R1
  have HP := Lib.hid (Spill.rnew_good 40 3 4 w1 _ S1 (by omega) (by omega) (by omega) (by omega))
  clear S1 HN
  go_wp2_with fail
  refine HP.out.mono ?_
  rintro e w2 ⟨rp, rfl, S2, R2⟩
  have R2 := Lib.hid (Below.trans R1.out R2)
  have S2 := S2.perm (show _ = rfHp ⟨fb, lb, 8, 60⟩ (mkL none 0 0 dz dz dz dz) * (enA none 0 [] * (Spill.rpool rp 40 3 4 0 none [] * R)) by ac_rfl)
  have HM := rmake2_calls 97 xyz 2 (mk1 fb lb none 0) (R := Spill.rpool rp 40 3 4 0 none [] * R) (w := w2) S2
  rw [ins1] at HM
  have HM := Lib.hid HM
  clear S2 HP R1
  go_wp2_with fail
  refine HM.out.mono ?_
  rintro e w3 ⟨⟨rfl, p1, c1, S3⟩, R3⟩
  have R3 := Lib.hid (Below.trans R2.out R3)
  have S3 : Sat w3 (rfHp ⟨fb, lb, 8, 60⟩ (mkL p1 1 c1 d2 dz dz dz) * (enA p1 c1 E1 * (Spill.rpool rp 40 3 4 0 none [] * R))) := S3
  have HM0 := HM
  clear HM R2
  have HM := rmake2_calls 98 ⟨#[]⟩ 3 (mk2 fb lb p1 c1) (R := Spill.rpool rp 40 3 4 0 none [] * R) (w := w3) S3
  rw [ins2] at HM
  have HM := Lib.hid HM
  clear S3 HM0
  go_wp2_with fail
  refine HM.out.mono ?_
  rintro e w4 ⟨⟨rfl, p2, c2, S4⟩, R4⟩
  have R4 := Lib.hid (Below.trans R3.out R4)
  have S4 : Sat w4 (rfHp ⟨fb, lb, 8, 60⟩ (mkL p2 2 c2 d2 d3 dz dz) * (enA p2 c2 E2 * (Spill.rpool rp 40 3 4 0 none [] * R))) := S4
  have HM0 := HM
  clear HM R3
  have HM := rmake3_calls 108 (nm 97) 4 (mk3 fb lb p2 c2) (R := Spill.rpool rp 40 3 4 0 none [] * R) (w := w4) S4
  rw [ins3] at HM
  have HM := Lib.hid HM
  clear S4 HM0
  go_wp2_with fail
  refine HM.out.mono ?_
  rintro e w5 ⟨⟨rfl, p3, c3, S5⟩, R5⟩
  have R5 := Lib.hid (Below.trans R4.out R5)
  have S5 : Sat w5 (rfHp ⟨fb, lb, 8, 60⟩ (mkL p3 3 c3 d2 d3 d4 dz) * (enA p3 c3 E3 * (Spill.rpool rp 40 3 4 0 none [] * R))) := S5
  have HM0 := HM
  clear HM R4
  have HM := rmake1_calls 100 5 (mk4 fb lb p3 c3) (R := Spill.rpool rp 40 3 4 0 none [] * R) (w := w5) S5
  rw [ins4] at HM
  have HM := Lib.hid HM
  clear S5 HM0
  go_wp2_with fail
  refine HM.out.mono ?_
  rintro e w6 ⟨⟨rfl, p4, c4, S6⟩, R6⟩
  have R6 := Lib.hid (Below.trans R5.out R6)
  have S6 : Sat w6 (rfHp ⟨fb, lb, 8, 60⟩ (mkL p4 4 c4 d2 d3 d4 d5) * (enA p4 c4 kidsE * (Spill.rpool rp 40 3 4 0 none [] * R))) := S6
  have HM0 := HM
  clear HM R5
  have HT := Lib.hid (RNew_calls fb rp w6 _ S6)
  clear S6 HM0
  go_wp2_with fail
  refine HT.out.mono ?_
  rintro e w9 ⟨tb, rfl, S9, R9⟩
  have R9 := Lib.hid (Below.trans R6.out R9)
  have S9 : Sat w9 (DgHp ⟨⟨tb, fb, rp, none, 0, none, 0⟩, ⟨fb, lb, 8, 60⟩, [], mkL p4 4 c4 d2 d3 d4 d5, [], 0, none, p4, c4⟩ * R) := by
    refine dg_shut ?_
    have S9 := S9.perm (show _ = rtHp ⟨tb, fb, rp, none, 0, none, 0⟩ [] 0 * (rfHp ⟨fb, lb, 8, 60⟩ (mkL p4 4 c4 d2 d3 d4 d5) * (Spill.rpool rp 40 3 4 0 none [] * (enA p4 c4 kidsE * R))) by ac_rfl)
    have S9 := (S9.nil_arr 179 1).perm (show _ = rtHp ⟨tb, fb, rp, none, 0, none, 0⟩ [] 0 * (rfHp ⟨fb, lb, 8, 60⟩ (mkL p4 4 c4 d2 d3 d4 d5) * (arr 179 1 none 0 0 [] * (Spill.rpool rp 40 3 4 0 none [] * (enA p4 c4 kidsE * R)))) by ac_rfl)
    have e0 : all Spill.rbuf [] = emp := rfl
    show Sat w9 (rtHp _ [] 0 * (rfHp _ _ * (arr 179 1 none 0 0 [] * (Spill.rpool rp 40 3 4 0 none [] * (all Spill.rbuf [] * (enA p4 c4 kidsE * R))))))
    rw [e0, emp_sep]
    exact S9
  have S9 := Lib.hid S9
  clear HT
  go_wp2_with fail
  go_ret
  exact ⟨⟨tb, fb, lb, rp, p4, c4, rfl, S9.out⟩, R9.out⟩
theorem rel_begun {F : Fs} (h : Begun F) (tb fb lb rp : Nat) (kp : Option Addr) (kc : Nat) : Rel 0 ⟨F, [], 0, [], 0⟩ ⟨⟨tb, fb, rp, none, 0, none, 0⟩, ⟨fb, lb, 8, 60⟩, [], mkL kp 4 kc d2 d3 d4 d5, [], 0, none, kp, kc⟩ where
  hl := LR.nil
  pl := {
    fwd := fun k p hp => (by cases hp)
    inj := fun i j hi => absurd hi (Nat.not_lt_zero _)
    fro := fun i hi => absurd hi (Nat.not_lt_zero _)
    sumh := rfl
    sumo := rfl
    wrs := fun k p hp => (by cases hp)
    rds := fun k p hp => (by cases hp)
    small := fun x hx => (by cases hx) }
  nl := {
    len := rfl
    room := rfl
    at' := fun j x hj hx => by
      have h1 := (h.only (j : Int)).1 (by rw [hx]; rfl)
      have h2 : j = 1 ∨ j = 2 ∨ j = 3 ∨ j = 4 ∨ j = 5 := by omega
      obtain ⟨b1, k1, e1, s1⟩ := h.n1
      obtain ⟨b2, e2⟩ := h.n2
      obtain ⟨b3, e3⟩ := h.n3
      obtain ⟨b4, e4⟩ := h.n4
      obtain ⟨b5, k5, e5, s5⟩ := h.n5
      rcases h2 with rfl | rfl | rfl | rfl | rfl
      · have hx : find F.L 1 = some x := hx
        rw [e1] at hx; injection hx with hx; subst hx; exact ⟨rfl, rfl, rfl, rfl⟩
      · have hx : find F.L 2 = some x := hx
        rw [e2] at hx; injection hx with hx; subst hx; exact ⟨rfl, rfl, rfl, rfl⟩
      · have hx : find F.L 3 = some x := hx
        rw [e3] at hx; injection hx with hx; subst hx; exact ⟨rfl, rfl, rfl, rfl⟩
      · have hx : find F.L 4 = some x := hx
        rw [e4] at hx; injection hx with hx; subst hx; exact ⟨rfl, rfl, rfl, rfl⟩
      · have hx : find F.L 5 = some x := hx
        rw [e5] at hx; injection hx with hx; subst hx; exact ⟨rfl, rfl, rfl, rfl⟩
    no := fun j hj h6 => by
      have h9 : j < 9 := hj
      have h2 : j = 6 ∨ j = 7 ∨ j = 8 := by omega
      rcases h2 with rfl | rfl | rfl <;> rfl
    kn := fun j hj => by
      have h9 : j < 9 := hj
      have h2 : j = 0 ∨ j = 1 ∨ j = 2 ∨ j = 3 ∨ j = 4 ∨ j = 5 ∨ j = 6 ∨ j = 7 ∨ j = 8 := by omega
      rcases h2 with rfl | rfl | rfl | rfl | rfl | rfl | rfl | rfl | rfl <;> rfl
    used := by
      show F.used = ((4 : Nat) : Int)
      rw [h.used]; rfl
    names := by
      obtain ⟨b, kd, e, hM⟩ := h.names
      obtain ⟨b1, k1, e1, s1⟩ := h.n1
      rw [e1] at e
      injection e with e
      injection e with e2 _ _ e3
      injection e3 with e3
      exact ⟨_, k1, e1, rfl, rfl, by rw [e3]; exact hM, by omega⟩
    empty := by
      obtain ⟨b, kd, e, hM⟩ := h.empty
      obtain ⟨b1, k1, e1, s1⟩ := h.n5
      rw [e1] at e
      injection e with e
      injection e with e2 _ _ e3
      injection e3 with e3
      exact ⟨_, k1, e1, rfl, rfl, by rw [e3]; exact hM, by omega⟩
    link := by
      obtain ⟨b, e⟩ := h.n4
      exact ⟨_, e, rfl⟩ }
  rf := rfl
  lenB := Nat.le_refl _
  kids := fun _ => ⟨rfl, rfl⟩
end Go.Proofs.YtljlpkeddbfpaaaGreatDoor.Hd

namespace Go.Proofs.YtljlpkeddbfpaaaGreatDoor.Hd
open Go.RowKit Go.Maps Go.Proofs.YtljlpkeddbfpaaaGreatDoor Go.Proofs.YtljlpkeddbfpaaaGreatDoor.Hp
set_option linter.unusedVariables false
attribute [local go_sem] Oper.semAt_some

def ba (l : List UInt8) : ByteArray := ⟨l.toArray⟩
theorem ba_bs (s : ByteArray) : ba (bs s) = s := to_bs' s
theorem bs_ba (l : List UInt8) : bs (ba l) = l := by unfold bs ba; simp
theorem ba_app (a b : List UInt8) : ba a ++ ba b = ba (a ++ b) := by
  apply ByteArray.ext
  rw [ByteArray.data_append]
  apply Array.ext'
  unfold ba
  simp
theorem ba_size (l : List UInt8) : (ba l).size = l.length := List.size_toArray
theorem app_ba (x y : ByteArray) : x ++ y = ba (bs x ++ bs y) := by rw [← ba_app, ba_bs, ba_bs]
theorem bs_app (x y : ByteArray) : bs (x ++ y) = bs x ++ bs y := by rw [app_ba, bs_ba]
/-- A text's bytes as a show says them. -/
def escB (b : UInt8) : List UInt8 := if b = 10 then [92, 110] else if b = 92 then [92, 92] else [b]
def escL (l : List UInt8) : List UInt8 := l.flatMap escB
theorem escL_len : ∀ l : List UInt8, (escL l).length ≤ 2 * l.length
  | [] => Nat.le_refl _
  | b :: l => by
    have := escL_len l
    have hb : (escB b).length ≤ 2 := by unfold escB; split <;> (try split) <;> simp
    show (escB b ++ escL l).length ≤ _
    rw [List.length_append, List.length_cons]
    omega
theorem escL_take (l : List UInt8) (k : Nat) (hk : k < l.length) : escL (l.take (k + 1)) = escL (l.take k) ++ escB l[k] := by
  rw [List.take_succ_eq_append_getElem hk]
  unfold escL
  rw [List.flatMap_append]; simp
/-- A name's line. -/
def lineL (h : List UInt8) (kd : Int) (t : List UInt8) : List UInt8 := if kd = 1 then h ++ [32, 47, 10] else if kd = 3 then h ++ [32, 62] ++ t ++ [10] else h ++ [32, 61] ++ escL t ++ [10]
def textN (N : List DN) (j : Int) : ByteArray := match dget N j with
  | none => ⟨#[]⟩
  | some x => x.text
def lineE (path : ByteArray) (N : List DN) (e : EN) : List UInt8 := lineL (bs path ++ [47] ++ bs e.name) (kindD N e.node) (bs (textN N e.node))
def linesE (path : ByteArray) (N : List DN) (E : List EN) : List UInt8 := E.flatMap (lineE path N)
theorem linesE_take (path : ByteArray) (N : List DN) (E : List EN) (k : Nat) (hk : k < E.length) : linesE path N (E.take (k + 1)) = linesE path N (E.take k) ++ lineE path N E[k] := by
  rw [List.take_succ_eq_append_getElem hk]
  unfold linesE
  rw [List.flatMap_append]; simp
theorem dget_at {L : List DN} {i : Nat} (hi1 : 1 ≤ i) (hi : i < L.length) : dget L (i : Int) = some L[i] := by
  unfold dget; rw [if_pos (by omega), show ((i : Int)).toNat = i by omega, List.getElem?_eq_getElem hi]
theorem u8_ten {x : UInt8} (h : ¬ x = 10) : ¬ (x.toNat : Int) = 10 := fun e => h (UInt8.toNat_inj.1 (show x.toNat = 10 by omega))
theorem u8_bsl {x : UInt8} (h : ¬ x = 92) : ¬ (x.toNat : Int) = 92 := fun e => h (UInt8.toNat_inj.1 (show x.toNat = 92 by omega))
theorem app_nil (x : ByteArray) : x ++ ba [] = x := by rw [app_ba, bs_ba, List.append_nil, ba_bs]
theorem say1 (pre : List UInt8) (h t : ByteArray) : ba pre ++ h ++ ⟨#[32, 47, 10]⟩ ++ ⟨#[]⟩ = ba (pre ++ lineL (bs h) 1 (bs t)) := by
  have e : lineL (bs h) 1 (bs t) = bs h ++ [32, 47, 10] := rfl
  rw [e, app_ba, app_ba, app_ba]
  simp only [bs_ba]
  show ba (pre ++ bs h ++ [32, 47, 10] ++ []) = _
  rw [List.append_nil, List.append_assoc]
theorem say3 (pre : List UInt8) (h t : ByteArray) : ba pre ++ h ++ ⟨#[32, 62]⟩ ++ t ++ ⟨#[10]⟩ = ba (pre ++ lineL (bs h) 3 (bs t)) := by
  have e : lineL (bs h) 3 (bs t) = bs h ++ [32, 62] ++ bs t ++ [10] := rfl
  rw [e, app_ba, app_ba, app_ba, app_ba]
  simp only [bs_ba]
  show ba (pre ++ bs h ++ [32, 62] ++ bs t ++ [10]) = _
  simp only [List.append_assoc]
theorem say2 (pre : List UInt8) (h t : ByteArray) : ba pre ++ h ++ ⟨#[32, 61]⟩ ++ ba (escL (bs t)) ++ ⟨#[10]⟩ = ba (pre ++ lineL (bs h) 2 (bs t)) := by
  have e : lineL (bs h) 2 (bs t) = bs h ++ [32, 61] ++ escL (bs t) ++ [10] := rfl
  rw [e, app_ba (ba pre), app_ba _ ⟨#[32, 61]⟩, app_ba _ (ba (escL (bs t))), app_ba]
  simp only [bs_ba]
  show ba (pre ++ bs h ++ [32, 61] ++ escL (bs t) ++ [10]) = _
  simp only [List.append_assoc]
section
variable {w : World} {c : RF} {L : List DN} {E : List EN} {R : Hp}
set_option maxRecDepth 100000 in
set_option maxHeartbeats 4000000 in
theorem rshow_leaf {i : Nat} (path : ByteArray) (hi : i < L.length) (hkn : L[i].kn = 0) (h : Sat w (rfHp c L * R)) :
    Calls Tryz.prog 89 #[pp c.fb, .int .i64 (i : Int), .string path] w fun e w' => e = .returned (.string ⟨#[]⟩) ∧ w = w' := by
  obtain ⟨c0, c1, c2⟩ := rf_cells h
  have hlm := rf_len h
  have hlI : (L.length : Int) ≤ 9223372036854775807 := by unfold maxLen at hlm; omega
  obtain ⟨d0, d1, d2, d3, d4, d5⟩ := dn_cells h hi
  rw [hkn] at d2
  have h1 : (0 : Int) ≤ (i : Int) := by omega
  have h2 : (i : Int) < (L.length : Int) := by omega
  clear h hlm d0 d1 d3 d4 d5 hkn
  go_enter Tryz.func89, Tryz.ntmps89
  go_wp2_with fail
  go_loopg [7, 9] 0 (fun (g : Nat) (v7 v9 : Value) (wr : World) => v7 = .string ⟨#[]⟩ ∧ v9 = .int .i64 0 ∧ w = wr)
  case atStart => exact ⟨rfl, rfl, rfl⟩
  case round =>
    obtain ⟨rfl, rfl, rfl⟩ := hrel
    go_wp2_with fail
    go_ret
    exact ⟨rfl, rfl⟩
end
end Go.Proofs.YtljlpkeddbfpaaaGreatDoor.Hd

namespace Go.Proofs.YtljlpkeddbfpaaaGreatDoor.Hd
open Go.RowKit Go.Maps Go.Proofs.YtljlpkeddbfpaaaGreatDoor Go.Proofs.YtljlpkeddbfpaaaGreatDoor.Hp
set_option linter.unusedVariables false
attribute [local go_sem] Oper.semAt_some

section
variable {w : World} {c : RF} {L : List DN} {E : List EN} {R : Hp}
/-- What is asked of a name's node. -/
structure NmOk (L : List DN) (e : EN) (j : Nat) : Prop where
  at_ : e.node = (j : Int)
  pos : 1 ≤ j
  len : j < L.length
  kind : ∀ h : j < L.length, L[j].kind = 1 ∨ L[j].kind = 2 ∨ L[j].kind = 3
  leaf : ∀ h : j < L.length, L[j].kind = 1 → L[j].kn = 0
  text : ∀ h : j < L.length, L[j].text.size ≤ 4096
  name : e.name.size ≤ 100
theorem lineL_len (h : List UInt8) (kd : Int) (t : List UInt8) : (lineL h kd t).length ≤ h.length + 2 * t.length + 3 := by
  have := escL_len t
  unfold lineL
  split
  · simp only [List.length_append, List.length_cons, List.length_nil]; omega
  · split
    · simp only [List.length_append, List.length_cons, List.length_nil]; omega
    · simp only [List.length_append, List.length_cons, List.length_nil]; omega
theorem lineE_len {path : ByteArray} {e : EN} {j : Nat} (ok : NmOk L e j) (hp : path.size ≤ 1000) : (lineE path L e).length ≤ 10000 := by
  unfold lineE
  refine Nat.le_trans (lineL_len _ _ _) ?_
  have h1 := ok.name
  have h2 := ok.text ok.len
  have e1 : textN L e.node = (L[j]'(ok.len)).text := by unfold textN; rw [ok.at_, dget_at ok.pos ok.len]
  simp only [List.length_append, bs_length, e1, List.length_singleton]
  omega
theorem linesE_len {path : ByteArray} : ∀ (E : List EN), (∀ k (hk : k < E.length), ∃ j, NmOk L E[k] j) → path.size ≤ 1000 → (linesE path L E).length ≤ 10000 * E.length
  | [], _, _ => Nat.zero_le _
  | e :: E, ok, hp => by
    obtain ⟨j, oj⟩ := ok 0 (Nat.succ_pos _)
    have h1 : (lineE path L e).length ≤ 10000 := lineE_len oj hp
    have h2 := linesE_len E (fun k hk => ok (k + 1) (Nat.succ_lt_succ hk)) hp
    show (lineE path L e ++ linesE path L E).length ≤ _
    rw [List.length_append, List.length_cons]
    omega
set_option maxRecDepth 100000 in
set_option maxHeartbeats 8000000 in
theorem rshow_calls {i : Nat} (path : ByteArray) (hpz : path.size ≤ 1000) (hi : i < L.length) (hkn : L[i].kn = E.length) (hE : E.length ≤ 100) (hok : ∀ k (hk : k < E.length), ∃ j, NmOk L E[k] j) (h : Sat w (rfHp c L * (enA L[i].kp L[i].kc E * R))) :
    Calls Tryz.prog 89 #[pp c.fb, .int .i64 (i : Int), .string path] w fun e w' => (e = .returned (.string (ba (linesE path L E))) ∧ Sat w' (rfHp c L * (enA L[i].kp L[i].kc E * R))) ∧ Ran w w' := by
  obtain ⟨kp, hkp⟩ : ∃ kp, kp = L[i].kp := ⟨_, rfl⟩
  obtain ⟨kc, hkc⟩ : ∃ kc, kc = L[i].kc := ⟨_, rfl⟩
  rw [← hkp, ← hkc] at h ⊢
  have hlm := rf_len h
  have hlI : (L.length : Int) ≤ 9223372036854775807 := by unfold maxLen at hlm; omega
  have HD := Lib.hid (fun (W : World) (X : Hp) (hX : Sat W (rfHp c L * X)) => And.intro (rf_cells hX).2.2 (dn_cells hX hi).2.2.1)
  rw [hkn, ← hkp, ← hkc] at HD
  have HN := Lib.hid (fun (W : World) (X : Hp) (hX : Sat W (rfHp c L * X)) (j : Nat) (hj : j < L.length) => dn_cells hX hj)
  have HLf := Lib.hid (fun (W : World) (X : Hp) (hX : Sat W (rfHp c L * X)) (j : Nat) (hj : j < L.length) (hk : L[j].kn = 0) (p2 : ByteArray) => rshow_leaf p2 hj hk hX)
  have h1 : (0 : Int) ≤ (i : Int) := by omega
  have h2 : (i : Int) < (L.length : Int) := by omega
  have hEI : (E.length : Int) ≤ 100 := by omega
  have hpI : (path.size : Int) ≤ 1000 := by omega
  obtain ⟨c2, d2⟩ := HD.out _ _ h
  have HOK := Lib.hid hok
  have H := Lib.hid h
  clear h hlm hkp hkc hkn hok
  go_enter Tryz.func89, Tryz.ntmps89
  go_wp2_with fail
  go_loopg [7, 9] (E.length) (fun (g : Nat) (v7 v9 : Value) (wr : World) => ∃ k : Nat, v9 = .int .i64 (k : Int) ∧ k + g = E.length ∧ v7 = .string (ba (linesE path L (E.take k))) ∧ Sat wr (rfHp c L * (enA kp kc E * R)) ∧ Ran w wr)
  case atStart => exact ⟨0, rfl, by omega, rfl, H.out, Below.refl 0 w⟩
  case round =>
    clear c2 d2 H
    obtain ⟨k, rfl, hkg, rfl, S1, R1⟩ := hrel
    by_cases hlt : k < E.length
    · have hltI : (k : Int) < (E.length : Int) := by omega
      have hk0 : (0 : Int) ≤ (k : Int) := by omega
      obtain ⟨j, ok⟩ := HOK.out k hlt
      have hjl := ok.len
      have hjI : (j : Int) < (L.length : Int) := by omega
      have hj0 : (0 : Int) ≤ (j : Int) := by omega
      obtain ⟨b, o, hb, e0, -, hc1, hc2⟩ := en_cells (S1.perm (show _ = enA kp kc E * (rfHp c L * R) by ac_rfl)) hlt
      obtain ⟨b3, o3, hb3, -, e1, -⟩ := en_cells (S1.drew.perm (show _ = enA kp kc E * (rfHp c L * R) by ac_rfl)) hlt
      rw [hb] at hb3
      injection hb3 with hb3
      injection hb3 with hb4 hb5
      subst hb4 hb5
      have hcm : (kc : Int) ≤ 9223372036854775807 := by unfold maxLen at hc2; omega
      have hc1I : (E.length : Int) ≤ (kc : Int) := by omega
      have hnx := linesE_take path L E k hlt
      have hll := lineE_len ok hpz
      have hpre := linesE_len (path := path) (E.take k) (fun q hq => by
        rw [List.length_take] at hq
        obtain ⟨j2, o2⟩ := HOK.out q (by omega)
        exact ⟨j2, by rw [List.getElem_take]; exact o2⟩) hpz
      rw [List.length_take] at hpre
      have hln : lineE path L E[k] = lineL (bs path ++ [47] ++ bs E[k].name) L[j].kind (bs L[j].text) := by
        unfold lineE textN
        rw [ok.at_, kindD_at ok.pos ok.len, dget_at ok.pos ok.len]
      rw [hln] at hnx
      obtain ⟨pre, hpr⟩ : ∃ pre, pre = linesE path L (E.take k) := ⟨_, rfl⟩
      rw [← hpr] at hnx hpre ⊢
      rw [ok.at_] at e1
      have hnz := ok.name
      obtain ⟨nme, hnm⟩ : ∃ nme, nme = E[k].name := ⟨_, rfl⟩
      rw [← hnm] at e0 hnx hnz
      obtain ⟨c2, d2⟩ := HD.out _ _ S1.drew
      obtain ⟨m0, m1, m2, m3, m4, m5⟩ := HN.out _ _ S1.drew j hjl
      have hkd := ok.kind hjl
      have htz := ok.text hjl
      have hleaf := ok.leaf hjl
      obtain ⟨x, hx⟩ : ∃ x, x = L[j] := ⟨_, rfl⟩
      rw [← hx] at m0 m1 m2 m3 m4 m5 hkd htz hnx
      have S2 := S1.drew.alloc (dnO x)
      have R2 := Lib.hid (Ran.new (Ran.drewN R1 1) (dnO x))
      obtain ⟨r0, r1, r2, r3, r4, r5⟩ := dnO_cells S2
      have HLF := fun (hk1 : x.kind = 1) (p2 : ByteArray) => Lib.hid (HLf.out _ _ (S2.perm (show _ = rfHp c L * (pts wr.drew.heap.size (dnO x) * (enA kp kc E * R)) by ac_rfl)) j hjl (hleaf (by rw [← hx]; exact hk1)) p2)
      obtain ⟨c2', d2'⟩ := HD.out _ _ (S2.perm (show _ = rfHp c L * (pts wr.drew.heap.size (dnO x) * (enA kp kc E * R)) by ac_rfl))
      obtain ⟨b', o', hb', e0', e1', -⟩ := en_cells (S2.perm (show _ = enA kp kc E * (pts wr.drew.heap.size (dnO x) * (rfHp c L * R)) by ac_rfl)) hlt
      rw [hb] at hb'
      injection hb' with hb'
      injection hb' with hb1 hb2
      subst hb1 hb2
      rw [ok.at_] at e1'
      rw [← hnm] at e0'
      have S3 := Lib.hid S2.right
      have HKw : ∀ (ob : Obj), Sat (wr.drew.alloc ob) (rfHp c L * (enA (some ⟨b, o, none⟩) kc E * R)) := fun ob => by rw [← hb]; exact S1.drew.old ob
      have HKx := hx
      obtain ⟨xk, xt, xp, xn, xc, xpa, xna, xh⟩ := x
      dsimp only at m0 m1 m2 m3 m4 m5 r0 r1 r2 r3 r4 r5 hkd htz hnx S3 R2
      have HK : Hid (∀ (ob : Obj), (wr.drew.alloc ob).cell? ⟨c.fb, 2, none⟩ = some (.slice (some ⟨c.lb, 0, none⟩) L.length L.length) ∧ (wr.drew.alloc ob).cell? ⟨b, o + k * 2 + 1, none⟩ = some (.int .i64 (j : Int)) ∧ (wr.drew.alloc ob).cell? ⟨c.lb, j * 6, none⟩ = some (.int .i64 xk) ∧ (wr.drew.alloc ob).cell? ⟨c.lb, j * 6 + 1, none⟩ = some (.string xt) ∧ (wr.drew.alloc ob).cell? ⟨c.lb, j * 6 + 2, none⟩ = some (.slice xp xn xc) ∧ (wr.drew.alloc ob).cell? ⟨c.lb, j * 6 + 3, none⟩ = some (.int .i64 xpa) ∧ (wr.drew.alloc ob).cell? ⟨c.lb, j * 6 + 4, none⟩ = some (.int .i64 xna) ∧ (wr.drew.alloc ob).cell? ⟨c.lb, j * 6 + 5, none⟩ = some (.int .i64 xh)) := Lib.hid (fun ob => by
        obtain ⟨b5, o5, hb5, -, e5, -⟩ := en_cells ((HKw ob).perm (show _ = enA (some ⟨b, o, none⟩) kc E * (rfHp c L * R) by ac_rfl)) hlt
        injection hb5 with hb5
        injection hb5 with hb6 hb7
        subst hb6 hb7
        have e6 := HN.out _ _ (HKw ob) j hjl
        rw [← HKx] at e6
        rw [ok.at_] at e5
        exact ⟨(HD.out _ _ (HKw ob)).1, e5, e6⟩)
      clear HKw HKx
      obtain ⟨here, hhe⟩ : ∃ here, here = path ++ ⟨#[47]⟩ ++ nme := ⟨_, rfl⟩
      have hbs : bs here = bs path ++ [47] ++ bs nme := by rw [hhe, bs_app, bs_app]
      rw [← hbs] at hnx
      have hhz : here.size ≤ 1101 := by rw [hhe, ByteArray.size_append, ByteArray.size_append]; show path.size + 1 + nme.size ≤ _; omega
      have hpz2 : (ba pre).size ≤ 1000000 := by rw [ba_size]; omega
      obtain ⟨prb, hpb⟩ : ∃ prb, prb = ba pre := ⟨_, rfl⟩
      rw [← hpb] at hpz2 ⊢
      have HNX := Lib.hid (And.intro hnx hpb)
      have Hpb := Lib.hid hpb
      subst hb
      have ho1 : ¬ path.size + 1 > 9223372036854775807 := by omega
      have ho2 : ¬ path.size + 1 + nme.size > 9223372036854775807 := by omega
      have ho3 : ¬ prb.size + here.size > 9223372036854775807 := by omega
      have ho4 : ¬ prb.size + here.size + 3 > 9223372036854775807 := by omega
      have ho5 : ¬ prb.size + here.size + 2 > 9223372036854775807 := by omega
      have ho6 : ¬ prb.size + here.size + 2 + xt.size > 9223372036854775807 := by omega
      have ho7 : ¬ prb.size + here.size + 2 + xt.size + 1 > 9223372036854775807 := by omega
      have ho8 : ¬ prb.size + here.size + 3 + 0 > 9223372036854775807 := by omega
      clear hnx hpre hln hll hpr hnm hx S1 R1 S2 hbs hpb hc2 hleaf hpz
      go_upto_region 7 with fail
      rw [← hhe]
      clear hhe
      refine region_plan (S := (fun w' => w'.cell? ⟨c.fb, 2, none⟩ = some (.slice (some ⟨c.lb, 0, none⟩) L.length L.length) ∧ w'.cell? ⟨b, o + k * 2 + 1, none⟩ = some (.int .i64 (j : Int)) ∧ w'.cell? ⟨c.lb, j * 6, none⟩ = some (.int .i64 xk) ∧ w'.cell? ⟨c.lb, j * 6 + 1, none⟩ = some (.string xt) ∧ w'.cell? ⟨c.lb, j * 6 + 2, none⟩ = some (.slice xp xn xc) ∧ w'.cell? ⟨c.lb, j * 6 + 3, none⟩ = some (.int .i64 xpa) ∧ w'.cell? ⟨c.lb, j * 6 + 4, none⟩ = some (.int .i64 xna) ∧ w'.cell? ⟨c.lb, j * 6 + 5, none⟩ = some (.int .i64 xh))) [(0, true), (1, true), (2, true), (3, true), (4, true), (5, true), (6, true), (7, true), (8, true), (9, true), (10, true), (11, false), (12, false)] (by kernel_rfl) (by kernel_rfl) (by kernel_rfl) ?_ ?_
      · ((try dsimp only); (first | done | (first | exact ⟨c2, e1, m0, m1, m2, m3, m4, m5⟩ | exact HK.out _)))
      simp only [planOps, List.map_cons, List.map_nil, List.getElem?_toArray, List.getElem?_cons_zero, List.getElem?_cons_succ]
      repeat (first
        | ((refine plan_yes (v := ?_) (by rfl) ?_ ?_); rotate_left; (focus (intro w hSw; (try dsimp only at hSw); go_simp; try (with_reducible rfl))); (try simp only [Act.put, List.setIfInBounds_toArray, List.set_cons_zero, List.set_cons_succ]))
        | ((refine plan_no (by rfl) ?_); (try simp only [Act.put, List.setIfInBounds_toArray, List.set_cons_zero, List.set_cons_succ]))
        | ((refine plan_step (fun K hK => ?_)); (first | (fail) | (go_simp; (fail); (try go_wp2_with fail)) | go_simp); (refine hK.out _ _ ?_ (fun hHeld => ?_)); (focus ((try dsimp only); (first | done | (first | exact ⟨c2, e1, m0, m1, m2, m3, m4, m5⟩ | exact HK.out _)))); clear hK K; (try simp only [Act.put, List.setIfInBounds_toArray, List.set_cons_zero, List.set_cons_succ])))
      refine plan_done ?_
      clear c2 d2 m0 m1 m2 m3 m4 m5 e0 e1 HK
      rcases hkd with rfl | rfl | rfl
      · have HLG := HLF (by first | exact trivial | rfl) here
        clear HLF
        have HNX := Lib.hid (And.intro HNX.out.1 (say1 pre here xt))
        go_wp2_with fail
        refine HLG.out.mono ?_
        rintro e w3 ⟨rfl, rfl⟩
        clear HLG
        go_wp2_with fail
        go_roundg (gk - 1)
        case rel => exact ⟨k + 1, by simp, by omega, by rw [HNX.out.1, ← HNX.out.2, Hpb.out], S3.out, R2.out⟩
        case measure => omega
      · clear HLF
        obtain ⟨bz, hbz⟩ : ∃ bz, bz = prb ++ here ++ ⟨#[32, 61]⟩ := ⟨_, rfl⟩
        have hbzz : bz.size = prb.size + here.size + 2 := by rw [hbz, ByteArray.size_append, ByteArray.size_append]; rfl
        have HBZ := Lib.hid (And.intro hbz hbzz)
        clear hbzz
        obtain ⟨g0, hg0⟩ : ∃ g0 : Nat, g0 + 1 = gk := ⟨gk - 1, by omega⟩
        go_upto_region 13 with fail
        rw [← hbz]
        clear hbz
        go_wp2_with fail
        go_loopg [7, 12] (xt.size) (fun (g : Nat) (v7 v12 : Value) (wr2 : World) => ∃ q : Nat, v12 = .int .i64 (q : Int) ∧ q + g = xt.size ∧ v7 = .string (bz ++ ba (escL ((bs xt).take q))) ∧ wr.drew.alloc (dnO ⟨2, xt, xp, xn, xc, xpa, xna, xh⟩) = wr2)
        case atStart => exact ⟨0, rfl, by omega, by rw [show escL ((bs xt).take 0) = [] from rfl, app_nil], rfl⟩
        case round =>
          obtain ⟨q, rfl, hqg, rfl, rfl⟩ := hrel
          by_cases hq : q < xt.size
          · have hqI : (q : Int) < (xt.size : Int) := by omega
            have hq0 : (0 : Int) ≤ (q : Int) := by omega
            have hxI : (xt.size : Int) ≤ 4096 := by omega
            have hqb : q < (bs xt).length := by rw [bs_length]; exact hq
            have hst := escL_take (bs xt) q hqb
            have hel : (bs xt)[q] = xt[q]'hq := rfl
            rw [hel] at hst
            have hes := escL_len ((bs xt).take q)
            rw [List.length_take, bs_length] at hes
            obtain ⟨es, hes2⟩ : ∃ es, es = escL ((bs xt).take q) := ⟨_, rfl⟩
            rw [← hes2] at hes hst ⊢
            obtain ⟨acc, hac⟩ : ∃ acc, acc = bz ++ ba es := ⟨_, rfl⟩
            have hacz : acc.size ≤ 1100000 := by rw [hac, ByteArray.size_append, ba_size, HBZ.out.2]; omega
            rw [← hac]
            have hov : ¬ acc.size + 2 > 9223372036854775807 := by omega
            have hov1 : ¬ acc.size + 1 > 9223372036854775807 := by omega
            have HAC := Lib.hid (And.intro hac hst)
            have Hqg := Lib.hid hqg
            clear hac hst hes hes2 hqb hel hqg
            by_cases hb1 : xt[q] = 10
            · have hbI : (xt[q].toNat : Int) = 10 := by rw [hb1]; rfl
              go_wp2_with fail
              go_roundg (gk - 1)
              case rel => exact ⟨q + 1, by simp, by have := Hqg.out; omega, by rw [HAC.out.2, hb1, HAC.out.1, ← ba_app, ← ByteArray.append_assoc]; rfl, rfl⟩
              case measure => have := Hqg.out; omega
            · have hbI : ¬ (xt[q].toNat : Int) = 10 := u8_ten hb1
              by_cases hb2 : xt[q] = 92
              · have hbI2 : (xt[q].toNat : Int) = 92 := by rw [hb2]; rfl
                go_wp2_with fail
                go_roundg (gk - 1)
                case rel => exact ⟨q + 1, by simp, by have := Hqg.out; omega, by rw [HAC.out.2, hb2, HAC.out.1, ← ba_app, ← ByteArray.append_assoc]; rfl, rfl⟩
                case measure => have := Hqg.out; omega
              · have hbI2 : ¬ (xt[q].toNat : Int) = 92 := u8_bsl hb2
                have hex : xt.extract q (q + 1) = ba [xt[q]] := by
                  apply ByteArray.ext
                  rw [ByteArray.data_extract]
                  apply Array.ext'
                  rw [Array.toList_extract, List.extract_eq_take_drop, show q + 1 - q = 1 by omega, List.drop_eq_getElem_cons (by rw [Array.length_toList]; exact hq)]
                  rfl
                have hexz : (xt.extract q (q + 1)).size = 1 := by rw [hex]; rfl
                have HEX := Lib.hid hex
                have hle1 : (q : Int) ≤ (q : Int) + 1 := by omega
                clear hex
                go_wp2_with fail
                go_roundg (gk - 1)
                case rel => exact ⟨q + 1, by simp, by have := Hqg.out; omega, by rw [HAC.out.2, HEX.out, HAC.out.1, ← ba_app, ← ByteArray.append_assoc]; unfold escB; rw [if_neg hb1, if_neg hb2], rfl⟩
                case measure => have := Hqg.out; omega
          · have hge : (xt.size : Int) ≤ (q : Int) := by omega
            have htk : (bs xt).take q = bs xt := List.take_of_length_le (by rw [bs_length]; omega)
            rw [htk]
            obtain ⟨acc, hac⟩ : ∃ acc, acc = bz ++ ba (escL (bs xt)) := ⟨_, rfl⟩
            have hes := escL_len (bs xt)
            rw [bs_length] at hes
            have hacz : acc.size ≤ 1100000 := by rw [hac, ByteArray.size_append, ba_size, HBZ.out.2]; omega
            rw [← hac]
            have hov1 : ¬ acc.size + 1 > 9223372036854775807 := by omega
            have HAC := Lib.hid (And.intro hac (And.intro HNX.out.1 (say2 pre here xt)))
            clear hac hes htk hqg
            go_wp2_with fail
            go_roundg g0
            case rel => exact ⟨k + 1, by simp, by omega, by rw [HAC.out.2.1, ← HAC.out.2.2, HAC.out.1, HBZ.out.1, Hpb.out], S3.out, R2.out⟩
            case measure => omega
      · clear HLF
        have HNX := Lib.hid (And.intro HNX.out.1 (say3 pre here xt))
        go_wp2_with fail
        go_roundg (gk - 1)
        case rel => exact ⟨k + 1, by simp, by omega, by rw [HNX.out.1, ← HNX.out.2, Hpb.out], S3.out, R2.out⟩
        case measure => omega
    · have hge : (E.length : Int) ≤ (k : Int) := by omega
      have htk : E.take k = E := List.take_of_length_le (by omega)
      rw [htk]
      have S9 := Lib.hid (And.intro S1 R1)
      clear S1 R1
      go_wp2_with fail
      go_ret
      exact ⟨⟨rfl, S9.out.1⟩, S9.out.2⟩
end
end Go.Proofs.YtljlpkeddbfpaaaGreatDoor.Hd

namespace Go.Proofs.YtljlpkeddbfpaaaGreatDoor.Hd
open Go.RowKit Go.Maps Go.Sort Go.Shelf Go.Proofs.YtljlpkeddbfpaaaGreatDoor Go.Proofs.YtljlpkeddbfpaaaGreatDoor.Hp
set_option linter.unusedVariables false

section
variable (b : UInt8) (new : List UInt8)
theorem rk_ne (k : Nat) (x : UInt8) (l : List UInt8) (h : ¬ x = b) : Lib.replaceK [b] new (k + 1) (x :: l) = x :: Lib.replaceK [b] new (k + 1) l := by
  have hp : ([b] : List UInt8).isPrefixOf (x :: l) = false := by
    show ((b == x) && _) = false
    have : (b == x) = false := by simp; exact fun e => h e.symm
    rw [this]; rfl
  have hi : Lib.index (x :: l) [b] = if Lib.index l [b] == -1 then -1 else Lib.index l [b] + 1 := by
    show (if ([b] : List UInt8).isPrefixOf (x :: l) then (0 : Int) else _) = _
    rw [hp]; rfl
  have hge := Lib.index_ge l [b]
  by_cases hm : Lib.index l [b] = -1
  · have e1 : (Lib.index l [b] == -1) = true := by rw [hm]; rfl
    rw [e1] at hi
    unfold Lib.replaceK
    have e2 : (Lib.index (x :: l) [b] == -1) = true := by rw [hi]; rfl
    rw [if_pos e1, if_pos e2]
  · obtain ⟨i, hii⟩ : ∃ i : Nat, Lib.index l [b] = (i : Int) := ⟨(Lib.index l [b]).toNat, by omega⟩
    have e1 : (Lib.index l [b] == -1) = false := by simp; omega
    rw [e1] at hi
    have hi2 : Lib.index (x :: l) [b] = ((i + 1 : Nat) : Int) := by rw [hi, hii]; rfl
    rw [Lib.replaceK_hit [b] new k l i hii, Lib.replaceK_hit [b] new k (x :: l) (i + 1) hi2]
    show (x :: l).take (i + 1) ++ new ++ Lib.replaceK [b] new k ((x :: l).drop (i + 1 + 1)) = x :: (l.take i ++ new ++ Lib.replaceK [b] new k (l.drop (i + 1)))
    rfl
theorem rk_eq (k : Nat) (l : List UInt8) : Lib.replaceK [b] new (k + 1) (b :: l) = new ++ Lib.replaceK [b] new k l := by
  have hi : Lib.index (b :: l) [b] = ((0 : Nat) : Int) := by
    show (if ([b] : List UInt8).isPrefixOf (b :: l) then (0 : Int) else _) = _
    have : ([b] : List UInt8).isPrefixOf (b :: l) = true := by simp
    rw [this]; rfl
  rw [Lib.replaceK_hit [b] new k (b :: l) 0 hi]
  rfl
def subB (b : UInt8) (new : List UInt8) (x : UInt8) : List UInt8 := if x = b then new else [x]
theorem rk_all : ∀ (l : List UInt8) (k : Nat), l.count b ≤ k → Lib.replaceK [b] new k l = l.flatMap (subB b new)
  | [], 0, _ => rfl
  | [], k + 1, _ => by
    unfold Lib.replaceK
    have : (Lib.index [] [b] == -1) = true := rfl
    rw [if_pos this]; rfl
  | x :: l, 0, h => by
    have hx : ¬ x = b := fun e => by rw [e, List.count_cons_self] at h; omega
    have h2 : l.count b ≤ 0 := by rw [List.count_cons_of_ne (fun e => hx e)] at h; exact h
    show x :: l = subB b new x ++ l.flatMap (subB b new)
    rw [← rk_all l 0 h2]
    unfold subB; rw [if_neg hx]; rfl
  | x :: l, k + 1, h => by
    show _ = subB b new x ++ l.flatMap (subB b new)
    by_cases hx : x = b
    · rw [hx] at h ⊢
      rw [List.count_cons_self] at h
      rw [rk_eq, rk_all l k (by omega)]
      unfold subB; rw [if_pos rfl]
    · rw [List.count_cons_of_ne (fun e => hx e)] at h
      rw [rk_ne b new k x l hx, rk_all l (k + 1) h]
      unfold subB; rw [if_neg hx]; rfl
theorem repl_byte (hne : ([b] == new) = false) (l : List UInt8) : Lib.replaceAll l [b] new = l.flatMap (subB b new) := by
  unfold Lib.replaceAll Lib.replace
  rw [hne]
  show Lib.replaceK [b] new (Lib.replaceNum l [b] (-1)) l = _
  refine rk_all b new l _ ?_
  unfold Lib.replaceNum
  rw [if_pos (.inl (by decide)), Lib.count_one]
  exact Nat.le_refl _
end
/-- The two ReplaceAll are a byte's escape. -/
theorem esc_two (l : List UInt8) : Lib.replaceAll (Lib.replaceAll l [92] [92, 92]) [10] [92, 110] = escL l := by
  rw [repl_byte 92 [92, 92] rfl, repl_byte 10 [92, 110] rfl, List.flatMap_assoc]
  unfold escL
  have : ∀ x : UInt8, (subB 92 [92, 92] x).flatMap (subB 10 [92, 110]) = escB x := fun x => by
    unfold subB escB
    by_cases h1 : x = 92
    · subst h1; rfl
    · simp only [if_neg h1]
      show (if x = 10 then [92, 110] else [x]) ++ [] = _
      rw [List.append_nil]
  rw [funext this]
theorem repl_len (l : List UInt8) : (Lib.replaceAll l [92] [92, 92]).length ≤ 2 * l.length := by
  rw [repl_byte 92 [92, 92] rfl]
  induction l with
  | nil => exact Nat.le_refl _
  | cons x l ih =>
    show (subB 92 [92, 92] x ++ l.flatMap (subB 92 [92, 92])).length ≤ _
    rw [List.length_append, List.length_cons]
    have : (subB 92 [92, 92] x).length ≤ 2 := by unfold subB; split <;> simp
    omega
theorem repl_calls (s old new : ByteArray) (m : Int) (w : World) (hs : s.size ≤ 1000000) (ho : old.size = 1) (hn : new.size ≤ 10) (hm : w.cell? ⟨0, 0, none⟩ = some (.int .i64 m)) :
    Calls Tryz.prog 107 #[.string s, .string old, .string new] w fun e w' => e = .returned (.string (ba (Lib.replaceAll (bs s) (bs old) (bs new)))) ∧ Below w.heap.size w w' := by
  have hc := Lib.countB_mul_le old (by omega) s.size s (Nat.le_refl _)
  rw [ho] at hc
  have h2 : Lib.countB s old * new.size ≤ 1000000 * 10 := Nat.mul_le_mul (by omega) hn
  exact Tryz.strings_ReplaceAll s old new m w (by omega) hm (by omega) (by omega)
/-- Texts, rising, that are just a map's keys. -/
def KeysS (M : K.SM) (ks : List ByteArray) : Prop := ks.Pairwise (fun a b => a.data.toList < b.data.toList) ∧ ∀ s, s ∈ ks ↔ (M s).isSome = true
theorem rise_eq : ∀ (l1 l2 : List ByteArray), l1.Pairwise (fun a b => a.data.toList < b.data.toList) → l2.Pairwise (fun a b => a.data.toList < b.data.toList) → (∀ x, x ∈ l1 ↔ x ∈ l2) → l1 = l2
  | [], [], _, _, _ => rfl
  | [], y :: l2, _, _, h => by have := (h y).2 List.mem_cons_self; cases this
  | x :: l1, [], _, _, h => by have := (h x).1 List.mem_cons_self; cases this
  | x :: l1, y :: l2, h1, h2, h => by
    have c1 := List.pairwise_cons.1 h1
    have c2 := List.pairwise_cons.1 h2
    have e : x = y := by
      rcases List.mem_cons.1 ((h x).1 List.mem_cons_self) with e | e
      · exact e
      · rcases List.mem_cons.1 ((h y).2 List.mem_cons_self) with e2 | e2
        · exact e2.symm
        · exact absurd (c1.1 y e2) (List.lt_asymm (c2.1 x e))
    subst e
    rw [rise_eq l1 l2 c1.2 c2.2 fun z => ⟨fun hz => ?_, fun hz => ?_⟩]
    · rcases List.mem_cons.1 ((h z).1 (List.mem_cons_of_mem _ hz)) with e | e
      · subst e; exact absurd (c1.1 z hz) (List.lt_irrefl _)
      · exact e
    · rcases List.mem_cons.1 ((h z).2 (List.mem_cons_of_mem _ hz)) with e | e
      · subst e; exact absurd (c2.1 z hz) (List.lt_irrefl _)
      · exact e
def strB (l : List UInt8) : ByteArray := ⟨l.toArray⟩
theorem strB_list (s : ByteArray) : strB s.data.toList = s := by cases s; simp [strB]
theorem skeys_facts {w : World} {b n sz : Nat} {D : DataW Unit} {M : K.SM} (hown : K.Owns w b n D) (hR : K.Reads D M sz) {ss : List (List UInt8)} (hp : ss.Perm (strKeys D)) : KeysS M ((ss.mergeSort (fun x y => decide (x ≤ y))).map strB) := by
  obtain ⟨es, hD, hpw, _⟩ := hown.entries K.strKey
  obtain ⟨es', hD', hko⟩ := hown.keysOf
  obtain rfl : es = es' := by rw [hD] at hD'; simpa using hD'
  have hk : ∀ p ∈ es, ∃ x, p.1 = .string x := fun p hp => by obtain ⟨v, hv⟩ := hko p hp; obtain ⟨x, _, hx, _⟩ := Maps.keyOf_str Tryz.underlying9 hv; exact ⟨x, hx⟩
  have hnd : (strKeys D).Nodup := by
    rw [hD]
    show (es.map fun p => strOf p.1).Nodup
    refine List.pairwise_map.2 (hpw.imp_of_mem fun {p q} hp' hq' hne e => hne ?_)
    obtain ⟨a, ha⟩ := hk p hp'
    obtain ⟨b, hb⟩ := hk q hq'
    rw [ha, hb] at e ⊢
    exact congrArg _ e
  have hmem : ∀ x, x ∈ strKeys D ↔ Maps.has D (.string x) = true := by
    intro x
    rw [hD, has_eq, List.any_eq_true]
    show x ∈ es.map (fun p => strOf p.1) ↔ _
    rw [List.mem_map]
    constructor
    · rintro ⟨p, hp', rfl⟩
      obtain ⟨a, ha⟩ := hk p hp'
      exact ⟨p, hp', by rw [ha]; simp [Lit.sameKey, strOf]⟩
    · rintro ⟨p, hp', hs⟩
      obtain ⟨a, ha⟩ := hk p hp'
      rw [ha] at hs
      exact ⟨p, hp', by rw [ha]; simpa [Lit.sameKey, strOf] using hs⟩
  have tr : ∀ a b c : List UInt8, leB a b = true → leB b c = true → leB a c = true := fun a b c h1 h2 => by simp only [leB, decide_eq_true_eq] at *; exact List.le_trans h1 h2
  have tot : ∀ a b : List UInt8, (leB a b || leB b a) = true := fun a b => by simp only [leB, Bool.or_eq_true, decide_eq_true_eq]; exact List.le_total a b
  have hpm : (ss.mergeSort leB).Perm (strKeys D) := (List.mergeSort_perm ss leB).trans hp
  have hnd2 : (ss.mergeSort leB).Nodup := hpm.nodup_iff.2 hnd
  have hs := List.pairwise_mergeSort tr tot ss
  refine ⟨?_, fun s => ?_⟩
  · refine List.pairwise_map.2 ((hs.and hnd2).imp fun {a b} h => ?_)
    obtain ⟨h1, h2⟩ := h
    simp only [leB, decide_eq_true_eq] at h1
    show (strB a).data.toList < (strB b).data.toList
    simp only [strB]
    rcases List.le_iff_lt_or_eq.1 h1 with h | h
    · exact h
    · exact absurd h h2
  · rw [List.mem_map]
    constructor
    · rintro ⟨x, hx, rfl⟩
      have h1 := (hmem x).1 (hpm.mem_iff.1 hx)
      rw [← hR.has (strB x)]
      simpa [K.kl, strB] using h1
    · intro h
      rw [← hR.has s] at h
      exact ⟨s.data.toList, hpm.mem_iff.2 ((hmem _).2 h), strB_list s⟩
theorem keys_none {ks : List ByteArray} (h : KeysS (fun _ => none) ks) : ks = [] := by
  cases ks with
  | nil => rfl
  | cons x l => have := (h.2 x).1 List.mem_cons_self; cases this
theorem kids_mem (s : ByteArray) : (kidsM s).isSome = true ↔ s ∈ kidsE.map EN.name := by
  show (kidsM s).isSome = true ↔ s ∈ [nm 97, nm 98, nm 100, nm 108]
  unfold kidsM K.putM
  simp only [List.mem_cons, List.not_mem_nil, or_false]
  by_cases h1 : s = nm 100
  · simp [h1]
  · by_cases h2 : s = nm 108
    · simp [h2]
    · by_cases h3 : s = nm 98
      · simp [h3]
      · by_cases h4 : s = nm 97
        · simp [h4]
        · simp [h1, h2, h3, h4]
theorem keys_kids {ks : List ByteArray} (h : KeysS kidsM ks) : ks = kidsE.map EN.name := by
  refine rise_eq _ _ h.1 ?_ fun x => (h.2 x).trans (kids_mem x)
  show List.Pairwise _ [nm 97, nm 98, nm 100, nm 108]
  have lt : ∀ a b : UInt8, a < b → (nm a).data.toList < (nm b).data.toList := fun a b hab => List.Lex.rel hab
  refine List.pairwise_cons.2 ⟨fun y hy => ?_, List.pairwise_cons.2 ⟨fun y hy => ?_, List.pairwise_cons.2 ⟨fun y hy => ?_, List.pairwise_singleton _ _⟩⟩⟩
  all_goals
    simp only [List.mem_cons, List.not_mem_nil, or_false] at hy
  · rcases hy with rfl | rfl | rfl
    · exact lt _ _ (by decide)
    · exact lt _ _ (by decide)
    · exact lt _ _ (by decide)
  · rcases hy with rfl | rfl
    · exact lt _ _ (by decide)
    · exact lt _ _ (by decide)
  · subst hy
    exact lt _ _ (by decide)
theorem kids_at : ∀ k (hk : k < kidsE.length), kidsM kidsE[k].name = some kidsE[k].node := by decide
end Go.Proofs.YtljlpkeddbfpaaaGreatDoor.Hd

