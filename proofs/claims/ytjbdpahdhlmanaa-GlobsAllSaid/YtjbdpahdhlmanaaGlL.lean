/- 'Special'; the chapter's examples. -/
import Derived.Test.YtjbdpahdhlmanaaGlK
namespace Go.Proofs.Ytjbdpahdhlmanaa.Globs
open Go.RowKit Go.Proofs.Ytjbdpahdhlmanaa Go.Proofs.Ytjbdpahdhlmanaa.Hp
set_option linter.unusedVariables false

def specialB (p : List Itm) : Bool := p.any fun x => !(x.kind == 1)
theorem specialB_no {p : List Itm} (h : ∀ i (h : i < p.length), p[i].kind = 1) : specialB p = false := by
  unfold specialB
  rw [List.any_eq_false]
  intro x hx
  obtain ⟨i, hi, rfl⟩ := List.mem_iff_getElem.1 hx
  simp [h i hi]
theorem specialB_yes {p : List Itm} {i : Nat} (hi : i < p.length) (h : p[i].kind ≠ 1) : specialB p = true := by
  unfold specialB
  rw [List.any_eq_true]
  exact ⟨p[i], List.getElem_mem hi, by simpa using h⟩
def SpRel (p : List Itm) (w : World) (g : Nat) (iv : Value) (wr : World) : Prop :=
  ∃ i : Nat, i + g = p.length ∧ iv = .int .i64 (i : Int) ∧ (∀ j (h : j < p.length), j < i → p[j].kind = 1) ∧ Below w.heap.size w wr
set_option maxHeartbeats 1000000 in
theorem special_calls (p : List Itm) (ao : Option Addr) (cap : Nat) (w : World) (h : ItemsAt w ao p) :
    Calls Try.prog 18 #[.slice ao p.length cap] w (FPost (specialB p) w) := by
  have hpl := h.1
  go_enter Try.func18, Try.ntmps18
  go_wp2_with fail
  go_loopg [7] (p.length) (SpRel p w)
  case atStart => exact ⟨0, by omega, rfl, fun j _ hj => absurd hj (Nat.not_lt_zero j), Below.refl _ _⟩
  case round =>
    obtain ⟨i, hig, rfl, hno, hbel⟩ := hrel
    have hi0 : (0 : Int) ≤ i := by omega
    have hW := h.keep (Kept.below hbel)
    by_cases hi : i < p.length
    · have hil : (i : Int) < p.length := by omega
      obtain ⟨b, o, ra, rc, rfl, hb, c0, c1, c2, c3, hr⟩ := hW.2 i hi
      obtain ⟨x, hx⟩ : ∃ x, x = p[i] := ⟨_, rfl⟩
      rw [← hx] at c0 c1 c2 c3
      have Hx := Lib.hid hx
      have Hig := Lib.hid hig
      have Hno := Lib.hid hno
      have hB2 := hbel.alloc hbel.size (.cells #[.int .i64 x.kind, .int .u8 x.b.toNat, .bool x.neg, .slice ra x.rs.length rc] 42)
      clear hx hig hno h hW hr
      by_cases hk : x.kind = 1
      · have hkb : (x.kind == 1) = true := by rw [beq_iff_eq]; exact hk
        have Hk := Lib.hid hk
        clear hk
        go_wp2_with fail
        go_roundg (gk - 1)
        case measure => have := Hig.out; omega
        case rel => exact ⟨i + 1, by have := Hig.out; omega, by go_num, fun j hj hj2 => by
          rcases Nat.lt_or_ge j i with h4 | h4
          · exact Hno.out j hj h4
          · obtain rfl : j = i := by omega
            rw [← Hx.out]; exact Hk.out, hB2⟩
      · have hkb : (x.kind == 1) = false := by rw [beq_eq_false_iff_ne]; exact hk
        have hfin := specialB_yes hi (by rw [← Hx.out]; exact hk)
        have Hfin := Lib.hid hfin
        clear hk hfin
        go_wp2_with fail
        go_ret
        exact ⟨show Ending.returned (.bool true) = _ by rw [Hfin.out], hB2⟩
    · have hge : ¬ ((i : Int) < p.length) := by omega
      have Hfin := Lib.hid (specialB_no fun j hj => hno j hj (by omega))
      clear hno h hW
      go_wp2_with fail
      go_ret
      exact ⟨show Ending.returned (.bool false) = _ by rw [Hfin.out], hbel⟩

theorem of_lit (s : ByteArray) (q : Bool) (w : World) (t : List Ch) (n : Nat) (ht : markL (bs s) q = t) (hn : t.length = n) (hm : s.size ≤ 100000) :
    Calls Try.prog 25 #[.string s, .bool q] w fun e w' => (∃ ao cap, e = .returned (.slice ao n cap) ∧ CharsAt w' ao cap t) ∧ Below w.heap.size w w' := by
  refine (of_calls s q w hm).mono ?_
  rintro e w' ⟨ao, cap, rfl, h1, h2⟩
  subst ht hn
  exact ⟨⟨ao, cap, rfl, h1⟩, h2⟩
theorem comp_lit (t : List Ch) (path : Bool) (ao : Option Addr) (cap n m : Nat) (l : List Itm) (w : World) (hl : compileL t path = l) (hn : t.length = n) (hm : l.length = m) (h : CharsAt w ao cap t) (hs : n ≤ 100000) :
    Calls Try.prog 13 #[.slice ao n cap, .bool path] w fun e w' => (∃ ao cap, e = .returned (.slice ao m cap) ∧ ItemsAt w' ao l) ∧ Below w.heap.size w w' := by
  subst hn
  refine (compile_calls t path ao cap w h hs).mono ?_
  rintro e w' ⟨ao, cap, rfl, h1, h2⟩
  subst hl hm
  exact ⟨⟨ao, cap, rfl, h1⟩, h2⟩
theorem match_lit (p : List Itm) (s : ByteArray) (ao : Option Addr) (cap n : Nat) (w : World) (v : Bool) (hn : p.length = n) (hv : matchB p (bs s) = v) (h : ItemsAt w ao p) (hm : (s.size : Int) ≤ 9223372036854775806) :
    Calls Try.prog 21 #[.slice ao n cap, .string s] w (FPost v w) := by subst hn hv; exact match_calls p s ao cap w h hm
theorem path_lit (p : List Itm) (s : ByteArray) (ao : Option Addr) (cap n : Nat) (w : World) (v : Bool) (hn : p.length = n) (hv : pathB p (bs s) = v) (h : ItemsAt w ao p) (hm : (s.size : Int) ≤ 9223372036854775806) :
    Calls Try.prog 23 #[.slice ao n cap, .string s] w (FPost v w) := by subst hn hv; exact path_calls p s ao cap w h hm
theorem special_lit (p : List Itm) (ao : Option Addr) (cap n : Nat) (w : World) (v : Bool) (hn : p.length = n) (hv : specialB p = v) (h : ItemsAt w ao p) :
    Calls Try.prog 18 #[.slice ao n cap] w (FPost v w) := by subst hn hv; exact special_calls p ao cap w h
def TA : List Ch := markL [97, 42, 99] false
def PA : List Itm := [⟨1, 97, false, []⟩, ⟨3, 0, false, []⟩, ⟨1, 99, false, []⟩]
theorem compA : compileL TA false = PA := by kernel_rfl
def TB : List Ch := markL [91, 33, 97, 45, 99, 93, 63] false
def PB : List Itm := [⟨4, 0, true, [(97, 99)]⟩, ⟨2, 0, false, []⟩]
theorem compB : compileL TB false = PB := by kernel_rfl
def TC : List Ch := markL [91, 91, 58, 100, 105, 103, 105, 116, 58, 93, 120, 93] false
def PC : List Itm := [⟨4, 0, false, [(48, 57), (120, 120)]⟩]
theorem compC : compileL TC false = PC := by kernel_rfl
def TD : List Ch := markL [42] false
def PD : List Itm := [⟨3, 0, false, []⟩]
theorem compD : compileL TD true = PD := by kernel_rfl
set_option maxRecDepth 100000 in
set_option maxHeartbeats 4000000 in
/-- The chapter's examples. -/
theorem awake_calls (w : World) : Calls Try.prog 12 #[] w (FPost true w) := by
  go_enter Try.func12, Try.ntmps12
  go_wp2_with fail
  refine (of_lit ⟨#[97, 42, 99]⟩ false _ TA 3 rfl rfl (by decide)).mono ?_
  rintro e w1 ⟨⟨aA, cA, rfl, tA⟩, b1⟩
  have B1 : Below w.heap.size w w1 := b1
  clear b1
  go_wp2_with fail
  refine (comp_lit TA false aA cA 3 3 PA _ compA rfl rfl tA (by decide)).mono ?_
  rintro e w2 ⟨⟨pA, dA, rfl, hA⟩, b2⟩
  have B2 : Below w.heap.size w w2 := B1.trans (b2.mono B1.size)
  clear b2 B1
  clear tA
  go_wp2_with fail
  refine (of_lit ⟨#[91, 33, 97, 45, 99, 93, 63]⟩ false _ TB 7 rfl rfl (by decide)).mono ?_
  rintro e w3 ⟨⟨aB, cB, rfl, tB⟩, b3⟩
  have B3 : Below w.heap.size w w3 := B2.trans (b3.mono B2.size)
  replace hA := hA.keep (Kept.below b3)
  clear b3 B2
  go_wp2_with fail
  refine (comp_lit TB false aB cB 7 2 PB _ compB rfl rfl tB (by decide)).mono ?_
  rintro e w4 ⟨⟨pB, dB, rfl, hB⟩, b4⟩
  have B4 : Below w.heap.size w w4 := B3.trans (b4.mono B3.size)
  replace hA := hA.keep (Kept.below b4)
  clear b4 B3
  clear tB
  go_wp2_with fail
  refine (of_lit ⟨#[91, 91, 58, 100, 105, 103, 105, 116, 58, 93, 120, 93]⟩ false _ TC 12 rfl rfl (by decide)).mono ?_
  rintro e w5 ⟨⟨aC, cC, rfl, tC⟩, b5⟩
  have B5 : Below w.heap.size w w5 := B4.trans (b5.mono B4.size)
  replace hA := hA.keep (Kept.below b5)
  replace hB := hB.keep (Kept.below b5)
  clear b5 B4
  go_wp2_with fail
  refine (comp_lit TC false aC cC 12 1 PC _ compC rfl rfl tC (by decide)).mono ?_
  rintro e w6 ⟨⟨pC, dC, rfl, hC⟩, b6⟩
  have B6 : Below w.heap.size w w6 := B5.trans (b6.mono B5.size)
  replace hA := hA.keep (Kept.below b6)
  replace hB := hB.keep (Kept.below b6)
  clear b6 B5
  clear tC
  go_wp2_with fail
  refine (of_lit ⟨#[42]⟩ false _ TD 1 rfl rfl (by decide)).mono ?_
  rintro e w7 ⟨⟨aD, cD, rfl, tD⟩, b7⟩
  have B7 : Below w.heap.size w w7 := B6.trans (b7.mono B6.size)
  replace hA := hA.keep (Kept.below b7)
  replace hB := hB.keep (Kept.below b7)
  replace hC := hC.keep (Kept.below b7)
  clear b7 B6
  go_wp2_with fail
  refine (comp_lit TD true aD cD 1 1 PD _ compD rfl rfl tD (by decide)).mono ?_
  rintro e w8 ⟨⟨pD, dD, rfl, hD⟩, b8⟩
  have B8 : Below w.heap.size w w8 := B7.trans (b8.mono B7.size)
  replace hA := hA.keep (Kept.below b8)
  replace hB := hB.keep (Kept.below b8)
  replace hC := hC.keep (Kept.below b8)
  clear b8 B7
  clear tD
  go_wp2_with fail
  refine (match_lit PA ⟨#[97, 98, 98, 99]⟩ pA dA 3 _ true rfl (by kernel_rfl) hA (by decide)).mono ?_
  rintro e w9 ⟨rfl, b9⟩
  have B9 : Below w.heap.size w w9 := B8.trans (b9.mono B8.size)
  replace hA := hA.keep (Kept.below b9)
  replace hB := hB.keep (Kept.below b9)
  replace hC := hC.keep (Kept.below b9)
  replace hD := hD.keep (Kept.below b9)
  clear b9 B8
  go_wp2_with fail
  refine (match_lit PA ⟨#[97, 98]⟩ pA dA 3 _ false rfl (by kernel_rfl) hA (by decide)).mono ?_
  rintro e w10 ⟨rfl, b10⟩
  have B10 : Below w.heap.size w w10 := B9.trans (b10.mono B9.size)
  replace hA := hA.keep (Kept.below b10)
  replace hB := hB.keep (Kept.below b10)
  replace hC := hC.keep (Kept.below b10)
  replace hD := hD.keep (Kept.below b10)
  clear b10 B9
  go_wp2_with fail
  refine (match_lit PB ⟨#[100, 120]⟩ pB dB 2 _ true rfl (by kernel_rfl) hB (by decide)).mono ?_
  rintro e w11 ⟨rfl, b11⟩
  have B11 : Below w.heap.size w w11 := B10.trans (b11.mono B10.size)
  replace hA := hA.keep (Kept.below b11)
  replace hB := hB.keep (Kept.below b11)
  replace hC := hC.keep (Kept.below b11)
  replace hD := hD.keep (Kept.below b11)
  clear b11 B10
  go_wp2_with fail
  refine (match_lit PB ⟨#[97, 120]⟩ pB dB 2 _ false rfl (by kernel_rfl) hB (by decide)).mono ?_
  rintro e w12 ⟨rfl, b12⟩
  have B12 : Below w.heap.size w w12 := B11.trans (b12.mono B11.size)
  replace hA := hA.keep (Kept.below b12)
  replace hB := hB.keep (Kept.below b12)
  replace hC := hC.keep (Kept.below b12)
  replace hD := hD.keep (Kept.below b12)
  clear b12 B11
  go_wp2_with fail
  refine (match_lit PC ⟨#[55]⟩ pC dC 1 _ true rfl (by kernel_rfl) hC (by decide)).mono ?_
  rintro e w13 ⟨rfl, b13⟩
  have B13 : Below w.heap.size w w13 := B12.trans (b13.mono B12.size)
  replace hA := hA.keep (Kept.below b13)
  replace hB := hB.keep (Kept.below b13)
  replace hC := hC.keep (Kept.below b13)
  replace hD := hD.keep (Kept.below b13)
  clear b13 B12
  go_wp2_with fail
  refine (match_lit PC ⟨#[100]⟩ pC dC 1 _ false rfl (by kernel_rfl) hC (by decide)).mono ?_
  rintro e w14 ⟨rfl, b14⟩
  have B14 : Below w.heap.size w w14 := B13.trans (b14.mono B13.size)
  replace hA := hA.keep (Kept.below b14)
  replace hB := hB.keep (Kept.below b14)
  replace hC := hC.keep (Kept.below b14)
  replace hD := hD.keep (Kept.below b14)
  clear b14 B13
  go_wp2_with fail
  refine (path_lit PD ⟨#[97, 98]⟩ pD dD 1 _ true rfl (by kernel_rfl) hD (by decide)).mono ?_
  rintro e w15 ⟨rfl, b15⟩
  have B15 : Below w.heap.size w w15 := B14.trans (b15.mono B14.size)
  replace hA := hA.keep (Kept.below b15)
  replace hB := hB.keep (Kept.below b15)
  replace hC := hC.keep (Kept.below b15)
  replace hD := hD.keep (Kept.below b15)
  clear b15 B14
  go_wp2_with fail
  refine (path_lit PD ⟨#[46, 97, 98]⟩ pD dD 1 _ false rfl (by kernel_rfl) hD (by decide)).mono ?_
  rintro e w16 ⟨rfl, b16⟩
  have B16 : Below w.heap.size w w16 := B15.trans (b16.mono B15.size)
  replace hA := hA.keep (Kept.below b16)
  replace hB := hB.keep (Kept.below b16)
  replace hC := hC.keep (Kept.below b16)
  replace hD := hD.keep (Kept.below b16)
  clear b16 B15
  go_wp2_with fail
  refine (path_lit PD ⟨#[97, 47, 98]⟩ pD dD 1 _ false rfl (by kernel_rfl) hD (by decide)).mono ?_
  rintro e w17 ⟨rfl, b17⟩
  have B17 : Below w.heap.size w w17 := B16.trans (b17.mono B16.size)
  replace hA := hA.keep (Kept.below b17)
  replace hB := hB.keep (Kept.below b17)
  replace hC := hC.keep (Kept.below b17)
  replace hD := hD.keep (Kept.below b17)
  clear b17 B16
  go_wp2_with fail
  refine (special_lit PD pD dD 1 _ true rfl (by kernel_rfl) hD).mono ?_
  rintro e w18 ⟨rfl, b18⟩
  have B18 : Below w.heap.size w w18 := B17.trans (b18.mono B17.size)
  clear b18 B17
  go_wp2_with fail
  go_ret
  exact ⟨rfl, B18⟩
end Go.Proofs.Ytjbdpahdhlmanaa.Globs
