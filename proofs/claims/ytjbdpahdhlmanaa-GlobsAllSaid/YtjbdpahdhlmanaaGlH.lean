/- 'named', 'thing', walked. -/
import Derived.Test.YtjbdpahdhlmanaaGlG
import Derived.Test.YtjbdpahdhlmanaaHeld
import Derived.WalkSpells
namespace Go.Proofs.Ytjbdpahdhlmanaa.Globs
open Go.RowKit Go.Proofs.Ytjbdpahdhlmanaa Go.Proofs.Ytjbdpahdhlmanaa.Hp
set_option linter.unusedVariables false

theorem run_slice_mid {P : Program} (t e : TypeId) (i : TypeInfo) (sz : Nat) (ht : P.underlying t = some (.slice e)) (hi : P.info? e = some i) (hs : i.size = sz) (ao : Option Addr) (len cap lo n : Nat) (h0 : lo ≤ n) (hn : n ≤ cap) (w : World) :
    (Instr.slice t (.slice ao len cap) (some (.int .i64 lo)) (some (.int .i64 n)) none).run P w = .ok (.slice (tailA ao lo cap sz) (n - lo) (cap - lo)) w := by
  subst hs
  have h1 : (0 : Int) ≤ n := by omega
  have h2 : (0 : Int) ≤ lo := by omega
  simp [Instr.slice, Instr.sliceBounds, Instr.sliceBound, run_underlying ht, asIntOf, sizeOf, typeInfo, hi, h0, h1, h2, hn, tailA]
theorem slice_mid (ao : Option Addr) (len cap lo n : Nat) (h0 : lo ≤ n) (hn : n ≤ cap) (w : World) :
    (Instr.slice 22 (.slice ao len cap) (some (.int .i64 lo)) (some (.int .i64 n)) none).run Try.prog w = .ok (.slice (tailA ao lo cap 2) (n - lo) (cap - lo)) w := by
  obtain ⟨i0, hi, hz0, hz1, hz2⟩ := info_parts infoCh
  exact run_slice_mid _ _ i0 2 Try.underlying22 hi hz1 ao len cap lo n h0 hn w
theorem CharsAt.take {w : World} {ao : Option Addr} {cap : Nat} {l : List Ch} (h : CharsAt w ao cap l) (n : Nat) : CharsAt w ao cap (l.take n) := by
  obtain ⟨h1, h2, h3⟩ := h
  refine ⟨by rw [List.length_take]; omega, h2, fun i hi => ?_⟩
  rw [List.length_take] at hi
  rw [List.getElem_take]
  exact h3 i (by omega)
theorem bare_at (t : List Ch) (s : ByteArray) (ao : Option Addr) (cap n : Nat) (w : World) (h : CharsAt w ao cap t) (hn : n ≤ t.length) (hm : (s.size : Int) ≤ 9223372036854775807) :
    Calls Try.prog 41 #[.slice (tailA ao n cap 2) (t.length - n) (cap - n), .string s] w fun e w' => e = .returned (.bool (bareL (t.drop n) (bs s))) ∧ ∃ n, w' = w.drewN n := by
  have := bare_calls (t.drop n) s (tailA ao n cap 2) (cap - n) w (h.tail n hn) hm
  rwa [List.length_drop] at this
theorem lowL_yes {t : List Ch} {n : Nat} (h : n < t.length) (hc : isLow t[n] = true) : lowL (t.drop n) = 1 + lowL (t.drop (n + 1)) := by
  rw [List.drop_eq_getElem_cons h]; unfold lowL; rw [List.takeWhile_cons_of_pos hc, List.length_cons]; omega
theorem lowL_no {t : List Ch} {n : Nat} (hc : ∀ h : n < t.length, isLow t[n] = false) : lowL (t.drop n) = 0 := by
  rcases Nat.lt_or_ge n t.length with h | h
  · rw [List.drop_eq_getElem_cons h]; unfold lowL; rw [List.takeWhile_cons_of_neg (by rw [hc h]; simp)]; rfl
  · rw [List.drop_eq_nil_of_le h]; rfl
def NamedPost (t : List Ch) (w : World) (e : Ending) (w' : World) : Prop :=
  ((namedOk t = true ∧ e = .returned (.tuple #[.string ⟨(nameOf t).toArray⟩, .int .i64 ((namedN t : Int) + 2), .bool true])) ∨ (namedOk t = false ∧ e = .returned (.tuple #[.string ⟨#[]⟩, .int .i64 0, .bool false]))) ∧ Below w.heap.size w w'
def NRel (t : List Ch) (w1 : World) (g : Nat) (nv : Value) (wr : World) : Prop :=
  ∃ n : Nat, 2 ≤ n ∧ n + g = t.length ∧ nv = .int .i64 (n : Int) ∧ namedN t = n + lowL (t.drop n) ∧ wr = w1
theorem below_drewN {B : Nat} {a w : World} (h : Below B a w) (n : Nat) : Below B a (w.drewN n) := ⟨h.os, h.tape, h.output, h.size, h.block⟩
set_option maxRecDepth 100000 in
set_option maxHeartbeats 1000000 in
theorem named_calls (t : List Ch) (ao : Option Addr) (cap : Nat) (w : World) (h : CharsAt w ao cap t) (hm : t.length ≤ 100000) :
    Calls Try.prog 50 #[.slice ao t.length cap] w (NamedPost t w) := by
  have hB := Lib.hid (bare_calls t ⟨#[91, 58]⟩ ao cap w h (by decide))
  cases hb1 : bareL t (bs ⟨#[91, 58]⟩) with
  | false =>
    rw [hb1] at hB
    have hno : namedOk t = false := by unfold namedOk; rw [show bareL t [91, 58] = false from hb1]; rfl
    have Hno := Lib.hid hno
    clear hno hb1 h
    go_enter Try.func50, Try.ntmps50
    go_wp2_with fail
    refine hB.out.mono ?_
    rintro e w' ⟨rfl, n, rfl⟩
    go_wp2_with fail
    go_ret3
    exact ⟨.inr ⟨Hno.out, rfl⟩, below_drewN (Below.refl _ _) _⟩
  | true =>
    rw [hb1] at hB
    have h2 := bareL_len hb1
    rw [bs_length] at h2
    have h2' : 2 ≤ t.length := h2
    have hok : namedOk t = (!(namedN t == 2) && bareL (t.drop (namedN t)) [58, 93]) := by unfold namedOk; rw [show bareL t [91, 58] = true from hb1]; rfl
    have Hok := Lib.hid hok
    have hc2 : t.length ≤ cap := h.1
    have htl : (t.length : Int) ≤ 100000 := by omega
    clear hok hb1 h2
    go_enter Try.func50, Try.ntmps50
    go_wp2_with fail
    refine hB.out.mono ?_
    rintro e w1 ⟨rfl, n1, hw1⟩
    have h1 : CharsAt w1 ao cap t := by rw [hw1]; exact h
    have hbel : Below w.heap.size w w1 := by rw [hw1]; exact below_drewN (Below.refl _ _) _
    clear hw1 hB h
    go_wp2_with fail
    go_loopg [5] (t.length - 2) (NRel t w1)
    case atStart => exact ⟨2, by omega, by omega, rfl, rfl, rfl⟩
    case round =>
      obtain ⟨n, hn2, hng, rfl, hN, rfl⟩ := hrel
      have hn0 : (2 : Int) ≤ n := by omega
      have hnl : n ≤ t.length := by omega
      have hnl' : (n : Int) ≤ t.length := by omega
      have HB := Lib.hid (bare_at t ⟨#[58, 93]⟩ ao cap n wr h1 hnl (by decide))
      have HP := Lib.hid (plain_calls ((t.take n).drop 2) (tailA ao 2 cap 2) (cap - 2) wr ((h1.take n).tail 2 (by rw [List.length_take]; omega)) (by rw [List.length_drop, List.length_take]; omega))
      have HCH := Lib.hid ((h1.take n).tail 2 (by rw [List.length_take]; omega))
      have hsl := fun W => slice_from ao t.length cap n hnl W
      have hsm : ∀ W, (Instr.slice 22 (.slice ao t.length cap) (some (.int .i64 2)) (some (.int .i64 n)) none).run Try.prog W = .ok (.slice (tailA ao 2 cap 2) (n - 2) (cap - 2)) W := fun W => slice_mid ao t.length cap 2 n hn2 (by omega) W
      by_cases hlt : n < t.length
      · have hlt' : (n : Int) < t.length := by omega
        obtain ⟨tb, o, rfl, htb, c0, c1⟩ := h1.2.2 n hlt
        obtain ⟨c, hc⟩ : ∃ c, c = t[n] := ⟨_, rfl⟩
        rw [← hc] at c0 c1
        obtain ⟨cb, cq⟩ := c
        simp only at c0 c1
        have hcb := cb.toNat_lt
        have Hc := Lib.hid hc
        have HN := Lib.hid hN
        have Hng := Lib.hid hng
        clear hc hN hng h1
        cases cq
        · by_cases i1 : (97 : Int) ≤ cb.toNat
          · by_cases i2 : (cb.toNat : Int) ≤ 122
            · have hlow : isLow t[n] = true := by
                rw [← Hc.out]; unfold isLow
                simp only [Bool.not_false, Bool.true_and, Bool.and_eq_true, decide_eq_true_eq, UInt8.le_iff_toNat_le]
                exact ⟨by show 97 ≤ cb.toNat; omega, by show cb.toNat ≤ 122; omega⟩
              have hnx := lowL_yes hlt hlow
              have Hnx := Lib.hid hnx
              clear hnx hlow hsl hsm HB HP
              go_wp2_with fail
              go_roundg (gk - 1)
              case measure => have := Hng.out; omega
              case rel => exact ⟨n + 1, by omega, by have := Hng.out; omega, by go_num, by rw [HN.out, Hnx.out]; omega, rfl⟩
            · have hlow : ∀ h : n < t.length, isLow t[n] = false := fun _ => by
                rw [← Hc.out]; unfold isLow
                rw [show decide (cb ≤ 122) = false by rw [decide_eq_false_iff_not, UInt8.le_iff_toNat_le]; show ¬ cb.toNat ≤ 122; omega]; simp
              have hNn : namedN t = n := by rw [HN.out, lowL_no hlow]; rfl
              have HNn := Lib.hid hNn
              clear hlow hNn
              by_cases hn : n = 2
              · have hnb : ((n : Int) == 2) = true := by rw [beq_iff_eq]; omega
                have hno : namedOk t = false := by rw [Hok.out, HNn.out, hn]; rfl
                have Hno := Lib.hid hno
                have Hn := Lib.hid hn
                clear hno hn HB HP hsl hsm
                go_wp2_with fail
                go_ret3
                exact ⟨.inr ⟨Hno.out, rfl⟩, hbel⟩
              · have hnb : ((n : Int) == 2) = false := by rw [beq_eq_false_iff_ne]; omega
                cases hb2 : bareL (t.drop n) (bs ⟨#[58, 93]⟩) with
                | false =>
                  rw [hb2] at HB
                  have hno : namedOk t = false := by rw [Hok.out, HNn.out, show bareL (t.drop n) [58, 93] = false from hb2]; simp
                  have Hno := Lib.hid hno
                  clear hno HP hsm hb2
                  go_wp2_with fail
                  refine HB.out.mono ?_
                  rintro e w' ⟨rfl, m, rfl⟩
                  go_wp2_with fail
                  go_ret3
                  exact ⟨.inr ⟨Hno.out, rfl⟩, below_drewN hbel _⟩
                | true =>
                  rw [hb2] at HB
                  have hyes : namedOk t = true := by rw [Hok.out, HNn.out, show bareL (t.drop n) [58, 93] = true from hb2]; simpa using hn
                  have Hyes := Lib.hid hyes
                  have hpl : ((t.take n).drop 2).length = n - 2 := by rw [List.length_drop, List.length_take]; omega
                  have HP2 := HP.out
                  rw [hpl] at HP2
                  have HP3 : Hid (∀ m, Calls Try.prog 53 #[.slice (tailA (some ⟨tb, o, none⟩) 2 cap 2) (n - 2) (cap - 2)] (wr.drewN m) (PlainPost ((t.take n).drop 2) (wr.drewN m))) := Lib.hid fun m => by
                    have := plain_calls ((t.take n).drop 2) (tailA (some ⟨tb, o, none⟩) 2 cap 2) (cap - 2) (wr.drewN m) HCH.out (by rw [hpl]; omega)
                    rwa [hpl] at this
                  clear hyes hb2 hpl HP2 HP
                  go_wp2_with fail
                  refine HB.out.mono ?_
                  rintro e w' ⟨rfl, m, rfl⟩
                  clear hsl
                  go_wp2_with fail
                  refine (HP3.out m).mono ?_
                  rintro e w2 ⟨rfl, hb3⟩
                  go_wp2_with fail
                  go_ret3
                  exact ⟨.inl ⟨Hyes.out, show Ending.returned (.tuple #[.string ⟨(List.drop 2 (List.take n (t.map fun x => x.b))).toArray⟩, .int .i64 ((n : Int) + 2), .bool true]) = _ by unfold nameOf; rw [HNn.out, List.map_drop, List.map_take]⟩, (below_drewN hbel m).trans (hb3.mono hbel.size)⟩
          · have hlow : ∀ h : n < t.length, isLow t[n] = false := fun _ => by
              rw [← Hc.out]; unfold isLow
              rw [show decide (97 ≤ cb) = false by rw [decide_eq_false_iff_not, UInt8.le_iff_toNat_le]; show ¬ 97 ≤ cb.toNat; omega]; simp
            have hNn : namedN t = n := by rw [HN.out, lowL_no hlow]; rfl
            have HNn := Lib.hid hNn
            clear hlow hNn
            by_cases hn : n = 2
            · have hnb : ((n : Int) == 2) = true := by rw [beq_iff_eq]; omega
              have hno : namedOk t = false := by rw [Hok.out, HNn.out, hn]; rfl
              have Hno := Lib.hid hno
              have Hn := Lib.hid hn
              clear hno hn HB HP hsl hsm
              go_wp2_with fail
              go_ret3
              exact ⟨.inr ⟨Hno.out, rfl⟩, hbel⟩
            · have hnb : ((n : Int) == 2) = false := by rw [beq_eq_false_iff_ne]; omega
              cases hb2 : bareL (t.drop n) (bs ⟨#[58, 93]⟩) with
              | false =>
                rw [hb2] at HB
                have hno : namedOk t = false := by rw [Hok.out, HNn.out, show bareL (t.drop n) [58, 93] = false from hb2]; simp
                have Hno := Lib.hid hno
                clear hno HP hsm hb2
                go_wp2_with fail
                refine HB.out.mono ?_
                rintro e w' ⟨rfl, m, rfl⟩
                go_wp2_with fail
                go_ret3
                exact ⟨.inr ⟨Hno.out, rfl⟩, below_drewN hbel _⟩
              | true =>
                rw [hb2] at HB
                have hyes : namedOk t = true := by rw [Hok.out, HNn.out, show bareL (t.drop n) [58, 93] = true from hb2]; simpa using hn
                have Hyes := Lib.hid hyes
                have hpl : ((t.take n).drop 2).length = n - 2 := by rw [List.length_drop, List.length_take]; omega
                have HP2 := HP.out
                rw [hpl] at HP2
                have HP3 : Hid (∀ m, Calls Try.prog 53 #[.slice (tailA (some ⟨tb, o, none⟩) 2 cap 2) (n - 2) (cap - 2)] (wr.drewN m) (PlainPost ((t.take n).drop 2) (wr.drewN m))) := Lib.hid fun m => by
                  have := plain_calls ((t.take n).drop 2) (tailA (some ⟨tb, o, none⟩) 2 cap 2) (cap - 2) (wr.drewN m) HCH.out (by rw [hpl]; omega)
                  rwa [hpl] at this
                clear hyes hb2 hpl HP2 HP
                go_wp2_with fail
                refine HB.out.mono ?_
                rintro e w' ⟨rfl, m, rfl⟩
                clear hsl
                go_wp2_with fail
                refine (HP3.out m).mono ?_
                rintro e w2 ⟨rfl, hb3⟩
                go_wp2_with fail
                go_ret3
                exact ⟨.inl ⟨Hyes.out, show Ending.returned (.tuple #[.string ⟨(List.drop 2 (List.take n (t.map fun x => x.b))).toArray⟩, .int .i64 ((n : Int) + 2), .bool true]) = _ by unfold nameOf; rw [HNn.out, List.map_drop, List.map_take]⟩, (below_drewN hbel m).trans (hb3.mono hbel.size)⟩
        · have hlow : ∀ h : n < t.length, isLow t[n] = false := fun _ => by rw [← Hc.out]; rfl
          have hNn : namedN t = n := by rw [HN.out, lowL_no hlow]; rfl
          have HNn := Lib.hid hNn
          clear hlow hNn
          by_cases hn : n = 2
          · have hnb : ((n : Int) == 2) = true := by rw [beq_iff_eq]; omega
            have hno : namedOk t = false := by rw [Hok.out, HNn.out, hn]; rfl
            have Hno := Lib.hid hno
            have Hn := Lib.hid hn
            clear hno hn HB HP hsl hsm
            go_wp2_with fail
            go_ret3
            exact ⟨.inr ⟨Hno.out, rfl⟩, hbel⟩
          · have hnb : ((n : Int) == 2) = false := by rw [beq_eq_false_iff_ne]; omega
            cases hb2 : bareL (t.drop n) (bs ⟨#[58, 93]⟩) with
            | false =>
              rw [hb2] at HB
              have hno : namedOk t = false := by rw [Hok.out, HNn.out, show bareL (t.drop n) [58, 93] = false from hb2]; simp
              have Hno := Lib.hid hno
              clear hno HP hsm hb2
              go_wp2_with fail
              refine HB.out.mono ?_
              rintro e w' ⟨rfl, m, rfl⟩
              go_wp2_with fail
              go_ret3
              exact ⟨.inr ⟨Hno.out, rfl⟩, below_drewN hbel _⟩
            | true =>
              rw [hb2] at HB
              have hyes : namedOk t = true := by rw [Hok.out, HNn.out, show bareL (t.drop n) [58, 93] = true from hb2]; simpa using hn
              have Hyes := Lib.hid hyes
              have hpl : ((t.take n).drop 2).length = n - 2 := by rw [List.length_drop, List.length_take]; omega
              have HP2 := HP.out
              rw [hpl] at HP2
              have HP3 : Hid (∀ m, Calls Try.prog 53 #[.slice (tailA (some ⟨tb, o, none⟩) 2 cap 2) (n - 2) (cap - 2)] (wr.drewN m) (PlainPost ((t.take n).drop 2) (wr.drewN m))) := Lib.hid fun m => by
                have := plain_calls ((t.take n).drop 2) (tailA (some ⟨tb, o, none⟩) 2 cap 2) (cap - 2) (wr.drewN m) HCH.out (by rw [hpl]; omega)
                rwa [hpl] at this
              clear hyes hb2 hpl HP2 HP
              go_wp2_with fail
              refine HB.out.mono ?_
              rintro e w' ⟨rfl, m, rfl⟩
              clear hsl
              go_wp2_with fail
              refine (HP3.out m).mono ?_
              rintro e w2 ⟨rfl, hb3⟩
              go_wp2_with fail
              go_ret3
              exact ⟨.inl ⟨Hyes.out, show Ending.returned (.tuple #[.string ⟨(List.drop 2 (List.take n (t.map fun x => x.b))).toArray⟩, .int .i64 ((n : Int) + 2), .bool true]) = _ by unfold nameOf; rw [HNn.out, List.map_drop, List.map_take]⟩, (below_drewN hbel m).trans (hb3.mono hbel.size)⟩
      · have hlt' : ¬ ((n : Int) < t.length) := by omega
        have hlow : ∀ h : n < t.length, isLow t[n] = false := fun h => absurd h hlt
        have HN := Lib.hid hN
        clear hN hng h1
        have hNn : namedN t = n := by rw [HN.out, lowL_no hlow]; rfl
        have HNn := Lib.hid hNn
        clear hlow hNn
        by_cases hn : n = 2
        · have hnb : ((n : Int) == 2) = true := by rw [beq_iff_eq]; omega
          have hno : namedOk t = false := by rw [Hok.out, HNn.out, hn]; rfl
          have Hno := Lib.hid hno
          have Hn := Lib.hid hn
          clear hno hn HB HP hsl hsm
          go_wp2_with fail
          go_ret3
          exact ⟨.inr ⟨Hno.out, rfl⟩, hbel⟩
        · have hnb : ((n : Int) == 2) = false := by rw [beq_eq_false_iff_ne]; omega
          cases hb2 : bareL (t.drop n) (bs ⟨#[58, 93]⟩) with
          | false =>
            rw [hb2] at HB
            have hno : namedOk t = false := by rw [Hok.out, HNn.out, show bareL (t.drop n) [58, 93] = false from hb2]; simp
            have Hno := Lib.hid hno
            clear hno HP hsm hb2
            go_wp2_with fail
            refine HB.out.mono ?_
            rintro e w' ⟨rfl, m, rfl⟩
            go_wp2_with fail
            go_ret3
            exact ⟨.inr ⟨Hno.out, rfl⟩, below_drewN hbel _⟩
          | true =>
            rw [hb2] at HB
            have hyes : namedOk t = true := by rw [Hok.out, HNn.out, show bareL (t.drop n) [58, 93] = true from hb2]; simpa using hn
            have Hyes := Lib.hid hyes
            have hpl : ((t.take n).drop 2).length = n - 2 := by rw [List.length_drop, List.length_take]; omega
            have HP2 := HP.out
            rw [hpl] at HP2
            have HP3 : Hid (∀ m, Calls Try.prog 53 #[.slice (tailA ao 2 cap 2) (n - 2) (cap - 2)] (wr.drewN m) (PlainPost ((t.take n).drop 2) (wr.drewN m))) := Lib.hid fun m => by
              have := plain_calls ((t.take n).drop 2) (tailA ao 2 cap 2) (cap - 2) (wr.drewN m) HCH.out (by rw [hpl]; omega)
              rwa [hpl] at this
            clear hyes hb2 hpl HP2 HP
            go_wp2_with fail
            refine HB.out.mono ?_
            rintro e w' ⟨rfl, m, rfl⟩
            clear hsl
            go_wp2_with fail
            refine (HP3.out m).mono ?_
            rintro e w2 ⟨rfl, hb3⟩
            go_wp2_with fail
            go_ret3
            exact ⟨.inl ⟨Hyes.out, show Ending.returned (.tuple #[.string ⟨(List.drop 2 (List.take n (t.map fun x => x.b))).toArray⟩, .int .i64 ((n : Int) + 2), .bool true]) = _ by unfold nameOf; rw [HNn.out, List.map_drop, List.map_take]⟩, (below_drewN hbel m).trans (hb3.mono hbel.size)⟩

def ThingPost (t : List Ch) (path : Bool) (w : World) (e : Ending) (w' : World) : Prop :=
  ∃ ra rc, e = .returned (.tuple #[.slice ra (thingL t path).1.length rc, .int .i64 ((thingL t path).2 : Nat)]) ∧ RgAt w' ra (thingL t path).1 ∧ Below w.heap.size w w'
theorem rgAt_nil (w : World) (ra : Option Addr) : RgAt w ra [] := ⟨by simp, fun j hj => by simp at hj⟩
end Go.Proofs.Ytjbdpahdhlmanaa.Globs
