/- HandlesPlays, part 6 of 26: the texts GlH GlI, joined by a program. -/
import Derived.Test.YtndjgeohkfenfaaGreatDoorPq5
import Derived.Test.YtndjgeohkfenfaaGreatDoorPq2
import Derived.WalkSpells
namespace Go.Proofs.YtndjgeohkfenfaaGreatDoor.Globs
open Go.RowKit Go.Proofs.YtndjgeohkfenfaaGreatDoor Go.Proofs.YtndjgeohkfenfaaGreatDoor.Hp
set_option linter.unusedVariables false

theorem run_slice_mid {P : Program} (t e : TypeId) (i : TypeInfo) (sz : Nat) (ht : P.underlying t = some (.slice e)) (hi : P.info? e = some i) (hs : i.size = sz) (ao : Option Addr) (len cap lo n : Nat) (h0 : lo ≤ n) (hn : n ≤ cap) (w : World) :
    (Instr.slice t (.slice ao len cap) (some (.int .i64 lo)) (some (.int .i64 n)) none).run P w = .ok (.slice (tailA ao lo cap sz) (n - lo) (cap - lo)) w := by
  subst hs
  have h1 : (0 : Int) ≤ n := by omega
  have h2 : (0 : Int) ≤ lo := by omega
  simp [Instr.slice, Instr.sliceBounds, Instr.sliceBound, run_underlying ht, asIntOf, sizeOf, typeInfo, hi, h0, h1, h2, hn, tailA]
theorem slice_mid (ao : Option Addr) (len cap lo n : Nat) (h0 : lo ≤ n) (hn : n ≤ cap) (w : World) :
    (Instr.slice 22 (.slice ao len cap) (some (.int .i64 lo)) (some (.int .i64 n)) none).run Tryz.prog w = .ok (.slice (tailA ao lo cap 2) (n - lo) (cap - lo)) w := by
  obtain ⟨i0, hi, hz0, hz1, hz2⟩ := info_parts infoCh
  exact run_slice_mid _ _ i0 2 Tryz.underlying22 hi hz1 ao len cap lo n h0 hn w
theorem CharsAt.take {w : World} {ao : Option Addr} {cap : Nat} {l : List Ch} (h : CharsAt w ao cap l) (n : Nat) : CharsAt w ao cap (l.take n) := by
  obtain ⟨h1, h2, h3⟩ := h
  refine ⟨by rw [List.length_take]; omega, h2, fun i hi => ?_⟩
  rw [List.length_take] at hi
  rw [List.getElem_take]
  exact h3 i (by omega)
theorem bare_at (t : List Ch) (s : ByteArray) (ao : Option Addr) (cap n : Nat) (w : World) (h : CharsAt w ao cap t) (hn : n ≤ t.length) (hm : (s.size : Int) ≤ 9223372036854775807) :
    Calls Tryz.prog 96 #[.slice (tailA ao n cap 2) (t.length - n) (cap - n), .string s] w fun e w' => e = .returned (.bool (bareL (t.drop n) (bs s))) ∧ ∃ n, w' = w.drewN n := by
  have := bare_calls (t.drop n) s (tailA ao n cap 2) (cap - n) w (h.tail n hn) hm
  rwa [List.length_drop] at this
theorem lowL_yes {t : List Ch} {n : Nat} (h : n < t.length) (hc : isLow t[n] = true) : lowL (t.drop n) = 1 + lowL (t.drop (n + 1)) := by
  rw [List.drop_eq_getElem_cons h]; unfold lowL; rw [List.takeWhile_cons_of_pos hc, List.length_cons]; omega
theorem lowL_no {t : List Ch} {n : Nat} (hc : ∀ h : n < t.length, isLow t[n] = false) : lowL (t.drop n) = 0 := by
  rcases Nat.lt_or_ge n t.length with h | h
  · rw [List.drop_eq_getElem_cons h]; unfold lowL; rw [List.takeWhile_cons_of_neg (by rw [hc h]; simp)]; rfl
  · rw [List.drop_eq_nil_of_le h]; rfl
def NamedPost (t : List Ch) (w : World) (e : Ending) (w' : World) : Prop :=
  ((namedOk t = true ∧ e = .returned (.tuple #[.string ⟨(nameOf t).toArray⟩, .int .i64 ((namedN t : Int) + 2), .bool true])) ∨ (namedOk t = false ∧ e = .returned (.tuple #[.string ⟨#[]⟩, .int .i64 0, .bool false]))) ∧ Below w.heap.size w w'
def NRel (t : List Ch) (w1 : World) (g : Nat) (nv : Value) (wr : World) : Prop :=
  ∃ n : Nat, 2 ≤ n ∧ n + g = t.length ∧ nv = .int .i64 (n : Int) ∧ namedN t = n + lowL (t.drop n) ∧ wr = w1
theorem below_drewN {B : Nat} {a w : World} (h : Below B a w) (n : Nat) : Below B a (w.drewN n) := ⟨h.os, h.tape, h.output, h.size, h.block⟩
set_option maxRecDepth 100000 in
set_option maxHeartbeats 1000000 in
theorem named_calls (t : List Ch) (ao : Option Addr) (cap : Nat) (w : World) (h : CharsAt w ao cap t) (hm : t.length ≤ 100000) :
    Calls Tryz.prog 139 #[.slice ao t.length cap] w (NamedPost t w) := by
  have hB := Lib.hid (bare_calls t ⟨#[91, 58]⟩ ao cap w h (by decide))
  cases hb1 : bareL t (bs ⟨#[91, 58]⟩) with
  | false =>
    rw [hb1] at hB
    have hno : namedOk t = false := by unfold namedOk; rw [show bareL t [91, 58] = false from hb1]; rfl
    have Hno := Lib.hid hno
    clear hno hb1 h
    go_enter Tryz.func139, Tryz.ntmps139
    go_wp2_with fail
    refine hB.out.mono ?_
    rintro e w' ⟨rfl, n, rfl⟩
    go_wp2_with fail
    go_ret3
    exact ⟨.inr ⟨Hno.out, rfl⟩, below_drewN (Below.refl _ _) _⟩
  | true =>
    rw [hb1] at hB
    have h2 := bareL_len hb1
    rw [bs_length] at h2
    have h2' : 2 ≤ t.length := h2
    have hok : namedOk t = (!(namedN t == 2) && bareL (t.drop (namedN t)) [58, 93]) := by unfold namedOk; rw [show bareL t [91, 58] = true from hb1]; rfl
    have Hok := Lib.hid hok
    have hc2 : t.length ≤ cap := h.1
    have htl : (t.length : Int) ≤ 100000 := by omega
    clear hok hb1 h2
    go_enter Tryz.func139, Tryz.ntmps139
    go_wp2_with fail
    refine hB.out.mono ?_
    rintro e w1 ⟨rfl, n1, hw1⟩
    have h1 : CharsAt w1 ao cap t := by rw [hw1]; exact h
    have hbel : Below w.heap.size w w1 := by rw [hw1]; exact below_drewN (Below.refl _ _) _
    clear hw1 hB h
    go_wp2_with fail
    go_loopg [5] (t.length - 2) (NRel t w1)
    case atStart => exact ⟨2, by omega, by omega, rfl, rfl, rfl⟩
    case round =>
      obtain ⟨n, hn2, hng, rfl, hN, rfl⟩ := hrel
      have hn0 : (2 : Int) ≤ n := by omega
      have hnl : n ≤ t.length := by omega
      have hnl' : (n : Int) ≤ t.length := by omega
      have HB := Lib.hid (bare_at t ⟨#[58, 93]⟩ ao cap n wr h1 hnl (by decide))
      have HP := Lib.hid (plain_calls ((t.take n).drop 2) (tailA ao 2 cap 2) (cap - 2) wr ((h1.take n).tail 2 (by rw [List.length_take]; omega)) (by rw [List.length_drop, List.length_take]; omega))
      have HCH := Lib.hid ((h1.take n).tail 2 (by rw [List.length_take]; omega))
      have hsl := fun W => slice_from ao t.length cap n hnl W
      have hsm : ∀ W, (Instr.slice 22 (.slice ao t.length cap) (some (.int .i64 2)) (some (.int .i64 n)) none).run Tryz.prog W = .ok (.slice (tailA ao 2 cap 2) (n - 2) (cap - 2)) W := fun W => slice_mid ao t.length cap 2 n hn2 (by omega) W
      by_cases hlt : n < t.length
      · have hlt' : (n : Int) < t.length := by omega
        obtain ⟨tb, o, rfl, htb, c0, c1⟩ := h1.2.2 n hlt
        obtain ⟨c, hc⟩ : ∃ c, c = t[n] := ⟨_, rfl⟩
        rw [← hc] at c0 c1
        obtain ⟨cb, cq⟩ := c
        simp only at c0 c1
        have hcb := cb.toNat_lt
        have Hc := Lib.hid hc
        have HN := Lib.hid hN
        have Hng := Lib.hid hng
        clear hc hN hng h1
        cases cq
        · by_cases i1 : (97 : Int) ≤ cb.toNat
          · by_cases i2 : (cb.toNat : Int) ≤ 122
            · have hlow : isLow t[n] = true := by
                rw [← Hc.out]; unfold isLow
                simp only [Bool.not_false, Bool.true_and, Bool.and_eq_true, decide_eq_true_eq, UInt8.le_iff_toNat_le]
                exact ⟨by show 97 ≤ cb.toNat; omega, by show cb.toNat ≤ 122; omega⟩
              have hnx := lowL_yes hlt hlow
              have Hnx := Lib.hid hnx
              clear hnx hlow hsl hsm HB HP
              go_wp2_with fail
              go_roundg (gk - 1)
              case measure => have := Hng.out; omega
              case rel => exact ⟨n + 1, by omega, by have := Hng.out; omega, by go_num, by rw [HN.out, Hnx.out]; omega, rfl⟩
            · have hlow : ∀ h : n < t.length, isLow t[n] = false := fun _ => by
                rw [← Hc.out]; unfold isLow
                rw [show decide (cb ≤ 122) = false by rw [decide_eq_false_iff_not, UInt8.le_iff_toNat_le]; show ¬ cb.toNat ≤ 122; omega]; simp
              have hNn : namedN t = n := by rw [HN.out, lowL_no hlow]; rfl
              have HNn := Lib.hid hNn
              clear hlow hNn
              by_cases hn : n = 2
              · have hnb : ((n : Int) == 2) = true := by rw [beq_iff_eq]; omega
                have hno : namedOk t = false := by rw [Hok.out, HNn.out, hn]; rfl
                have Hno := Lib.hid hno
                have Hn := Lib.hid hn
                clear hno hn HB HP hsl hsm
                go_wp2_with fail
                go_ret3
                exact ⟨.inr ⟨Hno.out, rfl⟩, hbel⟩
              · have hnb : ((n : Int) == 2) = false := by rw [beq_eq_false_iff_ne]; omega
                cases hb2 : bareL (t.drop n) (bs ⟨#[58, 93]⟩) with
                | false =>
                  rw [hb2] at HB
                  have hno : namedOk t = false := by rw [Hok.out, HNn.out, show bareL (t.drop n) [58, 93] = false from hb2]; simp
                  have Hno := Lib.hid hno
                  clear hno HP hsm hb2
                  go_wp2_with fail
                  refine HB.out.mono ?_
                  rintro e w' ⟨rfl, m, rfl⟩
                  go_wp2_with fail
                  go_ret3
                  exact ⟨.inr ⟨Hno.out, rfl⟩, below_drewN hbel _⟩
                | true =>
                  rw [hb2] at HB
                  have hyes : namedOk t = true := by rw [Hok.out, HNn.out, show bareL (t.drop n) [58, 93] = true from hb2]; simpa using hn
                  have Hyes := Lib.hid hyes
                  have hpl : ((t.take n).drop 2).length = n - 2 := by rw [List.length_drop, List.length_take]; omega
                  have HP2 := HP.out
                  rw [hpl] at HP2
                  have HP3 : Hid (∀ m, Calls Tryz.prog 23 #[.slice (tailA (some ⟨tb, o, none⟩) 2 cap 2) (n - 2) (cap - 2)] (wr.drewN m) (PlainPost ((t.take n).drop 2) (wr.drewN m))) := Lib.hid fun m => by
                    have := plain_calls ((t.take n).drop 2) (tailA (some ⟨tb, o, none⟩) 2 cap 2) (cap - 2) (wr.drewN m) HCH.out (by rw [hpl]; omega)
                    rwa [hpl] at this
                  clear hyes hb2 hpl HP2 HP
                  go_wp2_with fail
                  refine HB.out.mono ?_
                  rintro e w' ⟨rfl, m, rfl⟩
                  clear hsl
                  go_wp2_with fail
                  refine (HP3.out m).mono ?_
                  rintro e w2 ⟨rfl, hb3⟩
                  go_wp2_with fail
                  go_ret3
                  exact ⟨.inl ⟨Hyes.out, show Ending.returned (.tuple #[.string ⟨(List.drop 2 (List.take n (t.map fun x => x.b))).toArray⟩, .int .i64 ((n : Int) + 2), .bool true]) = _ by unfold nameOf; rw [HNn.out, List.map_drop, List.map_take]⟩, (below_drewN hbel m).trans (hb3.mono hbel.size)⟩
          · have hlow : ∀ h : n < t.length, isLow t[n] = false := fun _ => by
              rw [← Hc.out]; unfold isLow
              rw [show decide (97 ≤ cb) = false by rw [decide_eq_false_iff_not, UInt8.le_iff_toNat_le]; show ¬ 97 ≤ cb.toNat; omega]; simp
            have hNn : namedN t = n := by rw [HN.out, lowL_no hlow]; rfl
            have HNn := Lib.hid hNn
            clear hlow hNn
            by_cases hn : n = 2
            · have hnb : ((n : Int) == 2) = true := by rw [beq_iff_eq]; omega
              have hno : namedOk t = false := by rw [Hok.out, HNn.out, hn]; rfl
              have Hno := Lib.hid hno
              have Hn := Lib.hid hn
              clear hno hn HB HP hsl hsm
              go_wp2_with fail
              go_ret3
              exact ⟨.inr ⟨Hno.out, rfl⟩, hbel⟩
            · have hnb : ((n : Int) == 2) = false := by rw [beq_eq_false_iff_ne]; omega
              cases hb2 : bareL (t.drop n) (bs ⟨#[58, 93]⟩) with
              | false =>
                rw [hb2] at HB
                have hno : namedOk t = false := by rw [Hok.out, HNn.out, show bareL (t.drop n) [58, 93] = false from hb2]; simp
                have Hno := Lib.hid hno
                clear hno HP hsm hb2
                go_wp2_with fail
                refine HB.out.mono ?_
                rintro e w' ⟨rfl, m, rfl⟩
                go_wp2_with fail
                go_ret3
                exact ⟨.inr ⟨Hno.out, rfl⟩, below_drewN hbel _⟩
              | true =>
                rw [hb2] at HB
                have hyes : namedOk t = true := by rw [Hok.out, HNn.out, show bareL (t.drop n) [58, 93] = true from hb2]; simpa using hn
                have Hyes := Lib.hid hyes
                have hpl : ((t.take n).drop 2).length = n - 2 := by rw [List.length_drop, List.length_take]; omega
                have HP2 := HP.out
                rw [hpl] at HP2
                have HP3 : Hid (∀ m, Calls Tryz.prog 23 #[.slice (tailA (some ⟨tb, o, none⟩) 2 cap 2) (n - 2) (cap - 2)] (wr.drewN m) (PlainPost ((t.take n).drop 2) (wr.drewN m))) := Lib.hid fun m => by
                  have := plain_calls ((t.take n).drop 2) (tailA (some ⟨tb, o, none⟩) 2 cap 2) (cap - 2) (wr.drewN m) HCH.out (by rw [hpl]; omega)
                  rwa [hpl] at this
                clear hyes hb2 hpl HP2 HP
                go_wp2_with fail
                refine HB.out.mono ?_
                rintro e w' ⟨rfl, m, rfl⟩
                clear hsl
                go_wp2_with fail
                refine (HP3.out m).mono ?_
                rintro e w2 ⟨rfl, hb3⟩
                go_wp2_with fail
                go_ret3
                exact ⟨.inl ⟨Hyes.out, show Ending.returned (.tuple #[.string ⟨(List.drop 2 (List.take n (t.map fun x => x.b))).toArray⟩, .int .i64 ((n : Int) + 2), .bool true]) = _ by unfold nameOf; rw [HNn.out, List.map_drop, List.map_take]⟩, (below_drewN hbel m).trans (hb3.mono hbel.size)⟩
        · have hlow : ∀ h : n < t.length, isLow t[n] = false := fun _ => by rw [← Hc.out]; rfl
          have hNn : namedN t = n := by rw [HN.out, lowL_no hlow]; rfl
          have HNn := Lib.hid hNn
          clear hlow hNn
          by_cases hn : n = 2
          · have hnb : ((n : Int) == 2) = true := by rw [beq_iff_eq]; omega
            have hno : namedOk t = false := by rw [Hok.out, HNn.out, hn]; rfl
            have Hno := Lib.hid hno
            have Hn := Lib.hid hn
            clear hno hn HB HP hsl hsm
            go_wp2_with fail
            go_ret3
            exact ⟨.inr ⟨Hno.out, rfl⟩, hbel⟩
          · have hnb : ((n : Int) == 2) = false := by rw [beq_eq_false_iff_ne]; omega
            cases hb2 : bareL (t.drop n) (bs ⟨#[58, 93]⟩) with
            | false =>
              rw [hb2] at HB
              have hno : namedOk t = false := by rw [Hok.out, HNn.out, show bareL (t.drop n) [58, 93] = false from hb2]; simp
              have Hno := Lib.hid hno
              clear hno HP hsm hb2
              go_wp2_with fail
              refine HB.out.mono ?_
              rintro e w' ⟨rfl, m, rfl⟩
              go_wp2_with fail
              go_ret3
              exact ⟨.inr ⟨Hno.out, rfl⟩, below_drewN hbel _⟩
            | true =>
              rw [hb2] at HB
              have hyes : namedOk t = true := by rw [Hok.out, HNn.out, show bareL (t.drop n) [58, 93] = true from hb2]; simpa using hn
              have Hyes := Lib.hid hyes
              have hpl : ((t.take n).drop 2).length = n - 2 := by rw [List.length_drop, List.length_take]; omega
              have HP2 := HP.out
              rw [hpl] at HP2
              have HP3 : Hid (∀ m, Calls Tryz.prog 23 #[.slice (tailA (some ⟨tb, o, none⟩) 2 cap 2) (n - 2) (cap - 2)] (wr.drewN m) (PlainPost ((t.take n).drop 2) (wr.drewN m))) := Lib.hid fun m => by
                have := plain_calls ((t.take n).drop 2) (tailA (some ⟨tb, o, none⟩) 2 cap 2) (cap - 2) (wr.drewN m) HCH.out (by rw [hpl]; omega)
                rwa [hpl] at this
              clear hyes hb2 hpl HP2 HP
              go_wp2_with fail
              refine HB.out.mono ?_
              rintro e w' ⟨rfl, m, rfl⟩
              clear hsl
              go_wp2_with fail
              refine (HP3.out m).mono ?_
              rintro e w2 ⟨rfl, hb3⟩
              go_wp2_with fail
              go_ret3
              exact ⟨.inl ⟨Hyes.out, show Ending.returned (.tuple #[.string ⟨(List.drop 2 (List.take n (t.map fun x => x.b))).toArray⟩, .int .i64 ((n : Int) + 2), .bool true]) = _ by unfold nameOf; rw [HNn.out, List.map_drop, List.map_take]⟩, (below_drewN hbel m).trans (hb3.mono hbel.size)⟩
      · have hlt' : ¬ ((n : Int) < t.length) := by omega
        have hlow : ∀ h : n < t.length, isLow t[n] = false := fun h => absurd h hlt
        have HN := Lib.hid hN
        clear hN hng h1
        have hNn : namedN t = n := by rw [HN.out, lowL_no hlow]; rfl
        have HNn := Lib.hid hNn
        clear hlow hNn
        by_cases hn : n = 2
        · have hnb : ((n : Int) == 2) = true := by rw [beq_iff_eq]; omega
          have hno : namedOk t = false := by rw [Hok.out, HNn.out, hn]; rfl
          have Hno := Lib.hid hno
          have Hn := Lib.hid hn
          clear hno hn HB HP hsl hsm
          go_wp2_with fail
          go_ret3
          exact ⟨.inr ⟨Hno.out, rfl⟩, hbel⟩
        · have hnb : ((n : Int) == 2) = false := by rw [beq_eq_false_iff_ne]; omega
          cases hb2 : bareL (t.drop n) (bs ⟨#[58, 93]⟩) with
          | false =>
            rw [hb2] at HB
            have hno : namedOk t = false := by rw [Hok.out, HNn.out, show bareL (t.drop n) [58, 93] = false from hb2]; simp
            have Hno := Lib.hid hno
            clear hno HP hsm hb2
            go_wp2_with fail
            refine HB.out.mono ?_
            rintro e w' ⟨rfl, m, rfl⟩
            go_wp2_with fail
            go_ret3
            exact ⟨.inr ⟨Hno.out, rfl⟩, below_drewN hbel _⟩
          | true =>
            rw [hb2] at HB
            have hyes : namedOk t = true := by rw [Hok.out, HNn.out, show bareL (t.drop n) [58, 93] = true from hb2]; simpa using hn
            have Hyes := Lib.hid hyes
            have hpl : ((t.take n).drop 2).length = n - 2 := by rw [List.length_drop, List.length_take]; omega
            have HP2 := HP.out
            rw [hpl] at HP2
            have HP3 : Hid (∀ m, Calls Tryz.prog 23 #[.slice (tailA ao 2 cap 2) (n - 2) (cap - 2)] (wr.drewN m) (PlainPost ((t.take n).drop 2) (wr.drewN m))) := Lib.hid fun m => by
              have := plain_calls ((t.take n).drop 2) (tailA ao 2 cap 2) (cap - 2) (wr.drewN m) HCH.out (by rw [hpl]; omega)
              rwa [hpl] at this
            clear hyes hb2 hpl HP2 HP
            go_wp2_with fail
            refine HB.out.mono ?_
            rintro e w' ⟨rfl, m, rfl⟩
            clear hsl
            go_wp2_with fail
            refine (HP3.out m).mono ?_
            rintro e w2 ⟨rfl, hb3⟩
            go_wp2_with fail
            go_ret3
            exact ⟨.inl ⟨Hyes.out, show Ending.returned (.tuple #[.string ⟨(List.drop 2 (List.take n (t.map fun x => x.b))).toArray⟩, .int .i64 ((n : Int) + 2), .bool true]) = _ by unfold nameOf; rw [HNn.out, List.map_drop, List.map_take]⟩, (below_drewN hbel m).trans (hb3.mono hbel.size)⟩

def ThingPost (t : List Ch) (path : Bool) (w : World) (e : Ending) (w' : World) : Prop :=
  ∃ ra rc, e = .returned (.tuple #[.slice ra (thingL t path).1.length rc, .int .i64 ((thingL t path).2 : Nat)]) ∧ RgAt w' ra (thingL t path).1 ∧ Below w.heap.size w w'
theorem rgAt_nil (w : World) (ra : Option Addr) : RgAt w ra [] := ⟨by simp, fun j hj => by simp at hj⟩
end Go.Proofs.YtndjgeohkfenfaaGreatDoor.Globs

namespace Go.Proofs.YtndjgeohkfenfaaGreatDoor.Globs
open Go.RowKit Go.Proofs.YtndjgeohkfenfaaGreatDoor Go.Proofs.YtndjgeohkfenfaaGreatDoor.Hp
set_option linter.unusedVariables false

def TT (path : Bool) (a b : UInt8) (n : Nat) : List Rg × Nat := if path && (a == 47 || b == 47) then ([], 0) else if b < a then ([], n) else ([(a, b)], n)
theorem TT_a (b : UInt8) (n : Nat) {a : UInt8} (h : (a == 47) = true) : TT true a b n = ([], 0) := by unfold TT; rw [h]; rfl
theorem TT_b (a : UInt8) (n : Nat) {b : UInt8} (h : (b == 47) = true) : TT true a b n = ([], 0) := by unfold TT; rw [h]; simp
theorem TT_gt {path : Bool} {a b : UInt8} {n : Nat} (h : path = false ∨ (a == 47) = false ∧ (b == 47) = false) (h2 : b < a) : TT path a b n = ([], n) := by
  unfold TT
  rw [if_neg (by rcases h with h | ⟨h, h'⟩ <;> simp_all), if_pos h2]
theorem TT_le {path : Bool} {a b : UInt8} {n : Nat} (h : path = false ∨ (a == 47) = false ∧ (b == 47) = false) (h2 : ¬ b < a) : TT path a b n = ([(a, b)], n) := by
  unfold TT
  rw [if_neg (by rcases h with h | ⟨h, h'⟩ <;> simp_all), if_neg h2]
theorem thingL_TT {t : List Ch} (path : Bool) (hno : namedOk t = false) : thingL t path = TT path (t.getD 0 default).b (rngTo t) (rngN t) := by
  unfold thingL TT; rw [if_neg (by rw [hno]; simp)]
theorem bs_mk (l : List UInt8) : bs ⟨l.toArray⟩ = l := rfl
set_option maxRecDepth 100000 in
set_option maxHeartbeats 8000000 in
theorem thing_calls (t : List Ch) (path : Bool) (ao : Option Addr) (cap : Nat) (w : World) (h : CharsAt w ao cap t) (hm : t.length ≤ 100000) (h0 : 0 < t.length) :
    Calls Tryz.prog 97 #[.slice ao t.length cap, .bool path] w (ThingPost t path w) := by
  have hcap := h.1
  have htl : (t.length : Int) ≤ 100000 := by omega
  have ht0 : (0 : Int) < t.length := by omega
  cases hok : namedOk t with
  | true =>
    cases hcl : classL (nameOf t) with
    | nil =>
      have hT : thingL t path = ([], 0) := by unfold thingL; rw [if_pos hok, if_pos hcl]
      have HT := Lib.hid hT
      have HC : Hid (∀ w : World, Calls Tryz.prog 140 #[.string ⟨(nameOf t).toArray⟩] w fun e w' => e = .returned (.slice none 0 0) ∧ w = w') := Lib.hid fun w => class_no _ w (by rw [bs_mk]; exact hcl)
      have HN := Lib.hid (named_calls t ao cap w h hm)
      have Hok := Lib.hid hok
      clear hT h hok hcl
      go_enter Tryz.func97, Tryz.ntmps97
      go_wp2_with fail
      refine HN.out.mono ?_
      rintro e w1 ⟨⟨_, rfl⟩ | ⟨hx, rfl⟩, hbel⟩
      · have hq := fun W => Lib.run_eql_slice_nil (P := Tryz.prog) W 116 205 none 0 0 0 0 Tryz.underlying116
        go_wp2_with fail
        refine (HC.out _).mono ?_
        rintro e w' ⟨rfl, rfl⟩
        go_wp2_with fail
        go_ret2
        exact ⟨none, 0, show Ending.returned (.tuple #[.slice none 0 0, .int .i64 0]) = _ by rw [HT.out]; rfl, by rw [HT.out]; exact rgAt_nil _ _, hbel⟩
      · rw [Hok.out] at hx; cases hx
    | cons x r =>
      have hT : thingL t path = (x :: r, namedN t + 2) := by unfold thingL; rw [if_pos hok, if_neg (by rw [hcl]; simp), hcl]
      have HT := Lib.hid hT
      have HC : Hid (∀ w : World, Calls Tryz.prog 140 #[.string ⟨(nameOf t).toArray⟩] w (RgsPost (x :: r) w)) := Lib.hid fun w => by
        have := class_yes ⟨(nameOf t).toArray⟩ w (by rw [bs_mk, hcl]; simp)
        rwa [bs_mk, hcl] at this
      have HN := Lib.hid (named_calls t ao cap w h hm)
      have Hok := Lib.hid hok
      have hnl := namedN_le hok
      clear hT h hok hcl
      go_enter Tryz.func97, Tryz.ntmps97
      go_wp2_with fail
      refine HN.out.mono ?_
      rintro e w1 ⟨⟨_, rfl⟩ | ⟨hx, rfl⟩, hbel⟩
      · go_wp2_with fail
        refine (HC.out _).mono ?_
        rintro e w2 ⟨b, rc, rfl, hr, hb2⟩
        have hq := fun W n c => Lib.run_eql_slice_nil (P := Tryz.prog) W 116 205 (some ⟨b, 0, none⟩) n c 0 0 Tryz.underlying116
        go_wp2_with fail
        go_ret2
        exact ⟨some ⟨b, 0, none⟩, rc, show Ending.returned (.tuple #[.slice (some ⟨b, 0, none⟩) (x :: r).length rc, .int .i64 ((namedN t : Int) + 2)]) = _ by rw [HT.out]; rfl, by rw [HT.out]; exact hr, hbel.trans (hb2.mono hbel.size)⟩
      · rw [Hok.out] at hx; cases hx
  | false =>
    have hT := thingL_TT path hok
    have HN := Lib.hid (named_calls t ao cap w h hm)
    have Hok := Lib.hid hok
    have hc0 : t.getD 0 default = t[0] := by rw [List.getD_eq_getElem?_getD, List.getElem?_eq_getElem h0]; rfl
    have hrg : isRng t = (decide (2 < t.length) && (bareL (t.drop 1) [45] && !bareL (t.drop 2) [93])) := rfl
    obtain ⟨c, hc⟩ : ∃ c, c = t[0] := ⟨_, rfl⟩
    rw [hc0, ← hc] at hT
    obtain ⟨a, q⟩ := c
    have hba := a.toNat_lt
    have HT0 := Lib.hid hT
    have Hc0 := Lib.hid hc0
    have Hrg := Lib.hid hrg
    have Hc := Lib.hid hc
    clear hok hT hc0 hrg hc
    go_enter Tryz.func97, Tryz.ntmps97
    go_wp2_with fail
    refine HN.out.mono ?_
    rintro e w1 ⟨⟨hx, rfl⟩ | ⟨_, rfl⟩, hbel⟩
    · rw [Hok.out] at hx; cases hx
    have h1 := h.keep (Kept.below hbel)
    obtain ⟨tb, o, rfl, htb, c0, c1⟩ := h1.2.2 0 h0
    rw [← Hc.out] at c0 c1
    simp only [Nat.zero_mul, Nat.add_zero] at c0 c1
    clear h
    by_cases hl : 2 < t.length
    · have hl' : (2 : Int) < t.length := by omega
      have hs1 : ∀ W, (Instr.slice 22 (.slice (some ⟨tb, o, none⟩) t.length cap) (some (.int .i64 1)) none none).run Tryz.prog W = .ok (.slice (tailA (some ⟨tb, o, none⟩) 1 cap 2) (t.length - 1) (cap - 1)) W := fun W => slice_from _ t.length cap 1 (by omega) W
      have hs2 : ∀ W, (Instr.slice 22 (.slice (some ⟨tb, o, none⟩) t.length cap) (some (.int .i64 2)) none none).run Tryz.prog W = .ok (.slice (tailA (some ⟨tb, o, none⟩) 2 cap 2) (t.length - 2) (cap - 2)) W := fun W => slice_from _ t.length cap 2 (by omega) W
      have HB1 := Lib.hid (bare_at t ⟨#[45]⟩ (some ⟨tb, o, none⟩) cap 1 w1 h1 (by omega) (by decide))
      have HB2 : Hid (∀ m, Calls Tryz.prog 96 #[.slice (tailA (some ⟨tb, o, none⟩) 2 cap 2) (t.length - 2) (cap - 2), .string ⟨#[93]⟩] (w1.drewN m) fun e w' => e = .returned (.bool (bareL (t.drop 2) [93])) ∧ ∃ n, w' = (w1.drewN m).drewN n) := Lib.hid fun m => bare_at t ⟨#[93]⟩ (some ⟨tb, o, none⟩) cap 2 (w1.drewN m) h1 (by omega) (by decide)
      cases hb1 : bareL (t.drop 1) [45] with
      | false =>
        have HB1' : Hid (Calls Tryz.prog 96 #[.slice (tailA (some ⟨tb, o, none⟩) 1 cap 2) (t.length - 1) (cap - 1), .string ⟨#[45]⟩] w1 fun e w' => e = .returned (.bool false) ∧ ∃ n, w' = w1.drewN n) := Lib.hid (by have := HB1.out; rwa [show bareL (t.drop 1) (bs ⟨#[45]⟩) = false from hb1] at this)
        have hno : isRng t = false := by rw [Hrg.out, hb1]; simp
        clear hb1 HB1 HB2 hs2
        have e1 : rngTo t = a := by unfold rngTo; rw [if_neg (by rw [hno]; simp), Hc0.out, ← Hc.out]
        have e2 : rngN t = 1 := by unfold rngN; rw [if_neg (by rw [hno]; simp)]
        have HT : Hid (thingL t path = TT path a a 1) := Lib.hid (by rw [HT0.out, e1, e2])
        clear e1 e2 hno
        go_wp2_with fail
        refine HB1'.out.mono ?_
        rintro e w' ⟨rfl, m, rfl⟩
        have ga := u8_lit a 47 (by omega)
        have gb := u8_lit a 47 (by omega)
        rw [show ((47 : Nat) : Int) = 47 from rfl] at ga gb
        have ia : UInt8.ofNat 47 = 47 := rfl
        rw [ia] at ga gb
        clear ia
        have hgt : ¬ a < a := UInt8.lt_irrefl a
        · cases path
          · clear ga gb
            have HV := Lib.hid (HT.out.trans (TT_le (.inl rfl) hgt))
            have hgt' : ¬ ((a.toNat : Int) < a.toNat) := by rw [UInt8.lt_iff_toNat_lt] at hgt; omega
            clear hgt HT HT0
            go_wp2_with fail
            go_ret2
            exact ⟨some ⟨_, 0, none⟩, 1, by rw [HV.out]; rfl, by rw [HV.out]; exact rgAt_new (T := 205) _ (by simp) (heap_alloc_new _ _) (fun j hj => by (obtain rfl : j = 0 := by simp at hj; omega); exact ⟨rfl, rfl⟩), (below_drewN hbel _).alloc (below_drewN hbel _).size _⟩
          · cases ha : (a == 47)
            · have hb := ha
              rw [ha] at ga
              clear gb
              have HV := Lib.hid (HT.out.trans (TT_le (.inr ⟨ha, hb⟩) hgt))
              have hgt' : ¬ ((a.toNat : Int) < a.toNat) := by rw [UInt8.lt_iff_toNat_lt] at hgt; omega
              clear hgt HT HT0
              go_wp2_with fail
              go_ret2
              exact ⟨some ⟨_, 0, none⟩, 1, by rw [HV.out]; rfl, by rw [HV.out]; exact rgAt_new (T := 205) _ (by simp) (heap_alloc_new _ _) (fun j hj => by (obtain rfl : j = 0 := by simp at hj; omega); exact ⟨rfl, rfl⟩), (below_drewN hbel _).alloc (below_drewN hbel _).size _⟩
            · rw [ha] at ga
              have HV := Lib.hid (HT.out.trans (TT_a a 1 ha))
              clear gb
              go_wp2_with fail
              go_ret2
              exact ⟨none, 0, show Ending.returned (.tuple #[.slice none 0 0, .int .i64 0]) = _ by rw [HV.out]; rfl, by rw [HV.out]; exact rgAt_nil _ _, below_drewN hbel _⟩
      | true =>
        have HB1' : Hid (Calls Tryz.prog 96 #[.slice (tailA (some ⟨tb, o, none⟩) 1 cap 2) (t.length - 1) (cap - 1), .string ⟨#[45]⟩] w1 fun e w' => e = .returned (.bool true) ∧ ∃ n, w' = w1.drewN n) := Lib.hid (by have := HB1.out; rwa [show bareL (t.drop 1) (bs ⟨#[45]⟩) = true from hb1] at this)
        cases hb2 : bareL (t.drop 2) [93] with
        | true =>
          rw [hb2] at HB2
          have hno : isRng t = false := by rw [Hrg.out, hb2]; simp
          clear hb1 hb2 HB1
          have e1 : rngTo t = a := by unfold rngTo; rw [if_neg (by rw [hno]; simp), Hc0.out, ← Hc.out]
          have e2 : rngN t = 1 := by unfold rngN; rw [if_neg (by rw [hno]; simp)]
          have HT : Hid (thingL t path = TT path a a 1) := Lib.hid (by rw [HT0.out, e1, e2])
          clear e1 e2 hno
          go_wp2_with fail
          refine HB1'.out.mono ?_
          rintro e w' ⟨rfl, m, rfl⟩
          go_wp2_with fail
          refine (HB2.out m).mono ?_
          rintro e w' ⟨rfl, m2, rfl⟩
          have ga := u8_lit a 47 (by omega)
          have gb := u8_lit a 47 (by omega)
          rw [show ((47 : Nat) : Int) = 47 from rfl] at ga gb
          have ia : UInt8.ofNat 47 = 47 := rfl
          rw [ia] at ga gb
          clear ia
          have hgt : ¬ a < a := UInt8.lt_irrefl a
          · cases path
            · clear ga gb
              have HV := Lib.hid (HT.out.trans (TT_le (.inl rfl) hgt))
              have hgt' : ¬ ((a.toNat : Int) < a.toNat) := by rw [UInt8.lt_iff_toNat_lt] at hgt; omega
              clear hgt HT HT0
              go_wp2_with fail
              go_ret2
              exact ⟨some ⟨_, 0, none⟩, 1, by rw [HV.out]; rfl, by rw [HV.out]; exact rgAt_new (T := 205) _ (by simp) (heap_alloc_new _ _) (fun j hj => by (obtain rfl : j = 0 := by simp at hj; omega); exact ⟨rfl, rfl⟩), (below_drewN hbel _).alloc (below_drewN hbel _).size _⟩
            · cases ha : (a == 47)
              · have hb := ha
                rw [ha] at ga
                clear gb
                have HV := Lib.hid (HT.out.trans (TT_le (.inr ⟨ha, hb⟩) hgt))
                have hgt' : ¬ ((a.toNat : Int) < a.toNat) := by rw [UInt8.lt_iff_toNat_lt] at hgt; omega
                clear hgt HT HT0
                go_wp2_with fail
                go_ret2
                exact ⟨some ⟨_, 0, none⟩, 1, by rw [HV.out]; rfl, by rw [HV.out]; exact rgAt_new (T := 205) _ (by simp) (heap_alloc_new _ _) (fun j hj => by (obtain rfl : j = 0 := by simp at hj; omega); exact ⟨rfl, rfl⟩), (below_drewN hbel _).alloc (below_drewN hbel _).size _⟩
              · rw [ha] at ga
                have HV := Lib.hid (HT.out.trans (TT_a a 1 ha))
                clear gb
                go_wp2_with fail
                go_ret2
                exact ⟨none, 0, show Ending.returned (.tuple #[.slice none 0 0, .int .i64 0]) = _ by rw [HV.out]; rfl, by rw [HV.out]; exact rgAt_nil _ _, below_drewN hbel _⟩
        | false =>
          rw [hb2] at HB2
          have hyes : isRng t = true := by rw [Hrg.out, hb1, hb2]; simpa using hl
          obtain ⟨tb', o', e', _, d0, d1⟩ := h1.2.2 2 hl
          simp only [Option.some.injEq, Addr.mk.injEq, and_true] at e'
          obtain ⟨rfl, rfl⟩ := e'
          obtain ⟨d, hd⟩ : ∃ d, d = t[2] := ⟨_, rfl⟩
          rw [← hd] at d0 d1
          obtain ⟨b, q2⟩ := d
          have hbb := b.toNat_lt
          have d0' : ∀ n, (w1.drewN n).cell? ⟨tb, o + 4, none⟩ = some (.int .u8 b.toNat) := fun n => d0
          have e1 : rngTo t = b := by unfold rngTo; rw [if_pos hyes, List.getD_eq_getElem?_getD, List.getElem?_eq_getElem hl, ← hd]; rfl
          have e2 : rngN t = 3 := by unfold rngN; rw [if_pos hyes]
          have HT : Hid (thingL t path = TT path a b 3) := Lib.hid (by rw [HT0.out, e1, e2])
          clear hb1 hb2 HB1 e1 e2 hyes hd d0 d1
          go_wp2_with fail
          refine HB1'.out.mono ?_
          rintro e w' ⟨rfl, m, rfl⟩
          go_wp2_with fail
          refine (HB2.out m).mono ?_
          rintro e w' ⟨rfl, m2, rfl⟩
          go_wp2_with fail
          refine region_plan (S := (fun w' => w'.cell? ⟨tb, o + 4, none⟩ = some (.int .u8 b.toNat))) [(0, true), (1, true), (2, true), (3, true), (4, true), (5, true)] (by kernel_rfl) (by kernel_rfl) (by kernel_rfl) ?_ ?_
          · ((try dsimp only); (first | done | (exact d0' 0)))
          simp only [planOps, List.map_cons, List.map_nil, List.getElem?_toArray, List.getElem?_cons_zero, List.getElem?_cons_succ]
          repeat (first
            | ((refine plan_yes (v := ?_) (by rfl) ?_ ?_); rotate_left; (focus (intro w hSw; (try dsimp only at hSw); go_simp; try (with_reducible rfl))); (try simp only [Act.put, List.setIfInBounds_toArray, List.set_cons_zero, List.set_cons_succ]))
            | ((refine plan_no (by rfl) ?_); (try simp only [Act.put, List.setIfInBounds_toArray, List.set_cons_zero, List.set_cons_succ]))
            | ((refine plan_step (fun K hK => ?_)); (first | (fail) | (go_simp; (fail); (try go_wp2_with fail)) | go_simp); (refine hK.out _ _ ?_ (fun hHeld => ?_)); (focus ((try dsimp only); (first | done | (exact d0' 0)))); clear hK K; (try simp only [Act.put, List.setIfInBounds_toArray, List.set_cons_zero, List.set_cons_succ])))
          refine plan_done ?_
          have ga := u8_lit a 47 (by omega)
          have gb := u8_lit b 47 (by omega)
          rw [show ((47 : Nat) : Int) = 47 from rfl] at ga gb
          have ia : UInt8.ofNat 47 = 47 := rfl
          rw [ia] at ga gb
          clear ia
          by_cases hgt : b < a
          · cases path
            · clear ga gb
              have HV := Lib.hid (HT.out.trans (TT_gt (.inl rfl) hgt))
              have hgt' : (b.toNat : Int) < a.toNat := by have := UInt8.lt_iff_toNat_lt.1 hgt; omega
              clear hgt HT HT0
              go_wp2_with fail
              go_ret2
              exact ⟨none, 0, show Ending.returned (.tuple #[.slice none 0 0, .int .i64 3]) = _ by rw [HV.out]; rfl, by rw [HV.out]; exact rgAt_nil _ _, below_drewN hbel _⟩
            · cases ha : (a == 47)
              · cases hb : (b == 47)
                · rw [ha] at ga
                  rw [hb] at gb
                  have HV := Lib.hid (HT.out.trans (TT_gt (.inr ⟨ha, hb⟩) hgt))
                  have hgt' : (b.toNat : Int) < a.toNat := by have := UInt8.lt_iff_toNat_lt.1 hgt; omega
                  clear hgt HT HT0
                  go_wp2_with fail
                  go_ret2
                  exact ⟨none, 0, show Ending.returned (.tuple #[.slice none 0 0, .int .i64 3]) = _ by rw [HV.out]; rfl, by rw [HV.out]; exact rgAt_nil _ _, below_drewN hbel _⟩
                · rw [ha] at ga
                  rw [hb] at gb
                  have HV := Lib.hid (HT.out.trans (TT_b a 3 hb))
                  go_wp2_with fail
                  go_ret2
                  exact ⟨none, 0, show Ending.returned (.tuple #[.slice none 0 0, .int .i64 0]) = _ by rw [HV.out]; rfl, by rw [HV.out]; exact rgAt_nil _ _, below_drewN hbel _⟩
              · rw [ha] at ga
                have HV := Lib.hid (HT.out.trans (TT_a b 3 ha))
                clear gb
                go_wp2_with fail
                go_ret2
                exact ⟨none, 0, show Ending.returned (.tuple #[.slice none 0 0, .int .i64 0]) = _ by rw [HV.out]; rfl, by rw [HV.out]; exact rgAt_nil _ _, below_drewN hbel _⟩
          · cases path
            · clear ga gb
              have HV := Lib.hid (HT.out.trans (TT_le (.inl rfl) hgt))
              have hgt' : ¬ ((b.toNat : Int) < a.toNat) := by rw [UInt8.lt_iff_toNat_lt] at hgt; omega
              clear hgt HT HT0
              go_wp2_with fail
              go_ret2
              exact ⟨some ⟨_, 0, none⟩, 1, by rw [HV.out]; rfl, by rw [HV.out]; exact rgAt_new (T := 205) _ (by simp) (heap_alloc_new _ _) (fun j hj => by (obtain rfl : j = 0 := by simp at hj; omega); exact ⟨rfl, rfl⟩), (below_drewN hbel _).alloc (below_drewN hbel _).size _⟩
            · cases ha : (a == 47)
              · cases hb : (b == 47)
                · rw [ha] at ga
                  rw [hb] at gb
                  have HV := Lib.hid (HT.out.trans (TT_le (.inr ⟨ha, hb⟩) hgt))
                  have hgt' : ¬ ((b.toNat : Int) < a.toNat) := by rw [UInt8.lt_iff_toNat_lt] at hgt; omega
                  clear hgt HT HT0
                  go_wp2_with fail
                  go_ret2
                  exact ⟨some ⟨_, 0, none⟩, 1, by rw [HV.out]; rfl, by rw [HV.out]; exact rgAt_new (T := 205) _ (by simp) (heap_alloc_new _ _) (fun j hj => by (obtain rfl : j = 0 := by simp at hj; omega); exact ⟨rfl, rfl⟩), (below_drewN hbel _).alloc (below_drewN hbel _).size _⟩
                · rw [ha] at ga
                  rw [hb] at gb
                  have HV := Lib.hid (HT.out.trans (TT_b a 3 hb))
                  go_wp2_with fail
                  go_ret2
                  exact ⟨none, 0, show Ending.returned (.tuple #[.slice none 0 0, .int .i64 0]) = _ by rw [HV.out]; rfl, by rw [HV.out]; exact rgAt_nil _ _, below_drewN hbel _⟩
              · rw [ha] at ga
                have HV := Lib.hid (HT.out.trans (TT_a b 3 ha))
                clear gb
                go_wp2_with fail
                go_ret2
                exact ⟨none, 0, show Ending.returned (.tuple #[.slice none 0 0, .int .i64 0]) = _ by rw [HV.out]; rfl, by rw [HV.out]; exact rgAt_nil _ _, below_drewN hbel _⟩
    · have hl' : ¬ ((2 : Int) < t.length) := by omega
      have hno : isRng t = false := by rw [Hrg.out, decide_eq_false hl]; rfl
      have e1 : rngTo t = a := by unfold rngTo; rw [if_neg (by rw [hno]; simp), Hc0.out, ← Hc.out]
      have e2 : rngN t = 1 := by unfold rngN; rw [if_neg (by rw [hno]; simp)]
      have HT : Hid (thingL t path = TT path a a 1) := Lib.hid (by rw [HT0.out, e1, e2])
      clear e1 e2 hno
      have ga := u8_lit a 47 (by omega)
      have gb := u8_lit a 47 (by omega)
      rw [show ((47 : Nat) : Int) = 47 from rfl] at ga gb
      have ia : UInt8.ofNat 47 = 47 := rfl
      rw [ia] at ga gb
      clear ia
      have hgt : ¬ a < a := UInt8.lt_irrefl a
      · cases path
        · clear ga gb
          have HV := Lib.hid (HT.out.trans (TT_le (.inl rfl) hgt))
          have hgt' : ¬ ((a.toNat : Int) < a.toNat) := by rw [UInt8.lt_iff_toNat_lt] at hgt; omega
          clear hgt HT HT0
          go_wp2_with fail
          go_ret2
          exact ⟨some ⟨_, 0, none⟩, 1, by rw [HV.out]; rfl, by rw [HV.out]; exact rgAt_new (T := 205) _ (by simp) (heap_alloc_new _ _) (fun j hj => by (obtain rfl : j = 0 := by simp at hj; omega); exact ⟨rfl, rfl⟩), (hbel).alloc (hbel).size _⟩
        · cases ha : (a == 47)
          · have hb := ha
            rw [ha] at ga
            clear gb
            have HV := Lib.hid (HT.out.trans (TT_le (.inr ⟨ha, hb⟩) hgt))
            have hgt' : ¬ ((a.toNat : Int) < a.toNat) := by rw [UInt8.lt_iff_toNat_lt] at hgt; omega
            clear hgt HT HT0
            go_wp2_with fail
            go_ret2
            exact ⟨some ⟨_, 0, none⟩, 1, by rw [HV.out]; rfl, by rw [HV.out]; exact rgAt_new (T := 205) _ (by simp) (heap_alloc_new _ _) (fun j hj => by (obtain rfl : j = 0 := by simp at hj; omega); exact ⟨rfl, rfl⟩), (hbel).alloc (hbel).size _⟩
          · rw [ha] at ga
            have HV := Lib.hid (HT.out.trans (TT_a a 1 ha))
            clear gb
            go_wp2_with fail
            go_ret2
            exact ⟨none, 0, show Ending.returned (.tuple #[.slice none 0 0, .int .i64 0]) = _ by rw [HV.out]; rfl, by rw [HV.out]; exact rgAt_nil _ _, hbel⟩
end Go.Proofs.YtndjgeohkfenfaaGreatDoor.Globs

