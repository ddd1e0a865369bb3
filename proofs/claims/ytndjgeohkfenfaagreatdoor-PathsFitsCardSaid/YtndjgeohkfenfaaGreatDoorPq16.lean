/- HandlesPlays, part 16 of 26: the texts GlX PaH PaI PaK PaL PaM, joined by a program. -/
import Derived.Test.YtndjgeohkfenfaaGreatDoorPq14
import Derived.Test.YtndjgeohkfenfaaGreatDoorPq15
import Derived.Test.YtndjgeohkfenfaaGreatDoorPq10
import Derived.Test.YtndjgeohkfenfaaGreatDoorPq11
import Derived.Test.YtndjgeohkfenfaaGreatDoorPq13
import Derived.Lib.SliceRun
namespace Go.Proofs.YtndjgeohkfenfaaGreatDoor.Globs
open Go.RowKit Go.Proofs.YtndjgeohkfenfaaGreatDoor Go.Proofs.YtndjgeohkfenfaaGreatDoor.Hp
set_option linter.unusedVariables false

theorem R_last (p : List Itm) (s : ByteArray) (hd : Nat → Bool) : R hd p (bs s) s.size = mtB hd p (bs s) 0 := by
  unfold R
  rw [← bs_length, List.take_length]
set_option maxHeartbeats 1000000 in
theorem rpath_calls (p : List Itm) (s : ByteArray) (ao : Option Addr) (cap : Nat) (w : World) (h : ItemsAt w ao p) (hm : s.size ≤ 100000) :
    Calls Tryz.prog 34 #[.slice ao p.length cap, .string s] w (FPost (pathB p (bs s)) w) := by
  have hs0 : (0 : Int) ≤ s.size := by omega
  have hs1 : (s.size : Int) < ((s.size + 1 : Nat) : Int) := by omega
  have hs2 : (s.size : Int) < (s.size : Int) + 1 := by omega
  go_enter Tryz.func34, Tryz.ntmps34
  go_wp2_with fail
  refine (ends_path p s ao cap _ h hm).mono ?_
  rintro e w1 ⟨b, rfl, hb, hB⟩
  have c0 : w1.cell? ⟨b, s.size, none⟩ = some (.bool (pathB p (bs s))) := by
    rw [cell_at hb]; exact (boolArr_get _ _ _ (by omega)).trans (by rw [R_last]; rfl)
  clear hb h
  go_wp2_with fail
  go_ret
  exact ⟨rfl, hB⟩
end Go.Proofs.YtndjgeohkfenfaaGreatDoor.Globs

namespace Go.Proofs.YtndjgeohkfenfaaGreatDoor.Globs
open Go.RowKit Go.Proofs.YtndjgeohkfenfaaGreatDoor Go.Proofs.YtndjgeohkfenfaaGreatDoor.Hp
set_option linter.unusedVariables false
attribute [local go_sem] Oper.semAt_some

theorem sgB_of (l : List UInt8) : sgB false l = (singleL (l.map fun b => (⟨b, true⟩ : Ch))).map (·.b) := (sg_marks l false true).symm
theorem sgB_take (l : List UInt8) (k : Nat) (hk : k < l.length) (h0 : 0 < k) : sgB false (l.take (k + 1)) = sgB false (l.take k) ++ if (l[k] == 47 && l[k - 1] == 47) = true then [] else [l[k]] := by
  have h := sg_take (l.map fun b => (⟨b, true⟩ : Ch)) k (by rw [List.length_map]; exact hk) h0
  rw [sgB_of, sgB_of, List.map_take, List.map_take, h, List.map_append, List.getElem_map, List.getElem_map]
  congr 1
  unfold two47
  dsimp only
  split <;> rfl
theorem sg_first (t : List Ch) (h : 0 < t.length) : singleL (t.take 1) = [t[0]] := by
  cases t with
  | nil => simp at h
  | cons c t => rfl
theorem sgB_first (l : List UInt8) (h : 0 < l.length) : sgB false (l.take 1) = [l[0]] := by
  cases l with
  | nil => simp at h
  | cons c t => rfl
def RF1 (t : List Ch) (w : World) (g : Nat) (pv iv : Value) (wr : World) : Prop :=
  ∃ (i : Nat) (q : Option Addr) (qc : Nat) (u : List Ch), i + g = t.length ∧ pv = .slice q u.length qc ∧ iv = .int .i64 (i : Int) ∧ u = singleL (t.take i) ∧ u.length ≤ i ∧ Sat wr (chAR q qc u * keep w) ∧ Ran w wr
def RF2 (s : ByteArray) (w : World) (g : Nat) (sv iv : Value) (wr : World) : Prop :=
  ∃ (i : Nat) (u : ByteArray), i + g = s.size ∧ sv = .string u ∧ iv = .int .i64 (i : Int) ∧ bs u = sgB false ((bs s).take i) ∧ u.size ≤ i ∧ w = wr
set_option maxRecDepth 100000 in
set_option maxHeartbeats 4000000 in
theorem rFits_calls (t : List Ch) (path : ByteArray) (ao : Option Addr) (cap : Nat) (w : World) (h : CharsAt w ao cap t) (hm : t.length ≤ 10000) (hp : path.size ≤ 10000) :
    Calls Tryz.prog 13 #[.slice ao t.length cap, .string path] w (FPost (fitsP t (bs path)) w) := by
  have Hh := Lib.hid h
  have hmI : (t.length : Int) ≤ 10000 := by omega
  have hpI : (path.size : Int) ≤ 10000 := by omega
  have H0 := Lib.hid (chAR_nil (Sat.start w))
  clear h
  go_enter Tryz.func13, Tryz.ntmps13
  go_wp2_with fail
  go_loopg [5, 6] (t.length) (fun (g : Nat) (pv iv : Value) (wr : World) => RF1 t w g pv iv wr)
  case atStart => exact ⟨0, none, 0, [], by omega, rfl, rfl, rfl, by simp, H0.out, Below.refl _ _⟩
  case round =>
    clear H0
    obtain ⟨i, q, qc, u, hig, rfl, rfl, hu, hul, HS, HR⟩ := hrel
    have hi0 : (0 : Int) ≤ (i : Int) := by omega
    have Hig := Lib.hid hig
    by_cases hi : i < t.length
    · have hiI : (i : Int) < (t.length : Int) := by omega
      have hul2 : u.length + 1 ≤ 1000000000 := by omega
      have hKr : Kept w wr := kept_of HS
      have hat := Hh.out.keep hKr
      obtain ⟨b, o, rfl, hb, x0, x1⟩ := hat.2.2 i hi
      obtain ⟨x, hx⟩ : ∃ x, x = t[i] := ⟨_, rfl⟩
      rw [← hx] at x0 x1
      have hcv : (((x.b.toNat : Nat) : Int) == 47) = (x.b == 47) := u8_lit x.b 47 (by omega)
      have HSB := HS.old (.cells #[.int .u8 x.b.toNat, .bool x.q] 66 (0, 0))
      have RB := Ran.new HR (.cells #[.int .u8 x.b.toNat, .bool x.q] 66 (0, 0))
      by_cases hi1 : i = 0
      · subst hi1
        rw [Nat.zero_mul, Nat.add_zero] at x0 x1
        have hfin : singleL (t.take (0 + 1)) = u ++ [x] := by
          rw [hu, hx]
          exact sg_first t hi
        have Hfin := Lib.hid hfin
        have Hul := Lib.hid hul
        clear hfin hu hx hig hat HS hKr hul hcv
        go_wp2_with (at_builtin; go_loud (refine appChR rfl _ _ rfl q u.length qc _ rfl _ rfl 1 _ (src1R (block_new rfl)) HSB hul2 ?_; intro p' cap2 w6 T6 R6; clear HSB))
        have S7 := Lib.hid (snoc_cell T6)
        clear T6
        go_roundg (gk - 1)
        case measure => have := Hig.out; omega
        case rel => exact ⟨0 + 1, p', cap2, u ++ [x], by have := Hig.out; omega, by rw [List.length_append]; rfl, by go_num, Hfin.out.symm, by rw [List.length_append]; have := Hul.out; show u.length + 1 ≤ _; omega, S7.out, Below.trans RB R6⟩
      · obtain ⟨j, hj⟩ : ∃ j, i = j + 1 := ⟨i - 1, by omega⟩
        have hjt : j < t.length := by omega
        have hjI : (i : Int) - 1 = (j : Int) := by omega
        have hj0 : (0 : Int) ≤ (j : Int) := by omega
        have hjl : (j : Int) < (t.length : Int) := by omega
        have hjw : IntKind.i64.wrap (j : Int) = (j : Int) := IntWalk.i64_in _ (by omega)
        have hin0 : ((i : Int) == 0) = false := by simp; omega
        obtain ⟨b1, o1, e1, hb1, y0, y1⟩ := hat.2.2 j hjt
        injection e1 with e1; injection e1 with e1 e2; subst e1 e2
        obtain ⟨y, hy⟩ : ∃ y, y = t[j] := ⟨_, rfl⟩
        rw [← hy] at y0 y1
        have hcw : (((y.b.toNat : Nat) : Int) == 47) = (y.b == 47) := u8_lit y.b 47 (by omega)
        have hfin : singleL (t.take (i + 1)) = u ++ if two47 x y = true then [] else [x] := by
          rw [hu, hx, hy, sg_take t i hi (by omega)]
          have e : t[i - 1] = t[j] := by congr 1; omega
          rw [e]
        unfold two47 at hfin
        obtain ⟨v, hv⟩ : ∃ v, v = (x.b == 47) := ⟨_, rfl⟩
        obtain ⟨v2, hv2⟩ : ∃ v, v = (y.b == 47) := ⟨_, rfl⟩
        rw [← hv] at hcv hfin
        rw [← hv2] at hcw hfin
        have HS0 := Lib.hid HS
        have Hj := Lib.hid hj
        have Hul := Lib.hid hul
        clear hu hx hy hv hv2 hig hat HS hKr hj hi1 hul
        obtain ⟨xb, xq⟩ := x
        obtain ⟨yb, yq⟩ := y
        dsimp only at x0 x1 y0 y1 hcv hcw hfin HSB RB
        cases v with
        | false =>
          rw [Bool.false_and, if_neg (by decide)] at hfin
          have Hfin := Lib.hid hfin
          clear hfin hcw
          go_wp2_with (at_builtin; go_loud (refine appChR rfl _ _ rfl q u.length qc _ rfl _ rfl 1 _ (src1R (c := ⟨xb, xq⟩) (block_new rfl)) HSB hul2 ?_; intro p' cap2 w6 T6 R6; clear HSB))
          have S7 := Lib.hid (snoc_cell (c := ⟨xb, xq⟩) T6)
          clear T6
          go_roundg (gk - 1)
          case measure => have := Hig.out; omega
          case rel => exact ⟨i + 1, p', cap2, u ++ [⟨xb, xq⟩], by have := Hig.out; omega, by rw [List.length_append]; rfl, by go_num, Hfin.out.symm, by rw [List.length_append]; have := Hul.out; show u.length + 1 ≤ _; omega, S7.out, Below.trans RB R6⟩
        | true =>
          obtain rfl : xb = 47 := UInt8.toNat_inj.1 (by have : ((xb.toNat : Nat) : Int) = 47 := by simpa using hcv
                                                        show xb.toNat = 47; omega)
          rw [show (((47 : UInt8).toNat : Nat) : Int) = 47 from rfl] at x0 HSB RB
          clear hcv
          cases v2 with
          | false =>
            rw [Bool.and_false, if_neg (by decide)] at hfin
            have Hfin := Lib.hid hfin
            clear hfin
            go_wp2_with (at_builtin; go_loud (refine appChR rfl _ _ rfl q u.length qc _ rfl _ rfl 1 _ (src1R (c := ⟨47, xq⟩) (block_new rfl)) HSB hul2 ?_; intro p' cap2 w6 T6 R6; clear HSB))
            have S7 := Lib.hid (snoc_cell (c := ⟨47, xq⟩) T6)
            clear T6
            go_roundg (gk - 1)
            case measure => have := Hig.out; omega
            case rel => exact ⟨i + 1, p', cap2, u ++ [⟨47, xq⟩], by have := Hig.out; omega, by rw [List.length_append]; rfl, by go_num, Hfin.out.symm, by rw [List.length_append]; have := Hul.out; show u.length + 1 ≤ _; omega, S7.out, Below.trans RB R6⟩
          | true =>
            obtain rfl : yb = 47 := UInt8.toNat_inj.1 (by have : ((yb.toNat : Nat) : Int) = 47 := by simpa using hcw
                                                          show yb.toNat = 47; omega)
            rw [show (((47 : UInt8).toNat : Nat) : Int) = 47 from rfl] at y0
            clear hcw
            rw [Bool.and_self, if_pos rfl, List.append_nil] at hfin
            have Hfin := Lib.hid hfin
            clear hfin HSB
            go_wp2_with fail
            go_roundg (gk - 1)
            case measure => have := Hig.out; omega
            case rel => exact ⟨i + 1, q, qc, u, by have := Hig.out; omega, rfl, by go_num, Hfin.out.symm, by have := Hul.out; omega, HS0.out, HR⟩
    · have hge : ¬ (i : Int) < (t.length : Int) := by omega
      have hie : i = t.length := by omega
      rw [hie, List.take_length] at hu
      have Hu := Lib.hid hu
      have HS0 := Lib.hid HS
      have Hul := Lib.hid hul
      clear hu hie hig HS hul
      go_wp2_with fail
      go_loopg [7, 8] (path.size) (fun (g : Nat) (sv iv : Value) (w2 : World) => RF2 path wr g sv iv w2)
      case atStart => exact ⟨0, ⟨#[]⟩, by omega, rfl, rfl, rfl, by decide, rfl⟩
      case round =>
        obtain ⟨k, s, hkg, rfl, rfl, hs, hsz, rfl⟩ := hrel
        have hk0 : (0 : Int) ≤ (k : Int) := by omega
        have Hkg := Lib.hid hkg
        by_cases hk : k < path.size
        · have hkI : (k : Int) < (path.size : Int) := by omega
          have hk1I : (k : Int) + 1 ≤ (path.size : Int) := by omega
          have hk2I : (k : Int) ≤ (k : Int) + 1 := by omega
          have hk3I : (0 : Int) ≤ (k : Int) + 1 := by omega
          have hk4 : ((k : Int) + 1).toNat = k + 1 := by omega
          have hes : ((path.extract k (k + 1)).size : Int) = 1 := by rw [ByteArray.size_extract]; omega
          have hsum2 : (s.size : Int) + 1 ≤ 9223372036854775807 := by omega
          have hsum : (s.size : Int) + ((path.extract k (k + 1)).size : Int) ≤ 9223372036854775807 := by omega
          have hsum3 : ((s.size + (path.extract k (k + 1)).size : Nat) : Int) ≤ 9223372036854775807 := by omega
          have hxe : bs (s ++ path.extract k (k + 1)) = bs s ++ [path[k]] := by
            show (s ++ path.extract k (k + 1)).data.toList = _
            rw [ByteArray.data_append, Array.toList_append, ByteArray.data_extract]
            congr 1
            have h1 := bs_drop path k hk
            have : (path.data.extract k (k + 1)).toList = ((bs path).drop k).take 1 := by
              unfold bs
              rw [Array.toList_extract]
              simp [List.extract_eq_take_drop]
            rw [this, h1]; rfl
          have hxs : (s ++ path.extract k (k + 1)).size = s.size + 1 := by rw [ByteArray.size_append]; omega
          have hkl : k < (bs path).length := by rw [bs_length]; exact hk
          have hgk : (bs path)[k] = path[k] := by
            have := bs_get path k hk
            rw [List.getElem?_eq_getElem hkl] at this
            exact Option.some.inj this
          have Hsz := Lib.hid hsz
          have Hxs := Lib.hid hxs
          have hcv : (((path[k].toNat : Nat) : Int) == 47) = (path[k] == 47) := u8_lit path[k] 47 (by omega)
          by_cases hk1 : k = 0
          · subst hk1
            have hfin : bs (s ++ path.extract 0 (0 + 1)) = sgB false ((bs path).take (0 + 1)) := by
              rw [hxe, hs, sgB_first (bs path) (by omega), hgk]; rfl
            have Hfin := Lib.hid hfin
            clear hfin hxe hs hsz hxs hgk hcv hkg
            go_wp2_with fail
            go_roundg (gk - 1)
            case measure => have := Hkg.out; omega
            case rel => exact ⟨0 + 1, s ++ path.extract 0 (0 + 1), by have := Hkg.out; omega, rfl, by go_num, Hfin.out, by rw [Hxs.out]; have := Hsz.out; omega, rfl⟩
          · obtain ⟨j, hj⟩ : ∃ j, k = j + 1 := ⟨k - 1, by omega⟩
            have hjt : j < path.size := by omega
            have hjI : (k : Int) - 1 = (j : Int) := by omega
            have hj0 : (0 : Int) ≤ (j : Int) := by omega
            have hjl : (j : Int) < (path.size : Int) := by omega
            have hjw : IntKind.i64.wrap (j : Int) = (j : Int) := IntWalk.i64_in _ (by omega)
            have hin0 : ((k : Int) == 0) = false := by simp; omega
            have hgj : (bs path)[k - 1]'(by omega) = path[j] := by
              have := bs_get path j hjt
              rw [List.getElem?_eq_getElem (by rw [bs_length]; exact hjt)] at this
              rw [← Option.some.inj this]
              congr 1; omega
            have hcw : (((path[j].toNat : Nat) : Int) == 47) = (path[j] == 47) := u8_lit path[j] 47 (by omega)
            have hst := sgB_take (bs path) k hkl (by omega)
            rw [hgk, hgj, ← hs] at hst
            obtain ⟨v, hv⟩ : ∃ v, v = (path[k] == 47) := ⟨_, rfl⟩
            obtain ⟨v2, hv2⟩ : ∃ v, v = (path[j] == 47) := ⟨_, rfl⟩
            rw [← hv] at hst
            rw [← hv2] at hst
            have Hxe := Lib.hid hxe
            have Hj := Lib.hid hj
            clear hs hsz hxs hgk hgj hkg hk1 hj hxe hcv hcw
            cases v with
            | false =>
              rw [Bool.false_and, if_neg (by decide), ← Hxe.out] at hst
              have Hfin := Lib.hid hst.symm
              have hq : ¬ ((path[k].toNat : Nat) : Int) = 47 := fun e => by
                have e2 : path[k] = 47 := UInt8.toNat_inj.1 (show path[k].toNat = 47 by omega)
                rw [e2] at hv; cases hv
              clear hst hv hv2
              go_wp2_with fail
              go_roundg (gk - 1)
              case measure => have := Hkg.out; omega
              case rel => exact ⟨k + 1, s ++ path.extract k (k + 1), by have := Hkg.out; omega, rfl, by go_num, Hfin.out, by rw [Hxs.out]; have := Hsz.out; omega, rfl⟩
            | true =>
              have hq : path[k] = 47 := by simpa using hv.symm
              clear hv
              cases v2 with
              | false =>
                rw [Bool.and_false, if_neg (by decide), ← Hxe.out] at hst
                have Hfin := Lib.hid hst.symm
                have hq2 : (((path[j].toNat : Nat) : Int) != 47) = true := by
                  simp
                  intro e
                  have e2 : path[j] = 47 := UInt8.toNat_inj.1 (show path[j].toNat = 47 by omega)
                  rw [e2] at hv2; cases hv2
                clear hst hv2
                go_wp2_with fail
                go_roundg (gk - 1)
                case measure => have := Hkg.out; omega
                case rel => exact ⟨k + 1, s ++ path.extract k (k + 1), by have := Hkg.out; omega, rfl, by go_num, Hfin.out, by rw [Hxs.out]; have := Hsz.out; omega, rfl⟩
              | true =>
                rw [Bool.and_self, if_pos rfl, List.append_nil] at hst
                have Hfin := Lib.hid hst.symm
                have hq2 : path[j] = 47 := by simpa using hv2.symm
                clear hst hv2
                go_wp2_with fail
                go_roundg (gk - 1)
                case measure => have := Hkg.out; omega
                case rel => exact ⟨k + 1, s, by have := Hkg.out; omega, rfl, by go_num, Hfin.out, by have := Hsz.out; omega, rfl⟩
        · have hge : ¬ (k : Int) < (path.size : Int) := by omega
          have hke : k = path.size := by omega
          rw [hke, ← bs_length, List.take_length] at hs
          have hC := chA_atR HS0.out
          have hul3 : u.length ≤ 10000 := by have := single_len t; rw [← Hu.out] at this; omega
          have h1 := Lib.hid (rcompile_calls u true q qc wr hC (by omega))
          have Hs := Lib.hid hs
          have Hsz := Lib.hid (show s.size ≤ 10000 by omega)
          have hRB := Lib.hid (Ran.whole HR HS0.out)
          clear hs hsz hke hkg hC HS0
          go_wp2_with fail
          refine h1.out.mono ?_
          rintro e w3 ⟨p2, c2, rfl, C2, B2⟩
          have h2 := Lib.hid (rpath_calls (compileL u true) s p2 c2 w3 C2 (by have := Hsz.out; omega))
          have B3 := Lib.hid (bt2 hRB.out B2)
          clear C2 B2 h1
          go_wp2_with fail
          refine h2.out.mono ?_
          rintro e w4 ⟨rfl, B4⟩
          go_wp2_with fail
          go_ret
          refine ⟨?_, bt2 B3.out B4⟩
          unfold fitsP
          rw [← Hu.out, ← Hs.out]
          rfl
end Go.Proofs.YtndjgeohkfenfaaGreatDoor.Globs

namespace Go.Proofs.YtndjgeohkfenfaaGreatDoor.Globs
open Go.RowKit Go.Proofs.YtndjgeohkfenfaaGreatDoor Go.Proofs.YtndjgeohkfenfaaGreatDoor.Hp
set_option linter.unusedVariables false
attribute [local go_sem] Oper.semAt_some

def PlIRel (t : List Itm) (w : World) (ob : Nat) (g : Nat) (iv : Value) (wr : World) : Prop :=
  ∃ (i : Nat) (cur : Array Value), i + g = t.length ∧ iv = .int .i64 (i : Int) ∧ cur.size = t.length ∧ (∀ j (h : j < t.length), j < i → cur[j]? = some (.int .u8 t[j].b.toNat)) ∧ Sat wr (pts ob (.cells cur 5 (0, 0)) * keep w) ∧ Ran w wr
def PlainIPost (t : List Itm) (w : World) (e : Ending) (w' : World) : Prop := e = .returned (.string ⟨(t.map (·.b)).toArray⟩) ∧ Below w.heap.size w w'
set_option maxHeartbeats 1000000 in
theorem plainI_calls (t : List Itm) (ao : Option Addr) (cap : Nat) (w : World) (h : ItemsAt w ao t) (hm : t.length ≤ 100000) :
    Calls Tryz.prog 118 #[.slice ao t.length cap] w (PlainIPost t w) := by
  obtain ⟨i0, hi0, hz0, hz1, hz2⟩ := info_parts infoU8
  have hmk := made2 Tryz.prog 102 5 i0 _ Tryz.underlying102 hi0 hz0 t.length (by rw [hz2]; omega) (by omega)
  rw [hz1, Nat.mul_one] at hmk
  have H0 := (Sat.start w).alloc (.cells (madeCells #[.int .u8 0] t.length) 5)
  have hsl : (t.length : Int) ≤ 100000 := by omega
  obtain ⟨ob, hob⟩ : ∃ ob, ob = w.heap.size := ⟨_, rfl⟩
  obtain ⟨h2, h3⟩ := h
  clear hz0 hz1 hz2 hi0
  go_enter Tryz.func118, Tryz.ntmps118
  go_wp2
  rw [← hob]
  rw [← hob] at H0
  have Hob := Lib.hid hob
  clear hob hmk
  go_loopg [11] (t.length) (PlIRel t w ob)
  case atStart => exact ⟨0, _, by omega, rfl, by simp [size_madeCells], fun j _ hj => absurd hj (Nat.not_lt_zero j), H0, Ran.new (Below.refl _ _) _⟩
  case round =>
    clear H0
    obtain ⟨i, cur, hig, rfl, hcs, hcur, HS, HR⟩ := hrel
    have hi0 : (0 : Int) ≤ i := by omega
    by_cases hi : i < t.length
    · have hil : (i : Int) < t.length := by omega
      obtain ⟨tb, o, ra, rc, rfl, htb, c0, c1, c2, c3, -⟩ := h3 i hi
      have c0' : wr.cell? ⟨tb, o + i * 4, none⟩ = some (.int .i64 t[i].kind) := (World.cell?_of_block (HS.right.kept tb htb)).trans c0
      have c1' : wr.cell? ⟨tb, o + i * 4 + 1, none⟩ = some (.int .u8 t[i].b.toNat) := (World.cell?_of_block (HS.right.kept tb htb)).trans c1
      have c2' : wr.cell? ⟨tb, o + i * 4 + 2, none⟩ = some (.bool t[i].neg) := (World.cell?_of_block (HS.right.kept tb htb)).trans c2
      have c3' : wr.cell? ⟨tb, o + i * 4 + 3, none⟩ = some (.slice ra t[i].rs.length rc) := (World.cell?_of_block (HS.right.kept tb htb)).trans c3
      have k0 : wr.cell? ⟨ob, i, none⟩ = some (cur[i]'(by omega)) := by rw [cell_at HS.get, Array.getElem?_eq_getElem]
      have S1 := HS.old (.cells #[.int .i64 t[i].kind, .int .u8 t[i].b.toNat, .bool t[i].neg, .slice ra t[i].rs.length rc] 118)
      have k0' : (wr.alloc (.cells #[.int .i64 t[i].kind, .int .u8 t[i].b.toNat, .bool t[i].neg, .slice ra t[i].rs.length rc] 118)).cell? ⟨ob, i, none⟩ = some (cur[i]'(by omega)) := by rw [cell_at S1.get, Array.getElem?_eq_getElem]
      have kf : ∀ j, (wr.alloc (.cells #[.int .i64 t[i].kind, .int .u8 t[i].b.toNat, .bool t[i].neg, .slice ra t[i].rs.length rc] 118)).frozen? ⟨ob, j, none⟩ = false := free_at S1.get
      have S2 := S1.set (i := i) (.int .u8 t[i].b.toNat)
      have R2 := Ran.set (Ran.new HR (.cells #[.int .i64 t[i].kind, .int .u8 t[i].b.toNat, .bool t[i].neg, .slice ra t[i].rs.length rc] 118)) ⟨ob, i, none⟩ (.int .u8 t[i].b.toNat)
      have hcur2 : ∀ j (h : j < t.length), j < i + 1 → (cur.setIfInBounds i (.int .u8 t[i].b.toNat))[j]? = some (.int .u8 t[j].b.toNat) := fun j hj hj2 => by
        by_cases j1 : j = i
        · subst j1; rw [Array.getElem?_setIfInBounds_self_of_lt (by omega)]
        · rw [Array.getElem?_setIfInBounds_ne (by omega)]; exact hcur j hj (by omega)
      have Hcur2 := Lib.hid hcur2
      have Hig := Lib.hid hig
      have Hcs := Lib.hid hcs
      generalize cur[i]'(by omega) = v0 at k0 k0'
      generalize t[i] = c at *
      clear hcur hcur2 hig HS HR h3 c0 c1 c2 c3
      go_wp2_with fail
      go_roundg (gk - 1)
      case measure => have := Hig.out; omega
      case rel => exact ⟨i + 1, _, by have := Hig.out; omega, by go_num, by simp; exact Hcs.out, Hcur2.out, S2, R2⟩
    · have hge : ¬ ((i : Int) < t.length) := by omega
      obtain rfl : i = t.length := by omega
      have hcv : (convert 102 9 (.slice (some ⟨ob, 0, none⟩) t.length t.length)).run Tryz.prog wr = .ok (.string ⟨(t.map (·.b)).toArray⟩) wr := by
        have := run_convert_bytes_back (P := Tryz.prog) wr 102 9 5 ⟨ob, 0, none⟩ t.length (t.map (·.b)) Tryz.underlying102 Tryz.underlying5 Tryz.underlying9 (fun j hj => by
          rw [List.length_map] at hj
          rw [Addr.add_lit, Nat.zero_add, cell_at HS.get, hcur j hj hj]
          simp)
        rw [List.length_map] at this
        exact this
      clear hcur hig
      go_wp2
      go_ret
      exact ⟨rfl, HR.whole HS⟩
end Go.Proofs.YtndjgeohkfenfaaGreatDoor.Globs

namespace Go.Proofs.YtndjgeohkfenfaaGreatDoor.Globs
open Go.RowKit Go.Proofs.YtndjgeohkfenfaaGreatDoor Go.Proofs.YtndjgeohkfenfaaGreatDoor.Hp
set_option linter.unusedVariables false
attribute [local go_sem] Oper.semAt_some

/-- A pattern in a box. -/
def PatAt (w : World) (pb : Nat) (ao : Option Addr) (cp : Nat) (p : List Itm) : Prop := w.cell? ⟨pb, 0, none⟩ = some (.slice ao p.length cp) ∧ ItemsAt w ao p
theorem PatAt.keep {W w : World} {pb : Nat} {ao : Option Addr} {cp : Nat} {p : List Itm} (h : PatAt W pb ao cp p) (k : Kept W w) : PatAt w pb ao cp p :=
  ⟨(k.cell (World.block_lt_of_cell? W _ h.1) _).trans h.1, h.2.keep k⟩
theorem walk1_calls (p : List Itm) (pb : Nat) (ao : Option Addr) (cp : Nat) (s : ByteArray) (hs : (s.size : Int) ≤ 9223372036854775806) (w : World) (h : PatAt w pb ao cp p) :
    Calls Tryz.prog 121 #[.string s, .pointer (some ⟨pb, 0, none⟩)] w (FPost (!pathB p (bs s)) w) := by
  have h1 := h.1
  have HP := Lib.hid (path_calls p s ao cp w h.2 hs)
  obtain ⟨v, hv⟩ : ∃ v, v = pathB p (bs s) := ⟨_, rfl⟩
  rw [← hv] at HP ⊢
  clear hv h
  go_enter Tryz.func121, Tryz.ntmps121
  go_wp2_with fail
  refine HP.out.mono ?_
  rintro e w1 ⟨rfl, B1⟩
  go_wp2_with fail
  go_ret
  exact ⟨rfl, B1⟩
abbrev strO (p : Option Addr) (cap : Nat) (l : List ByteArray) : Hp := arr 9 1 p l.length cap (l.map Value.string)
theorem strO_cell {w : World} {R : Hp} {b o cap : Nat} {l : List ByteArray} (h : Sat w (strO (some ⟨b, o, none⟩) cap l * R)) (k : Nat) (hk : k < l.length) : w.cell? ⟨b, o + k, none⟩ = some (.string l[k]) := by
  rw [h.arr_cell k (by rw [List.length_map]; exact hk)]
  simp
theorem strO_lt {w : World} {R : Hp} {b o cap : Nat} {l : List ByteArray} (h : Sat w (strO (some ⟨b, o, none⟩) cap l * R)) : b < w.heap.size := by
  obtain ⟨cur, _, _, _, _, _, _, h'⟩ := h.arr_some
  exact h'.lt
def idxS (f : ByteArray → Bool) (l : List ByteArray) : Int := match l.findIdx? f with
  | none => -1
  | some i => (i : Int)
theorem idxS_cases (f : ByteArray → Bool) (l : List ByteArray) : (idxS f l = -1 ∧ ∀ x ∈ l, f x = false) ∨ ∃ j, ∃ hj : j < l.length, idxS f l = (j : Int) ∧ f l[j] = true ∧ ∀ i (hi : i < l.length), i < j → f l[i] = false := by
  unfold idxS
  cases h : l.findIdx? f with
  | none => exact .inl ⟨rfl, fun x hx => by rw [List.findIdx?_eq_none_iff] at h; exact h x hx⟩
  | some j =>
    rw [List.findIdx?_eq_some_iff_getElem] at h
    obtain ⟨hj, h1, h2⟩ := h
    exact .inr ⟨j, hj, rfl, h1, fun i hi hij => by simpa using h2 i hij⟩
/-- A pattern that can be read wherever S is true. -/
def RdP (S : Hp) (pb : Nat) (ao : Option Addr) (cp : Nat) (p : List Itm) : Prop := ∀ W S', Sat W (S * S') → PatAt W pb ao cp p
abbrev wkV (pb : Nat) : Value := .func (.func 121) #[] #[.pointer (some ⟨pb, 0, none⟩)]
def IsRel (n : Nat) (w : World) (g : Nat) (iv : Value) (wr : World) : Prop := ∃ i : Nat, i + g = n ∧ 0 < g ∧ iv = .int .i64 (i : Int) ∧ Below w.heap.size w wr
set_option maxRecDepth 100000 in
set_option maxHeartbeats 4000000 in
theorem indexS_calls (p : List Itm) (pb : Nat) (ao : Option Addr) (cp : Nat) (l : List ByteArray) (hl : ∀ x ∈ l, x.size ≤ 1000000) (hm : l.length ≤ 1000000) (q : Option Addr) (qc : Nat) (w : World) (S : Hp) (hrd : RdP S pb ao cp p) (h : Sat w (strO q qc l * S)) :
    Calls Tryz.prog 152 #[.slice q l.length qc, wkV pb] w fun e w' => e = .returned (.int .i64 (idxS (fun s => !pathB p (bs s)) l)) ∧ Below w.heap.size w w' := by
  have hen : ∀ args w, (callFunc 121 args).run Tryz.prog w = .ok (.enter 121 args) w := enters_of Tryz.func121 (by kernel_rfl) rfl
  have hmm : (l.length : Int) ≤ 1000000 := by omega
  have H := Lib.hid h
  have Hrd := Lib.hid hrd
  have Hl := Lib.hid hl
  clear h hrd hl
  have key : ∀ (n : Nat) (r : Int), n ≤ l.length → (∀ i (hi : i < l.length), i < n → (!pathB p (bs l[i])) = false) → ((n = l.length ∧ r = -1) ∨ ∃ hn : n < l.length, (!pathB p (bs l[n])) = true ∧ r = (n : Int)) →
      Calls Tryz.prog 152 #[.slice q l.length qc, wkV pb] w fun e w' => e = .returned (.int .i64 r) ∧ Below w.heap.size w w' := by
    intro n r hn hno hend
    have Hno := Lib.hid hno
    have Hend := Lib.hid hend
    clear hno hend
    go_enter Tryz.func152, Tryz.ntmps152
    go_wp2_with fail
    go_loopg [5, 8] (n + 1) (fun (g : Nat) (_ : Value) (iv : Value) (wr : World) => IsRel (n + 1) w g iv wr)
    case atStart => exact ⟨0, by omega, by omega, rfl, Below.refl _ _⟩
    case round =>
      obtain ⟨i, hig, hg0, rfl, hbel⟩ := hrel
      have hi0 : (0 : Int) ≤ i := by omega
      have Hig := Lib.hid hig
      have HS := H.out.below hbel
      by_cases hi : i < l.length
      · have hil : (i : Int) < (l.length : Int) := by omega
        obtain ⟨b, o, rfl⟩ := HS.arr_addr (by have := HS.arr_len; omega)
        have x0 := strO_cell HS i hi
        have hsz := Hl.out _ (List.getElem_mem hi)
        have HP := Lib.hid (walk1_calls p pb ao cp l[i] (by omega) wr (Hrd.out wr _ (HS.perm (by ac_rfl))))
        obtain ⟨x, hx⟩ : ∃ x, x = l[i] := ⟨_, rfl⟩
        rw [← hx] at x0 HP
        by_cases hin : i < n
        · have hne := Hno.out i hi hin
          rw [← hx] at hne
          rw [hne] at HP
          clear hne hx hig HS hsz
          go_wp2_with fail
          refine HP.out.mono ?_
          rintro e w2 ⟨rfl, hb2⟩
          go_wp2_with fail
          go_roundg (gk - 1)
          case measure => omega
          case rel => exact ⟨i + 1, by have := Hig.out; omega, by have := Hig.out; omega, rfl, hbel.trans (hb2.mono hbel.size)⟩
        · have hin2 : i = n := by omega
          subst hin2
          rcases Hend.out with ⟨h1, h2⟩ | ⟨hi, h1, h2⟩
          · omega
          · rw [← hx] at h1
            rw [h1] at HP
            subst h2
            clear hig Hend h1 hx HS hsz
            go_wp2_with fail
            refine HP.out.mono ?_
            rintro e w2 ⟨rfl, hb2⟩
            go_wp2_with fail
            go_ret
            exact ⟨rfl, hbel.trans (hb2.mono hbel.size)⟩
      · have hge : ¬ ((i : Int) < (l.length : Int)) := by omega
        have hin2 : i = n := by omega
        subst hin2
        rcases Hend.out with ⟨h1, h2⟩ | ⟨hi, h1, h2⟩
        · subst h2
          clear hig Hend HS
          go_wp2_with fail
          go_ret
          exact ⟨rfl, hbel⟩
        · omega
  rcases idxS_cases (fun s => !pathB p (bs s)) l with ⟨h, hno⟩ | ⟨j, hj, h, h1, h2⟩
  · rw [h]
    exact key l.length (-1) (Nat.le_refl _) (fun i hi _ => hno _ (List.getElem_mem hi)) (.inl ⟨rfl, rfl⟩)
  · rw [h]
    exact key j j (Nat.le_of_lt hj) h2 (.inr ⟨hj, h1, rfl⟩)
end Go.Proofs.YtndjgeohkfenfaaGreatDoor.Globs

namespace Go.Proofs.YtndjgeohkfenfaaGreatDoor.Globs
open Go.RowKit Go.Proofs.YtndjgeohkfenfaaGreatDoor Go.Proofs.YtndjgeohkfenfaaGreatDoor.Hp
set_option linter.unusedVariables false
attribute [local go_sem] Oper.semAt_some

theorem infoSt : (Tryz.prog.info? 9).map (fun i => (i.zero, i.size, i.bytes)) = some (some (.string ⟨#[]⟩), 1, 16) := by kernel_rfl
theorem zeroSt (w : World) : (zeroValue 9).run Tryz.prog w = .ok (.string ⟨#[]⟩) w := by kernel_rfl
theorem slice_fromS (ao : Option Addr) (len cap n : Nat) (hn : n ≤ len) (w : World) :
    (Instr.slice 39 (.slice ao len cap) (some (.int .i64 (n : Int))) none none).run Tryz.prog w = .ok (.slice (tailA ao n cap 1) (len - n) (cap - n)) w := by
  obtain ⟨i0, hi0, hz0, hz1, hz2⟩ := info_parts infoSt
  exact run_slice_from 39 9 i0 1 Tryz.underlying39 hi0 hz1 ao len cap n hn w
def DfRel (p : List Itm) (l : List ByteArray) (q : Option Addr) (qc : Nat) (S : Hp) (w : World) (g : Nat) (iv jv : Value) (wr : World) : Prop :=
  ∃ (j : Nat) (K : List ByteArray), j + g = l.length ∧ jv = .int .i64 (j : Int) ∧ K = (l.take j).filter (fun s => pathB p (bs s)) ∧ K.length + 1 ≤ j ∧ iv = .int .i64 (K.length : Int) ∧ Sat wr (strO q qc (K ++ l.drop K.length) * S) ∧ Ran w wr
def DelPost (p : List Itm) (l : List ByteArray) (q : Option Addr) (qc : Nat) (S : Hp) (e : Ending) (w' : World) : Prop :=
  e = .returned (.slice q (l.filter fun s => pathB p (bs s)).length qc) ∧ Sat w' (strO q qc (l.filter fun s => pathB p (bs s)) * S)
set_option maxRecDepth 100000 in
set_option maxHeartbeats 4000000 in
theorem delete_calls (p : List Itm) (pb : Nat) (ao : Option Addr) (cp : Nat) (l : List ByteArray) (hl : ∀ x ∈ l, x.size ≤ 1000000) (hm : l.length ≤ 1000000) (q : Option Addr) (qc : Nat) (w : World) (S : Hp) (hrd : RdP S pb ao cp p) (h : Sat w (strO q qc l * S)) :
    Calls Tryz.prog 119 #[.slice q l.length qc, wkV pb] w fun e w' => DelPost p l q qc S e w' ∧ Ran w w' := by
  have hen : ∀ args w, (callFunc 121 args).run Tryz.prog w = .ok (.enter 121 args) w := enters_of Tryz.func121 (by kernel_rfl) rfl
  have hmI : (l.length : Int) ≤ 1000000 := by omega
  have HI := indexS_calls p pb ao cp l hl hm q qc w S hrd h
  have H := Lib.hid h
  have Hrd := Lib.hid hrd
  have Hl := Lib.hid hl
  rcases idxS_cases (fun s => !pathB p (bs s)) l with ⟨h0, hno⟩ | ⟨j, hj, h0, h1, h2⟩
  · rw [h0] at HI
    have HI := Lib.hid HI
    have hf : (l.filter fun s => pathB p (bs s)) = l := List.filter_eq_self.2 fun x hx => by simpa using hno x hx
    have Hf := Lib.hid hf
    clear h hrd hl h0 hno hf
    go_enter Tryz.func119, Tryz.ntmps119
    go_wp2_with fail
    refine HI.out.mono ?_
    rintro e w1 ⟨rfl, B1⟩
    go_wp2_with fail
    go_ret
    refine ⟨?_, B1.mono (Nat.zero_le _)⟩
    unfold DelPost
    rw [Hf.out]
    exact ⟨rfl, H.out.below B1⟩
  · rw [h0] at HI
    have HI := Lib.hid HI
    have hjI : (j : Int) < (l.length : Int) := by omega
    have hjn : ¬ (j : Int) = -1 := by omega
    have hj0 : (0 : Int) ≤ (j : Int) := by omega
    have hst : l.take j = (l.take (j + 1)).filter (fun s => pathB p (bs s)) := by
      rw [List.take_succ_eq_append_getElem hj, List.filter_append]
      have e1 : (l.take j).filter (fun s => pathB p (bs s)) = l.take j := List.filter_eq_self.2 fun x hx => by
        obtain ⟨i, hi, rfl⟩ := List.getElem_of_mem hx
        rw [List.length_take] at hi
        rw [List.getElem_take]
        simpa using h2 i (by omega) (by omega)
      have e2 : [l[j]].filter (fun s => pathB p (bs s)) = [] := by
        rw [List.filter_cons, if_neg (by simpa using h1)]; rfl
      rw [e1, e2, List.append_nil]
    have hlc : l.length ≤ qc := (h.arr_len).2.1
    obtain ⟨b, o, rfl⟩ := h.arr_addr (by omega)
    have hlcI : (l.length : Int) ≤ (qc : Int) := by omega
    have Hst := Lib.hid hst
    clear h hrd hl h0 h1 h2 hst
    go_enter Tryz.func119, Tryz.ntmps119
    go_wp2_with fail
    refine HI.out.mono ?_
    rintro e w1 ⟨rfl, B1⟩
    have S1 := H.out.below B1
    go_wp2_with fail
    go_loopg [5, 6] (l.length - j - 1) (fun (g : Nat) (iv jv : Value) (wr : World) => DfRel p l (some ⟨b, o, none⟩) qc S w g iv jv wr)
    case atStart => exact ⟨j + 1, l.take j, by omega, by go_num, Hst.out, by rw [List.length_take]; omega, by rw [List.length_take, Nat.min_eq_left (by omega)], by rw [List.length_take, Nat.min_eq_left (by omega), List.take_append_drop]; exact S1, B1.mono (Nat.zero_le _)⟩
    case round =>
      clear S1 B1
      obtain ⟨k, K, hkg, rfl, hK, hKk, rfl, HS, HR⟩ := hrel
      have hAl : (K ++ l.drop K.length).length = l.length := by rw [List.length_append, List.length_drop]; omega
      have hk0 : (0 : Int) ≤ (k : Int) := by omega
      have Hkg := Lib.hid hkg
      by_cases hk : k < l.length
      · have hkI : (k : Int) < (l.length : Int) := by omega
        have x0 := strO_cell HS k (by omega)
        have hgk : (K ++ l.drop K.length)[k]'(by omega) = l[k] := by
          rw [List.getElem_append_right (by omega), List.getElem_drop]
          congr 1; omega
        rw [hgk] at x0
        have hsz := Hl.out _ (List.getElem_mem hk)
        have HP := Lib.hid (walk1_calls p pb ao cp l[k] (by omega) wr (Hrd.out wr _ (HS.perm (by ac_rfl))))
        obtain ⟨x, hx⟩ : ∃ x, x = l[k] := ⟨_, rfl⟩
        have hstep : (l.take (k + 1)).filter (fun s => pathB p (bs s)) = K ++ if pathB p (bs x) = true then [x] else [] := by
          rw [List.take_succ_eq_append_getElem hk, List.filter_append, ← hK, List.filter_cons, hx]
          split <;> rfl
        rw [← hx] at x0 HP
        obtain ⟨v, hv⟩ : ∃ v, v = pathB p (bs x) := ⟨_, rfl⟩
        rw [← hv] at HP hstep
        have HS0 := Lib.hid HS
        have Hstep := Lib.hid hstep
        have HAl := Lib.hid hAl
        have HKk := Lib.hid hKk
        have hlI : (K.length : Int) < (l.length : Int) := by omega
        have hl0 : (0 : Int) ≤ (K.length : Int) := by omega
        obtain ⟨i, hi⟩ : ∃ i, i = K.length := ⟨_, rfl⟩
        rw [← hi] at hlI hl0 ⊢
        have Hi := Lib.hid hi
        clear hv hx hkg hK HS hstep hgk hAl hKk hi hsz
        cases v with
        | false =>
          go_wp2_with fail
          refine HP.out.mono ?_
          rintro e w2 ⟨rfl, B2⟩
          have S2 := Lib.hid (HS0.out.below B2)
          have R2 := Below.trans HR (B2.mono (Nat.zero_le _))
          clear B2
          go_wp2_with fail
          go_roundg (gk - 1)
          case measure => have := Hkg.out; omega
          case rel => exact ⟨k + 1, K, by have := Hkg.out; omega, by go_num, by have := Hstep.out; simp at this; exact this.symm, by have := HKk.out; omega, by rw [Hi.out], S2.out, R2⟩
        | true =>
          go_wp2_with fail
          refine HP.out.mono ?_
          rintro e w2 ⟨rfl, B2⟩
          have S2 := HS0.out.below B2
          have R2 := Below.trans HR (B2.mono (Nat.zero_le _))
          have hz := S2.arr_free
          obtain ⟨u0, hu0⟩ : ∃ u, w2.cell? ⟨b, o + i, none⟩ = some u := ⟨_, strO_cell S2 i (by have := HAl.out; have := Hi.out; omega)⟩
          have S3 := S2.arr_set i (.string x)
          have hs : ((K ++ l.drop K.length).map Value.string).set i (.string x) = ((K ++ [x]) ++ l.drop (K ++ [x]).length).map Value.string := by
            have hd : K.length < l.length := by have := Hi.out; omega
            rw [← List.map_set, Hi.out, List.set_append_right _ _ (Nat.le_refl _), Nat.sub_self, List.drop_eq_getElem_cons hd, List.set_cons_zero, List.append_assoc, List.length_append]
            rfl
          rw [hs] at S3
          have hln : (K ++ l.drop K.length).length = ((K ++ [x]) ++ l.drop (K ++ [x]).length).length := by
            rw [HAl.out, List.length_append, List.length_drop, List.length_append]
            have := Hi.out
            simp
            omega
          rw [hln] at S3
          have S3 := Lib.hid S3
          have R3 := Ran.set R2 ⟨b, o + i, none⟩ (.string x)
          obtain ⟨w3, hw3⟩ : ∃ w3, w3 = w2.setCell ⟨b, o + i, none⟩ (.string x) := ⟨_, rfl⟩
          rw [← hw3] at S3 R3
          clear B2 S2 hs hln R2
          go_wp2_with fail
          rw [← hw3]
          clear hw3
          go_roundg (gk - 1)
          case measure => have := Hkg.out; omega
          case rel => exact ⟨k + 1, K ++ [x], by have := Hkg.out; omega, by go_num, by have := Hstep.out; simp at this; exact this.symm, by rw [List.length_append]; have := HKk.out; show K.length + 1 + 1 ≤ _; omega, by rw [List.length_append, ← Hi.out]; rfl, S3.out, R3⟩
      · have hge : ¬ (k : Int) < (l.length : Int) := by omega
        have hke : k = l.length := by omega
        rw [hke, List.take_length] at hK
        have hcl := HS.arr_len
        obtain ⟨cur, g1, g2, g3, g4, g5, g6, g7⟩ := HS.arr_some
        have hsz := g4
        have hpt := g7.get
        dsimp only at hsz hpt
        obtain ⟨n3, hn3⟩ : ∃ n3, n3 + K.length = l.length := ⟨l.length - K.length, by omega⟩
        have hn30 : 0 < n3 := by omega
        obtain ⟨i, hi⟩ : ∃ i, i = K.length := ⟨_, rfl⟩
        have hclr : ∀ ty, (Builtin.clear_ #[39] ty #[.slice (some ⟨b, o + i * 1, none⟩) n3 (qc - i)]).run Tryz.prog wr = .ok (.tuple #[]) (wr.setCells b (o + i * 1) (List.replicate n3 (.string ⟨#[]⟩))) := fun ty =>
          Lib.run_clear_slice wr 39 9 ty (.string ⟨#[]⟩) Tryz.underlying39 zeroSt rfl rfl b (o + i * 1) n3 (qc - i) hn30 (fun q hq => by rw [cell_at hpt, Array.getElem?_eq_getElem (by omega)]; rfl) (fun q _ => free_at hpt _)
        obtain ⟨S7, R7⟩ := arr_beyond HS K.length (by omega) (List.replicate n3 (.string ⟨#[]⟩)) (by rw [List.length_replicate]; omega)
        rw [Nat.mul_one, List.map_append, List.take_left' (by rw [List.length_map]), ← hi] at S7
        rw [Nat.mul_one, ← hi] at R7
        rw [Nat.mul_one] at hclr
        obtain ⟨w7, hw7⟩ : ∃ w7, w7 = wr.setCells b (o + i) (List.replicate n3 (.string ⟨#[]⟩)) := ⟨_, rfl⟩
        rw [← hw7] at S7 R7 hclr
        have S7 := Lib.hid S7
        have R7 := Lib.hid (Below.trans HR R7)
        have hlI : (i : Int) < (l.length : Int) := by omega
        have hl0 : (0 : Int) ≤ (i : Int) := by omega
        have hta2 : tailA (some ⟨b, o, none⟩) i qc 1 = some ⟨b, o + i, none⟩ := by unfold tailA; rw [if_neg (by omega)]; show some (Addr.add _ _) = _; rw [Addr.add_lit, Nat.mul_one]
        have hsl2 : ∀ W, (Instr.slice 39 (.slice (some ⟨b, o, none⟩) l.length qc) (some (.int .i64 (i : Int))) none none).run Tryz.prog W = .ok (.slice (some ⟨b, o + i, none⟩) n3 (qc - i)) W := fun W => by
          rw [slice_fromS (some ⟨b, o, none⟩) l.length qc i (by omega) W, hta2, show l.length - i = n3 by omega]
        have hic : (i : Int) ≤ (qc : Int) := by omega
        rw [← hi]
        have HK := Lib.hid hK
        have Hi := Lib.hid hi
        clear hK hi HS hcl g1 g2 g3 g4 g5 g6 g7 hsz hpt hw7 hta2 hke hkg hKk hAl hn3 hn30 HR
        go_wp2_with fail
        go_ret
        refine ⟨?_, R7.out⟩
        unfold DelPost
        rw [← HK.out, ← Hi.out]
        refine ⟨rfl, ?_⟩
        unfold strO
        rw [← Hi.out]
        exact S7.out
end Go.Proofs.YtndjgeohkfenfaaGreatDoor.Globs

namespace Go.Proofs.YtndjgeohkfenfaaGreatDoor.Globs
open Go.RowKit Go.Proofs.YtndjgeohkfenfaaGreatDoor Go.Proofs.YtndjgeohkfenfaaGreatDoor.Hp
set_option linter.unusedVariables false
attribute [local go_sem] Oper.semAt_some

def spP (t : List Ch) : Bool := specialB (compileL t true)
theorem exp1_calls (t : List Ch) (ao : Option Addr) (cap : Nat) (w : World) (h : CharsAt w ao cap t) (hm : t.length ≤ 100000) :
    Calls Tryz.prog 44 #[.slice ao t.length cap] w (FPost (spP t) w) := by
  have h1 := Lib.hid (compile_calls t true ao cap w h hm)
  clear h
  go_enter Tryz.func44, Tryz.ntmps44
  go_wp2_with fail
  refine h1.out.mono ?_
  rintro e w1 ⟨p1, c1, rfl, C1, B1⟩
  have h2 := Lib.hid (special_calls (compileL t true) p1 c1 w1 C1)
  go_wp2_with fail
  refine h2.out.mono ?_
  rintro e w2 ⟨rfl, B2⟩
  go_wp2_with fail
  go_ret
  exact ⟨rfl, bt2 B1 B2⟩
def idxR (rs : List Rw) : Int := match rs.findIdx? (fun r => spP r.L) with
  | none => -1
  | some i => (i : Int)
theorem idxR_cases (rs : List Rw) : (idxR rs = -1 ∧ ∀ x ∈ rs, spP x.L = false) ∨ ∃ j, ∃ hj : j < rs.length, idxR rs = (j : Int) ∧ spP rs[j].L = true ∧ ∀ i (hi : i < rs.length), i < j → spP rs[i].L = false := by
  unfold idxR
  cases h : rs.findIdx? (fun r => spP r.L) with
  | none => exact .inl ⟨rfl, fun x hx => by rw [List.findIdx?_eq_none_iff] at h; exact h x hx⟩
  | some j =>
    rw [List.findIdx?_eq_some_iff_getElem] at h
    obtain ⟨hj, h1, h2⟩ := h
    exact .inr ⟨j, hj, rfl, h1, fun i hi hij => by simpa using h2 i hij⟩
set_option maxRecDepth 100000 in
set_option maxHeartbeats 4000000 in
theorem indexR_calls (rs : List Rw) (hl : ∀ x ∈ rs, x.L.length ≤ 100000) (hm : rs.length ≤ 1000000) (lo : Option Addr) (lc : Nat) (w : World) (h : RowsAt w lo rs) :
    Calls Tryz.prog 85 #[.slice lo rs.length lc, .func (.func 44) #[] #[]] w fun e w' => e = .returned (.int .i64 (idxR rs)) ∧ Below w.heap.size w w' := by
  have hen : ∀ args w, (callFunc 44 args).run Tryz.prog w = .ok (.enter 44 args) w := enters_of Tryz.func44 (by kernel_rfl) rfl
  have hmm : (rs.length : Int) ≤ 1000000 := by omega
  have H := Lib.hid h
  have Hl := Lib.hid hl
  clear h hl
  have key : ∀ (n : Nat) (r : Int), n ≤ rs.length → (∀ i (hi : i < rs.length), i < n → spP rs[i].L = false) → ((n = rs.length ∧ r = -1) ∨ ∃ hn : n < rs.length, spP rs[n].L = true ∧ r = (n : Int)) →
      Calls Tryz.prog 85 #[.slice lo rs.length lc, .func (.func 44) #[] #[]] w fun e w' => e = .returned (.int .i64 r) ∧ Below w.heap.size w w' := by
    intro n r hn hno hend
    have Hno := Lib.hid hno
    have Hend := Lib.hid hend
    clear hno hend
    go_enter Tryz.func85, Tryz.ntmps85
    go_wp2_with fail
    go_loopg [5, 8] (n + 1) (fun (g : Nat) (_ : Value) (iv : Value) (wr : World) => IsRel (n + 1) w g iv wr)
    case atStart => exact ⟨0, by omega, by omega, rfl, Below.refl _ _⟩
    case round =>
      obtain ⟨i, hig, hg0, rfl, hbel⟩ := hrel
      have hi0 : (0 : Int) ≤ i := by omega
      have Hig := Lib.hid hig
      by_cases hi : i < rs.length
      · have hil : (i : Int) < (rs.length : Int) := by omega
        obtain ⟨b, o, rfl, x0, hC⟩ := (H.out.keep (Kept.below hbel)) i hi
        have HP := exp1_calls rs[i].L rs[i].p rs[i].cap wr hC (Hl.out _ (List.getElem_mem hi))
        obtain ⟨x, hx⟩ : ∃ x, x = rs[i] := ⟨_, rfl⟩
        rw [← hx] at x0 HP
        unfold rwV at x0
        obtain ⟨xp, xc, xL⟩ := x
        dsimp only at x0 HP
        have HP := Lib.hid HP
        by_cases hin : i < n
        · have hne := Hno.out i hi hin
          rw [← hx] at hne
          rw [hne] at HP
          clear hne hx hig hC
          go_wp2_with fail
          refine HP.out.mono ?_
          rintro e w2 ⟨rfl, hb2⟩
          go_wp2_with fail
          go_roundg (gk - 1)
          case measure => omega
          case rel => exact ⟨i + 1, by have := Hig.out; omega, by have := Hig.out; omega, rfl, hbel.trans (hb2.mono hbel.size)⟩
        · have hin2 : i = n := by omega
          subst hin2
          rcases Hend.out with ⟨h1, h2⟩ | ⟨hi, h1, h2⟩
          · omega
          · rw [← hx] at h1
            rw [h1] at HP
            subst h2
            clear hig Hend h1 hx hC
            go_wp2_with fail
            refine HP.out.mono ?_
            rintro e w2 ⟨rfl, hb2⟩
            go_wp2_with fail
            go_ret
            exact ⟨rfl, hbel.trans (hb2.mono hbel.size)⟩
      · have hge : ¬ ((i : Int) < (rs.length : Int)) := by omega
        have hin2 : i = n := by omega
        subst hin2
        rcases Hend.out with ⟨h1, h2⟩ | ⟨hi, h1, h2⟩
        · subst h2
          clear hig Hend
          go_wp2_with fail
          go_ret
          exact ⟨rfl, hbel⟩
        · omega
  rcases idxR_cases rs with ⟨h, hno⟩ | ⟨j, hj, h, h1, h2⟩
  · rw [h]
    exact key rs.length (-1) (Nat.le_refl _) (fun i hi _ => hno _ (List.getElem_mem hi)) (.inl ⟨rfl, rfl⟩)
  · rw [h]
    exact key j j (Nat.le_of_lt hj) h2 (.inr ⟨hj, h1, rfl⟩)
theorem idxR_any (rs : List Rw) : decide (0 ≤ idxR rs) = (rs.map Rw.L).any spP := by
  rw [List.any_map]
  rcases idxR_cases rs with ⟨h, hno⟩ | ⟨j, hj, h, h1, h2⟩
  · rw [h]
    have : rs.any (spP ∘ Rw.L) = false := by
      rw [List.any_eq_false]
      exact fun x hx => by show ¬ spP x.L = true; rw [hno x hx]; decide
    rw [this]; rfl
  · rw [h]
    have : rs.any (spP ∘ Rw.L) = true := List.any_eq_true.2 ⟨_, List.getElem_mem hj, h1⟩
    rw [this]
    exact decide_eq_true (by omega)
set_option maxHeartbeats 1000000 in
theorem containsR_calls (rs : List Rw) (hl : ∀ x ∈ rs, x.L.length ≤ 100000) (hm : rs.length ≤ 1000000) (lo : Option Addr) (lc : Nat) (w : World) (h : RowsAt w lo rs) :
    Calls Tryz.prog 43 #[.slice lo rs.length lc, .func (.func 44) #[] #[]] w (FPost ((rs.map Rw.L).any spP) w) := by
  have hc := Lib.hid (indexR_calls rs hl hm lo lc w h)
  have ha := idxR_any rs
  obtain ⟨r, hr⟩ : ∃ r, r = idxR rs := ⟨_, rfl⟩
  obtain ⟨v, hv⟩ : ∃ v, v = (rs.map Rw.L).any spP := ⟨_, rfl⟩
  rw [← hr] at hc ha
  rw [← hv] at ha ⊢
  clear h hr hv hl
  cases v with
  | true =>
    have h0 : (0 : Int) ≤ r := by simpa using ha
    clear ha
    go_enter Tryz.func43, Tryz.ntmps43
    go_wp2_with fail
    refine hc.out.mono ?_
    rintro e w' ⟨rfl, hb⟩
    go_wp2_with fail
    go_ret
    exact ⟨rfl, hb⟩
  | false =>
    have h0 : ¬ (0 : Int) ≤ r := by simpa using ha
    clear ha
    go_enter Tryz.func43, Tryz.ntmps43
    go_wp2_with fail
    refine hc.out.mono ?_
    rintro e w' ⟨rfl, hb⟩
    go_wp2_with fail
    go_ret
    exact ⟨congrArg (fun x => Ending.returned (.bool x)) (decide_eq_false (by omega)), hb⟩
end Go.Proofs.YtndjgeohkfenfaaGreatDoor.Globs

