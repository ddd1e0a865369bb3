/- HandlesPlays, part 13 of 26: the texts GlRc GlW GlR GlS, joined by a program. -/
import Derived.Test.YtndjgeohkfenfaaGreatDoorPq12
import Derived.Test.YtndjgeohkfenfaaGreatDoorPq1
import Derived.Test.YtndjgeohkfenfaaGreatDoorPq9
namespace Go.Proofs.YtndjgeohkfenfaaGreatDoor.Globs
open Go.RowKit Go.Proofs.YtndjgeohkfenfaaGreatDoor Go.Proofs.YtndjgeohkfenfaaGreatDoor.Hp
set_option linter.unusedVariables false

def RCRel (t : List Ch) (path : Bool) (w : World) (g : Nat) (ov iv gv tov : Value) (wr : World) : Prop :=
  ∃ (i : Nat) (L : List ItS) (p : Option Addr) (cap : Nat), ov = .slice p L.length cap ∧ iv = .int .i64 (i : Int) ∧ i ≤ t.length ∧ t.length ≤ i + g ∧ L.length ≤ i ∧ compileL t path = compF path g (t.drop i) (L.map (·.1)) ∧
    (∀ x ∈ L, RgOk wr p x) ∧ Sat wr (arr 111 4 p L.length cap (itCells L) * keep w) ∧ Ran w wr
theorem compF_step (path : Bool) (f : Nat) (t : List Ch) (i : Nat) (out : List Itm) (hi : i < t.length) : compF path (f + 1) (t.drop i) out = compF path f (t.drop (i + (itemL (t.drop i) path).2)) (addI out (itemL (t.drop i) path).1) := by
  show (if t.drop i = [] then _ else _) = _
  rw [if_neg (fun e => by have := congrArg List.length e; rw [List.length_drop] at this; simp at this; omega), List.drop_drop]
set_option maxRecDepth 100000 in
set_option maxHeartbeats 4000000 in
theorem rcompile_calls (t : List Ch) (path : Bool) (ao : Option Addr) (cap0 : Nat) (w : World) (h : CharsAt w ao cap0 t) (hm : t.length ≤ 100000) :
    Calls Tryz.prog 35 #[.slice ao t.length cap0, .bool path] w (CompPost t path w) := by
  go_enter Tryz.func35, Tryz.ntmps35
  go_wp2_with fail
  go_loopg [5, 6, 7, 8] (t.length) (RCRel t path w)
  case atStart => exact ⟨0, [], none, 0, rfl, rfl, Nat.zero_le _, by omega, by simp, rfl, fun x hx => by simp at hx, (Sat.start w).nil_arr _ _, Below.refl _ _⟩
  case round =>
    obtain ⟨i, L, p, cap, rfl, rfl, hil, hug, hLt, hcomp, hrg, HS, HR⟩ := hrel
    have hK : Kept w wr := ⟨HR.size, HS.right.kept⟩
    have hW := h.keep hK
    have hi0 : (0 : Int) ≤ i := by omega
    by_cases hl : i < t.length
    · have hl' : (i : Int) < t.length := by omega
      obtain ⟨f, rfl⟩ : ∃ f, gk = f + 1 := ⟨gk - 1, by omega⟩
      rw [compF_step path f t i _ hl] at hcomp
      obtain ⟨tb, tof, rfl, htb, c0, c1⟩ := hW.2.2 i hl
      have hg0 : (t.drop i).getD 0 default = t[i] := by rw [List.getD_eq_getElem?_getD, List.getElem?_drop, Nat.add_zero, List.getElem?_eq_getElem hl]; rfl
      have hone : ∀ b, bareL (t.drop i) [b] = (t[i].b == b && !t[i].q) := fun b => bareL_one hl
      obtain ⟨c, hc⟩ : ∃ c, c = t[i] := ⟨_, rfl⟩
      rw [← hc] at hg0 c0 c1 hone
      obtain ⟨a, q⟩ := c
      simp only at c0 c1 hone
      have hL9 : L.length ≤ 1000000000 := by omega
      have Hcomp := Lib.hid hcomp
      have Hg0 := Lib.hid hg0
      have Hrg := Lib.hid hrg
      have Hone := Lib.hid hone
      have hIS : ∀ (b : UInt8) (bz : Int), bz = (b.toNat : Int) → ∀ v : Bool, (a == b && !q) = v → ∀ W, CharsAt W (some ⟨tb, tof, none⟩) cap0 t → Calls Tryz.prog 62 #[.slice (some ⟨tb, tof, none⟩) t.length cap0, .int .i64 (i : Int), .int .u8 bz] W (BPost v W) := fun b bz hb v hv W hc => is_at t i (i : Int) rfl b bz hb v ((hone b).trans hv) _ cap0 W hc hm
      have HIS := Lib.hid hIS
      clear hcomp hg0 hrg hone hIS c1 hc
      by_cases h42 : a = 42 ∧ q = false
      · obtain ⟨rfl, rfl⟩ := h42
        have hit : itemL (t.drop i) path = (⟨3, 0, false, []⟩, 1) := by unfold itemL; rw [Hg0.out]; rfl
        have HIt := Lib.hid hit
        clear hit
        go_wp2_with fail
        refine (HIS.out 42 42 rfl true (by rfl) _ hW).mono ?_
        rintro e w' ⟨rfl, rfl⟩
        by_cases hL0 : L = []
        · subst hL0
          have HAdd : Hid (addI (([] : List ItS).map (·.1)) ⟨3, 0, false, ([] : List Rg)⟩ = ([] : List ItS).map (·.1) ++ [⟨3, 0, false, ([] : List Rg)⟩]) := Lib.hid rfl
          have Hnew : Hid (∀ W, Kept wr W → RgOk W p (⟨3, 0, false, ([] : List Rg)⟩, none, 0)) := Lib.hid fun W _ => ⟨rgAt_nil _ _, fun h => absurd rfl h⟩
          have HSB := HS.old (rgitO 3 0 false (.slice none 0 0))
          have R6 := Ran.new HR (rgitO 3 0 false (.slice none 0 0))
          have K6 := (Kept.refl wr).trans (kept_alloc wr (rgitO 3 0 false (.slice none 0 0)))
          clear HS HR
          go_wp2_with (at_builtin; go_loud (refine appRit rfl _ _ rfl p ([] : List ItS).length cap _ rfl _ rfl HSB (⟨3, 0, false, ([] : List Rg)⟩, none, 0) (by rw [block_new (by first | rfl | (simp; done) | simp [World.setCell])]; rfl) hL9 ?_; intro p' cap' w6 HS7 HR7 HM7; clear HSB))
          go_roundg f
          case measure => omega
          case rel =>
            refine ⟨i + 1, ([] : List ItS) ++ [(⟨3, 0, false, ([] : List Rg)⟩, none, 0)], p', cap', by simp, by go_num, by omega, by omega, by rw [List.length_append, List.length_singleton]; omega, ?_, ?_, ?_, R6.trans HR7⟩
            · rw [Hcomp.out, HIt.out, List.map_append, HAdd.out]; rfl
            · intro x hx
              rcases List.mem_append.1 hx with hx | hx
              · exact ((Hrg.out x hx).keep K6).moved HM7 HR7.size
              · simp only [List.mem_singleton] at hx
                subst hx
                exact (Hnew.out _ K6).moved HM7 HR7.size
            · rw [itCells_snoc, List.length_append, List.length_singleton]
              exact HS7
        · have hLp : 0 < L.length := List.length_pos_iff.2 hL0
          obtain ⟨pb, po, rfl⟩ := HS.arr_addr (by have := HS.arr_len; omega)
          obtain ⟨y, hy⟩ : ∃ y, y = L[L.length - 1] := ⟨_, rfl⟩
          have hpc : wr.cell? ⟨pb, po + (L.length - 1) * 4, none⟩ = some (.int .i64 y.1.kind) := by
            have g0 := (itCells_get L (L.length - 1) (by omega)).1
            have hll := itCells_length L
            rw [HS.arr_cell ((L.length - 1) * 4) (by omega)]
            rw [List.getElem?_eq_getElem (by omega)] at g0
            rw [g0, hy]
          have hsl : starLast (L.map (·.1)) = (y.1.kind == 3) := by
            unfold starLast
            rw [List.getLast?_eq_getElem?, List.length_map, List.getElem?_map, List.getElem?_eq_getElem (by omega), ← hy]; rfl
          have hp0 : (0 : Int) < L.length := by omega
          have hp1 : (1 : Int) ≤ L.length := by omega
          have hp2 : (0 : Int) ≤ (L.length : Int) - 1 := by omega
          have hp3 : (L.length : Int) - 1 < L.length := by omega
          have hp4 : ((L.length : Int) - 1).toNat = L.length - 1 := by omega
          have hp5 : ((L.length : Int) == 0) = false := by rw [beq_eq_false_iff_ne]; omega
          have Hy := Lib.hid hy
          clear hy hL0
          by_cases hy3 : y.1.kind = 3
          · have hyb : (y.1.kind == 3) = true := by rw [beq_iff_eq]; exact hy3
            have HAdd : Hid (addI (L.map (·.1)) ⟨3, 0, false, []⟩ = L.map (·.1)) := Lib.hid (by unfold addI; rw [if_pos ⟨rfl, hsl.trans hyb⟩])
            clear hy3 hsl
            go_wp2_with fail
            go_roundg f
            case measure => omega
            case rel =>
              exact ⟨i + 1, L, some ⟨pb, po, none⟩, cap, rfl, by go_num, by omega, by omega, by omega, by rw [Hcomp.out, HIt.out, HAdd.out], fun x hx => Hrg.out x hx, HS, HR⟩
          · have hyb : (y.1.kind == 3) = false := by rw [beq_eq_false_iff_ne]; exact hy3
            have HAdd : Hid (addI (L.map (·.1)) ⟨3, 0, false, ([] : List Rg)⟩ = L.map (·.1) ++ [⟨3, 0, false, ([] : List Rg)⟩]) := Lib.hid (by unfold addI; rw [if_neg (fun hh => by rw [hsl, hyb] at hh; exact absurd hh.2 (by simp))])
            clear hy3 hsl
            have Hnew : Hid (∀ W, Kept wr W → RgOk W (some ⟨pb, po, none⟩) (⟨3, 0, false, ([] : List Rg)⟩, none, 0)) := Lib.hid fun W _ => ⟨rgAt_nil _ _, fun h => absurd rfl h⟩
            have HSB := HS.old (rgitO 3 0 false (.slice none 0 0))
            have R6 := Ran.new HR (rgitO 3 0 false (.slice none 0 0))
            have K6 := (Kept.refl wr).trans (kept_alloc wr (rgitO 3 0 false (.slice none 0 0)))
            clear HS HR
            go_wp2_with (at_builtin; go_loud (refine appRit rfl _ _ rfl (some ⟨pb, po, none⟩) L.length cap _ rfl _ rfl HSB (⟨3, 0, false, ([] : List Rg)⟩, none, 0) (by rw [block_new (by first | rfl | (simp; done) | simp [World.setCell])]; rfl) hL9 ?_; intro p' cap' w6 HS7 HR7 HM7; clear HSB))
            go_roundg f
            case measure => omega
            case rel =>
              refine ⟨i + 1, L ++ [(⟨3, 0, false, ([] : List Rg)⟩, none, 0)], p', cap', by simp, by go_num, by omega, by omega, by rw [List.length_append, List.length_singleton]; omega, ?_, ?_, ?_, R6.trans HR7⟩
              · rw [Hcomp.out, HIt.out, List.map_append, HAdd.out]; rfl
              · intro x hx
                rcases List.mem_append.1 hx with hx | hx
                · exact ((Hrg.out x hx).keep K6).moved HM7 HR7.size
                · simp only [List.mem_singleton] at hx
                  subst hx
                  exact (Hnew.out _ K6).moved HM7 HR7.size
              · rw [itCells_snoc, List.length_append, List.length_singleton]
                exact HS7
      have H42 : Hid ((a == 42 && !q) = false) := Lib.hid (by cases q <;> simp at h42 ⊢; exact h42)
      clear h42
      by_cases h63 : a = 63 ∧ q = false
      · obtain ⟨rfl, rfl⟩ := h63
        have hit : itemL (t.drop i) path = (⟨2, 0, false, []⟩, 1) := by unfold itemL; rw [Hg0.out]; rfl
        have HIt := Lib.hid hit
        clear hit
        have HAdd : Hid (addI (L.map (·.1)) ⟨2, 0, false, ([] : List Rg)⟩ = L.map (·.1) ++ [⟨2, 0, false, ([] : List Rg)⟩]) := Lib.hid (addI_no (show (2 : Int) ≠ 3 by decide))
        go_wp2_with fail
        refine (HIS.out 42 42 rfl false H42.out _ hW).mono ?_
        rintro e w' ⟨rfl, rfl⟩
        go_wp2_with fail
        refine (HIS.out 63 63 rfl true (by rfl) _ hW).mono ?_
        rintro e w' ⟨rfl, rfl⟩
        have Hnew : Hid (∀ W, Kept wr W → RgOk W p (⟨2, 0, false, ([] : List Rg)⟩, none, 0)) := Lib.hid fun W _ => ⟨rgAt_nil _ _, fun h => absurd rfl h⟩
        have HSB := HS.old (rgitO 2 0 false (.slice none 0 0))
        have R6 := Ran.new HR (rgitO 2 0 false (.slice none 0 0))
        have K6 := (Kept.refl wr).trans (kept_alloc wr (rgitO 2 0 false (.slice none 0 0)))
        clear HS HR
        go_wp2_with (at_builtin; go_loud (refine appRit rfl _ _ rfl p L.length cap _ rfl _ rfl HSB (⟨2, 0, false, ([] : List Rg)⟩, none, 0) (by rw [block_new (by first | rfl | (simp; done) | simp [World.setCell])]; rfl) hL9 ?_; intro p' cap' w6 HS7 HR7 HM7; clear HSB))
        go_roundg f
        case measure => omega
        case rel =>
          refine ⟨i + 1, L ++ [(⟨2, 0, false, ([] : List Rg)⟩, none, 0)], p', cap', by simp, by go_num, by omega, by omega, by rw [List.length_append, List.length_singleton]; omega, ?_, ?_, ?_, R6.trans HR7⟩
          · rw [Hcomp.out, HIt.out, List.map_append, HAdd.out]; rfl
          · intro x hx
            rcases List.mem_append.1 hx with hx | hx
            · exact ((Hrg.out x hx).keep K6).moved HM7 HR7.size
            · simp only [List.mem_singleton] at hx
              subst hx
              exact (Hnew.out _ K6).moved HM7 HR7.size
          · rw [itCells_snoc, List.length_append, List.length_singleton]
            exact HS7
      have H63 : Hid ((a == 63 && !q) = false) := Lib.hid (by cases q <;> simp at h63 ⊢; exact h63)
      clear h63
      by_cases h91 : a = 91 ∧ q = false
      · obtain ⟨rfl, rfl⟩ := h91
        have H92 : Hid (((91 : UInt8) == 92 && !false) = false) := Lib.hid (by decide)
        have hdd : (t.drop i).drop 1 = t.drop (i + 1) := by rw [List.drop_drop]
        have hit : itemL (t.drop i) path = (match groupL (t.drop (i + 1)) path with
          | some (g, k) => (g, k + 1)
          | none => (⟨1, 91, false, []⟩, 1)) := by
          unfold itemL; rw [Hg0.out, hdd]; rfl
        have Hit := Lib.hid hit
        have HGP := Lib.hid (rgroup_calls t i path _ cap0 wr hW hl hm)
        have hpl : ∀ a, p = some a → a.block < wr.heap.size := fun a ha => by subst ha; obtain ⟨cur, _, _, _, _, _, _, hh⟩ := HS.arr_some; exact hh.lt
        have Hpl := Lib.hid hpl
        clear hit hdd hpl
        go_wp2_with fail
        refine (HIS.out 42 42 rfl false H42.out _ hW).mono ?_
        rintro e w' ⟨rfl, rfl⟩
        go_wp2_with fail
        refine (HIS.out 63 63 rfl false H63.out _ hW).mono ?_
        rintro e w' ⟨rfl, rfl⟩
        go_wp2_with fail
        refine (HIS.out 91 91 rfl true (by rfl) _ hW).mono ?_
        rintro e w' ⟨rfl, rfl⟩
        go_wp2_with fail
        refine HGP.out.mono ?_
        rintro e w2 ⟨⟨g, k, ra, rc, hgl, rfl, hrg2, hfr⟩ | ⟨hgl, rfl⟩, hb2⟩
        · have HIt : Hid (itemL (t.drop i) path = (g, k + 1)) := Lib.hid (by rw [Hit.out, hgl])
          have hn := itemL_n path (t := t.drop i) (by rw [List.length_drop]; omega)
          rw [HIt.out, List.length_drop] at hn
          have hk3 : g.kind ≠ 3 := by
            unfold groupL at hgl
            cases hgr : groupR (t.drop (i + 1)) path with
            | none => rw [hgr] at hgl; cases hgl
            | some x => rw [hgr] at hgl; simp only [Option.map_some, Option.some.injEq, Prod.mk.injEq] at hgl; rw [← hgl.1]; exact (by decide : (4 : Int) ≠ 3)
          have HAdd : Hid (addI (L.map (·.1)) g = L.map (·.1) ++ [g]) := Lib.hid (addI_no hk3)
          have HS2 := (HS.below hb2).old (rgitO g.kind g.b g.neg (.slice ra g.rs.length rc))
          have HR2 := Ran.new (HR.below hb2) (rgitO g.kind g.b g.neg (.slice ra g.rs.length rc))
          have KB : Kept wr w2 := Kept.below hb2
          have K2 := KB.trans (kept_alloc w2 (rgitO g.kind g.b g.neg (.slice ra g.rs.length rc)))
          have Hnew : Hid (∀ W, Kept (w2.alloc (rgitO g.kind g.b g.neg (.slice ra g.rs.length rc))) W → RgOk W p (g, ra, rc)) := Lib.hid fun W k => ⟨(hrg2.keep (kept_alloc _ _)).keep k, fun _ a a' e1 e2 => by have h1 := hfr a e1; have h2 := Hpl.out a' e2; omega⟩
          have hto : (0 : Int) < (i : Int) + 1 + k := by omega
          obtain ⟨hn1, hn2⟩ := hn
          simp only at hn1 hn2
          clear hgl hk3 hrg2 hfr hb2 HGP
          have HSB := HS2.old (rgitO g.kind g.b g.neg (.slice ra g.rs.length rc))
          have R6 := Ran.new HR2 (rgitO g.kind g.b g.neg (.slice ra g.rs.length rc))
          have K6 := K2.trans (kept_alloc (w2.alloc (rgitO g.kind g.b g.neg (.slice ra g.rs.length rc))) (rgitO g.kind g.b g.neg (.slice ra g.rs.length rc)))
          clear HS HR HS2 HR2
          go_wp2_with (at_builtin; go_loud (refine appRit rfl _ _ rfl p L.length cap _ rfl _ rfl HSB (g, ra, rc) (by rw [block_new (by first | rfl | (simp; done) | simp [World.setCell])]; rfl) hL9 ?_; intro p' cap' w6 HS7 HR7 HM7; clear HSB))
          go_roundg f
          case measure => omega
          case rel =>
            refine ⟨i + (k + 1), L ++ [(g, ra, rc)], p', cap', by simp, by first | (go_num; done) | (simp only [Value.int.injEq]; omega) | (congr 1; omega), by omega, by omega, by rw [List.length_append, List.length_singleton]; omega, ?_, ?_, ?_, R6.trans HR7⟩
            · rw [Hcomp.out, HIt.out, List.map_append, HAdd.out]; rfl
            · intro x hx
              rcases List.mem_append.1 hx with hx | hx
              · exact ((Hrg.out x hx).keep K6).moved HM7 HR7.size
              · simp only [List.mem_singleton] at hx
                subst hx
                exact (Hnew.out _ (kept_alloc _ _)).moved HM7 HR7.size
            · rw [itCells_snoc, List.length_append, List.length_singleton]
              exact HS7
        · have HIt : Hid (itemL (t.drop i) path = (⟨1, 91, false, []⟩, 1)) := Lib.hid (by rw [Hit.out, hgl])
          have HS2 := (HS.below hb2).old (rgitO 0 0 false (.slice none 0 0))
          have HR2 := Ran.new (HR.below hb2) (rgitO 0 0 false (.slice none 0 0))
          have KB : Kept wr w2 := Kept.below hb2
          have K2 := KB.trans (kept_alloc w2 (rgitO 0 0 false (.slice none 0 0)))
          have hW2 := hW.keep K2
          have d0 := (K2.cell htb (tof + i * 2)).trans c0
          unfold zeroItem
          clear hgl hb2 HGP c0
          go_wp2_with fail
          refine (HIS.out 92 92 rfl false H92.out _ hW2).mono ?_
          rintro e w' ⟨rfl, rfl⟩
          have Hnew : Hid (∀ W, Kept wr W → RgOk W p (⟨1, 91, false, ([] : List Rg)⟩, none, 0)) := Lib.hid fun W _ => ⟨rgAt_nil _ _, fun h => absurd rfl h⟩
          have HAdd : Hid (addI (L.map (·.1)) ⟨1, 91, false, ([] : List Rg)⟩ = L.map (·.1) ++ [⟨1, 91, false, ([] : List Rg)⟩]) := Lib.hid (addI_no (show (1 : Int) ≠ 3 by decide))
          have HSB := HS2.old (rgitO 1 91 false (.slice none 0 0))
          have R6 := Ran.new HR2 (rgitO 1 91 false (.slice none 0 0))
          have K6 := K2.trans (kept_alloc (w2.alloc (rgitO 0 0 false (.slice none 0 0))) (rgitO 1 91 false (.slice none 0 0)))
          clear HS HR HS2 HR2
          go_wp2_with (at_builtin; go_loud (refine appRit rfl _ _ rfl p L.length cap _ rfl _ rfl HSB (⟨1, 91, false, ([] : List Rg)⟩, none, 0) (by rw [block_new (by first | rfl | (simp; done) | simp [World.setCell])]; rfl) hL9 ?_; intro p' cap' w6 HS7 HR7 HM7; clear HSB))
          go_roundg f
          case measure => omega
          case rel =>
            refine ⟨i + 1, L ++ [(⟨1, 91, false, ([] : List Rg)⟩, none, 0)], p', cap', by simp, by go_num, by omega, by omega, by rw [List.length_append, List.length_singleton]; omega, ?_, ?_, ?_, R6.trans HR7⟩
            · rw [Hcomp.out, HIt.out, List.map_append, HAdd.out]; rfl
            · intro x hx
              rcases List.mem_append.1 hx with hx | hx
              · exact ((Hrg.out x hx).keep K6).moved HM7 HR7.size
              · simp only [List.mem_singleton] at hx
                subst hx
                exact (Hnew.out _ K6).moved HM7 HR7.size
            · rw [itCells_snoc, List.length_append, List.length_singleton]
              exact HS7
      have H91 : Hid ((a == 91 && !q) = false) := Lib.hid (by cases q <;> simp at h91 ⊢; exact h91)
      clear h91
      by_cases h92 : a = 92 ∧ q = false
      · obtain ⟨rfl, rfl⟩ := h92
        by_cases hl2 : i + 1 < t.length
        · have hl2' : (i : Int) + 1 < t.length := by omega
          have n1 : (0 : Int) ≤ (i : Int) + 1 := by omega
          have n3 : ((i : Int) + 1).toNat = i + 1 := by omega
          have d0 : wr.cell? ⟨tb, tof + (i + 1) * 2, none⟩ = some (.int .u8 t[i + 1].b.toNat) := by
            obtain ⟨tb2, o2, e, _, d0, _⟩ := hW.2.2 (i + 1) hl2
            cases e
            exact d0
          obtain ⟨b, hb0⟩ : ∃ b, b = t[i + 1].b := ⟨_, rfl⟩
          rw [← hb0] at d0
          have hit : itemL (t.drop i) path = (⟨1, b, false, []⟩, 2) := by
            unfold itemL; rw [Hg0.out]
            have e : (t.drop i).getD 1 default = t[i + 1] := by rw [List.getD_eq_getElem?_getD, List.getElem?_drop, List.getElem?_eq_getElem hl2]; rfl
            rw [e, ← hb0]
            simp [show 1 < t.length - i by omega]
          have HIt := Lib.hid hit
          clear hit hb0
          go_wp2_with fail
          refine (HIS.out 42 42 rfl false H42.out _ hW).mono ?_
          rintro e w' ⟨rfl, rfl⟩
          go_wp2_with fail
          refine (HIS.out 63 63 rfl false H63.out _ hW).mono ?_
          rintro e w' ⟨rfl, rfl⟩
          go_wp2_with fail
          refine (HIS.out 91 91 rfl false H91.out _ hW).mono ?_
          rintro e w' ⟨rfl, rfl⟩
          go_wp2_with fail
          refine (HIS.out 92 92 rfl true (by rfl) _ hW).mono ?_
          rintro e w' ⟨rfl, rfl⟩
          have Hnew : Hid (∀ W, Kept wr W → RgOk W p (⟨1, b, false, ([] : List Rg)⟩, none, 0)) := Lib.hid fun W _ => ⟨rgAt_nil _ _, fun h => absurd rfl h⟩
          have HAdd : Hid (addI (L.map (·.1)) ⟨1, b, false, ([] : List Rg)⟩ = L.map (·.1) ++ [⟨1, b, false, ([] : List Rg)⟩]) := Lib.hid (addI_no (show (1 : Int) ≠ 3 by decide))
          have HSB := HS.old (rgitO 1 b false (.slice none 0 0))
          have R6 := Ran.new HR (rgitO 1 b false (.slice none 0 0))
          have K6 := (Kept.refl wr).trans (kept_alloc wr (rgitO 1 b false (.slice none 0 0)))
          clear HS HR
          go_wp2_with (at_builtin; go_loud (refine appRit rfl _ _ rfl p L.length cap _ rfl _ rfl HSB (⟨1, b, false, ([] : List Rg)⟩, none, 0) (by rw [block_new (by first | rfl | (simp; done) | simp [World.setCell])]; rfl) hL9 ?_; intro p' cap' w6 HS7 HR7 HM7; clear HSB))
          go_roundg f
          case measure => omega
          case rel =>
            refine ⟨i + 2, L ++ [(⟨1, b, false, ([] : List Rg)⟩, none, 0)], p', cap', by simp, by go_num, by omega, by omega, by rw [List.length_append, List.length_singleton]; omega, ?_, ?_, ?_, R6.trans HR7⟩
            · rw [Hcomp.out, HIt.out, List.map_append, HAdd.out]; rfl
            · intro x hx
              rcases List.mem_append.1 hx with hx | hx
              · exact ((Hrg.out x hx).keep K6).moved HM7 HR7.size
              · simp only [List.mem_singleton] at hx
                subst hx
                exact (Hnew.out _ K6).moved HM7 HR7.size
            · rw [itCells_snoc, List.length_append, List.length_singleton]
              exact HS7
        · have hl2' : ¬ ((i : Int) + 1 < t.length) := by omega
          have hit : itemL (t.drop i) path = (⟨1, 92, false, []⟩, 1) := by
            unfold itemL; rw [Hg0.out]
            simp [show ¬ 1 < t.length - i by omega]
          have HIt := Lib.hid hit
          clear hit
          go_wp2_with fail
          refine (HIS.out 42 42 rfl false H42.out _ hW).mono ?_
          rintro e w' ⟨rfl, rfl⟩
          go_wp2_with fail
          refine (HIS.out 63 63 rfl false H63.out _ hW).mono ?_
          rintro e w' ⟨rfl, rfl⟩
          go_wp2_with fail
          refine (HIS.out 91 91 rfl false H91.out _ hW).mono ?_
          rintro e w' ⟨rfl, rfl⟩
          go_wp2_with fail
          refine (HIS.out 92 92 rfl true (by rfl) _ hW).mono ?_
          rintro e w' ⟨rfl, rfl⟩
          have Hnew : Hid (∀ W, Kept wr W → RgOk W p (⟨1, 92, false, ([] : List Rg)⟩, none, 0)) := Lib.hid fun W _ => ⟨rgAt_nil _ _, fun h => absurd rfl h⟩
          have HAdd : Hid (addI (L.map (·.1)) ⟨1, 92, false, ([] : List Rg)⟩ = L.map (·.1) ++ [⟨1, 92, false, ([] : List Rg)⟩]) := Lib.hid (addI_no (show (1 : Int) ≠ 3 by decide))
          have HSB := HS.old (rgitO 1 92 false (.slice none 0 0))
          have R6 := Ran.new HR (rgitO 1 92 false (.slice none 0 0))
          have K6 := (Kept.refl wr).trans (kept_alloc wr (rgitO 1 92 false (.slice none 0 0)))
          clear HS HR
          go_wp2_with (at_builtin; go_loud (refine appRit rfl _ _ rfl p L.length cap _ rfl _ rfl HSB (⟨1, 92, false, ([] : List Rg)⟩, none, 0) (by rw [block_new (by first | rfl | (simp; done) | simp [World.setCell])]; rfl) hL9 ?_; intro p' cap' w6 HS7 HR7 HM7; clear HSB))
          go_roundg f
          case measure => omega
          case rel =>
            refine ⟨i + 1, L ++ [(⟨1, 92, false, ([] : List Rg)⟩, none, 0)], p', cap', by simp, by go_num, by omega, by omega, by rw [List.length_append, List.length_singleton]; omega, ?_, ?_, ?_, R6.trans HR7⟩
            · rw [Hcomp.out, HIt.out, List.map_append, HAdd.out]; rfl
            · intro x hx
              rcases List.mem_append.1 hx with hx | hx
              · exact ((Hrg.out x hx).keep K6).moved HM7 HR7.size
              · simp only [List.mem_singleton] at hx
                subst hx
                exact (Hnew.out _ K6).moved HM7 HR7.size
            · rw [itCells_snoc, List.length_append, List.length_singleton]
              exact HS7
      have H92 : Hid ((a == 92 && !q) = false) := Lib.hid (by cases q <;> simp at h92 ⊢; exact h92)
      clear h92
      have hit : itemL (t.drop i) path = (⟨1, a, false, []⟩, 1) := by
        have e42 := H42.out
        have e63 := H63.out
        have e91 := H91.out
        have e92 := H92.out
        unfold itemL; rw [Hg0.out]
        cases q
        · simp only [Bool.not_false, Bool.and_true, beq_eq_false_iff_ne] at e42 e63 e91 e92
          simp [e42, e63, e91, e92]
        · rfl
      have HIt := Lib.hid hit
      clear hit
      go_wp2_with fail
      refine (HIS.out 42 42 rfl false H42.out _ hW).mono ?_
      rintro e w' ⟨rfl, rfl⟩
      go_wp2_with fail
      refine (HIS.out 63 63 rfl false H63.out _ hW).mono ?_
      rintro e w' ⟨rfl, rfl⟩
      go_wp2_with fail
      refine (HIS.out 91 91 rfl false H91.out _ hW).mono ?_
      rintro e w' ⟨rfl, rfl⟩
      go_wp2_with fail
      refine (HIS.out 92 92 rfl false H92.out _ hW).mono ?_
      rintro e w' ⟨rfl, rfl⟩
      have Hnew : Hid (∀ W, Kept wr W → RgOk W p (⟨1, a, false, ([] : List Rg)⟩, none, 0)) := Lib.hid fun W _ => ⟨rgAt_nil _ _, fun h => absurd rfl h⟩
      have HAdd : Hid (addI (L.map (·.1)) ⟨1, a, false, ([] : List Rg)⟩ = L.map (·.1) ++ [⟨1, a, false, ([] : List Rg)⟩]) := Lib.hid (addI_no (show (1 : Int) ≠ 3 by decide))
      have HSB := HS.old (rgitO 1 a false (.slice none 0 0))
      have R6 := Ran.new HR (rgitO 1 a false (.slice none 0 0))
      have K6 := (Kept.refl wr).trans (kept_alloc wr (rgitO 1 a false (.slice none 0 0)))
      clear HS HR
      go_wp2_with (at_builtin; go_loud (refine appRit rfl _ _ rfl p L.length cap _ rfl _ rfl HSB (⟨1, a, false, ([] : List Rg)⟩, none, 0) (by rw [block_new (by first | rfl | (simp; done) | simp [World.setCell])]; rfl) hL9 ?_; intro p' cap' w6 HS7 HR7 HM7; clear HSB))
      go_roundg f
      case measure => omega
      case rel =>
        refine ⟨i + 1, L ++ [(⟨1, a, false, ([] : List Rg)⟩, none, 0)], p', cap', by simp, by go_num, by omega, by omega, by rw [List.length_append, List.length_singleton]; omega, ?_, ?_, ?_, R6.trans HR7⟩
        · rw [Hcomp.out, HIt.out, List.map_append, HAdd.out]; rfl
        · intro x hx
          rcases List.mem_append.1 hx with hx | hx
          · exact ((Hrg.out x hx).keep K6).moved HM7 HR7.size
          · simp only [List.mem_singleton] at hx
            subst hx
            exact (Hnew.out _ K6).moved HM7 HR7.size
        · rw [itCells_snoc, List.length_append, List.length_singleton]
          exact HS7
    · have hge : ¬ ((i : Int) < t.length) := by omega
      have hfin : compileL t path = L.map (·.1) := by
        rw [hcomp, List.drop_eq_nil_of_le (by omega)]
        cases gk <;> rfl
      have hlen : (compileL t path).length = L.length := by rw [hfin, List.length_map]
      have hI := itemsAt_arrR HS fun x hx => (hrg x hx).1
      rw [← hfin] at hI
      have Hlen := Lib.hid hlen
      clear hfin hlen hcomp hrg
      go_wp2_with fail
      go_ret
      exact ⟨p, cap, show Ending.returned (.slice p L.length cap) = .returned (.slice p (compileL t path).length cap) by rw [Hlen.out], hI, HR.whole HS⟩
end Go.Proofs.YtndjgeohkfenfaaGreatDoor.Globs

namespace Go.Proofs.YtndjgeohkfenfaaGreatDoor.Globs
set_option linter.unusedVariables false

end Go.Proofs.YtndjgeohkfenfaaGreatDoor.Globs

namespace Go.Proofs.YtndjgeohkfenfaaGreatDoor.Globs
set_option linter.unusedVariables false

theorem mtB_append_hd (hd : Nat → Bool) (p q : List Itm) : ∀ (r : List UInt8) (i : Nat), mtB hd (p ++ q) r i = true ↔ ∃ k, k ≤ r.length ∧ mtB hd p (r.take k) i = true ∧ mtB hd q (r.drop k) (i + k) = true := by
  induction p with
  | nil =>
    intro r i
    constructor
    · intro h; exact ⟨0, Nat.zero_le _, by simp [mtB], h⟩
    · rintro ⟨k, hk, h1, h2⟩
      have h3 : (r.take k).isEmpty = true := h1
      have h4 : r.take k = [] := by simpa using h3
      have h5 : min k r.length = 0 := by rw [← List.length_take, h4]; rfl
      obtain rfl : k = 0 := by omega
      exact h2
  | cons x p ih =>
    intro r i
    show (if x.kind = 3 then starL hd (mtB hd (p ++ q)) else oneL hd x (mtB hd (p ++ q)) : List UInt8 → Nat → Bool) r i = true ↔ ∃ k, k ≤ r.length ∧ (if x.kind = 3 then starL hd (mtB hd p) else oneL hd x (mtB hd p) : List UInt8 → Nat → Bool) (r.take k) i = true ∧ _
    by_cases h3 : x.kind = 3
    · rw [if_pos h3, if_pos h3, starL_iff]
      constructor
      · rintro ⟨j, hj, ha, h⟩
        obtain ⟨k, hk, h1, h2⟩ := (ih _ _).1 h
        rw [List.length_drop] at hk
        refine ⟨j + k, by omega, (starL_iff _ _ _ _).2 ⟨j, by rw [List.length_take]; omega, ha, ?_⟩, ?_⟩
        · rw [List.drop_take, show j + k - j = k by omega]; exact h1
        · rw [List.drop_drop, Nat.add_assoc] at h2; exact h2
      · rintro ⟨K, hK, h1, h2⟩
        obtain ⟨j, hj, ha, h⟩ := (starL_iff _ _ _ _).1 h1
        rw [List.length_take] at hj
        refine ⟨j, by omega, ha, (ih _ _).2 ⟨K - j, by rw [List.length_drop]; omega, ?_, ?_⟩⟩
        · rw [List.drop_take] at h; exact h
        · rw [List.drop_drop, show j + (K - j) = K by omega, show i + j + (K - j) = i + K by omega]; exact h2
    · rw [if_neg h3, if_neg h3]
      cases r with
      | nil =>
        constructor
        · intro h; cases h
        · rintro ⟨k, _, h, _⟩; rw [List.take_nil] at h; cases h
      | cons c r =>
        constructor
        · intro h
          simp only [oneL, Bool.and_eq_true] at h
          obtain ⟨k, hk, g1, g2⟩ := (ih r (i + 1)).1 h.2
          refine ⟨k + 1, by simpa using hk, ?_, by rw [show i + (k + 1) = i + 1 + k by omega]; exact g2⟩
          simp only [List.take_succ_cons, oneL, Bool.and_eq_true]
          exact ⟨h.1, g1⟩
        · rintro ⟨K, hK, h1, h2⟩
          cases K with
          | zero => cases h1
          | succ K =>
            simp only [List.take_succ_cons, oneL, Bool.and_eq_true] at h1 ⊢
            exact ⟨h1.1, (ih r (i + 1)).2 ⟨K, by simpa using hK, h1.2, by rw [show i + 1 + K = i + (K + 1) by omega]; exact h2⟩⟩

/-- The items fit the first i bytes. -/
def R (hd : Nat → Bool) (p : List Itm) (s : List UInt8) (i : Nat) : Bool := mtB hd p (s.take i) 0
theorem R_nil (hd : Nat → Bool) (s : List UInt8) (i : Nat) (hi : i ≤ s.length) : R hd [] s i = (i == 0) := by
  show (s.take i).isEmpty = _
  cases i with
  | zero => rfl
  | succ i => cases s with
    | nil => simp at hi
    | cons c s => rfl
theorem mtB_one (hd : Nat → Bool) (x : Itm) (h3 : x.kind ≠ 3) (r : List UInt8) (i : Nat) : mtB hd [x] r i = true ↔ ∃ c, r = [c] ∧ fitsI x c = true ∧ may hd x i = true := by
  show (if x.kind = 3 then starL hd (mtB hd []) else oneL hd x (mtB hd []) : List UInt8 → Nat → Bool) r i = true ↔ _
  rw [if_neg h3]
  cases r with
  | nil => simp [oneL]
  | cons c r =>
    simp only [oneL, mtB, Bool.and_eq_true, List.isEmpty_iff]
    constructor
    · rintro ⟨⟨h1, h2⟩, rfl⟩; exact ⟨c, rfl, h1, h2⟩
    · rintro ⟨d, e, h1, h2⟩
      simp only [List.cons.injEq] at e
      obtain ⟨rfl, rfl⟩ := e
      exact ⟨⟨h1, h2⟩, rfl⟩
theorem mtB_star (hd : Nat → Bool) (x : Itm) (h3 : x.kind = 3) (r : List UInt8) (i : Nat) : mtB hd [x] r i = true ↔ ∀ t, t < r.length → hd (i + t) = false := by
  show (if x.kind = 3 then starL hd (mtB hd []) else oneL hd x (mtB hd []) : List UInt8 → Nat → Bool) r i = true ↔ _
  rw [if_pos h3, starL_iff]
  constructor
  · rintro ⟨j, hj, ha, h⟩
    have h' : (r.drop j).isEmpty = true := h
    have : (r.drop j).length = 0 := by rw [List.isEmpty_iff] at h'; rw [h']; rfl
    rw [List.length_drop] at this
    intro t ht; exact ha t (by omega)
  · intro h; exact ⟨r.length, Nat.le_refl _, h, by show (r.drop r.length).isEmpty = true; simp⟩
/-- What is carried to place i from the one ahead. -/
def carry (hd : Nat → Bool) (p : List Itm) (x : Itm) (s : List UInt8) : Nat → Bool
  | 0 => false
  | i + 1 => if x.kind = 3 then R hd (p ++ [x]) s i && !hd i else R hd p s i && (fitsI x (s.getD i 0) && may hd x i)
theorem carry_succ (hd : Nat → Bool) (p : List Itm) (x : Itm) (s : List UInt8) (i : Nat) : carry hd p x s (i + 1) = if x.kind = 3 then R hd (p ++ [x]) s i && !hd i else R hd p s i && (fitsI x (s.getD i 0) && may hd x i) := rfl
theorem R_snoc_one (hd : Nat → Bool) (p : List Itm) (x : Itm) (s : List UInt8) (i : Nat) (hi : i ≤ s.length) (h3 : x.kind ≠ 3) : R hd (p ++ [x]) s i = carry hd p x s i := by
  unfold R
  cases i with
  | zero =>
    show _ = false
    rw [← Bool.not_eq_true, mtB_append_hd]
    rintro ⟨k, hk, _, h⟩
    obtain ⟨c, e, _⟩ := (mtB_one hd x h3 _ _).1 h
    simp at e
  | succ i =>
    rw [Bool.eq_iff_iff, mtB_append_hd]
    rw [carry_succ, if_neg h3, Bool.and_eq_true, Bool.and_eq_true]
    have hsi : s.getD i 0 = s[i] := by rw [List.getD_eq_getElem?_getD, List.getElem?_eq_getElem (by omega)]; rfl
    have hd1 : (s.take (i + 1)).drop i = [s[i]] := by
      rw [List.drop_take, show i + 1 - i = 1 by omega, List.drop_eq_getElem_cons (by omega)]; rfl
    constructor
    · rintro ⟨k, hk, h1, h2⟩
      obtain ⟨c, e, g1, g2⟩ := (mtB_one hd x h3 _ _).1 h2
      have hl := congrArg List.length e
      rw [List.length_drop] at hl
      rw [List.length_take] at hl hk
      obtain rfl : k = i := by simp at hl; omega
      rw [hd1] at e
      simp only [List.cons.injEq, and_true] at e
      subst e
      rw [List.take_take, show min k (k + 1) = k by omega] at h1
      exact ⟨h1, by rw [hsi]; exact g1, by simpa using g2⟩
    · rintro ⟨h1, g1, g2⟩
      refine ⟨i, by rw [List.length_take]; omega, ?_, ?_⟩
      · rw [List.take_take, show min i (i + 1) = i by omega]; exact h1
      · exact (mtB_one hd x h3 _ _).2 ⟨s[i], hd1, by rw [← hsi]; exact g1, by simpa using g2⟩
theorem R_snoc_star (hd : Nat → Bool) (p : List Itm) (x : Itm) (s : List UInt8) (i : Nat) (hi : i ≤ s.length) (h3 : x.kind = 3) : R hd (p ++ [x]) s i = (R hd p s i || carry hd p x s i) := by
  have key : ∀ j, j ≤ s.length → (R hd (p ++ [x]) s j = true ↔ ∃ k, k ≤ j ∧ R hd p s k = true ∧ ∀ t, k ≤ t → t < j → hd t = false) := by
    intro j hj
    unfold R
    rw [mtB_append_hd]
    constructor
    · rintro ⟨k, hk, h1, h2⟩
      rw [List.length_take] at hk
      rw [List.take_take, show min k j = k by omega] at h1
      refine ⟨k, by omega, h1, fun t t1 t2 => ?_⟩
      have := (mtB_star hd x h3 _ _).1 h2 (t - k) (by rw [List.length_drop, List.length_take]; omega)
      rwa [show 0 + k + (t - k) = t by omega] at this
    · rintro ⟨k, hk, h1, h2⟩
      refine ⟨k, by rw [List.length_take]; omega, by rw [List.take_take, show min k j = k by omega]; exact h1, (mtB_star hd x h3 _ _).2 fun t ht => ?_⟩
      rw [List.length_drop, List.length_take] at ht
      exact h2 _ (by omega) (by omega)
  rw [Bool.eq_iff_iff, Bool.or_eq_true, key i hi]
  cases i with
  | zero =>
    constructor
    · rintro ⟨k, hk, h, _⟩; obtain rfl : k = 0 := by omega
      exact .inl h
    · rintro (h | h)
      · exact ⟨0, Nat.le_refl _, h, fun t t1 t2 => by omega⟩
      · cases h
  | succ i =>
    rw [carry_succ, if_pos h3, Bool.and_eq_true, key i (by omega), Bool.not_eq_true']
    constructor
    · rintro ⟨k, hk, h1, h2⟩
      by_cases e : k = i + 1
      · subst e; exact .inl h1
      · exact .inr ⟨⟨k, by omega, h1, fun t t1 t2 => h2 t t1 (by omega)⟩, h2 i (by omega) (by omega)⟩
    · rintro (h | ⟨⟨k, hk, h1, h2⟩, h3'⟩)
      · exact ⟨i + 1, Nat.le_refl _, h, fun t t1 t2 => by omega⟩
      · refine ⟨k, by omega, h1, fun t t1 t2 => ?_⟩
        by_cases e : t = i
        · subst e; exact h3'
        · exact h2 t t1 (by omega)
/-- The row of an inner loop: i places are done. -/
def rowI (hd : Nat → Bool) (p : List Itm) (x : Itm) (s : List UInt8) (i : Nat) (j : Nat) : Bool := if j < i then R hd (p ++ [x]) s j else if j = i then carry hd p x s i else false

end Go.Proofs.YtndjgeohkfenfaaGreatDoor.Globs

namespace Go.Proofs.YtndjgeohkfenfaaGreatDoor.Globs
open Go.RowKit Go.Proofs.YtndjgeohkfenfaaGreatDoor Go.Proofs.YtndjgeohkfenfaaGreatDoor.Hp
set_option linter.unusedVariables false

set_option maxHeartbeats 1000000 in
theorem rhard_calls (s : ByteArray) (i : Nat) (w : World) (hi : i < s.size) (hm : (s.size : Int) ≤ 9223372036854775807) :
    Calls Tryz.prog 98 #[.string s, .int .i64 i] w fun e w' => e = .returned (.bool (hardP (bs s) i)) ∧ w = w' := by
  have hlt : (i : Int) < s.size := by omega
  have hi0 : (0 : Int) ≤ i := by omega
  have hfin : hardP (bs s) i = (s[i] == 47 || (s[i] == 46 && (i == 0 || (bs s)[i - 1]? == some 47))) := by
    unfold hardP; rw [bs_get s i hi]; rfl
  by_cases c1 : s[i] = 47
  · have e1 : ((s[i].toNat : Int) == 47) = true := by rw [c1]; rfl
    have hfin2 : hardP (bs s) i = true := by rw [hfin, c1]; rfl
    rw [hfin2]
    clear hfin hfin2 c1
    go_enter Tryz.func98, Tryz.ntmps98
    go_wp2
    go_ret
    exact ⟨rfl, rfl⟩
  have e1 : ((s[i].toNat : Int) == 47) = false := by have := u8_lit s[i] 47 (by omega); rw [show ((47 : Nat) : Int) = 47 from rfl] at this; rw [this]; simpa using c1
  have f1 : (s[i] == 47) = false := by simpa using c1
  by_cases c2 : s[i] = 46
  · have e2 : ((s[i].toNat : Int) == 46) = true := by rw [c2]; rfl
    have f2 : (s[i] == 46) = true := by rw [c2]; rfl
    by_cases c3 : i = 0
    · have e3 : ((i : Int) == 0) = true := by rw [c3]; rfl
      have hfin2 : hardP (bs s) i = true := by rw [hfin, f1, f2, c3]; rfl
      rw [hfin2]
      clear hfin hfin2 c1 c2 c3 f1 f2
      go_enter Tryz.func98, Tryz.ntmps98
      go_wp2
      go_ret
      exact ⟨rfl, rfl⟩
    · have e3 : ((i : Int) == 0) = false := by rw [beq_eq_false_iff_ne]; omega
      have f3 : (i == 0) = false := by rw [beq_eq_false_iff_ne]; exact c3
      have hp0 : (0 : Int) ≤ (i : Int) - 1 := by omega
      have hp1 : (i : Int) - 1 < s.size := by omega
      have hp2 : ((i : Int) - 1).toNat = i - 1 := by omega
      have hp : i - 1 < s.size := by omega
      have hi1 : (1 : Int) ≤ i := by omega
      have e4 : ((s[i - 1].toNat : Int) == 47) = (s[i - 1] == 47) := u8_lit s[i - 1] 47 (by omega)
      have hfin2 : hardP (bs s) i = (s[i - 1] == 47) := by rw [hfin, f1, f2, f3, bs_get s (i - 1) hp]; simp
      rw [hfin2]
      obtain ⟨d, hd⟩ : ∃ d : Bool, d = (s[i - 1] == 47) := ⟨_, rfl⟩
      rw [← hd] at e4 ⊢
      clear hfin hfin2 c1 c2 c3 f1 f2 f3 hd
      go_enter Tryz.func98, Tryz.ntmps98
      go_wp2
      go_ret
      exact ⟨rfl, rfl⟩
  · have e2 : ((s[i].toNat : Int) == 46) = false := by have := u8_lit s[i] 46 (by omega); rw [show ((46 : Nat) : Int) = 46 from rfl] at this; rw [this]; simpa using c2
    have f2 : (s[i] == 46) = false := by simpa using c2
    have hfin2 : hardP (bs s) i = false := by rw [hfin, f1, f2]; rfl
    rw [hfin2]
    clear hfin hfin2 c1 c2 f1 f2
    go_enter Tryz.func98, Tryz.ntmps98
    go_wp2
    go_ret
    exact ⟨rfl, rfl⟩

def InRel (rs : List Rg) (c : UInt8) (w : World) (k : Nat) (iv : Value) (wr : World) : Prop :=
  ∃ j : Nat, j + k = rs.length ∧ iv = .int .i64 (j : Int) ∧ (∀ t (h : t < rs.length), t < j → (decide (rs[t].1 ≤ c) && decide (c ≤ rs[t].2)) = false) ∧ wr = w
set_option maxHeartbeats 1000000 in
theorem rin_calls (rs : List Rg) (c : UInt8) (ra : Option Addr) (rc : Nat) (w : World) (h : RgAt w ra rs) :
    Calls Tryz.prog 99 #[.slice ra rs.length rc, .int .u8 c.toNat] w fun e w' => e = .returned (.bool (inR rs c)) ∧ w = w' := by
  obtain ⟨hl, hr⟩ := h
  have hc := c.toNat_lt
  go_enter Tryz.func99, Tryz.ntmps99
  go_wp2
  go_loopg [5] (rs.length) (InRel rs c w)
  case atStart => exact ⟨0, by simp, rfl, fun t _ ht => absurd ht (Nat.not_lt_zero t), rfl⟩
  case round =>
    obtain ⟨j, hj, rfl, hno, rfl⟩ := hrel
    have hj0 : (0 : Int) ≤ j := by omega
    by_cases hlt : j < rs.length
    · obtain ⟨rb, ro, rfl, hrb, k0, k1⟩ := hr j hlt
      have hlt' : (j : Int) < rs.length := by omega
      obtain ⟨r, hrj⟩ : ∃ r, r = rs[j] := ⟨_, rfl⟩
      rw [← hrj] at k0 k1
      have Hrj := Lib.hid hrj
      have Hj := Lib.hid hj
      have Hno := Lib.hid hno
      obtain ⟨r1, r2⟩ := r
      simp only at k0 k1
      have b1 := r1.toNat_lt
      have b2 := r2.toNat_lt
      clear hrj hj hno hr
      by_cases hin : (decide (r1 ≤ c) && decide (c ≤ r2)) = true
      · have hin2 := hin
        rw [Bool.and_eq_true, decide_eq_true_eq, decide_eq_true_eq, UInt8.le_iff_toNat_le, UInt8.le_iff_toNat_le] at hin2
        obtain ⟨i1, i2⟩ := hin2
        have i1' : (r1.toNat : Int) ≤ c.toNat := by omega
        have i2' : (c.toNat : Int) ≤ r2.toNat := by omega
        have Hin := Lib.hid hin
        clear hin
        go_wp2
        go_ret
        exact ⟨show Ending.returned (.bool true) = _ by rw [inR_yes j hlt (by rw [← Hrj.out]; exact Hin.out)], rfl⟩
      · have hin2 : ¬ ((r1.toNat : Int) ≤ c.toNat ∧ (c.toNat : Int) ≤ r2.toNat) := fun hh => hin (by simp only [Bool.and_eq_true, decide_eq_true_eq, UInt8.le_iff_toNat_le]; omega)
        have hin3 : (decide (r1 ≤ c) && decide (c ≤ r2)) = false := by simpa using hin
        have Hin := Lib.hid hin3
        clear hin hin3
        by_cases i1 : (r1.toNat : Int) ≤ c.toNat
        · have i2 : ¬ ((c.toNat : Int) ≤ r2.toNat) := fun h => hin2 ⟨i1, h⟩
          clear hin2
          go_wp2
          go_roundg (gk - 1)
          case measure => have := Hj.out; omega
          case rel => exact ⟨j + 1, by have := Hj.out; omega, by go_num, fnext Hno.out hlt (by rw [← Hrj.out]; exact Hin.out), rfl⟩
        · clear hin2
          go_wp2
          go_roundg (gk - 1)
          case measure => have := Hj.out; omega
          case rel => exact ⟨j + 1, by have := Hj.out; omega, by go_num, fnext Hno.out hlt (by rw [← Hrj.out]; exact Hin.out), rfl⟩
    · have hge : ¬ ((j : Int) < rs.length) := by omega
      have Hno := Lib.hid hno
      clear hr hno
      go_wp2
      go_ret
      exact ⟨show Ending.returned (.bool false) = _ by rw [inR_no fun t ht => Hno.out t ht (by omega)], rfl⟩

/-- A row of bools, as cells. -/
def boolArr (f : Nat → Bool) (n : Nat) : Array Value := ((List.range n).map fun j => Value.bool (f j)).toArray
theorem boolArr_get (f : Nat → Bool) (n j : Nat) (h : j < n) : (boolArr f n)[j]? = some (.bool (f j)) := by
  unfold boolArr
  rw [List.getElem?_toArray, List.getElem?_map, List.getElem?_range h]; rfl
theorem boolArr_congr {f g : Nat → Bool} {n : Nat} (h : ∀ j, j < n → f j = g j) : boolArr f n = boolArr g n := by
  unfold boolArr
  congr 1
  apply List.map_congr_left
  intro j hj
  rw [h j (by simpa using hj)]
theorem boolArr_set (f : Nat → Bool) (n i : Nat) (v : Bool) : (boolArr f n).setIfInBounds i (.bool v) = boolArr (fun j => if j = i then v else f j) n := by
  unfold boolArr
  rw [List.setIfInBounds_toArray]
  congr 1
  apply List.ext_getElem
  · simp
  · intro j h1 h2
    simp only [List.getElem_set, List.getElem_map, List.getElem_range]
    by_cases e : i = j
    · subst e; simp
    · rw [if_neg e, if_neg (fun h => e h.symm)]
theorem madeBools (n : Nat) : madeCells #[.bool false] n = boolArr (fun _ => false) n := by
  apply Array.ext
  · simp [size_madeCells, boolArr]
  · intro i h1 h2
    simp [madeCells, boolArr, Nat.mod_one]
end Go.Proofs.YtndjgeohkfenfaaGreatDoor.Globs

