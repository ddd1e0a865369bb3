/- The document's 'Compile', walked: the pattern is the program's. -/
import Derived.Test.YtjbdpahdhlmanaaGlRg
namespace Go.Proofs.Ytjbdpahdhlmanaa.Globs
open Go.RowKit Go.Proofs.Ytjbdpahdhlmanaa Go.Proofs.Ytjbdpahdhlmanaa.Hp
set_option linter.unusedVariables false

def RCRel (t : List Ch) (path : Bool) (w : World) (g : Nat) (ov iv gv tov : Value) (wr : World) : Prop :=
  ∃ (i : Nat) (L : List ItS) (p : Option Addr) (cap : Nat), ov = .slice p L.length cap ∧ iv = .int .i64 (i : Int) ∧ i ≤ t.length ∧ t.length ≤ i + g ∧ L.length ≤ i ∧ compileL t path = compF path g (t.drop i) (L.map (·.1)) ∧
    (∀ x ∈ L, RgOk wr p x) ∧ Sat wr (arr 61 4 p L.length cap (itCells L) * keep w) ∧ Ran w wr
theorem compF_step (path : Bool) (f : Nat) (t : List Ch) (i : Nat) (out : List Itm) (hi : i < t.length) : compF path (f + 1) (t.drop i) out = compF path f (t.drop (i + (itemL (t.drop i) path).2)) (addI out (itemL (t.drop i) path).1) := by
  show (if t.drop i = [] then _ else _) = _
  rw [if_neg (fun e => by have := congrArg List.length e; rw [List.length_drop] at this; simp at this; omega), List.drop_drop]
set_option maxRecDepth 100000 in
set_option maxHeartbeats 4000000 in
theorem rcompile_calls (t : List Ch) (path : Bool) (ao : Option Addr) (cap0 : Nat) (w : World) (h : CharsAt w ao cap0 t) (hm : t.length ≤ 100000) :
    Calls Try.prog 14 #[.slice ao t.length cap0, .bool path] w (CompPost t path w) := by
  go_enter Try.func14, Try.ntmps14
  go_wp2_with fail
  go_loopg [5, 6, 7, 8] (t.length) (RCRel t path w)
  case atStart => exact ⟨0, [], none, 0, rfl, rfl, Nat.zero_le _, by omega, by simp, rfl, fun x hx => by simp at hx, (Sat.start w).nil_arr _ _, Below.refl _ _⟩
  case round =>
    obtain ⟨i, L, p, cap, rfl, rfl, hil, hug, hLt, hcomp, hrg, HS, HR⟩ := hrel
    have hK : Kept w wr := ⟨HR.size, HS.right.kept⟩
    have hW := h.keep hK
    have hi0 : (0 : Int) ≤ i := by omega
    by_cases hl : i < t.length
    · have hl' : (i : Int) < t.length := by omega
      obtain ⟨f, rfl⟩ : ∃ f, gk = f + 1 := ⟨gk - 1, by omega⟩
      rw [compF_step path f t i _ hl] at hcomp
      obtain ⟨tb, tof, rfl, htb, c0, c1⟩ := hW.2.2 i hl
      have hg0 : (t.drop i).getD 0 default = t[i] := by rw [List.getD_eq_getElem?_getD, List.getElem?_drop, Nat.add_zero, List.getElem?_eq_getElem hl]; rfl
      have hone : ∀ b, bareL (t.drop i) [b] = (t[i].b == b && !t[i].q) := fun b => bareL_one hl
      obtain ⟨c, hc⟩ : ∃ c, c = t[i] := ⟨_, rfl⟩
      rw [← hc] at hg0 c0 c1 hone
      obtain ⟨a, q⟩ := c
      simp only at c0 c1 hone
      have hL9 : L.length ≤ 1000000000 := by omega
      have Hcomp := Lib.hid hcomp
      have Hg0 := Lib.hid hg0
      have Hrg := Lib.hid hrg
      have Hone := Lib.hid hone
      have hIS : ∀ (b : UInt8) (bz : Int), bz = (b.toNat : Int) → ∀ v : Bool, (a == b && !q) = v → ∀ W, CharsAt W (some ⟨tb, tof, none⟩) cap0 t → Calls Try.prog 33 #[.slice (some ⟨tb, tof, none⟩) t.length cap0, .int .i64 (i : Int), .int .u8 bz] W (BPost v W) := fun b bz hb v hv W hc => is_at t i (i : Int) rfl b bz hb v ((hone b).trans hv) _ cap0 W hc hm
      have HIS := Lib.hid hIS
      clear hcomp hg0 hrg hone hIS c1 hc
      by_cases h42 : a = 42 ∧ q = false
      · obtain ⟨rfl, rfl⟩ := h42
        have hit : itemL (t.drop i) path = (⟨3, 0, false, []⟩, 1) := by unfold itemL; rw [Hg0.out]; rfl
        have HIt := Lib.hid hit
        clear hit
        go_wp2_with fail
        refine (HIS.out 42 42 rfl true (by rfl) _ hW).mono ?_
        rintro e w' ⟨rfl, rfl⟩
        by_cases hL0 : L = []
        · subst hL0
          have HAdd : Hid (addI (([] : List ItS).map (·.1)) ⟨3, 0, false, ([] : List Rg)⟩ = ([] : List ItS).map (·.1) ++ [⟨3, 0, false, ([] : List Rg)⟩]) := Lib.hid rfl
          have Hnew : Hid (∀ W, Kept wr W → RgOk W p (⟨3, 0, false, ([] : List Rg)⟩, none, 0)) := Lib.hid fun W _ => ⟨rgAt_nil _ _, fun h => absurd rfl h⟩
          have HSB := HS.old (ritO 3 0 false (.slice none 0 0))
          have R6 := Ran.new HR (ritO 3 0 false (.slice none 0 0))
          have K6 := (Kept.refl wr).trans (kept_alloc wr (ritO 3 0 false (.slice none 0 0)))
          clear HS HR
          go_wp2_with (at_builtin; go_loud (refine appRit rfl _ _ rfl p ([] : List ItS).length cap _ rfl _ rfl HSB (⟨3, 0, false, ([] : List Rg)⟩, none, 0) (by rw [block_new (by first | rfl | (simp; done) | simp [World.setCell])]; rfl) hL9 ?_; intro p' cap' w6 HS7 HR7 HM7; clear HSB))
          go_roundg f
          case measure => omega
          case rel =>
            refine ⟨i + 1, ([] : List ItS) ++ [(⟨3, 0, false, ([] : List Rg)⟩, none, 0)], p', cap', by simp, by go_num, by omega, by omega, by rw [List.length_append, List.length_singleton]; omega, ?_, ?_, ?_, R6.trans HR7⟩
            · rw [Hcomp.out, HIt.out, List.map_append, HAdd.out]; rfl
            · intro x hx
              rcases List.mem_append.1 hx with hx | hx
              · exact ((Hrg.out x hx).keep K6).moved HM7 HR7.size
              · simp only [List.mem_singleton] at hx
                subst hx
                exact (Hnew.out _ K6).moved HM7 HR7.size
            · rw [itCells_snoc, List.length_append, List.length_singleton]
              exact HS7
        · have hLp : 0 < L.length := List.length_pos_iff.2 hL0
          obtain ⟨pb, po, rfl⟩ := HS.arr_addr (by have := HS.arr_len; omega)
          obtain ⟨y, hy⟩ : ∃ y, y = L[L.length - 1] := ⟨_, rfl⟩
          have hpc : wr.cell? ⟨pb, po + (L.length - 1) * 4, none⟩ = some (.int .i64 y.1.kind) := by
            have g0 := (itCells_get L (L.length - 1) (by omega)).1
            have hll := itCells_length L
            rw [HS.arr_cell ((L.length - 1) * 4) (by omega)]
            rw [List.getElem?_eq_getElem (by omega)] at g0
            rw [g0, hy]
          have hsl : starLast (L.map (·.1)) = (y.1.kind == 3) := by
            unfold starLast
            rw [List.getLast?_eq_getElem?, List.length_map, List.getElem?_map, List.getElem?_eq_getElem (by omega), ← hy]; rfl
          have hp0 : (0 : Int) < L.length := by omega
          have hp1 : (1 : Int) ≤ L.length := by omega
          have hp2 : (0 : Int) ≤ (L.length : Int) - 1 := by omega
          have hp3 : (L.length : Int) - 1 < L.length := by omega
          have hp4 : ((L.length : Int) - 1).toNat = L.length - 1 := by omega
          have hp5 : ((L.length : Int) == 0) = false := by rw [beq_eq_false_iff_ne]; omega
          have Hy := Lib.hid hy
          clear hy hL0
          by_cases hy3 : y.1.kind = 3
          · have hyb : (y.1.kind == 3) = true := by rw [beq_iff_eq]; exact hy3
            have HAdd : Hid (addI (L.map (·.1)) ⟨3, 0, false, []⟩ = L.map (·.1)) := Lib.hid (by unfold addI; rw [if_pos ⟨rfl, hsl.trans hyb⟩])
            clear hy3 hsl
            go_wp2_with fail
            go_roundg f
            case measure => omega
            case rel =>
              exact ⟨i + 1, L, some ⟨pb, po, none⟩, cap, rfl, by go_num, by omega, by omega, by omega, by rw [Hcomp.out, HIt.out, HAdd.out], fun x hx => Hrg.out x hx, HS, HR⟩
          · have hyb : (y.1.kind == 3) = false := by rw [beq_eq_false_iff_ne]; exact hy3
            have HAdd : Hid (addI (L.map (·.1)) ⟨3, 0, false, ([] : List Rg)⟩ = L.map (·.1) ++ [⟨3, 0, false, ([] : List Rg)⟩]) := Lib.hid (by unfold addI; rw [if_neg (fun hh => by rw [hsl, hyb] at hh; exact absurd hh.2 (by simp))])
            clear hy3 hsl
            have Hnew : Hid (∀ W, Kept wr W → RgOk W (some ⟨pb, po, none⟩) (⟨3, 0, false, ([] : List Rg)⟩, none, 0)) := Lib.hid fun W _ => ⟨rgAt_nil _ _, fun h => absurd rfl h⟩
            have HSB := HS.old (ritO 3 0 false (.slice none 0 0))
            have R6 := Ran.new HR (ritO 3 0 false (.slice none 0 0))
            have K6 := (Kept.refl wr).trans (kept_alloc wr (ritO 3 0 false (.slice none 0 0)))
            clear HS HR
            go_wp2_with (at_builtin; go_loud (refine appRit rfl _ _ rfl (some ⟨pb, po, none⟩) L.length cap _ rfl _ rfl HSB (⟨3, 0, false, ([] : List Rg)⟩, none, 0) (by rw [block_new (by first | rfl | (simp; done) | simp [World.setCell])]; rfl) hL9 ?_; intro p' cap' w6 HS7 HR7 HM7; clear HSB))
            go_roundg f
            case measure => omega
            case rel =>
              refine ⟨i + 1, L ++ [(⟨3, 0, false, ([] : List Rg)⟩, none, 0)], p', cap', by simp, by go_num, by omega, by omega, by rw [List.length_append, List.length_singleton]; omega, ?_, ?_, ?_, R6.trans HR7⟩
              · rw [Hcomp.out, HIt.out, List.map_append, HAdd.out]; rfl
              · intro x hx
                rcases List.mem_append.1 hx with hx | hx
                · exact ((Hrg.out x hx).keep K6).moved HM7 HR7.size
                · simp only [List.mem_singleton] at hx
                  subst hx
                  exact (Hnew.out _ K6).moved HM7 HR7.size
              · rw [itCells_snoc, List.length_append, List.length_singleton]
                exact HS7
      have H42 : Hid ((a == 42 && !q) = false) := Lib.hid (by cases q <;> simp at h42 ⊢; exact h42)
      clear h42
      by_cases h63 : a = 63 ∧ q = false
      · obtain ⟨rfl, rfl⟩ := h63
        have hit : itemL (t.drop i) path = (⟨2, 0, false, []⟩, 1) := by unfold itemL; rw [Hg0.out]; rfl
        have HIt := Lib.hid hit
        clear hit
        have HAdd : Hid (addI (L.map (·.1)) ⟨2, 0, false, ([] : List Rg)⟩ = L.map (·.1) ++ [⟨2, 0, false, ([] : List Rg)⟩]) := Lib.hid (addI_no (show (2 : Int) ≠ 3 by decide))
        go_wp2_with fail
        refine (HIS.out 42 42 rfl false H42.out _ hW).mono ?_
        rintro e w' ⟨rfl, rfl⟩
        go_wp2_with fail
        refine (HIS.out 63 63 rfl true (by rfl) _ hW).mono ?_
        rintro e w' ⟨rfl, rfl⟩
        have Hnew : Hid (∀ W, Kept wr W → RgOk W p (⟨2, 0, false, ([] : List Rg)⟩, none, 0)) := Lib.hid fun W _ => ⟨rgAt_nil _ _, fun h => absurd rfl h⟩
        have HSB := HS.old (ritO 2 0 false (.slice none 0 0))
        have R6 := Ran.new HR (ritO 2 0 false (.slice none 0 0))
        have K6 := (Kept.refl wr).trans (kept_alloc wr (ritO 2 0 false (.slice none 0 0)))
        clear HS HR
        go_wp2_with (at_builtin; go_loud (refine appRit rfl _ _ rfl p L.length cap _ rfl _ rfl HSB (⟨2, 0, false, ([] : List Rg)⟩, none, 0) (by rw [block_new (by first | rfl | (simp; done) | simp [World.setCell])]; rfl) hL9 ?_; intro p' cap' w6 HS7 HR7 HM7; clear HSB))
        go_roundg f
        case measure => omega
        case rel =>
          refine ⟨i + 1, L ++ [(⟨2, 0, false, ([] : List Rg)⟩, none, 0)], p', cap', by simp, by go_num, by omega, by omega, by rw [List.length_append, List.length_singleton]; omega, ?_, ?_, ?_, R6.trans HR7⟩
          · rw [Hcomp.out, HIt.out, List.map_append, HAdd.out]; rfl
          · intro x hx
            rcases List.mem_append.1 hx with hx | hx
            · exact ((Hrg.out x hx).keep K6).moved HM7 HR7.size
            · simp only [List.mem_singleton] at hx
              subst hx
              exact (Hnew.out _ K6).moved HM7 HR7.size
          · rw [itCells_snoc, List.length_append, List.length_singleton]
            exact HS7
      have H63 : Hid ((a == 63 && !q) = false) := Lib.hid (by cases q <;> simp at h63 ⊢; exact h63)
      clear h63
      by_cases h91 : a = 91 ∧ q = false
      · obtain ⟨rfl, rfl⟩ := h91
        have H92 : Hid (((91 : UInt8) == 92 && !false) = false) := Lib.hid (by decide)
        have hdd : (t.drop i).drop 1 = t.drop (i + 1) := by rw [List.drop_drop]
        have hit : itemL (t.drop i) path = (match groupL (t.drop (i + 1)) path with
          | some (g, k) => (g, k + 1)
          | none => (⟨1, 91, false, []⟩, 1)) := by
          unfold itemL; rw [Hg0.out, hdd]; rfl
        have Hit := Lib.hid hit
        have HGP := Lib.hid (rgroup_calls t i path _ cap0 wr hW hl hm)
        have hpl : ∀ a, p = some a → a.block < wr.heap.size := fun a ha => by subst ha; obtain ⟨cur, _, _, _, _, _, _, hh⟩ := HS.arr_some; exact hh.lt
        have Hpl := Lib.hid hpl
        clear hit hdd hpl
        go_wp2_with fail
        refine (HIS.out 42 42 rfl false H42.out _ hW).mono ?_
        rintro e w' ⟨rfl, rfl⟩
        go_wp2_with fail
        refine (HIS.out 63 63 rfl false H63.out _ hW).mono ?_
        rintro e w' ⟨rfl, rfl⟩
        go_wp2_with fail
        refine (HIS.out 91 91 rfl true (by rfl) _ hW).mono ?_
        rintro e w' ⟨rfl, rfl⟩
        go_wp2_with fail
        refine HGP.out.mono ?_
        rintro e w2 ⟨⟨g, k, ra, rc, hgl, rfl, hrg2, hfr⟩ | ⟨hgl, rfl⟩, hb2⟩
        · have HIt : Hid (itemL (t.drop i) path = (g, k + 1)) := Lib.hid (by rw [Hit.out, hgl])
          have hn := itemL_n path (t := t.drop i) (by rw [List.length_drop]; omega)
          rw [HIt.out, List.length_drop] at hn
          have hk3 : g.kind ≠ 3 := by
            unfold groupL at hgl
            cases hgr : groupR (t.drop (i + 1)) path with
            | none => rw [hgr] at hgl; cases hgl
            | some x => rw [hgr] at hgl; simp only [Option.map_some, Option.some.injEq, Prod.mk.injEq] at hgl; rw [← hgl.1]; exact (by decide : (4 : Int) ≠ 3)
          have HAdd : Hid (addI (L.map (·.1)) g = L.map (·.1) ++ [g]) := Lib.hid (addI_no hk3)
          have HS2 := (HS.below hb2).old (ritO g.kind g.b g.neg (.slice ra g.rs.length rc))
          have HR2 := Ran.new (HR.below hb2) (ritO g.kind g.b g.neg (.slice ra g.rs.length rc))
          have KB : Kept wr w2 := Kept.below hb2
          have K2 := KB.trans (kept_alloc w2 (ritO g.kind g.b g.neg (.slice ra g.rs.length rc)))
          have Hnew : Hid (∀ W, Kept (w2.alloc (ritO g.kind g.b g.neg (.slice ra g.rs.length rc))) W → RgOk W p (g, ra, rc)) := Lib.hid fun W k => ⟨(hrg2.keep (kept_alloc _ _)).keep k, fun _ a a' e1 e2 => by have h1 := hfr a e1; have h2 := Hpl.out a' e2; omega⟩
          have hto : (0 : Int) < (i : Int) + 1 + k := by omega
          obtain ⟨hn1, hn2⟩ := hn
          simp only at hn1 hn2
          clear hgl hk3 hrg2 hfr hb2 HGP
          have HSB := HS2.old (ritO g.kind g.b g.neg (.slice ra g.rs.length rc))
          have R6 := Ran.new HR2 (ritO g.kind g.b g.neg (.slice ra g.rs.length rc))
          have K6 := K2.trans (kept_alloc (w2.alloc (ritO g.kind g.b g.neg (.slice ra g.rs.length rc))) (ritO g.kind g.b g.neg (.slice ra g.rs.length rc)))
          clear HS HR HS2 HR2
          go_wp2_with (at_builtin; go_loud (refine appRit rfl _ _ rfl p L.length cap _ rfl _ rfl HSB (g, ra, rc) (by rw [block_new (by first | rfl | (simp; done) | simp [World.setCell])]; rfl) hL9 ?_; intro p' cap' w6 HS7 HR7 HM7; clear HSB))
          go_roundg f
          case measure => omega
          case rel =>
            refine ⟨i + (k + 1), L ++ [(g, ra, rc)], p', cap', by simp, by first | (go_num; done) | (simp only [Value.int.injEq]; omega) | (congr 1; omega), by omega, by omega, by rw [List.length_append, List.length_singleton]; omega, ?_, ?_, ?_, R6.trans HR7⟩
            · rw [Hcomp.out, HIt.out, List.map_append, HAdd.out]; rfl
            · intro x hx
              rcases List.mem_append.1 hx with hx | hx
              · exact ((Hrg.out x hx).keep K6).moved HM7 HR7.size
              · simp only [List.mem_singleton] at hx
                subst hx
                exact (Hnew.out _ (kept_alloc _ _)).moved HM7 HR7.size
            · rw [itCells_snoc, List.length_append, List.length_singleton]
              exact HS7
        · have HIt : Hid (itemL (t.drop i) path = (⟨1, 91, false, []⟩, 1)) := Lib.hid (by rw [Hit.out, hgl])
          have HS2 := (HS.below hb2).old (ritO 0 0 false (.slice none 0 0))
          have HR2 := Ran.new (HR.below hb2) (ritO 0 0 false (.slice none 0 0))
          have KB : Kept wr w2 := Kept.below hb2
          have K2 := KB.trans (kept_alloc w2 (ritO 0 0 false (.slice none 0 0)))
          have hW2 := hW.keep K2
          have d0 := (K2.cell htb (tof + i * 2)).trans c0
          unfold zeroItem
          clear hgl hb2 HGP c0
          go_wp2_with fail
          refine (HIS.out 92 92 rfl false H92.out _ hW2).mono ?_
          rintro e w' ⟨rfl, rfl⟩
          have Hnew : Hid (∀ W, Kept wr W → RgOk W p (⟨1, 91, false, ([] : List Rg)⟩, none, 0)) := Lib.hid fun W _ => ⟨rgAt_nil _ _, fun h => absurd rfl h⟩
          have HAdd : Hid (addI (L.map (·.1)) ⟨1, 91, false, ([] : List Rg)⟩ = L.map (·.1) ++ [⟨1, 91, false, ([] : List Rg)⟩]) := Lib.hid (addI_no (show (1 : Int) ≠ 3 by decide))
          have HSB := HS2.old (ritO 1 91 false (.slice none 0 0))
          have R6 := Ran.new HR2 (ritO 1 91 false (.slice none 0 0))
          have K6 := K2.trans (kept_alloc (w2.alloc (ritO 0 0 false (.slice none 0 0))) (ritO 1 91 false (.slice none 0 0)))
          clear HS HR HS2 HR2
          go_wp2_with (at_builtin; go_loud (refine appRit rfl _ _ rfl p L.length cap _ rfl _ rfl HSB (⟨1, 91, false, ([] : List Rg)⟩, none, 0) (by rw [block_new (by first | rfl | (simp; done) | simp [World.setCell])]; rfl) hL9 ?_; intro p' cap' w6 HS7 HR7 HM7; clear HSB))
          go_roundg f
          case measure => omega
          case rel =>
            refine ⟨i + 1, L ++ [(⟨1, 91, false, ([] : List Rg)⟩, none, 0)], p', cap', by simp, by go_num, by omega, by omega, by rw [List.length_append, List.length_singleton]; omega, ?_, ?_, ?_, R6.trans HR7⟩
            · rw [Hcomp.out, HIt.out, List.map_append, HAdd.out]; rfl
            · intro x hx
              rcases List.mem_append.1 hx with hx | hx
              · exact ((Hrg.out x hx).keep K6).moved HM7 HR7.size
              · simp only [List.mem_singleton] at hx
                subst hx
                exact (Hnew.out _ K6).moved HM7 HR7.size
            · rw [itCells_snoc, List.length_append, List.length_singleton]
              exact HS7
      have H91 : Hid ((a == 91 && !q) = false) := Lib.hid (by cases q <;> simp at h91 ⊢; exact h91)
      clear h91
      by_cases h92 : a = 92 ∧ q = false
      · obtain ⟨rfl, rfl⟩ := h92
        by_cases hl2 : i + 1 < t.length
        · have hl2' : (i : Int) + 1 < t.length := by omega
          have n1 : (0 : Int) ≤ (i : Int) + 1 := by omega
          have n3 : ((i : Int) + 1).toNat = i + 1 := by omega
          have d0 : wr.cell? ⟨tb, tof + (i + 1) * 2, none⟩ = some (.int .u8 t[i + 1].b.toNat) := by
            obtain ⟨tb2, o2, e, _, d0, _⟩ := hW.2.2 (i + 1) hl2
            cases e
            exact d0
          obtain ⟨b, hb0⟩ : ∃ b, b = t[i + 1].b := ⟨_, rfl⟩
          rw [← hb0] at d0
          have hit : itemL (t.drop i) path = (⟨1, b, false, []⟩, 2) := by
            unfold itemL; rw [Hg0.out]
            have e : (t.drop i).getD 1 default = t[i + 1] := by rw [List.getD_eq_getElem?_getD, List.getElem?_drop, List.getElem?_eq_getElem hl2]; rfl
            rw [e, ← hb0]
            simp [show 1 < t.length - i by omega]
          have HIt := Lib.hid hit
          clear hit hb0
          go_wp2_with fail
          refine (HIS.out 42 42 rfl false H42.out _ hW).mono ?_
          rintro e w' ⟨rfl, rfl⟩
          go_wp2_with fail
          refine (HIS.out 63 63 rfl false H63.out _ hW).mono ?_
          rintro e w' ⟨rfl, rfl⟩
          go_wp2_with fail
          refine (HIS.out 91 91 rfl false H91.out _ hW).mono ?_
          rintro e w' ⟨rfl, rfl⟩
          go_wp2_with fail
          refine (HIS.out 92 92 rfl true (by rfl) _ hW).mono ?_
          rintro e w' ⟨rfl, rfl⟩
          have Hnew : Hid (∀ W, Kept wr W → RgOk W p (⟨1, b, false, ([] : List Rg)⟩, none, 0)) := Lib.hid fun W _ => ⟨rgAt_nil _ _, fun h => absurd rfl h⟩
          have HAdd : Hid (addI (L.map (·.1)) ⟨1, b, false, ([] : List Rg)⟩ = L.map (·.1) ++ [⟨1, b, false, ([] : List Rg)⟩]) := Lib.hid (addI_no (show (1 : Int) ≠ 3 by decide))
          have HSB := HS.old (ritO 1 b false (.slice none 0 0))
          have R6 := Ran.new HR (ritO 1 b false (.slice none 0 0))
          have K6 := (Kept.refl wr).trans (kept_alloc wr (ritO 1 b false (.slice none 0 0)))
          clear HS HR
          go_wp2_with (at_builtin; go_loud (refine appRit rfl _ _ rfl p L.length cap _ rfl _ rfl HSB (⟨1, b, false, ([] : List Rg)⟩, none, 0) (by rw [block_new (by first | rfl | (simp; done) | simp [World.setCell])]; rfl) hL9 ?_; intro p' cap' w6 HS7 HR7 HM7; clear HSB))
          go_roundg f
          case measure => omega
          case rel =>
            refine ⟨i + 2, L ++ [(⟨1, b, false, ([] : List Rg)⟩, none, 0)], p', cap', by simp, by go_num, by omega, by omega, by rw [List.length_append, List.length_singleton]; omega, ?_, ?_, ?_, R6.trans HR7⟩
            · rw [Hcomp.out, HIt.out, List.map_append, HAdd.out]; rfl
            · intro x hx
              rcases List.mem_append.1 hx with hx | hx
              · exact ((Hrg.out x hx).keep K6).moved HM7 HR7.size
              · simp only [List.mem_singleton] at hx
                subst hx
                exact (Hnew.out _ K6).moved HM7 HR7.size
            · rw [itCells_snoc, List.length_append, List.length_singleton]
              exact HS7
        · have hl2' : ¬ ((i : Int) + 1 < t.length) := by omega
          have hit : itemL (t.drop i) path = (⟨1, 92, false, []⟩, 1) := by
            unfold itemL; rw [Hg0.out]
            simp [show ¬ 1 < t.length - i by omega]
          have HIt := Lib.hid hit
          clear hit
          go_wp2_with fail
          refine (HIS.out 42 42 rfl false H42.out _ hW).mono ?_
          rintro e w' ⟨rfl, rfl⟩
          go_wp2_with fail
          refine (HIS.out 63 63 rfl false H63.out _ hW).mono ?_
          rintro e w' ⟨rfl, rfl⟩
          go_wp2_with fail
          refine (HIS.out 91 91 rfl false H91.out _ hW).mono ?_
          rintro e w' ⟨rfl, rfl⟩
          go_wp2_with fail
          refine (HIS.out 92 92 rfl true (by rfl) _ hW).mono ?_
          rintro e w' ⟨rfl, rfl⟩
          have Hnew : Hid (∀ W, Kept wr W → RgOk W p (⟨1, 92, false, ([] : List Rg)⟩, none, 0)) := Lib.hid fun W _ => ⟨rgAt_nil _ _, fun h => absurd rfl h⟩
          have HAdd : Hid (addI (L.map (·.1)) ⟨1, 92, false, ([] : List Rg)⟩ = L.map (·.1) ++ [⟨1, 92, false, ([] : List Rg)⟩]) := Lib.hid (addI_no (show (1 : Int) ≠ 3 by decide))
          have HSB := HS.old (ritO 1 92 false (.slice none 0 0))
          have R6 := Ran.new HR (ritO 1 92 false (.slice none 0 0))
          have K6 := (Kept.refl wr).trans (kept_alloc wr (ritO 1 92 false (.slice none 0 0)))
          clear HS HR
          go_wp2_with (at_builtin; go_loud (refine appRit rfl _ _ rfl p L.length cap _ rfl _ rfl HSB (⟨1, 92, false, ([] : List Rg)⟩, none, 0) (by rw [block_new (by first | rfl | (simp; done) | simp [World.setCell])]; rfl) hL9 ?_; intro p' cap' w6 HS7 HR7 HM7; clear HSB))
          go_roundg f
          case measure => omega
          case rel =>
            refine ⟨i + 1, L ++ [(⟨1, 92, false, ([] : List Rg)⟩, none, 0)], p', cap', by simp, by go_num, by omega, by omega, by rw [List.length_append, List.length_singleton]; omega, ?_, ?_, ?_, R6.trans HR7⟩
            · rw [Hcomp.out, HIt.out, List.map_append, HAdd.out]; rfl
            · intro x hx
              rcases List.mem_append.1 hx with hx | hx
              · exact ((Hrg.out x hx).keep K6).moved HM7 HR7.size
              · simp only [List.mem_singleton] at hx
                subst hx
                exact (Hnew.out _ K6).moved HM7 HR7.size
            · rw [itCells_snoc, List.length_append, List.length_singleton]
              exact HS7
      have H92 : Hid ((a == 92 && !q) = false) := Lib.hid (by cases q <;> simp at h92 ⊢; exact h92)
      clear h92
      have hit : itemL (t.drop i) path = (⟨1, a, false, []⟩, 1) := by
        have e42 := H42.out
        have e63 := H63.out
        have e91 := H91.out
        have e92 := H92.out
        unfold itemL; rw [Hg0.out]
        cases q
        · simp only [Bool.not_false, Bool.and_true, beq_eq_false_iff_ne] at e42 e63 e91 e92
          simp [e42, e63, e91, e92]
        · rfl
      have HIt := Lib.hid hit
      clear hit
      go_wp2_with fail
      refine (HIS.out 42 42 rfl false H42.out _ hW).mono ?_
      rintro e w' ⟨rfl, rfl⟩
      go_wp2_with fail
      refine (HIS.out 63 63 rfl false H63.out _ hW).mono ?_
      rintro e w' ⟨rfl, rfl⟩
      go_wp2_with fail
      refine (HIS.out 91 91 rfl false H91.out _ hW).mono ?_
      rintro e w' ⟨rfl, rfl⟩
      go_wp2_with fail
      refine (HIS.out 92 92 rfl false H92.out _ hW).mono ?_
      rintro e w' ⟨rfl, rfl⟩
      have Hnew : Hid (∀ W, Kept wr W → RgOk W p (⟨1, a, false, ([] : List Rg)⟩, none, 0)) := Lib.hid fun W _ => ⟨rgAt_nil _ _, fun h => absurd rfl h⟩
      have HAdd : Hid (addI (L.map (·.1)) ⟨1, a, false, ([] : List Rg)⟩ = L.map (·.1) ++ [⟨1, a, false, ([] : List Rg)⟩]) := Lib.hid (addI_no (show (1 : Int) ≠ 3 by decide))
      have HSB := HS.old (ritO 1 a false (.slice none 0 0))
      have R6 := Ran.new HR (ritO 1 a false (.slice none 0 0))
      have K6 := (Kept.refl wr).trans (kept_alloc wr (ritO 1 a false (.slice none 0 0)))
      clear HS HR
      go_wp2_with (at_builtin; go_loud (refine appRit rfl _ _ rfl p L.length cap _ rfl _ rfl HSB (⟨1, a, false, ([] : List Rg)⟩, none, 0) (by rw [block_new (by first | rfl | (simp; done) | simp [World.setCell])]; rfl) hL9 ?_; intro p' cap' w6 HS7 HR7 HM7; clear HSB))
      go_roundg f
      case measure => omega
      case rel =>
        refine ⟨i + 1, L ++ [(⟨1, a, false, ([] : List Rg)⟩, none, 0)], p', cap', by simp, by go_num, by omega, by omega, by rw [List.length_append, List.length_singleton]; omega, ?_, ?_, ?_, R6.trans HR7⟩
        · rw [Hcomp.out, HIt.out, List.map_append, HAdd.out]; rfl
        · intro x hx
          rcases List.mem_append.1 hx with hx | hx
          · exact ((Hrg.out x hx).keep K6).moved HM7 HR7.size
          · simp only [List.mem_singleton] at hx
            subst hx
            exact (Hnew.out _ K6).moved HM7 HR7.size
        · rw [itCells_snoc, List.length_append, List.length_singleton]
          exact HS7
    · have hge : ¬ ((i : Int) < t.length) := by omega
      have hfin : compileL t path = L.map (·.1) := by
        rw [hcomp, List.drop_eq_nil_of_le (by omega)]
        cases gk <;> rfl
      have hlen : (compileL t path).length = L.length := by rw [hfin, List.length_map]
      have hI := itemsAt_arrR HS fun x hx => (hrg x hx).1
      rw [← hfin] at hI
      have Hlen := Lib.hid hlen
      clear hfin hlen hcomp hrg
      go_wp2_with fail
      go_ret
      exact ⟨p, cap, show Ending.returned (.slice p L.length cap) = .returned (.slice p (compileL t path).length cap) by rw [Hlen.out], hI, HR.whole HS⟩
end Go.Proofs.Ytjbdpahdhlmanaa.Globs
