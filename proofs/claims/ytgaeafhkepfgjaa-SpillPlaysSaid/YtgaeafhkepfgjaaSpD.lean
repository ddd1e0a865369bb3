/- (*Buffer).Drain, walked: the first bytes are taken. -/
import Derived.Test.YtgaeafhkepfgjaaSpC
import Derived.Laws.IdiomStrings
namespace Go.Proofs.Ytgaeafhkepfgjaa.Spill
open Go.RowKit Go.Proofs.Ytgaeafhkepfgjaa Go.Proofs.Ytgaeafhkepfgjaa.Hp
set_option linter.unusedVariables false

/-- copy of a slice's bytes, as a step of a region that draws its order. -/
theorem stepcopy58 {w : World} {R : Hp} {ops : Array Oper} {o : Oper} {a : Act} {K : Act → World → Prop} {Q : Exit → Act → World → Prop} {E : Prop} (hgd : o.guard = none) (d s : Operand)
    (ho : o.op = .call { callee := .builtin .copy, args := #[d, s], argTypes := #[58, 58] }) (g off dLen dCap sb so sl sc : Nat) (l : List UInt8) (hd : a.eval d = .slice (some ⟨g, off, none⟩) dLen dCap) (hx : a.eval s = .slice (some ⟨sb, so, none⟩) sl sc) (cur : List Value)
    (h : Sat w (pts g (.cells cur.toArray 5 (0, 0)) * R)) (hl : l.length = min sl dLen) (hsrc : ∀ j, j < l.length → w.cell? ⟨sb, so + j, none⟩ = (bytes l)[j]?) (hfit : off + l.length ≤ cur.length)
    (hk : ∀ w', Sat w' (pts g (.cells (splice cur off (bytes l)).toArray 5 (0, 0)) * R) → Ran w w' → K (a.put o.dst (.int .i64 (l.length : Int))) w') : if Region.wanted o (yielded ops a.tmps) = true then Oper.wp Try.prog o a w K Q else E := by
  have hb : (bytes l).length = l.length := bytes_length l
  refine step_copy_sat (P := Try.prog) (R := R) (ops := ops) (Q := Q) hgd d s _ _ ho 5 Try.underlying58 size5 g off dLen dCap _ hd hx cur (bytes l) 5 h sl (lenOf_slice _ _ _ w) ?_ (by rw [hb, hl]) (by omega) (bytes_one _) (by rw [hb]; exact hk)
  have hm : Nat.min sl dLen = l.length := by rw [hl]
  rw [hm]
  refine run_firstCells_some w 1 l.length ⟨sb, so, none⟩ sl sc (bytes l) (by rw [hb, Nat.mul_one]) fun j v hj => ?_
  have hj' : j < l.length := by rw [← hb]; exact (List.getElem?_eq_some_iff.1 hj).1
  rw [Addr.add_lit, hsrc j hj', hj]

theorem keep3 {w : World} {R : Hp} {bb bp ga o n cap : Nat} {cl : Bool} {f : Value} {gone frm til : Int} {v : Value} {vs : List Value} (h : Sat w (pts bb (bf bp cl f (.slice (some ⟨ga, o, none⟩) n cap) gone frm til) * (arr 58 1 (some ⟨ga, o, none⟩) n cap (v :: vs) * R))) :
    w.cell? ⟨bb, 0, none⟩ = some (.pointer (some ⟨bp, 0, none⟩)) ∧ w.cell? ⟨bb, 3, none⟩ = some (.slice (some ⟨ga, o, none⟩) n cap) ∧ w.cell? ⟨ga, o, none⟩ = some v ∧ w.cell? ⟨bb, 4, none⟩ = some (.int .i64 gone) ∧ ∀ i, w.frozen? ⟨bb, i, none⟩ = false := by
  have hc := cells7 h.get
  exact ⟨hc.1, hc.2.2.2.1, h.right.arr_cell 0 (by simp), hc.2.2.2.2.1, hc.2.2.2.2.2.2.2⟩

/-- At the loop's head: g bytes have been taken. -/
def DRel (bp bb q m c held U opn tot frm til N ob : Nat) (data : List UInt8) (R : Hp) (w : World) (k : Nat) (gv : Value) (wr : World) : Prop :=
  ∃ (g : Nat) (cur : List Value), g + k = N ∧ gv = .int .i64 (g : Int) ∧ cur.length = N ∧ cur.take g = bytes (data.take g) ∧
    Sat wr (poolX bp q m c held (U + (cl m c til - gn m c (frm + g))) opn tot * (bufX bb bp m c (frm + g) (data.drop g) * (pts ob (.cells cur.toArray 5 (0, 0)) * R))) ∧ Ran w wr

def DrainPost (bp bb q m c held U opn tot frm til N : Nat) (data : List UInt8) (R : Hp) (w : World) (e : Ending) (w' : World) : Prop :=
  e = .returned (.tuple #[.string ⟨(data.take N).toArray⟩, .int .i64 0]) ∧
    Sat w' (poolX bp q m c (held - N) (U + (cl m c til - gn m c (frm + N))) opn tot * (bufX bb bp m c (frm + N) (data.drop N) * R)) ∧ Ran w w'

set_option maxRecDepth 100000 in
set_option maxHeartbeats 4000000 in
theorem drain_calls (bp bb q m c held U opn tot frm til n N : Nat) (data : List UInt8) (R : Hp) (w : World) (hc : 1 ≤ c) (hc2 : c ≤ 65536) (hm : m ≤ 65536) (hh : held ≤ 1000000000) (hd : data.length ≤ held) (hf : frm + data.length ≤ 1000000000) (hU : U ≤ 1000000000) (htot : tot ≤ 1000000000) (hn : (n : Int) ≤ 9223372036854775807)
    (htil : til = frm + data.length) (hN : N = min n data.length)
    (H : Sat w (poolX bp q m c held (U + (cl m c til - gn m c frm)) opn tot * (bufX bb bp m c frm data * R))) :
    Calls Try.prog 14 #[.pointer (some ⟨bb, 0, none⟩), .int .i64 n] w (DrainPost bp bb q m c held U opn tot frm til N data R w) := by
  obtain ⟨p, cap, F, hFt, H1⟩ := poolX_out H
  obtain ⟨fb, p', cap', fs, L, hL, hHolds, H2⟩ := bufX_out (H1.perm (sep_comm _ _) |>.perm (sep_assoc _ _ _))
  rw [← htil] at H2
  obtain ⟨⟨c0, c1, c2, c3, c4, c5, cf⟩, ⟨b0, b1, b2, b3, b4, b5, b6, bz⟩, hne⟩ := facts (H2.perm (show _ = pool bp q m c held (U + (cl m c til - gn m c frm)) opn p cap F * (bufO bb bp m c fb p' cap' (gn m c frm) frm til fs L * R) by ac_rfl))
  have n5 := World.new_ne w _ b5
  have n6 := World.new_ne w _ b6
  have ht2 : (frm : Int) ≤ til := by omega
  have ht3 : (til : Int) ≤ 1000000000 := by omega
  have hmin : (if (til : Int) - frm < n then (til : Int) - frm else (n : Int)) = (N : Int) := by split <;> omega
  have hNle : N ≤ data.length := by omega
  obtain ⟨i0, hi, hz0, hz1, hz2⟩ := info_parts info5
  have hmk : ∀ w' : World, (Instr.makeSlice 58 (.int .i64 (N : Int)) (.int .i64 (N : Int))).run Try.prog w' = .ok (.slice (some ⟨w'.heap.size, 0, none⟩) N N) (w'.alloc (.cells (madeCells #[.int .u8 0] N) 5)) := fun w' => by
    have := run_make (P := Try.prog) w' _ _ i0 _ Try.underlying58 hi hz0 .i64 .i64 (N : Int) (N : Int) (by omega) (by omega) (by rw [hz2]; omega) (by omega)
    simpa [hz1, Value.cells] using this
  have hwr : IntKind.i64.wrap ((til : Int) - frm) = (til : Int) - frm := IntWalk.i64_in _ (by omega)
  have Htil := Lib.hid htil
  have HN := Lib.hid hN
  clear hi hz0 hz1 hz2 hL htil hN
  go_enter Try.func14, Try.ntmps14
  go_wp2_with (go_at_call 28; refine (is_open _ _ b1).mono ?_; rintro e w' ⟨rfl, rfl⟩)
  go_region_held3 (fun w' => w'.cell? ⟨bb, 5, none⟩ = some (.int .i64 frm) ∧ w'.cell? ⟨bb, 6, none⟩ = some (.int .i64 til)) (go_keep) (fail)
  go_wp2_with fail
  have hmc : (madeCells #[Value.int .u8 0] N).toList.length = N := by simp [size_madeCells]
  have HO : Sat ((w.alloc (.cells (madeCells #[.int .u8 0] N) 5)).drew) (pts w.heap.size (.cells (madeCells #[.int .u8 0] N) 5 (0, 0)) * (poolX bp q m c held (U + (cl m c til - gn m c frm)) opn tot * (bufX bb bp m c frm data * R))) := (H.alloc _).drew
  have Hmc := Lib.hid hmc
  clear H1 H2 c0 c1 c2 c3 c4 c5 cf b0 b1 b2 b3 b4 b5 b6 bz n5 n6 hmk hwr hmin hmc hHolds hFt
  obtain ⟨ob, hob⟩ : ∃ ob, ob = w.heap.size := ⟨_, rfl⟩
  rw [← hob] at HO ⊢
  clear hob
  go_loopg [8] N (DRel bp bb q m c held U opn tot frm til N ob data R w)
  case atStart =>
    refine ⟨0, (madeCells #[.int .u8 0] N).toList, by omega, rfl, Hmc.out, by simp [bytes], ?_, Below.drew (Ran.new (Below.refl _ _) _)⟩
    rw [Nat.add_zero, List.drop_zero]
    exact HO.perm (by show pts ob (.cells (madeCells #[.int .u8 0] N) 5 (0, 0)) * _ = _ * (_ * (pts ob (.cells (madeCells #[.int .u8 0] N) 5 (0, 0)) * _)); ac_rfl)
  case round =>
    clear HO H Hmc p cap F fb p' cap' fs L
    obtain ⟨g, cur, hgk, rfl, hcur, htk, HS, HR⟩ := hrel
    obtain ⟨p, cap, F, hFt, H1⟩ := poolX_out HS
    obtain ⟨fb, p', cap', fs, L, hL, hHolds, H2⟩ := bufX_out (H1.perm (show _ = bufX bb bp m c (frm + g) (data.drop g) * (pool bp q m c held (U + (cl m c til - gn m c (frm + g))) opn p cap F * (pts ob (.cells cur.toArray 5 (0, 0)) * R)) by ac_rfl))
    have Htk := Lib.hid htk
    have Hcur := Lib.hid hcur
    have Hgk := Lib.hid hgk
    have hgN : (g : Int) ≤ N := by omega
    clear htk hcur hgk
    have hfr : frm + g + (data.drop g).length = til := by rw [List.length_drop]; have := Htil.out; omega
    rw [hfr] at H2 hL
    have HL := Lib.hid hL
    obtain ⟨fr, hfr1⟩ : ∃ fr, fr = frm + g := ⟨_, rfl⟩
    rw [← hfr1] at H1 H2 HS hHolds hFt
    have Hfr := Lib.hid hfr
    have Hfr1 := Lib.hid hfr1
    obtain ⟨u, hu⟩ : ∃ u, u = U + (cl m c til - gn m c fr) := ⟨_, rfl⟩
    rw [← hu] at H1 H2 HS hFt
    have Hu := Lib.hid hu
    have hfr2 : (fr : Int) ≤ til := by omega
    have hfr3 : (0 : Int) ≤ fr := by omega
    clear hL hfr hfr1 hu
    have HP : Sat wr (pool bp q m c held u opn p cap F * (bufO bb bp m c fb p' cap' (gn m c fr) fr til fs L * (pts ob (.cells cur.toArray 5 (0, 0)) * R))) := H2.perm (by ac_rfl)
    obtain ⟨⟨c0, c1, c2, c3, c4, c5, cf⟩, ⟨b0, b1, b2, b3, b4, b5, b6, bz⟩, hne⟩ := facts HP
    by_cases hg : g = N
    · have hgl : ¬ ((g : Int) < N) := by omega
      have Hg := Lib.hid hg
      have hN1 : (N : Int) ≤ held := by omega
      clear hg
      have hlen : (data.take N).length = N := by rw [List.length_take]; omega
      have HOb : Sat wr (pts ob (.cells cur.toArray 5 (0, 0)) * (pool bp q m c held u opn p cap F * (bufX bb bp m c fr (data.drop g) * R))) := H1.perm (by ac_rfl)
      have hcv : (convert 58 9 (.slice (some ⟨ob, 0, none⟩) N N)).run Try.prog (wr.setCell ⟨bp, 3, none⟩ (.int .i64 ((held : Int) - N))) = .ok (.string ⟨(data.take N).toArray⟩) (wr.setCell ⟨bp, 3, none⟩ (.int .i64 ((held : Int) - N))) := by
        have hne' : bp ≠ ob := (HOb.perm (show _ = pts bp _ * (pts ob (.cells cur.toArray 5 (0, 0)) * ((arr 58 1 p F.length cap (F.map (bs c)) * all (chunk c) F) * (bufX bb bp m c fr (data.drop g) * R))) by unfold pool; ac_rfl)).ne
        have := run_convert_bytes_back (P := Try.prog) (wr.setCell ⟨bp, 3, none⟩ (.int .i64 ((held : Int) - N))) 58 9 5 ⟨ob, 0, none⟩ N (data.take N) Try.underlying58 Try.underlying5 Try.underlying9 (fun j hj => by
          have e1 := Htk.out
          have e2 := Hcur.out
          have e3 := Hg.out
          rw [e3, List.take_of_length_le (by omega)] at e1
          rw [Addr.add_lit, World.cell?_setCell_other _ _ _ _ (fun e => hne' (by injection e)), Nat.zero_add, cell_at HOb.get, e1]
          rw [List.getElem?_toArray]
          show (List.map _ (data.take N))[j]? = _
          rw [List.getElem?_map, List.getElem?_eq_getElem hj]; rfl)
        rw [hlen] at this
        exact this
      go_wp2
      go_ret2
      have H3 : Sat (wr.setCell ⟨bp, 3, none⟩ (.int .i64 ((held : Int) - N))) (pts bp (pf q m c (held - N : Nat) u opn (.slice p F.length cap)) * (arr 58 1 p F.length cap (F.map (bs c)) * all (chunk c) F * (bufX bb bp m c fr (data.drop g) * (pts ob (.cells cur.toArray 5 (0, 0)) * R)))) := by
        have := (H1.perm (sep_assoc _ _ _)).set (i := 3) (.int .i64 ((held : Int) - N))
        rw [show ((held : Int) - N) = ((held - N : Nat) : Int) by omega] at this ⊢
        exact this
      refine ⟨rfl, ?_, Ran.set HR _ _⟩
      have e1 := Hfr1.out
      have e3 := Hg.out
      subst e3
      have e4 := Hu.out
      rw [← e1, ← e4]
      have H4 := poolX_in (tot := tot) hFt (H3.perm (show _ = pool bp q m c (held - g) u opn p cap F * (bufX bb bp m c fr (data.drop g) * (pts ob (.cells cur.toArray 5 (0, 0)) * R)) by unfold pool; ac_rfl))
      exact (H4.perm (show _ = poolX bp q m c (held - g) u opn tot * (bufX bb bp m c fr (data.drop g) * R) * pts ob (.cells cur.toArray 5 (0, 0)) by ac_rfl)).left
    · have hgl : (g : Int) < N := by omega
      have hg0 : (0 : Int) ≤ g := by omega
      have hcu := Hcur.out
      have hrl : (data.drop g).length = til - fr := by have h1 := Hfr.out; have h2 := Hfr1.out; omega
      have hNt : N - g ≤ til - fr := by rw [← hrl, List.length_drop]; omega
      have hclt : gn m c fr ≤ cl m c til := gn_le_cl (by omega) (by omega)
      clear hg
      have HOb : Sat wr (pts ob (.cells cur.toArray 5 (0, 0)) * (pool bp q m c held u opn p cap F * (bufO bb bp m c fb p' cap' (gn m c fr) fr til fs L * R))) := HP.perm (by ac_rfl)
      have Hrl := Lib.hid hrl
      have Hcu := Lib.hid hcu
      clear hrl hcu
      by_cases hA : (fr : Int) < m
      · obtain ⟨k, hk⟩ : ∃ k, k = min (N - g) (m - fr) := ⟨_, rfl⟩
        have hk1 : (1 : Int) ≤ k := by omega
        have hk2 : (g : Int) + k ≤ N := by omega
        have hk3 : (fr : Int) + k ≤ m := by omega
        obtain ⟨l, hl⟩ : ∃ l, l = (data.drop g).take k := ⟨_, rfl⟩
        have hll : l.length = k := by have := Hrl.out; rw [hl, List.length_take]; omega
        have hsrc : ∀ j, j < l.length → wr.cell? ⟨fb, fr + j, none⟩ = (bytes l)[j]? := fun j hj => by
          have HF : Sat wr (pts fb (.cells fs.toArray 5 (0, 0)) * (fact (fs.length = m) * (pts bb (bf bp false (.slice (some ⟨fb, 0, none⟩) m m) (.slice p' L.length cap') (gn m c fr) fr til) * ((arr 58 1 p' L.length cap' (L.map (bs c)) * all (chunk c) L) * (pool bp q m c held u opn p cap F * (pts ob (.cells cur.toArray 5 (0, 0)) * R)))))) := HP.perm (by unfold bufO; ac_rfl)
          rw [cell_at HF.get, List.getElem?_toArray, hl]
          exact holds_first hHolds (by omega) (by have := Hrl.out; omega) j (by omega)
        have Hsrc := Lib.hid hsrc
        have Hl := Lib.hid hl
        have Hll := Lib.hid hll
        have Hk := Lib.hid hk
        have Hlm : Hid (l.length = min (m - fr) (N - g)) := by show l.length = min (m - fr) (N - g); omega
        clear hsrc hl hll hk
        go_wp2_with fail
        go_region_held3 (fun w' => w'.cell? ⟨bb, 5, none⟩ = some (.int .i64 fr)) (first | exact (facts (HS2.right)).2.1.2.2.2.2.2.1 | go_keep)
          (first
            | (go_at_call 30; refine (at_first _ bb bp fb m fr (by exact b0) (by exact b2) (by exact c1) hA).mono ?_; rintro e w' ⟨rfl, nq2, rfl⟩)
            | (refine stepcopy58 (by rfl) _ _ (by rfl) ob g (N - g) (N - g) fb fr (m - fr) (m - fr) l (by rfl) (by rfl) cur (HOb.ext fun _ _ => rfl) Hlm.out (by exact Hsrc.out) (by have h1 := Hcu.out; have h2 := Hll.out; omega) ?_; rw [Hll.out]; intro w2 HS2 HR2))
        obtain ⟨⟨e0, e1, e2, e3, e4, e5, ef⟩, ⟨d0, d1, d2, d3, d4, d5, d6, dz⟩, hne2⟩ := facts HS2.right
        have hwr : IntKind.i64.wrap ((fr : Int) + k - m) = (fr : Int) + k - m := IntWalk.i64_in _ (by omega)
        have hkm : ¬ ((m : Int) < (fr : Int) + k) := by omega
        go_wp2_with fail
        go_quiet (fail)
        clear hwr
        go_wp2_with fail
        go_roundg (gk - k)
        case measure => have := Hgk.out; omega
        case rel =>
          have hcl := Hcu.out
          have hll := Hll.out
          have hkg := Hgk.out
          have hfo := Hfr1.out
          have hlo := Hl.out
          have hsl : (splice cur g (bytes l)).length = N := by rw [length_splice _ _ _ (by rw [bytes_length]; omega)]; exact hcl
          have htk2 : (splice cur g (bytes l)).take (g + k) = bytes (data.take (g + k)) := by rw [hlo]; exact took_more hcl Htk.out (by omega) (by omega)
          have g0 : gn m c fr = 0 := gn_low (by omega)
          have g1 : gn m c (fr + k) = 0 := gn_low (by omega)
          have hdl : (data.drop (g + k)).length = til - (fr + k) := by have := Hrl.out; rw [List.length_drop] at this ⊢; omega
          have HB : Sat (w2.setCell ⟨bb, 5, none⟩ (.int .i64 ((fr : Int) + k))) (pts bb (bf bp false (.slice (some ⟨fb, 0, none⟩) m m) (.slice p' L.length cap') (gn m c fr) (fr + k : Nat) til) * (fact (fs.length = m) * pts fb (.cells fs.toArray 5 (0, 0)) * (arr 58 1 p' L.length cap' (L.map (bs c)) * all (chunk c) L) * (pts ob (.cells (splice cur g (bytes l)).toArray 5 (0, 0)) * (pool bp q m c held u opn p cap F * R)))) :=
            (HS2.perm (show _ = pts bb (bf bp false (.slice (some ⟨fb, 0, none⟩) m m) (.slice p' L.length cap') (gn m c fr) fr til) * (fact (fs.length = m) * pts fb (.cells fs.toArray 5 (0, 0)) * (arr 58 1 p' L.length cap' (L.map (bs c)) * all (chunk c) L) * (pts ob (.cells (splice cur g (bytes l)).toArray 5 (0, 0)) * (pool bp q m c held u opn p cap F * R))) by unfold bufO; ac_rfl)).set (i := 5) (.int .i64 ((fr : Int) + k))
          have hgg : gn m c fr = gn m c (fr + k) := by rw [g0, g1]
          rw [hgg] at HB
          have HB2 := bufX_in (data := data.drop (g + k)) (bb := bb) (bp := bp) (c := c) (m := m) (fb := fb) (p := p') (cap := cap') (fs := fs) (L := L) (frm := fr + k) (til := til) (by omega) (by have := HL.out; rw [← hfo] at this; omega)
            (by rw [g1, ← g0, ← List.drop_drop]; exact holds_drop hHolds k) (HB.perm (show _ = bufO bb bp m c fb p' cap' (gn m c (fr + k)) (fr + k) til fs L * (pts ob (.cells (splice cur g (bytes l)).toArray 5 (0, 0)) * (pool bp q m c held u opn p cap F * R)) by unfold bufO; ac_rfl))
          have HB3 := poolX_in (tot := tot) hFt (HB2.perm (show _ = pool bp q m c held u opn p cap F * (bufX bb bp m c (fr + k) (data.drop (g + k)) * (pts ob (.cells (splice cur g (bytes l)).toArray 5 (0, 0)) * R)) by ac_rfl))
          refine ⟨g + k, splice cur g (bytes l), by omega, rfl, hsl, htk2, ?_, Ran.drewN (Ran.set ((Ran.drewN HR _).trans HR2) _ _) _⟩
          rw [← Nat.add_assoc, ← hfo, g1, show U + (cl m c til - 0) = u by have := Hu.out; omega]
          exact HB3.drewN _
      · have hmf : m ≤ fr := by omega
        obtain ⟨off, hoff⟩ : ∃ off, off = (fr - m) % c := ⟨_, rfl⟩
        have hoc : off < c := by rw [hoff]; exact Nat.mod_lt _ (by omega)
        have hgn : gn m c fr = (fr - m) / c := rfl
        have hft : fr < til := by omega
        have hLne : L.length ≠ 0 := by
          have h1 := HL.out
          rw [← Hfr1.out] at h1
          have h2 := cl_step (c := c) (m := m) (til := fr) (n := 1) (by omega) hmf (by omega) (by omega)
          have h3 := cl_mono (m := m) (c := c) (show fr + 1 ≤ til by omega)
          omega
        obtain ⟨x, Lt, rfl⟩ : ∃ x Lt, L = x :: Lt := by cases L with | nil => exact absurd rfl hLne | cons x Lt => exact ⟨x, Lt, rfl⟩
        obtain ⟨k, hk⟩ : ∃ k, k = min (N - g) (c - off) := ⟨_, rfl⟩
        have hk1 : (1 : Int) ≤ k := by omega
        have hk2 : (g : Int) + k ≤ N := by omega
        have hk3 : (off : Int) + k ≤ c := by omega
        obtain ⟨l, hl⟩ : ∃ l, l = (data.drop g).take k := ⟨_, rfl⟩
        have hll : l.length = k := by have := Hrl.out; rw [hl, List.length_take]; omega
        have HF : Sat wr (fact (x.2.length = c) * (pts x.1 (.cells x.2.toArray 5 (0, 0)) * (pts bb (bf bp false (.slice (some ⟨fb, 0, none⟩) m m) (.slice p' (x :: Lt).length cap') (gn m c fr) fr til) * (fact (fs.length = m) * pts fb (.cells fs.toArray 5 (0, 0)) * (arr 58 1 p' (x :: Lt).length cap' ((x :: Lt).map (bs c)) * all (chunk c) Lt) * (pool bp q m c held u opn p cap F * (pts ob (.cells cur.toArray 5 (0, 0)) * R)))))) := HP.perm (by
          show _ * (pts bb _ * (_ * (_ * (fact (x.2.length = c) * pts x.1 (.cells x.2.toArray 5 (0, 0)) * all (chunk c) Lt))) * _) = _
          ac_rfl)
        obtain ⟨hxl, HX⟩ := HF.fact_out
        have hsrc : ∀ j, j < l.length → wr.cell? ⟨x.1, off + j, none⟩ = (bytes l)[j]? := fun j hj => by
          rw [cell_at HX.get, List.getElem?_toArray, hl, hoff]
          exact holds_chunk (by omega) hHolds hmf (by omega) (by have := Hrl.out; omega) j (by omega)
        have HAr : Sat wr (arr 58 1 p' (x :: Lt).length cap' ((x :: Lt).map (bs c)) * (pts bb (bf bp false (.slice (some ⟨fb, 0, none⟩) m m) (.slice p' (x :: Lt).length cap') (gn m c fr) fr til) * (fact (fs.length = m) * pts fb (.cells fs.toArray 5 (0, 0)) * all (chunk c) (x :: Lt) * (pool bp q m c held u opn p cap F * (pts ob (.cells cur.toArray 5 (0, 0)) * R))))) := HP.perm (by unfold bufO; ac_rfl)
        have hcap : Lt.length + 1 ≤ cap' := by have := HAr.arr_len.2.1; simpa using this
        obtain ⟨ga, o, rfl⟩ := HAr.arr_addr (by omega)
        have hcell : wr.cell? ⟨ga, o + 0, none⟩ = some (.slice (some ⟨x.1, 0, none⟩) c c) := HAr.arr_cell 0 (by simp)
        have e0 : ((fr : Int) - m) = ((fr - m : Nat) : Int) := by omega
        have e2 : ((fr : Int) - m) % c = off := by rw [e0, hoff]; rfl
        have e1 : ((fr : Int) - m) / c = (gn m c fr : Int) + (0 : Nat) := by rw [e0, hgn]; simp
        have hgb : gn m c fr + 0 ≤ 1000000000000 := by rw [hgn]; have := Nat.div_le_self (fr - m) c; omega
        have hk0 : ((0 : Nat) : Int) < (x :: Lt).length := by simp only [List.length_cons]; omega
        have hoc' : (off : Int) < c := by omega
        have e3 : ((fr : Int) + k - m) % c = (((fr - m) % c + k) % c : Nat) := by
          rw [show ((fr : Int) + k - m) = (((fr - m) + k : Nat) : Int) by omega]
          show ((((fr - m) + k) % c : Nat) : Int) = _
          rw [Nat.mod_add_mod]
        rw [← hoff] at e3
        have E1 := Lib.hid e1
        have E2 := Lib.hid e2
        have E3 := Lib.hid e3
        have Hx := Lib.hid hxl
        have Hcell := Lib.hid hcell
        have Hsrc := Lib.hid hsrc
        have Hoff := Lib.hid hoff
        have Hl := Lib.hid hl
        have Hll := Lib.hid hll
        have Hk := Lib.hid hk
        have Hlm : Hid (l.length = min (c - off) (N - g)) := by show l.length = min (c - off) (N - g); omega
        have hgn2 : gn m c fr + 1 ≤ cl m c til := by have h1 := HL.out; rw [← Hfr1.out] at h1; simp at h1; omega
        clear hsrc hl hll hk hxl hcell e0 e1 e2 e3 hoff hgn hLne
        go_wp2_with fail
        go_region_held3 (fun w' => w'.cell? ⟨bb, 5, none⟩ = some (.int .i64 fr)) (first | exact (facts (HS2.right)).2.1.2.2.2.2.2.1 | go_keep)
          (first
            | (go_at_call 30; refine (at_chunk _ bb bp m c x.1 ga o (x :: Lt).length cap' (gn m c fr) 0 off fr (by exact b0) (by exact b3) (by exact b4) (by exact c1) (by exact c2) (by exact Hcell.out) hk0 hoc' hc2 (by omega) (by omega) E1.out E2.out hgb).mono ?_; rintro e w' ⟨rfl, nq2, rfl⟩)
            | (refine stepcopy58 (by rfl) _ _ (by rfl) ob g (N - g) (N - g) x.1 off (c - off) (c - off) l (by rfl) (by rfl) cur (HOb.ext fun _ _ => rfl) Hlm.out (by exact Hsrc.out) (by have h1 := Hcu.out; have h2 := Hll.out; omega) ?_; rw [Hll.out]; intro w2 HS2 HR2))
        obtain ⟨⟨e0, e1, e2, e3, e4, e5, ef⟩, ⟨d0, d1, d2, d3, d4, d5, d6, dz⟩, hne2⟩ := facts HS2.right
        have hwr : IntKind.i64.wrap ((fr : Int) + k - m) = (fr : Int) + k - m := IntWalk.i64_in _ (by omega)
        have hkm : (m : Int) < (fr : Int) + k := by omega
        go_wp2_with fail
        go_quiet (fail)
        clear hwr
        have hcl := Hcu.out
        have hll := Hll.out
        have hkg := Hgk.out
        have hfo := Hfr1.out
        have hlo := Hl.out
        have hsl : Hid ((splice cur g (bytes l)).length = N) := by show (splice cur g (bytes l)).length = N; rw [length_splice _ _ _ (by rw [bytes_length]; omega)]; exact hcl
        have htk2 : Hid ((splice cur g (bytes l)).take (g + k) = bytes (data.take (g + k))) := by show (splice cur g (bytes l)).take (g + k) = bytes (data.take (g + k)); rw [hlo]; exact took_more hcl Htk.out (by omega) (by omega)
        have hdl : Hid ((data.drop (g + k)).length = til - (fr + k)) := by show (data.drop (g + k)).length = til - (fr + k); have := Hrl.out; rw [List.length_drop] at this ⊢; omega
        have HB : Sat (w2.setCell ⟨bb, 5, none⟩ (.int .i64 ((fr : Int) + k))) (pts bb (bf bp false (.slice (some ⟨fb, 0, none⟩) m m) (.slice (some ⟨ga, o, none⟩) (x :: Lt).length cap') (gn m c fr) (fr + k : Nat) til) * (fact (fs.length = m) * pts fb (.cells fs.toArray 5 (0, 0)) * (arr 58 1 (some ⟨ga, o, none⟩) (x :: Lt).length cap' ((x :: Lt).map (bs c)) * all (chunk c) (x :: Lt)) * (pts ob (.cells (splice cur g (bytes l)).toArray 5 (0, 0)) * (pool bp q m c held u opn p cap F * R)))) :=
          (HS2.perm (show _ = pts bb (bf bp false (.slice (some ⟨fb, 0, none⟩) m m) (.slice (some ⟨ga, o, none⟩) (x :: Lt).length cap') (gn m c fr) fr til) * (fact (fs.length = m) * pts fb (.cells fs.toArray 5 (0, 0)) * (arr 58 1 (some ⟨ga, o, none⟩) (x :: Lt).length cap' ((x :: Lt).map (bs c)) * all (chunk c) (x :: Lt)) * (pts ob (.cells (splice cur g (bytes l)).toArray 5 (0, 0)) * (pool bp q m c held u opn p cap F * R))) by unfold bufO; ac_rfl)).set (i := 5) (.int .i64 ((fr : Int) + k))
        clear hcl hll hkg hfo hlo
        by_cases hB : off + k = c
        · have he : ((fr : Int) + k - m) % c = 0 := by rw [E3.out, hB, Nat.mod_self]; rfl
          obtain ⟨u', hu'⟩ : ∃ u', u = u' + 1 := ⟨u - 1, by have := Hu.out; omega⟩
          subst hu'
          have HB' := HB.drewN nq
          generalize hW : (w2.setCell ⟨bb, 5, none⟩ (.int .i64 ((fr : Int) + k))).drewN nq = w3 at HB' ⊢
          have HRW : Ran w w3 := by rw [← hW]; exact Ran.drewN (Ran.set ((Ran.drewN HR _).trans HR2) _ _) _
          clear hW HB HS2 HR2 d0 d1 d2 d3 d4 d5 d6 dz e0 e1 e2 e3 e4 e5 ef HF HX HAr HOb HP H1 H2 HS c0 c1 c2 c3 c4 c5 cf b0 b1 b2 b3 b4 b5 b6 bz
          have HG0 : Sat w3 (pool bp q m c held (u' + 1) opn p cap F * (chunk c x * (pts bb (bf bp false (.slice (some ⟨fb, 0, none⟩) m m) (.slice (some ⟨ga, o, none⟩) (x :: Lt).length cap') (gn m c fr) (fr + k : Nat) til) * (arr 58 1 (some ⟨ga, o, none⟩) (x :: Lt).length cap' ((x :: Lt).map (bs c)) * (fact (fs.length = m) * pts fb (.cells fs.toArray 5 (0, 0)) * all (chunk c) Lt * (pts ob (.cells (splice cur g (bytes l)).toArray 5 (0, 0)) * R)))))) := HB'.perm (by
            show pts bb _ * (_ * (_ * (chunk c x * all (chunk c) Lt)) * _) = _
            ac_rfl)
          obtain ⟨k0, k3, kg, k4, kz⟩ := keep3 HG0.right.right
          change w3.cell? ⟨ga, o, none⟩ = some (.slice (some ⟨x.1, 0, none⟩) c c) at kg
          have kc : w3.cell? ⟨bp, 2, none⟩ = some (.int .i64 c) := (cells7 (HG0.perm (sep_assoc _ _ _)).get).2.2.1
          have huu : u' ≤ 1000000000000 := by omega
          have hFF : F.length ≤ 1000000000000 := by omega
          simp only [List.length_cons] at k3
          have hlt0 : (0 : Int) < (Lt.length : Int) + 1 := by omega
          go_wp2_with fail
          go_region_held3 (fun w' => w'.cell? ⟨bb, 0, none⟩ = some (.pointer (some ⟨bp, 0, none⟩)) ∧ w'.cell? ⟨bb, 3, none⟩ = some (.slice (some ⟨ga, o, none⟩) (Lt.length + 1) cap') ∧ w'.cell? ⟨ga, o, none⟩ = some (.slice (some ⟨x.1, 0, none⟩) c c))
            (first | exact ⟨(keep3 HG.right).1, (keep3 HG.right).2.1, (keep3 HG.right).2.2.1⟩ | go_keep)
            (first
              | (go_at_call 31; refine (give_calls bp q m c held u' opn cap p F x _ _ huu hFF HG0.drew).mono ?_; rintro e w4 ⟨rfl, pq, cq, HG, HRG⟩))
          clear k0 k3 kg k4 kz kc
          obtain ⟨k0, k3, kg, k4, kz⟩ := keep3 HG.right
          simp only [List.length_cons] at k3
          have hl1 : (0 : Int) ≤ (Lt.length : Int) := by omega
          have hl2 : (Lt.length : Int) + 1 ≤ cap' := by omega
          have hgs : gn m c (fr + k) = gn m c fr + 1 := gn_next (by omega) hmf (by have := Hoff.out; omega)
          have Hgs := Lib.hid hgs
          have hfk : (fr + k - m) / c = gn m c fr + 1 := hgs
          have Hfk := Lib.hid hfk
          have hgb2 : (gn m c fr : Int) ≤ 1000000000000 := by omega
          clear hgs hfk hB
          have hfin : ∀ (pp : Option Addr) (cp : Nat) (w5 : World), Ran w w5 → Sat w5 (pts bb (bf bp false (.slice (some ⟨fb, 0, none⟩) m m) (.slice pp Lt.length cp) (gn m c fr + 1 : Nat) (fr + k : Nat) til) * (arr 58 1 pp Lt.length cp (Lt.map (bs c)) * (pool bp q m c held u' opn pq cq (F ++ [x]) * (fact (fs.length = m) * pts fb (.cells fs.toArray 5 (0, 0)) * all (chunk c) Lt * (pts ob (.cells (splice cur g (bytes l)).toArray 5 (0, 0)) * R))))) →
              DRel bp bb q m c held U opn tot frm til N ob data R w (gk - k) (.int .i64 ((g : Int) + k)) w5 := fun pp cp w5 hr5 h5 => by
            have hL := HL.out
            rw [← Hfr1.out] at hL
            simp only [List.length_cons] at hL
            have h6 : Sat w5 (bufO bb bp m c fb pp cp (gn m c fr + 1) (fr + k) til fs Lt * (pool bp q m c held u' opn pq cq (F ++ [x]) * (pts ob (.cells (splice cur g (bytes l)).toArray 5 (0, 0)) * R))) := h5.perm (by unfold bufO; ac_rfl)
            rw [← Hgs.out] at h6
            have HB2 := bufX_in (data := data.drop (g + k)) (bb := bb) (bp := bp) (c := c) (m := m) (fb := fb) (p := pp) (cap := cp) (fs := fs) (L := Lt) (frm := fr + k) (til := til) (by have := hdl.out; omega) (by rw [Hgs.out]; omega)
              (by rw [Hgs.out, ← List.drop_drop]; exact holds_tail (holds_drop hHolds k) (by rw [Hfk.out]; exact Nat.le_refl _)) h6
            have HB3 := poolX_in (tot := tot) (by rw [List.length_append, List.length_singleton]; omega) (HB2.perm (show _ = pool bp q m c held u' opn pq cq (F ++ [x]) * (bufX bb bp m c (fr + k) (data.drop (g + k)) * (pts ob (.cells (splice cur g (bytes l)).toArray 5 (0, 0)) * R)) by ac_rfl))
            refine ⟨g + k, splice cur g (bytes l), by have := Hgk.out; omega, rfl, hsl.out, htk2.out, ?_, hr5⟩
            rw [← Nat.add_assoc, ← Hfr1.out, Hgs.out, show U + (cl m c til - (gn m c fr + 1)) = u' by have := Hu.out; omega]
            exact HB3
          have HQ := HG.perm (show _ = arr 58 1 (some ⟨ga, o, none⟩) (x :: Lt).length cap' ((x :: Lt).map (bs c)) * (pts bb (bf bp false (.slice (some ⟨fb, 0, none⟩) m m) (.slice (some ⟨ga, o, none⟩) (x :: Lt).length cap') (gn m c fr) (fr + k : Nat) til) * (pool bp q m c held u' opn pq cq (F ++ [x]) * (fact (fs.length = m) * pts fb (.cells fs.toArray 5 (0, 0)) * all (chunk c) Lt * (pts ob (.cells (splice cur g (bytes l)).toArray 5 (0, 0)) * R)))) by ac_rfl)
          by_cases hc1 : cap' = 1
          · have hLt0 : Lt.length = 0 := by omega
            obtain rfl : Lt = [] := List.eq_nil_of_length_eq_zero hLt0
            subst hc1
            simp only [List.length_nil, Nat.zero_add] at k3
            clear hl1 hl2 hlt0 hcap hLt0
            go_wp2_with fail
            go_roundg (gk - k)
            case measure => have := Hgk.out; omega
            case rel =>
              refine hfin (some ⟨ga, o, none⟩) 0 _ (Ran.set (Ran.set ((Below.drew HRW).trans HRG) _ _) _ _) ?_
              have q1 := HQ.arr_none_left.perm (sep_comm _ _) |>.perm (sep_assoc _ _ _)
              exact (((q1.set (i := 3) (.slice (some ⟨ga, o, none⟩) 0 0)).set (i := 4) (.int .i64 ((gn m c fr : Int) + 1))).perm (show _ = pts bb (bf bp false (.slice (some ⟨fb, 0, none⟩) m m) (.slice (some ⟨ga, o, none⟩) 0 0) (gn m c fr + 1 : Nat) (fr + k : Nat) til) * (arr 58 1 (some ⟨ga, o, none⟩) 0 0 [] * _) by
                show pts bb (bf bp false (.slice (some ⟨fb, 0, none⟩) m m) (.slice (some ⟨ga, o, none⟩) 0 0) (gn m c fr + 1 : Nat) (fr + k : Nat) til) * _ = _
                ac_rfl))
          · have hc2' : (1 : Int) < cap' := by omega
            go_wp2_with fail
            go_roundg (gk - k)
            case measure => have := Hgk.out; omega
            case rel =>
              refine hfin (some ⟨ga, o + 1, none⟩) (cap' - 1) _ (Ran.set (Ran.set ((Below.drew HRW).trans HRG) _ _) _ _) ?_
              have q0 := HQ.arr_drop 1 (by simp)
              simp only [List.length_cons, List.map_cons, Nat.mul_one, List.drop_succ_cons, List.drop_zero, Nat.add_sub_cancel] at q0
              have q1 := (q0.perm (sep_comm _ _)).perm (sep_assoc _ _ _)
              exact (((q1.set (i := 3) (.slice (some ⟨ga, o + 1, none⟩) Lt.length (cap' - 1))).set (i := 4) (.int .i64 ((gn m c fr : Int) + 1))).perm (show _ = pts bb (bf bp false (.slice (some ⟨fb, 0, none⟩) m m) (.slice (some ⟨ga, o + 1, none⟩) Lt.length (cap' - 1)) (gn m c fr + 1 : Nat) (fr + k : Nat) til) * (arr 58 1 (some ⟨ga, o + 1, none⟩) Lt.length (cap' - 1) (Lt.map (bs c)) * _) by
                show pts bb (bf bp false (.slice (some ⟨fb, 0, none⟩) m m) (.slice (some ⟨ga, o + 1, none⟩) Lt.length (cap' - 1)) (gn m c fr + 1 : Nat) (fr + k : Nat) til) * _ = _
                ac_rfl))
        · have hB1 : (((off + k) % c : Nat) : Int) = ((off + k : Nat) : Int) := by rw [Nat.mod_eq_of_lt (by omega)]
          obtain ⟨r, hr⟩ : ∃ r, r = off + k := ⟨_, rfl⟩
          have hr0 : ((r : Int) == 0) = false := by simp; omega
          have he : ((fr : Int) + k - m) % c = r := by rw [E3.out, hB1, hr]
          clear hr hB1
          go_wp2_with fail
          go_roundg (gk - k)
          case measure => have := Hgk.out; omega
          case rel =>
            have hgs : gn m c (fr + k) = gn m c fr := gn_same (by omega) hmf (by have := Hoff.out; omega)
            have hL := HL.out
            rw [← Hfr1.out, ← hgs] at hL
            rw [← hgs] at HB
            have HB2 := bufX_in (data := data.drop (g + k)) (bb := bb) (bp := bp) (c := c) (m := m) (fb := fb) (p := some ⟨ga, o, none⟩) (cap := cap') (fs := fs) (L := x :: Lt) (frm := fr + k) (til := til) (by have := hdl.out; omega) hL
              (by rw [hgs, ← List.drop_drop]; exact holds_drop hHolds k) (HB.perm (show _ = bufO bb bp m c fb (some ⟨ga, o, none⟩) cap' (gn m c (fr + k)) (fr + k) til fs (x :: Lt) * (pts ob (.cells (splice cur g (bytes l)).toArray 5 (0, 0)) * (pool bp q m c held u opn p cap F * R)) by unfold bufO; ac_rfl))
            have HB3 := poolX_in (tot := tot) hFt (HB2.perm (show _ = pool bp q m c held u opn p cap F * (bufX bb bp m c (fr + k) (data.drop (g + k)) * (pts ob (.cells (splice cur g (bytes l)).toArray 5 (0, 0)) * R)) by ac_rfl))
            refine ⟨g + k, splice cur g (bytes l), by have := Hgk.out; omega, rfl, hsl.out, htk2.out, ?_, Ran.drewN (Ran.set ((Ran.drewN HR _).trans HR2) _ _) _⟩
            rw [← Nat.add_assoc, ← Hfr1.out, hgs, ← Hu.out]
            exact HB3.drewN _
end Go.Proofs.Ytgaeafhkepfgjaa.Spill
