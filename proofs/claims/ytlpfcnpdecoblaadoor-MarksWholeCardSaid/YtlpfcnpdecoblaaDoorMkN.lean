/- The document's Escape walked. -/
import Derived.Test.YtlpfcnpdecoblaaDoorMkM
namespace Go.Proofs.YtlpfcnpdecoblaaDoor.Marks
open Go.RowKit Go.Proofs.YtlpfcnpdecoblaaDoor Go.Proofs.YtlpfcnpdecoblaaDoor.Hp
set_option linter.unusedVariables false
attribute [local go_sem] Oper.semAt_some

abbrev byA (p : Option Addr) (cap : Nat) (l : List UInt8) : Hp := arr 5 1 p l.length cap (Lib.byteCells l)
theorem srcBy {w : World} {b : Nat} {l : List UInt8} (hb : w.heap[b]? = some (.cells (Lib.byteCells l).toArray 5 (0, 0))) : Src Tryd.prog 1 68 (.slice (some ⟨b, 0, none⟩) l.length l.length) l.length (Lib.byteCells l) w := by
  refine Src.ofSlice w Tryd.underlying68 ⟨b, 0, none⟩ l.length l.length _ (by rw [Lib.byteCells_length, Nat.mul_one]) (fun j u hj => ?_) (fun u hu => ?_)
  · rw [Addr.add_lit, Nat.zero_add, cell_at hb, ← hj]; simp
  · obtain ⟨c, _, rfl⟩ := List.mem_map.1 hu; rfl
/-- The bytes as a string. -/
theorem conv_by {w : World} {p : Option Addr} {cap : Nat} {l : List UInt8} {S : Hp} (h : Sat w (byA p cap l * S)) : (convert 68 9 (.slice p l.length cap)).run Tryd.prog w = .ok (.string ⟨l.toArray⟩) w := by
  cases p with
  | none =>
    obtain ⟨h1, h2, h3⟩ := h.arr_none
    have ht0 : l = [] := List.length_eq_zero_iff.1 h1
    subst ht0
    exact run_convert_bytes_nil w 68 5 Tryd.underlying68 Tryd.underlying5 _ _ _ Tryd.underlying9
  | some pa =>
    obtain ⟨b, o, sp⟩ := pa
    obtain ⟨cur, hsp, _⟩ := h.arr_some
    simp only at hsp
    subst hsp
    exact run_convert_bytes_back (P := Tryd.prog) w 68 9 5 ⟨b, o, none⟩ cap l Tryd.underlying68 Tryd.underlying5 Tryd.underlying9 (fun j hj => by
      rw [Addr.add_lit, h.arr_cell j (by rw [Lib.byteCells_length]; exact hj)]
      simp [Lib.byteCells])
def ErRel (t : List Ch) (w : World) (g : Nat) (ov iv : Value) (wr : World) : Prop :=
  ∃ (i : Nat) (p : Option Addr) (cap : Nat), i + g = t.length ∧ iv = .int .i64 (i : Int) ∧ ov = .slice p ((t.take i).flatMap escB).length cap ∧ (t.take i).any badC = false ∧ Sat wr (byA p cap ((t.take i).flatMap escB) * keep w) ∧ Ran w wr
theorem rcO_cells {w : World} {b : Nat} {cb : UInt8} {cq : Bool} {S : Hp} (h : Sat w (pts b (.cells #[.int .u8 cb.toNat, .bool cq] 66 (0, 0)) * S)) : w.cell? ⟨b, 0, none⟩ = some (.int .u8 cb.toNat) ∧ w.cell? ⟨b, 1, none⟩ = some (.bool cq) :=
  ⟨by rw [cell_at h.get]; rfl, by rw [cell_at h.get]; rfl⟩
set_option maxRecDepth 100000 in
set_option maxHeartbeats 8000000 in
theorem rescape_calls (t : List Ch) (ao : Option Addr) (cap : Nat) (w : World) (h : CharsAt w ao cap t) (hm : t.length ≤ 100000) :
    Calls Tryd.prog 13 #[.slice ao t.length cap] w (EscPost t w) := by
  have hmm : (t.length : Int) ≤ 100000 := by omega
  have Hh := Lib.hid h
  clear h
  go_enter Tryd.func13, Tryd.ntmps13
  go_wp2_with fail
  go_loopg [3, 4, 5] (t.length) (fun (g : Nat) (ov iv : Value) (_ : Value) (wr : World) => ErRel t w g ov iv wr)
  case atStart => exact ⟨0, none, 0, by omega, rfl, rfl, rfl, by show Sat w (arr 5 1 none 0 0 [] * keep w); exact (Sat.start w).nil_arr _ _, Below.refl 0 w⟩
  case round =>
    obtain ⟨i, p, bc, hig, rfl, rfl, hnb, HS, HR⟩ := hrel
    have hi0 : (0 : Int) ≤ i := by omega
    have hK : Kept w wr := ⟨HR.size, HS.right.kept⟩
    have hlen := esc_len (t.take i)
    rw [List.length_take] at hlen
    by_cases hi : i < t.length
    · have hil : (i : Int) < (t.length : Int) := by omega
      obtain ⟨tb, o, rfl, htb, x0, x1⟩ := (Hh.out.keep hK).2.2 i hi
      have htk : t.take (i + 1) = t.take i ++ [t[i]] := List.take_succ_eq_append_getElem hi
      have hbad := Lib.hid (fun (hb : badC t[i] = true) => esc_bad hi hb)
      obtain ⟨l, hl⟩ : ∃ l, l = (t.take i).flatMap escB := ⟨_, rfl⟩
      rw [← hl] at HS hlen
      rw [← hl]
      obtain ⟨c, hc⟩ : ∃ c, c = t[i] := ⟨_, rfl⟩
      rw [← hc] at x0 x1 htk hbad
      obtain ⟨nl, hnl⟩ : ∃ n, n = l.length := ⟨_, rfl⟩
      have hnext := Lib.hid (fun (p' : Option Addr) (cap' : Nat) (w' : World) (m : Nat) (A : Hp) (hg : badC c = false) (hm : (escB c).length = m) (hs : Sat w' (arr 5 1 p' (nl + m) cap' (Lib.byteCells l ++ Lib.byteCells (escB c)) * (A * keep w))) (hr : Ran w w') => (show ErRel t w (gk - 1) (.slice p' (nl + m) cap') (.int .i64 ((i : Int) + 1)) w' from by
        have e1 : (t.take (i + 1)).flatMap escB = l ++ escB c := by rw [htk, List.flatMap_append, hl]; simp
        have e2 : (l ++ escB c).length = nl + m := by rw [List.length_append, hnl, hm]
        refine ⟨i + 1, p', cap', by omega, rfl, by rw [e1, e2], ?_, ?_, hr⟩
        · rw [htk, List.any_append, hnb]; simp [hg]
        · unfold byA
          rw [e1, e2]
          have e3 : Lib.byteCells (l ++ escB c) = Lib.byteCells l ++ Lib.byteCells (escB c) := by unfold Lib.byteCells; rw [List.map_append]
          rw [e3]
          exact (hs.perm (show _ = A * (arr 5 1 p' (nl + m) cap' (Lib.byteCells l ++ Lib.byteCells (escB c)) * keep w) by ac_rfl)).right))
      have H1 := HS.alloc (.cells #[.int .u8 c.b.toNat, .bool c.q] 66 (0, 0))
      have R1 := Ran.new HR (.cells #[.int .u8 c.b.toNat, .bool c.q] 66 (0, 0))
      obtain ⟨y0, y1⟩ := rcO_cells H1
      have Hm := Lib.hid (show gk - 1 < gk by omega)
      have hl9 : nl + 3 ≤ 1000000000 := by omega
      have HA := H1.perm (show _ = arr 5 1 p l.length bc (Lib.byteCells l) * (pts wr.heap.size (.cells #[.int .u8 c.b.toNat, .bool c.q] 66 (0, 0)) * keep w) by ac_rfl)
      rw [← hnl] at HA
      rw [← hnl]
      have HA := Lib.hid HA
      have l92 := u8_lit c.b 92 (by omega)
      have l39 := u8_lit c.b 39 (by omega)
      have l10 := u8_lit c.b 10 (by omega)
      rw [show ((92 : Nat) : Int) = 92 from rfl, show UInt8.ofNat 92 = 92 from rfl] at l92
      rw [show ((39 : Nat) : Int) = 39 from rfl, show UInt8.ofNat 39 = 39 from rfl] at l39
      rw [show ((10 : Nat) : Int) = 10 from rfl, show UInt8.ofNat 10 = 10 from rfl] at l10
      clear hig htk hnb HS HR hK hlen hl hc hnl H1
      obtain ⟨cb, cq⟩ := c
      dsimp only at x0 x1 y0 y1 l92 l39 l10
      cases cq with
      | false =>
        by_cases n92 : cb = 92
        · have hb := n92
          clear n92
          have f92 : (cb == (92 : UInt8)) = true := by rw [hb]; rfl
          have f39 : (cb == (39 : UInt8)) = false := by rw [hb]; rfl
          have f10 : (cb == (10 : UInt8)) = false := by rw [hb]; rfl
          rw [f92] at l92
          rw [f39] at l39
          rw [f10] at l10
          have Hbad := Lib.hid (hbad.out (by unfold badC; simp [f92, f39]))
          have HB := Lib.hid (HA.out.right.right)
          have R2 := Lib.hid R1
          clear f92 f39 f10 hb hnext
          go_wp2_with fail
          go_ret
          exact ⟨by rw [Hbad.out]; rfl, Ran.whole' R2.out HB.out⟩
        · skip
          by_cases n39 : cb = 39
          · have hb := n39
            clear n92
            clear n39
            have f92 : (cb == (92 : UInt8)) = false := by rw [hb]; rfl
            have f39 : (cb == (39 : UInt8)) = true := by rw [hb]; rfl
            have f10 : (cb == (10 : UInt8)) = false := by rw [hb]; rfl
            rw [f92] at l92
            rw [f39] at l39
            rw [f10] at l10
            have Hbad := Lib.hid (hbad.out (by unfold badC; simp [f92, f39]))
            have HB := Lib.hid (HA.out.right.right)
            have R2 := Lib.hid R1
            clear f92 f39 f10 hb hnext
            go_wp2_with fail
            go_ret
            exact ⟨by rw [Hbad.out]; rfl, Ran.whole' R2.out HB.out⟩
          · skip
            by_cases n10 : cb = 10
            · have hb := n10
              clear n92 n39
              clear n10
              have f92 : (cb == (92 : UInt8)) = false := by rw [hb]; rfl
              have f39 : (cb == (39 : UInt8)) = false := by rw [hb]; rfl
              have f10 : (cb == (10 : UInt8)) = true := by rw [hb]; rfl
              rw [f92] at l92
              rw [f39] at l39
              rw [f10] at l10
              have Hg := Lib.hid (show badC ⟨cb, false⟩ = false by unfold badC; simp [f92, f39])
              have He := Lib.hid (show escB ⟨cb, false⟩ = [cb] by unfold escB; simp)
              clear f92 f39 f10 hb hbad
              have HSB := HA.out.old (.cells #[.int .u8 cb.toNat] 5 (0, 0))
              have RB := Ran.new R1 (.cells #[.int .u8 cb.toNat] 5 (0, 0))
              have hsrc := Lib.hid (show Src Tryd.prog 1 68 (.slice (some ⟨wr.heap.size + 1, 0, none⟩) 1 1) 1 (Lib.byteCells [cb]) ((wr.alloc (.cells #[.int .u8 cb.toNat, .bool false] 66 (0, 0))).alloc (.cells #[.int .u8 cb.toNat] 5 (0, 0))) from srcBy (l := [cb]) (block_new (World.size_alloc _ _)))
              go_wp2_with (at_builtin; go_loud (refine appBy rfl _ _ _ rfl p nl bc _ rfl _ rfl 1 _ hsrc.out HSB (by decide) (by omega) ?_; intro p' cap' w6 T6 R6 O6; clear HSB y0 y1 x0 x1))
              have Hrel := Lib.hid (hnext.out p' cap' w6 1 _ Hg.out (by rw [He.out]; rfl) (by rw [He.out]; exact T6) (Below.trans RB R6))
              clear T6 R6 O6 hnext
              go_roundg (gk - 1)
              case measure => exact Hm.out
              case rel => exact Hrel.out
            · skip
              have f92 : (cb == (92 : UInt8)) = false := by simpa using n92
              have f39 : (cb == (39 : UInt8)) = false := by simpa using n39
              have f10 : (cb == (10 : UInt8)) = false := by simpa using n10
              rw [f92] at l92
              rw [f39] at l39
              rw [f10] at l10
              have Hg := Lib.hid (show badC ⟨cb, false⟩ = false by unfold badC; simp [f92, f39])
              have He := Lib.hid (show escB ⟨cb, false⟩ = [cb] by unfold escB; simp)
              clear f92 f39 f10 n92 n39 n10 hbad
              have HSB := HA.out.old (.cells #[.int .u8 cb.toNat] 5 (0, 0))
              have RB := Ran.new R1 (.cells #[.int .u8 cb.toNat] 5 (0, 0))
              have hsrc := Lib.hid (show Src Tryd.prog 1 68 (.slice (some ⟨wr.heap.size + 1, 0, none⟩) 1 1) 1 (Lib.byteCells [cb]) ((wr.alloc (.cells #[.int .u8 cb.toNat, .bool false] 66 (0, 0))).alloc (.cells #[.int .u8 cb.toNat] 5 (0, 0))) from srcBy (l := [cb]) (block_new (World.size_alloc _ _)))
              go_wp2_with (at_builtin; go_loud (refine appBy rfl _ _ _ rfl p nl bc _ rfl _ rfl 1 _ hsrc.out HSB (by decide) (by omega) ?_; intro p' cap' w6 T6 R6 O6; clear HSB y0 y1 x0 x1))
              have Hrel := Lib.hid (hnext.out p' cap' w6 1 _ Hg.out (by rw [He.out]; rfl) (by rw [He.out]; exact T6) (Below.trans RB R6))
              clear T6 R6 O6 hnext
              go_roundg (gk - 1)
              case measure => exact Hm.out
              case rel => exact Hrel.out
      | true =>
        by_cases n92 : cb = 92
        · have hb := n92
          clear n92
          have f92 : (cb == (92 : UInt8)) = true := by rw [hb]; rfl
          have f39 : (cb == (39 : UInt8)) = false := by rw [hb]; rfl
          have f10 : (cb == (10 : UInt8)) = false := by rw [hb]; rfl
          rw [f92] at l92
          rw [f39] at l39
          rw [f10] at l10
          have Hg := Lib.hid (show badC ⟨cb, true⟩ = false by unfold badC; simp)
          have He := Lib.hid (show escB ⟨cb, true⟩ = [92, cb] by unfold escB; simp [f10])
          clear f92 f39 f10 hb hbad
          have HSB := HA.out.old (.cells #[.int .u8 92, .int .u8 cb.toNat] 5 (0, 0))
          have RB := Ran.new R1 (.cells #[.int .u8 92, .int .u8 cb.toNat] 5 (0, 0))
          have hsrc := Lib.hid (show Src Tryd.prog 1 68 (.slice (some ⟨wr.heap.size + 1, 0, none⟩) 2 2) 2 (Lib.byteCells [92, cb]) ((wr.alloc (.cells #[.int .u8 cb.toNat, .bool true] 66 (0, 0))).alloc (.cells #[.int .u8 92, .int .u8 cb.toNat] 5 (0, 0))) from srcBy (l := [92, cb]) (block_new (World.size_alloc _ _)))
          go_wp2_with (at_builtin; go_loud (refine appBy rfl _ _ _ rfl p nl bc _ rfl _ rfl 2 _ hsrc.out HSB (by decide) (by omega) ?_; intro p' cap' w6 T6 R6 O6; clear HSB y0 y1 x0 x1))
          have Hrel := Lib.hid (hnext.out p' cap' w6 2 _ Hg.out (by rw [He.out]; rfl) (by rw [He.out]; exact T6) (Below.trans RB R6))
          clear T6 R6 O6 hnext
          go_roundg (gk - 1)
          case measure => exact Hm.out
          case rel => exact Hrel.out
        · skip
          by_cases n39 : cb = 39
          · have hb := n39
            clear n92
            clear n39
            have f92 : (cb == (92 : UInt8)) = false := by rw [hb]; rfl
            have f39 : (cb == (39 : UInt8)) = true := by rw [hb]; rfl
            have f10 : (cb == (10 : UInt8)) = false := by rw [hb]; rfl
            rw [f92] at l92
            rw [f39] at l39
            rw [f10] at l10
            have Hg := Lib.hid (show badC ⟨cb, true⟩ = false by unfold badC; simp)
            have He := Lib.hid (show escB ⟨cb, true⟩ = [92, cb] by unfold escB; simp [f10])
            clear f92 f39 f10 hb hbad
            have HSB := HA.out.old (.cells #[.int .u8 92, .int .u8 cb.toNat] 5 (0, 0))
            have RB := Ran.new R1 (.cells #[.int .u8 92, .int .u8 cb.toNat] 5 (0, 0))
            have hsrc := Lib.hid (show Src Tryd.prog 1 68 (.slice (some ⟨wr.heap.size + 1, 0, none⟩) 2 2) 2 (Lib.byteCells [92, cb]) ((wr.alloc (.cells #[.int .u8 cb.toNat, .bool true] 66 (0, 0))).alloc (.cells #[.int .u8 92, .int .u8 cb.toNat] 5 (0, 0))) from srcBy (l := [92, cb]) (block_new (World.size_alloc _ _)))
            go_wp2_with (at_builtin; go_loud (refine appBy rfl _ _ _ rfl p nl bc _ rfl _ rfl 2 _ hsrc.out HSB (by decide) (by omega) ?_; intro p' cap' w6 T6 R6 O6; clear HSB y0 y1 x0 x1))
            have Hrel := Lib.hid (hnext.out p' cap' w6 2 _ Hg.out (by rw [He.out]; rfl) (by rw [He.out]; exact T6) (Below.trans RB R6))
            clear T6 R6 O6 hnext
            go_roundg (gk - 1)
            case measure => exact Hm.out
            case rel => exact Hrel.out
          · skip
            by_cases n10 : cb = 10
            · have hb := n10
              clear n92 n39
              clear n10
              have f92 : (cb == (92 : UInt8)) = false := by rw [hb]; rfl
              have f39 : (cb == (39 : UInt8)) = false := by rw [hb]; rfl
              have f10 : (cb == (10 : UInt8)) = true := by rw [hb]; rfl
              rw [f92] at l92
              rw [f39] at l39
              rw [f10] at l10
              have Hg := Lib.hid (show badC ⟨cb, true⟩ = false by unfold badC; simp)
              have He := Lib.hid (show escB ⟨cb, true⟩ = [39, 10, 39] by unfold escB; simp [f10])
              clear f92 f39 f10 hb hbad
              have HSB := HA.out.old (.cells #[.int .u8 39, .int .u8 10, .int .u8 39] 5 (0, 0))
              have RB := Ran.new R1 (.cells #[.int .u8 39, .int .u8 10, .int .u8 39] 5 (0, 0))
              have hsrc := Lib.hid (show Src Tryd.prog 1 68 (.slice (some ⟨wr.heap.size + 1, 0, none⟩) 3 3) 3 (Lib.byteCells [39, 10, 39]) ((wr.alloc (.cells #[.int .u8 cb.toNat, .bool true] 66 (0, 0))).alloc (.cells #[.int .u8 39, .int .u8 10, .int .u8 39] 5 (0, 0))) from srcBy (l := [39, 10, 39]) (block_new (World.size_alloc _ _)))
              go_wp2_with (at_builtin; go_loud (refine appBy rfl _ _ _ rfl p nl bc _ rfl _ rfl 3 _ hsrc.out HSB (by decide) (by omega) ?_; intro p' cap' w6 T6 R6 O6; clear HSB y0 y1 x0 x1))
              have Hrel := Lib.hid (hnext.out p' cap' w6 3 _ Hg.out (by rw [He.out]; rfl) (by rw [He.out]; exact T6) (Below.trans RB R6))
              clear T6 R6 O6 hnext
              go_roundg (gk - 1)
              case measure => exact Hm.out
              case rel => exact Hrel.out
            · skip
              have f92 : (cb == (92 : UInt8)) = false := by simpa using n92
              have f39 : (cb == (39 : UInt8)) = false := by simpa using n39
              have f10 : (cb == (10 : UInt8)) = false := by simpa using n10
              rw [f92] at l92
              rw [f39] at l39
              rw [f10] at l10
              have Hg := Lib.hid (show badC ⟨cb, true⟩ = false by unfold badC; simp)
              have He := Lib.hid (show escB ⟨cb, true⟩ = [92, cb] by unfold escB; simp [f10])
              clear f92 f39 f10 n92 n39 n10 hbad
              have HSB := HA.out.old (.cells #[.int .u8 92, .int .u8 cb.toNat] 5 (0, 0))
              have RB := Ran.new R1 (.cells #[.int .u8 92, .int .u8 cb.toNat] 5 (0, 0))
              have hsrc := Lib.hid (show Src Tryd.prog 1 68 (.slice (some ⟨wr.heap.size + 1, 0, none⟩) 2 2) 2 (Lib.byteCells [92, cb]) ((wr.alloc (.cells #[.int .u8 cb.toNat, .bool true] 66 (0, 0))).alloc (.cells #[.int .u8 92, .int .u8 cb.toNat] 5 (0, 0))) from srcBy (l := [92, cb]) (block_new (World.size_alloc _ _)))
              go_wp2_with (at_builtin; go_loud (refine appBy rfl _ _ _ rfl p nl bc _ rfl _ rfl 2 _ hsrc.out HSB (by decide) (by omega) ?_; intro p' cap' w6 T6 R6 O6; clear HSB y0 y1 x0 x1))
              have Hrel := Lib.hid (hnext.out p' cap' w6 2 _ Hg.out (by rw [He.out]; rfl) (by rw [He.out]; exact T6) (Below.trans RB R6))
              clear T6 R6 O6 hnext
              go_roundg (gk - 1)
              case measure => exact Hm.out
              case rel => exact Hrel.out
    · have hge : ¬ ((i : Int) < (t.length : Int)) := by omega
      have hta : t.take i = t := List.take_of_length_le (by omega)
      rw [hta] at hnb HS
      rw [hta]
      obtain ⟨l, hl⟩ : ∃ l, l = t.flatMap escB := ⟨_, rfl⟩
      rw [← hl] at HS
      rw [← hl]
      have Hl := Lib.hid hl
      have hfin : escL t = t.flatMap escB := by unfold escL; rw [hnb]; rfl
      have Hfin := Lib.hid hfin
      have hcv := conv_by HS
      have HB := Lib.hid (HR.whole HS)
      clear hfin hta hnb HS hig hlen hi hK hl
      go_wp2_with fail
      go_ret
      exact ⟨by rw [Hfin.out, ← Hl.out]; rfl, HB.out⟩
end Go.Proofs.YtlpfcnpdecoblaaDoor.Marks
