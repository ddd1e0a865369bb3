/- Escape walked. -/
import Derived.Test.YtlpfcnpdecoblaaDoorMkH
namespace Go.Proofs.YtlpfcnpdecoblaaDoor.Marks
open Go.RowKit Go.Proofs.YtlpfcnpdecoblaaDoor Go.Proofs.YtlpfcnpdecoblaaDoor.Hp
set_option linter.unusedVariables false
attribute [local go_sem] Oper.semAt_some

theorem chO_cells {w : World} {b : Nat} {c : Ch} {S : Hp} (h : Sat w (pts b (.cells #[.int .u8 c.b.toNat, .bool c.q] 37 (0, 0)) * S)) : w.cell? ⟨b, 0, none⟩ = some (.int .u8 c.b.toNat) ∧ w.cell? ⟨b, 1, none⟩ = some (.bool c.q) :=
  ⟨by rw [cell_at h.get]; rfl, by rw [cell_at h.get]; rfl⟩
set_option maxRecDepth 100000 in
set_option maxHeartbeats 8000000 in
theorem escape_calls (t : List Ch) (ao : Option Addr) (cap : Nat) (w : World) (h : CharsAt w ao cap t) (hm : t.length ≤ 100000) :
    Calls Tryd.prog 12 #[.slice ao t.length cap] w (EscPost t w) := by
  have hmm : (t.length : Int) ≤ 100000 := by omega
  have H0 : Sat (w.alloc (.cells #[.pointer none, .slice none 0 0] 70 (0, 0))) (BldA w.heap.size false none 0 [] * keep w) := by
    have h1 := (Sat.start w).alloc (.cells #[.pointer none, .slice none 0 0] 70 (0, 0))
    have h2 := Sat.nil_arr h1 5 1
    exact h2.perm (by unfold BldA; show arr 5 1 none 0 0 [] * (pts w.heap.size _ * _) = pts w.heap.size _ * arr 5 1 none 0 0 [] * _; ac_rfl)
  have R0 := Ran.new (Below.refl 0 w) (.cells #[.pointer none, .slice none 0 0] 70 (0, 0))
  obtain ⟨bb, hbb⟩ : ∃ bb, bb = w.heap.size := ⟨_, rfl⟩
  obtain ⟨w1, hw1⟩ : ∃ w1, w1 = w.alloc (.cells #[.pointer none, .slice none 0 0] 70 (0, 0)) := ⟨_, rfl⟩
  rw [← hbb] at H0
  rw [← hw1] at H0 R0
  have Hh := Lib.hid h
  have H0 := Lib.hid H0
  clear h
  go_enter Tryd.func12, Tryd.ntmps12
  go_upto_region 2 with fail
  rw [← hw1, ← hbb]
  clear hw1 hbb
  go_wp2_with fail
  go_loopg [5, 8] (t.length) (fun (g : Nat) (_ : Value) (iv : Value) (wr : World) => EsRel t w bb g iv wr)
  case atStart => exact ⟨0, false, none, 0, by omega, rfl, rfl, .inl ⟨rfl, rfl⟩, H0.out, R0⟩
  case round =>
    clear H0 R0
    obtain ⟨i, u, q, bc, hig, rfl, hnb, hbs, HS, HR⟩ := hrel
    have hi0 : (0 : Int) ≤ i := by omega
    have hK : Kept w wr := ⟨HR.size, HS.right.kept⟩
    have hlen := esc_len (t.take i)
    rw [List.length_take] at hlen
    by_cases hi : i < t.length
    · have hil : (i : Int) < (t.length : Int) := by omega
      obtain ⟨tb, o, rfl, htb, x0, x1⟩ := (Hh.out.keep hK).2.2 i hi
      have htk : t.take (i + 1) = t.take i ++ [t[i]] := List.take_succ_eq_append_getElem hi
      have hbad := Lib.hid (fun (hb : badC t[i] = true) => esc_bad hi hb)
      obtain ⟨l, hl⟩ : ∃ l, l = (t.take i).flatMap escB := ⟨_, rfl⟩
      rw [← hl] at hbs HS hlen
      have hll : l.length ≤ 300000 := by omega
      obtain ⟨c, hc⟩ : ∃ c, c = t[i] := ⟨_, rfl⟩
      rw [← hc] at x0 x1 htk hbad
      have hnext := Lib.hid (fun (q' : Option Addr) (cap' : Nat) (w' : World) (A : Hp) (hg : badC c = false) (hb2 : BSt q' (l ++ escB c)) (hs : Sat w' (BldA bb true q' cap' (l ++ escB c) * (A * keep w))) (hr : Ran w w') => (show EsRel t w bb (gk - 1) (.int .i64 ((i : Int) + 1)) w' from by
        have e1 : (t.take (i + 1)).flatMap escB = l ++ escB c := by rw [htk, List.flatMap_append, hl]; simp
        refine ⟨i + 1, true, q', cap', by omega, rfl, ?_, by rw [e1]; exact hb2, ?_, hr⟩
        · rw [htk, List.any_append, hnb]; simp [hg]
        · rw [e1]
          exact (hs.perm (show _ = A * (BldA bb true q' cap' (l ++ escB c) * keep w) by ac_rfl)).right))
      have H1 := HS.alloc (.cells #[.int .u8 c.b.toNat, .bool c.q] 37 (0, 0))
      have R1 := Ran.new HR (.cells #[.int .u8 c.b.toNat, .bool c.q] 37 (0, 0))
      obtain ⟨y0, y1⟩ := chO_cells H1
      have Hm := Lib.hid (show gk - 1 < gk by omega)
      have Hw := Lib.hid HR.size
      have H1 := Lib.hid (H1.perm (show _ = BldA bb u q bc l * (pts wr.heap.size (.cells #[.int .u8 c.b.toNat, .bool c.q] 37 (0, 0)) * keep w) by ac_rfl))
      have l92 := u8_lit c.b 92 (by omega)
      have l39 := u8_lit c.b 39 (by omega)
      have l10 := u8_lit c.b 10 (by omega)
      rw [show ((92 : Nat) : Int) = 92 from rfl, show UInt8.ofNat 92 = 92 from rfl] at l92
      rw [show ((39 : Nat) : Int) = 39 from rfl, show UInt8.ofNat 39 = 39 from rfl] at l39
      rw [show ((10 : Nat) : Int) = 10 from rfl, show UInt8.ofNat 10 = 10 from rfl] at l10
      have Hbs := Lib.hid hbs
      clear hig htk hnb hbs HS HR hK hlen hl hc hi
      obtain ⟨cb, cq⟩ := c
      dsimp only at x0 x1 y0 y1 l92 l39 l10
      cases cq with
      | false =>
        by_cases n92 : cb = 92
        · have hb := n92
          clear n92
          have f92 : (cb == (92 : UInt8)) = true := by rw [hb]; rfl
          have f39 : (cb == (39 : UInt8)) = false := by rw [hb]; rfl
          have f10 : (cb == (10 : UInt8)) = false := by rw [hb]; rfl
          rw [f92] at l92
          rw [f39] at l39
          rw [f10] at l10
          have Hbad := Lib.hid (hbad.out (by unfold badC; simp [f92, f39]))
          have HB := Lib.hid (H1.out.right.right)
          have R2 := Lib.hid R1
          clear f92 f39 f10 hb hnext
          go_wp2_with fail
          go_ret
          exact ⟨by rw [Hbad.out]; rfl, Ran.whole' R2.out HB.out⟩
        · skip
          by_cases n39 : cb = 39
          · have hb := n39
            clear n92
            clear n39
            have f92 : (cb == (92 : UInt8)) = false := by rw [hb]; rfl
            have f39 : (cb == (39 : UInt8)) = true := by rw [hb]; rfl
            have f10 : (cb == (10 : UInt8)) = false := by rw [hb]; rfl
            rw [f92] at l92
            rw [f39] at l39
            rw [f10] at l10
            have Hbad := Lib.hid (hbad.out (by unfold badC; simp [f92, f39]))
            have HB := Lib.hid (H1.out.right.right)
            have R2 := Lib.hid R1
            clear f92 f39 f10 hb hnext
            go_wp2_with fail
            go_ret
            exact ⟨by rw [Hbad.out]; rfl, Ran.whole' R2.out HB.out⟩
          · skip
            by_cases n10 : cb = 10
            · have hb := n10
              clear n92 n39
              clear n10
              have f92 : (cb == (92 : UInt8)) = false := by rw [hb]; rfl
              have f39 : (cb == (39 : UInt8)) = false := by rw [hb]; rfl
              have f10 : (cb == (10 : UInt8)) = true := by rw [hb]; rfl
              rw [f92] at l92
              rw [f39] at l39
              rw [f10] at l10
              have Hg := Lib.hid (show badC ⟨cb, false⟩ = false by unfold badC; simp [f92, f39])
              have He := Lib.hid (show escB ⟨cb, false⟩ = [cb] by unfold escB; simp)
              clear f92 f39 f10 hb hbad
              have hcall := Lib.hid (writebyte_calls bb u q bc l cb _ _ Hbs.out (by omega) H1.out)
              go_wp2_with fail
              refine hcall.out.mono ?_
              rintro e w2 ⟨⟨rfl, q2, cap2, hb2, hs2⟩, R2⟩
              have R3 := Below.trans R1 R2
              clear hcall R2 y0 y1 x0 x1
              have Hrel := Lib.hid (hnext.out q2 cap2 w2 _ Hg.out (by rw [He.out]; exact hb2) (by rw [He.out]; exact hs2) R3)
              clear hs2 hb2 R3 hnext
              go_wp2_with fail
              go_roundg (gk - 1)
              case measure => exact Hm.out
              case rel => exact Hrel.out
            · skip
              have f92 : (cb == (92 : UInt8)) = false := by simpa using n92
              have f39 : (cb == (39 : UInt8)) = false := by simpa using n39
              have f10 : (cb == (10 : UInt8)) = false := by simpa using n10
              rw [f92] at l92
              rw [f39] at l39
              rw [f10] at l10
              have Hg := Lib.hid (show badC ⟨cb, false⟩ = false by unfold badC; simp [f92, f39])
              have He := Lib.hid (show escB ⟨cb, false⟩ = [cb] by unfold escB; simp)
              clear f92 f39 f10 n92 n39 n10 hbad
              have hcall := Lib.hid (writebyte_calls bb u q bc l cb _ _ Hbs.out (by omega) H1.out)
              go_wp2_with fail
              refine hcall.out.mono ?_
              rintro e w2 ⟨⟨rfl, q2, cap2, hb2, hs2⟩, R2⟩
              have R3 := Below.trans R1 R2
              clear hcall R2 y0 y1 x0 x1
              have Hrel := Lib.hid (hnext.out q2 cap2 w2 _ Hg.out (by rw [He.out]; exact hb2) (by rw [He.out]; exact hs2) R3)
              clear hs2 hb2 R3 hnext
              go_wp2_with fail
              go_roundg (gk - 1)
              case measure => exact Hm.out
              case rel => exact Hrel.out
      | true =>
        by_cases n92 : cb = 92
        · have hb := n92
          clear n92
          have f92 : (cb == (92 : UInt8)) = true := by rw [hb]; rfl
          have f39 : (cb == (39 : UInt8)) = false := by rw [hb]; rfl
          have f10 : (cb == (10 : UInt8)) = false := by rw [hb]; rfl
          rw [f92] at l92
          rw [f39] at l39
          rw [f10] at l10
          have Hg := Lib.hid (show badC ⟨cb, true⟩ = false by unfold badC; simp)
          have He := Lib.hid (show escB ⟨cb, true⟩ = [92, cb] by unfold escB; simp [f10])
          clear f92 f39 f10 hb hbad
          have hcall := Lib.hid (writebyte_calls bb u q bc l 92 _ _ Hbs.out (by omega) H1.out)
          go_wp2_with fail
          refine hcall.out.mono ?_
          rintro e w9 ⟨⟨rfl, q9, cap9, hb9, hs9⟩, R9⟩
          have R8 := Below.trans R1 R9
          clear y0 y1
          obtain ⟨y0, y1⟩ := chO_cells (c := ⟨cb, true⟩) (hs9.perm (show _ = pts wr.heap.size (.cells #[.int .u8 cb.toNat, .bool true] 37 (0, 0)) * (BldA bb true q9 cap9 (l ++ [92]) * keep w) by ac_rfl))
          have hcall2 := Lib.hid (writebyte_calls bb true q9 cap9 (l ++ [92]) cb w9 _ hb9 (by rw [List.length_append, List.length_singleton]; omega) hs9)
          clear hcall R9 hs9
          dsimp only at y0 y1
          go_wp2_with fail
          refine hcall2.out.mono ?_
          rintro e w2 ⟨⟨rfl, q2, cap2, hb2, hs2⟩, R2⟩
          have R3 := Below.trans R8 R2
          rw [List.append_assoc] at hb2 hs2
          clear hcall2 R2 y0 y1 x0 x1
          have Hrel := Lib.hid (hnext.out q2 cap2 w2 _ Hg.out (by rw [He.out]; exact hb2) (by rw [He.out]; exact hs2) R3)
          clear hs2 hb2 R3 hnext
          go_wp2_with fail
          go_roundg (gk - 1)
          case measure => exact Hm.out
          case rel => exact Hrel.out
        · skip
          by_cases n39 : cb = 39
          · have hb := n39
            clear n92
            clear n39
            have f92 : (cb == (92 : UInt8)) = false := by rw [hb]; rfl
            have f39 : (cb == (39 : UInt8)) = true := by rw [hb]; rfl
            have f10 : (cb == (10 : UInt8)) = false := by rw [hb]; rfl
            rw [f92] at l92
            rw [f39] at l39
            rw [f10] at l10
            have Hg := Lib.hid (show badC ⟨cb, true⟩ = false by unfold badC; simp)
            have He := Lib.hid (show escB ⟨cb, true⟩ = [92, cb] by unfold escB; simp [f10])
            clear f92 f39 f10 hb hbad
            have hcall := Lib.hid (writebyte_calls bb u q bc l 92 _ _ Hbs.out (by omega) H1.out)
            go_wp2_with fail
            refine hcall.out.mono ?_
            rintro e w9 ⟨⟨rfl, q9, cap9, hb9, hs9⟩, R9⟩
            have R8 := Below.trans R1 R9
            clear y0 y1
            obtain ⟨y0, y1⟩ := chO_cells (c := ⟨cb, true⟩) (hs9.perm (show _ = pts wr.heap.size (.cells #[.int .u8 cb.toNat, .bool true] 37 (0, 0)) * (BldA bb true q9 cap9 (l ++ [92]) * keep w) by ac_rfl))
            have hcall2 := Lib.hid (writebyte_calls bb true q9 cap9 (l ++ [92]) cb w9 _ hb9 (by rw [List.length_append, List.length_singleton]; omega) hs9)
            clear hcall R9 hs9
            dsimp only at y0 y1
            go_wp2_with fail
            refine hcall2.out.mono ?_
            rintro e w2 ⟨⟨rfl, q2, cap2, hb2, hs2⟩, R2⟩
            have R3 := Below.trans R8 R2
            rw [List.append_assoc] at hb2 hs2
            clear hcall2 R2 y0 y1 x0 x1
            have Hrel := Lib.hid (hnext.out q2 cap2 w2 _ Hg.out (by rw [He.out]; exact hb2) (by rw [He.out]; exact hs2) R3)
            clear hs2 hb2 R3 hnext
            go_wp2_with fail
            go_roundg (gk - 1)
            case measure => exact Hm.out
            case rel => exact Hrel.out
          · skip
            by_cases n10 : cb = 10
            · have hb := n10
              clear n92 n39
              clear n10
              have f92 : (cb == (92 : UInt8)) = false := by rw [hb]; rfl
              have f39 : (cb == (39 : UInt8)) = false := by rw [hb]; rfl
              have f10 : (cb == (10 : UInt8)) = true := by rw [hb]; rfl
              rw [f92] at l92
              rw [f39] at l39
              rw [f10] at l10
              have Hg := Lib.hid (show badC ⟨cb, true⟩ = false by unfold badC; simp)
              have He := Lib.hid (show escB ⟨cb, true⟩ = [39, 10, 39] by unfold escB; simp [f10])
              clear f92 f39 f10 hb hbad
              have hcall := Lib.hid (writestring_calls bb u q bc l { data := #[39, 10, 39] } _ _ Hbs.out (by omega) (by decide) (by decide) H1.out)
              go_wp2_with fail
              refine hcall.out.mono ?_
              rintro e w2 ⟨⟨rfl, q2, cap2, hb2, hs2⟩, R2⟩
              have R3 := Below.trans R1 R2
              clear hcall R2 y0 y1 x0 x1
              have Hrel := Lib.hid (hnext.out q2 cap2 w2 _ Hg.out (by rw [He.out]; exact hb2) (by rw [He.out]; exact hs2) R3)
              clear hs2 hb2 R3 hnext
              go_wp2_with fail
              go_roundg (gk - 1)
              case measure => exact Hm.out
              case rel => exact Hrel.out
            · skip
              have f92 : (cb == (92 : UInt8)) = false := by simpa using n92
              have f39 : (cb == (39 : UInt8)) = false := by simpa using n39
              have f10 : (cb == (10 : UInt8)) = false := by simpa using n10
              rw [f92] at l92
              rw [f39] at l39
              rw [f10] at l10
              have Hg := Lib.hid (show badC ⟨cb, true⟩ = false by unfold badC; simp)
              have He := Lib.hid (show escB ⟨cb, true⟩ = [92, cb] by unfold escB; simp [f10])
              clear f92 f39 f10 n92 n39 n10 hbad
              have hcall := Lib.hid (writebyte_calls bb u q bc l 92 _ _ Hbs.out (by omega) H1.out)
              go_wp2_with fail
              refine hcall.out.mono ?_
              rintro e w9 ⟨⟨rfl, q9, cap9, hb9, hs9⟩, R9⟩
              have R8 := Below.trans R1 R9
              clear y0 y1
              obtain ⟨y0, y1⟩ := chO_cells (c := ⟨cb, true⟩) (hs9.perm (show _ = pts wr.heap.size (.cells #[.int .u8 cb.toNat, .bool true] 37 (0, 0)) * (BldA bb true q9 cap9 (l ++ [92]) * keep w) by ac_rfl))
              have hcall2 := Lib.hid (writebyte_calls bb true q9 cap9 (l ++ [92]) cb w9 _ hb9 (by rw [List.length_append, List.length_singleton]; omega) hs9)
              clear hcall R9 hs9
              dsimp only at y0 y1
              go_wp2_with fail
              refine hcall2.out.mono ?_
              rintro e w2 ⟨⟨rfl, q2, cap2, hb2, hs2⟩, R2⟩
              have R3 := Below.trans R8 R2
              rw [List.append_assoc] at hb2 hs2
              clear hcall2 R2 y0 y1 x0 x1
              have Hrel := Lib.hid (hnext.out q2 cap2 w2 _ Hg.out (by rw [He.out]; exact hb2) (by rw [He.out]; exact hs2) R3)
              clear hs2 hb2 R3 hnext
              go_wp2_with fail
              go_roundg (gk - 1)
              case measure => exact Hm.out
              case rel => exact Hrel.out
    · have hge : ¬ ((i : Int) < (t.length : Int)) := by omega
      have hta : t.take i = t := List.take_of_length_le (by omega)
      rw [hta] at hnb hbs HS hlen
      have hfin : escL t = t.flatMap escB := by unfold escL; rw [hnb]; rfl
      have Hfin := Lib.hid hfin
      have hst := Lib.hid (string_calls bb u q bc _ wr w hbs (by omega) HS HR.size)
      have HB := Lib.hid (HR.whole HS)
      clear hfin hta hnb hbs HS hig hlen hi hK
      go_wp2_with fail
      refine hst.out.mono ?_
      rintro e w2 ⟨rfl, hb2⟩
      go_wp2_with fail
      go_ret
      exact ⟨by rw [Hfin.out]; rfl, HB.out.trans hb2⟩
end Go.Proofs.YtlpfcnpdecoblaaDoor.Marks
