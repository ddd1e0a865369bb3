/- Strip walked. -/
import Derived.Test.YtlpfcnpdecoblaaDoorMkO
namespace Go.Proofs.YtlpfcnpdecoblaaDoor.Marks
open Go.RowKit Go.Proofs.YtlpfcnpdecoblaaDoor Go.Proofs.YtlpfcnpdecoblaaDoor.Hp
set_option linter.unusedVariables false
attribute [local go_sem] Oper.semAt_some

/-- Without those at its end. -/
def rdw (g : Ch → Bool) (l : List Ch) : List Ch := (l.reverse.dropWhile g).reverse
def stripL (g : Ch → Bool) (t : List Ch) : List Ch := rdw g (t.dropWhile g)
theorem rdw_snoc (g : Ch → Bool) (l : List Ch) (c : Ch) : rdw g (l ++ [c]) = if g c = true then rdw g l else l ++ [c] := by
  unfold rdw
  rw [List.reverse_append]
  show ((c :: l.reverse).dropWhile _).reverse = _
  rw [List.dropWhile_cons]
  split
  · rfl
  · simp
theorem dw_len (g : Ch → Bool) (l : List Ch) : (l.dropWhile g).length ≤ l.length := (List.dropWhile_sublist g).length_le
theorem rdw_len (g : Ch → Bool) (l : List Ch) : (rdw g l).length ≤ l.length := by
  unfold rdw
  have := dw_len g l.reverse
  rw [List.length_reverse] at this ⊢
  exact this
theorem strip_len (g : Ch → Bool) (l : List Ch) : (stripL g l).length ≤ l.length := Nat.le_trans (rdw_len g _) (dw_len g l)
theorem last_of {l : List Ch} {m : Nat} (h : l.length = m + 1) : ∃ v x, l = v ++ [x] ∧ v.length = m := by
  have hne : l ≠ [] := fun e => by rw [e] at h; cases h
  exact ⟨l.dropLast, l.getLast hne, (List.dropLast_concat_getLast hne).symm, by rw [List.length_dropLast]; omega⟩
theorem clone_below (t : List Ch) (ao : Option Addr) (cap : Nat) (w : World) (h : CharsAt w ao cap t) (hm : t.length ≤ 1000000) :
    Calls Tryd.prog 44 #[.slice ao t.length cap] w (CharsPost t w) := by
  refine (clone_calls t ao cap w (keep w) (fun W S' hs => h.keep (kept_of (hs.perm (show _ = S' * keep w by ac_rfl)))) (Sat.start w) hm).mono ?_
  rintro e w' ⟨⟨p, cap', rfl, hS⟩, hR⟩
  exact ⟨p, cap', rfl, chA_at hS, hR.whole hS⟩
def S1Rel (g : Ch → Bool) (t : List Ch) (w w1 : World) (n : Nat) (tv : Value) (wr : World) : Prop :=
  ∃ (ao : Option Addr) (cap : Nat) (u : List Ch), u.length = n ∧ tv = .slice ao n cap ∧ CharsAt w ao cap u ∧ u.dropWhile g = t.dropWhile g ∧ u.length ≤ t.length ∧ Below w.heap.size w wr ∧ Below w1.heap.size w1 wr
def S2Rel (g : Ch → Bool) (t : List Ch) (w w1 : World) (n : Nat) (tv : Value) (wr : World) : Prop :=
  ∃ (ao : Option Addr) (cap : Nat) (u : List Ch), u.length = n ∧ tv = .slice ao n cap ∧ CharsAt w ao cap u ∧ rdw g u = stripL g t ∧ u.length ≤ t.length ∧ Below w.heap.size w wr ∧ Below w1.heap.size w1 wr
set_option maxRecDepth 100000 in
set_option maxHeartbeats 8000000 in
theorem strip_calls (t : List Ch) (ao : Option Addr) (cap : Nat) (s : ByteArray) (w : World) (h : CharsAt w ao cap t) (hm : t.length ≤ 100000) :
    Calls Tryd.prog 27 #[.slice ao t.length cap, .string s] w (CharsPost (stripL (goC s) t) w) := by
  have hmm : (t.length : Int) ≤ 100000 := by omega
  have H := Lib.hid h
  have hB : Below w.heap.size w (w.alloc (.cells #[.string s] 9 (0, 0))) := (Below.refl _ _).alloc (Nat.le_refl _) _
  obtain ⟨sb, hsb⟩ : ∃ b, b = w.heap.size := ⟨_, rfl⟩
  have hs0 : (w.alloc (.cells #[.string s] 9 (0, 0))).cell? ⟨sb, 0, none⟩ = some (.string s) := by rw [cell_at (block_new hsb.symm)]; rfl
  have hlt : sb < (w.alloc (.cells #[.string s] 9 (0, 0))).heap.size := by rw [World.size_alloc, hsb]; exact Nat.lt_succ_self _
  obtain ⟨w1, hw1⟩ : ∃ w1, w1 = w.alloc (.cells #[.string s] 9 (0, 0)) := ⟨_, rfl⟩
  rw [← hw1] at hB hs0 hlt
  have hgo := Lib.hid (fun (wr : World) (c : Ch) (hb : Below w1.heap.size w1 wr) => goes_calls s sb c wr (((Kept.below hb).cell hlt 0).trans hs0))
  have hen : ∀ args w, (callFunc 46 args).run Tryd.prog w = .ok (.enter 46 args) w := enters_of Tryd.func46 (by kernel_rfl) rfl
  have HB := Lib.hid hB
  obtain ⟨g, hg⟩ : ∃ g, g = goC s := ⟨_, rfl⟩
  rw [← hg] at hgo
  rw [← hg]
  clear h hg hB hs0
  go_enter Tryd.func27, Tryd.ntmps27
  go_upto_region 1 with fail
  rw [← hw1, ← hsb]
  clear hw1 hsb
  go_wp2_with fail
  go_loopg [0] (t.length) (fun (n : Nat) (tv : Value) (wr : World) => S1Rel g t w w1 n tv wr)
  case atStart => exact ⟨ao, cap, t, rfl, rfl, H.out, rfl, Nat.le_refl _, HB.out, Below.refl _ _⟩
  case round =>
    obtain ⟨ao, cap, u, hun, rfl, hC, hdw, hul, hb, hb1⟩ := hrel
    by_cases h0 : gk = 0
    · subst h0
      have hu : u = [] := List.eq_nil_of_length_eq_zero hun
      subst hu
      have h2 := Lib.hid (show S2Rel g t w w1 0 (.slice ao 0 cap) wr from ⟨ao, cap, [], rfl, rfl, hC, by unfold stripL; rw [← hdw]; rfl, Nat.zero_le _, hb, hb1⟩)
      clear hC hdw hul hb hb1 hun
      go_wp2_with fail
      go_loopg [0] 0 (fun (n : Nat) (tv : Value) (w9 : World) => S2Rel g t w w1 n tv w9)
      case atStart => exact h2.out
      case round =>
        clear h2
        obtain ⟨ao, cap, u, hun, rfl, hC, hdw, hul, hb, hb1⟩ := hrel
        have hCr := hC.keep (Kept.below hb)
        by_cases h0 : gk = 0
        · subst h0
          have hu : u = [] := List.eq_nil_of_length_eq_zero hun
          subst hu
          have hst : stripL g t = [] := hdw.symm
          have hcl := Lib.hid (clone_below [] ao cap wr hCr (by simp))
          have Hb := Lib.hid hb
          have Hst := Lib.hid hst
          clear hC hdw hul hb hb1 hun hCr hst
          go_wp2_with fail
          refine hcl.out.mono ?_
          rintro e w2 ⟨p2, c2, rfl, hC2, b2⟩
          have C2 := Lib.hid hC2
          have B2 := Lib.hid (bt Hb.out b2)
          clear hC2 b2
          go_wp2_with fail
          go_ret
          refine ⟨p2, c2, ?_, ?_, B2.out⟩
          · rw [Hst.out]; rfl
          · rw [Hst.out]; exact C2.out
        · obtain ⟨f, rfl⟩ : ∃ f, gk = f + 1 := ⟨gk - 1, by omega⟩
          obtain ⟨v, x, rfl, hvl⟩ := last_of hun
          obtain ⟨tb, o, rfl, htb, x0, x1⟩ := hCr.2.2 f (by omega)
          have hgl : (v ++ [x])[f]'(by omega) = x := by rw [List.getElem_append_right (by omega)]; simp
          rw [hgl] at x0 x1
          have hcall := hgo.out wr x hb1
          have hf0 : (0 : Int) < (f : Int) + 1 := by omega
          have hff : (0 : Int) ≤ (f : Int) := by omega
          have hf2 : (f : Int) < (f : Int) + 1 := by omega
          have hf1 : ((f : Int) + 1) ≤ 100000 := by have := hul; rw [hun] at this; omega
          have hf3 : (f : Int) ≤ (cap : Int) := by have := hC.1; rw [hun] at this; omega
          rw [rdw_snoc] at hdw
          by_cases hgx : g x = true
          · rw [hgx] at hcall
            rw [if_pos hgx] at hdw
            have hcall := Lib.hid hcall
            have hCv : CharsAt w (some ⟨tb, o, none⟩) cap v := by have := hC.take f; rw [List.take_left' hvl] at this; exact this
            have hnx := Lib.hid (fun (w2 : World) (b2 : Below wr.heap.size wr w2) => (show S2Rel g t w w1 f (.slice (some ⟨tb, o, none⟩) f cap) w2 from ⟨_, _, v, hvl, rfl, hCv, hdw, by rw [hvl]; omega, hb.trans (b2.mono hb.size), hb1.trans (b2.mono hb1.size)⟩))
            clear hC hdw hul hb hb1 hun hgx hvl hCr hCv hgl h0
            go_wp2_with fail
            refine hcall.out.mono ?_
            rintro e w2 ⟨rfl, b2⟩
            have hrel := Lib.hid (hnx.out w2 b2)
            clear b2 hnx hcall x0 x1
            go_wp2_with fail
            go_roundg f
            case measure => exact Nat.lt_succ_self f
            case rel => exact hrel.out
          · have hgx2 : g x = false := by simpa using hgx
            rw [hgx2] at hcall
            rw [if_neg hgx] at hdw
            have hcall := Lib.hid hcall
            have hcl := Lib.hid (fun (w2 : World) (b2 : Below wr.heap.size wr w2) => clone_below (v ++ [x]) (some ⟨tb, o, none⟩) cap w2 (hCr.keep (Kept.below b2)) (by rw [hun]; omega))
            rw [hun] at hcl
            have Hun := Lib.hid hun
            have Hdw := Lib.hid hdw
            have Hb := Lib.hid hb
            clear hC hdw hul hb hb1 hun hgx hvl hgx2 hCr hgl h0
            go_wp2_with fail
            refine hcall.out.mono ?_
            rintro e w2 ⟨rfl, b2⟩
            have B2 := Lib.hid (bt Hb.out b2)
            have hcl2 := Lib.hid (hcl.out w2 b2)
            clear b2 hcl hcall x0 x1
            go_wp2_with fail
            refine hcl2.out.mono ?_
            rintro e w3 ⟨p2, c2, he, hC2, b3⟩
            rw [Hun.out] at he
            subst he
            have C2 := Lib.hid hC2
            have B3 := Lib.hid (bt B2.out b3)
            clear hC2 b3
            go_wp2_with fail
            go_ret
            refine ⟨p2, c2, ?_, ?_, B3.out⟩
            · rw [← Hdw.out, Hun.out]; rfl
            · rw [← Hdw.out]; exact C2.out
    · obtain ⟨f, rfl⟩ : ∃ f, gk = f + 1 := ⟨gk - 1, by omega⟩
      obtain ⟨x, v, rfl⟩ : ∃ x v, u = x :: v := by cases u with | nil => cases hun | cons x v => exact ⟨x, v, rfl⟩
      have hvl : v.length = f := by simpa using hun
      obtain ⟨tb, o, rfl, htb, x0, x1⟩ := (hC.keep (Kept.below hb)).2.2 0 (by simp)
      have x0 : wr.cell? ⟨tb, o, none⟩ = some (.int .u8 x.b.toNat) := by simpa using x0
      have x1 : wr.cell? ⟨tb, o + 1, none⟩ = some (.bool x.q) := by simpa using x1
      have hcall := hgo.out wr x hb1
      have hf0 : (0 : Int) < (f : Int) + 1 := by omega
      have hf1 : ((f : Int) + 1) ≤ 100000 := by have := hul; rw [List.length_cons, hvl] at this; omega
      rw [List.dropWhile_cons] at hdw
      by_cases hgx : g x = true
      · rw [hgx] at hcall
        rw [if_pos hgx] at hdw
        have hcall := Lib.hid hcall
        have hsl : ∀ W, (Instr.slice 22 (.slice (some ⟨tb, o, none⟩) (f + 1) cap) (some (.int .i64 1)) none none).run Tryd.prog W = .ok (.slice (tailA (some ⟨tb, o, none⟩) 1 cap 2) f (cap - 1)) W := fun W => by
          have := slice_from (some ⟨tb, o, none⟩) (f + 1) cap 1 (by omega) W
          simpa using this
        have hnx := Lib.hid (fun (w2 : World) (b2 : Below wr.heap.size wr w2) => (show S1Rel g t w w1 f (.slice (tailA (some ⟨tb, o, none⟩) 1 cap 2) f (cap - 1)) w2 from ⟨_, _, v, hvl, rfl, hC.tail 1 (by simp), hdw, by simp at hul; omega, hb.trans (b2.mono hb.size), hb1.trans (b2.mono hb1.size)⟩))
        clear hC hdw hul hb hb1 hun hgx hvl
        go_wp2_with fail
        refine hcall.out.mono ?_
        rintro e w2 ⟨rfl, b2⟩
        have hrel := Lib.hid (hnx.out w2 b2)
        clear b2 hnx hcall x0 x1
        go_wp2_with fail
        go_roundg f
        case measure => exact Nat.lt_succ_self f
        case rel => exact hrel.out
      · have hgx2 : g x = false := by simpa using hgx
        rw [hgx2] at hcall
        rw [if_neg hgx] at hdw
        have hcall := Lib.hid hcall
        have hnx := Lib.hid (fun (w2 : World) (b2 : Below wr.heap.size wr w2) => (show S2Rel g t w w1 (f + 1) (.slice (some ⟨tb, o, none⟩) (f + 1) cap) w2 from ⟨_, _, x :: v, hun, rfl, hC, by unfold stripL; rw [← hdw], hul, hb.trans (b2.mono hb.size), hb1.trans (b2.mono hb1.size)⟩))
        clear hC hdw hul hb hb1 hun hgx hvl hgx2
        go_wp2_with fail
        refine hcall.out.mono ?_
        rintro e w2 ⟨rfl, b2⟩
        have h2 := Lib.hid (hnx.out w2 b2)
        clear b2 hnx hcall x0 x1
        go_wp2_with fail
        go_loopg [0] (f + 1) (fun (n : Nat) (tv : Value) (w9 : World) => S2Rel g t w w1 n tv w9)
        case atStart => exact h2.out
        case round =>
          clear h2
          obtain ⟨ao, cap, u, hun, rfl, hC, hdw, hul, hb, hb1⟩ := hrel
          have hCr := hC.keep (Kept.below hb)
          by_cases h0 : gk = 0
          · subst h0
            have hu : u = [] := List.eq_nil_of_length_eq_zero hun
            subst hu
            have hst : stripL g t = [] := hdw.symm
            have hcl := Lib.hid (clone_below [] ao cap wr hCr (by simp))
            have Hb := Lib.hid hb
            have Hst := Lib.hid hst
            clear hC hdw hul hb hb1 hun hCr hst
            go_wp2_with fail
            refine hcl.out.mono ?_
            rintro e w2 ⟨p2, c2, rfl, hC2, b2⟩
            have C2 := Lib.hid hC2
            have B2 := Lib.hid (bt Hb.out b2)
            clear hC2 b2
            go_wp2_with fail
            go_ret
            refine ⟨p2, c2, ?_, ?_, B2.out⟩
            · rw [Hst.out]; rfl
            · rw [Hst.out]; exact C2.out
          · obtain ⟨f, rfl⟩ : ∃ f, gk = f + 1 := ⟨gk - 1, by omega⟩
            obtain ⟨v, x, rfl, hvl⟩ := last_of hun
            obtain ⟨tb, o, rfl, htb, x0, x1⟩ := hCr.2.2 f (by omega)
            have hgl : (v ++ [x])[f]'(by omega) = x := by rw [List.getElem_append_right (by omega)]; simp
            rw [hgl] at x0 x1
            have hcall := hgo.out wr x hb1
            have hf0 : (0 : Int) < (f : Int) + 1 := by omega
            have hff : (0 : Int) ≤ (f : Int) := by omega
            have hf2 : (f : Int) < (f : Int) + 1 := by omega
            have hf1 : ((f : Int) + 1) ≤ 100000 := by have := hul; rw [hun] at this; omega
            have hf3 : (f : Int) ≤ (cap : Int) := by have := hC.1; rw [hun] at this; omega
            rw [rdw_snoc] at hdw
            by_cases hgx : g x = true
            · rw [hgx] at hcall
              rw [if_pos hgx] at hdw
              have hcall := Lib.hid hcall
              have hCv : CharsAt w (some ⟨tb, o, none⟩) cap v := by have := hC.take f; rw [List.take_left' hvl] at this; exact this
              have hnx := Lib.hid (fun (w2 : World) (b2 : Below wr.heap.size wr w2) => (show S2Rel g t w w1 f (.slice (some ⟨tb, o, none⟩) f cap) w2 from ⟨_, _, v, hvl, rfl, hCv, hdw, by rw [hvl]; omega, hb.trans (b2.mono hb.size), hb1.trans (b2.mono hb1.size)⟩))
              clear hC hdw hul hb hb1 hun hgx hvl hCr hCv hgl h0
              go_wp2_with fail
              refine hcall.out.mono ?_
              rintro e w2 ⟨rfl, b2⟩
              have hrel := Lib.hid (hnx.out w2 b2)
              clear b2 hnx hcall x0 x1
              go_wp2_with fail
              go_roundg f
              case measure => exact Nat.lt_succ_self f
              case rel => exact hrel.out
            · have hgx2 : g x = false := by simpa using hgx
              rw [hgx2] at hcall
              rw [if_neg hgx] at hdw
              have hcall := Lib.hid hcall
              have hcl := Lib.hid (fun (w2 : World) (b2 : Below wr.heap.size wr w2) => clone_below (v ++ [x]) (some ⟨tb, o, none⟩) cap w2 (hCr.keep (Kept.below b2)) (by rw [hun]; omega))
              rw [hun] at hcl
              have Hun := Lib.hid hun
              have Hdw := Lib.hid hdw
              have Hb := Lib.hid hb
              clear hC hdw hul hb hb1 hun hgx hvl hgx2 hCr hgl h0
              go_wp2_with fail
              refine hcall.out.mono ?_
              rintro e w2 ⟨rfl, b2⟩
              have B2 := Lib.hid (bt Hb.out b2)
              have hcl2 := Lib.hid (hcl.out w2 b2)
              clear b2 hcl hcall x0 x1
              go_wp2_with fail
              refine hcl2.out.mono ?_
              rintro e w3 ⟨p2, c2, he, hC2, b3⟩
              rw [Hun.out] at he
              subst he
              have C2 := Lib.hid hC2
              have B3 := Lib.hid (bt B2.out b3)
              clear hC2 b3
              go_wp2_with fail
              go_ret
              refine ⟨p2, c2, ?_, ?_, B3.out⟩
              · rw [← Hdw.out, Hun.out]; rfl
              · rw [← Hdw.out]; exact C2.out
end Go.Proofs.YtlpfcnpdecoblaaDoor.Marks
