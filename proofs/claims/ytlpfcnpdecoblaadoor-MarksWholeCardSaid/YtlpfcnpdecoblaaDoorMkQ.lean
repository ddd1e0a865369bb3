/- The document's Strip, Part walked. -/
import Derived.Test.YtlpfcnpdecoblaaDoorMkP
namespace Go.Proofs.YtlpfcnpdecoblaaDoor.Marks
open Go.RowKit Go.Proofs.YtlpfcnpdecoblaaDoor Go.Proofs.YtlpfcnpdecoblaaDoor.Hp
set_option linter.unusedVariables false
attribute [local go_sem] Oper.semAt_some

theorem rslice_mid (ao : Option Addr) (len cap lo n : Nat) (h0 : lo ≤ n) (hn : n ≤ cap) (w : World) :
    (Instr.slice 27 (.slice ao len cap) (some (.int .i64 lo)) (some (.int .i64 n)) none).run Tryd.prog w = .ok (.slice (tailA ao lo cap 2) (n - lo) (cap - lo)) w := by
  obtain ⟨i0, hi, hz0, hz1, hz2⟩ := info_parts infoRCh
  exact run_slice_mid _ _ i0 2 Tryd.underlying27 hi hz1 ao len cap lo n h0 hn w
def T1Rel (g : Ch → Bool) (t : List Ch) (w : World) (n : Nat) (fv : Value) (wr : World) : Prop :=
  ∃ i : Nat, i + n = t.length ∧ fv = .int .i64 (i : Int) ∧ (t.drop i).dropWhile g = t.dropWhile g ∧ w = wr
def T2Rel (g : Ch → Bool) (t : List Ch) (i : Nat) (w : World) (n : Nat) (tv : Value) (wr : World) : Prop :=
  i + n ≤ t.length ∧ tv = .int .i64 ((i + n : Nat) : Int) ∧ rdw g ((t.drop i).take n) = stripL g t ∧ w = wr
set_option maxRecDepth 100000 in
set_option maxHeartbeats 8000000 in
theorem rstrip_calls (t : List Ch) (ao : Option Addr) (cap : Nat) (s : ByteArray) (w : World) (h : CharsAt w ao cap t) (hm : t.length ≤ 100000) (hs : s.size ≤ 100000) :
    Calls Tryd.prog 28 #[.slice ao t.length cap, .string s] w (CharsPost (stripL (goC s) t) w) := by
  have hmm : (t.length : Int) ≤ 100000 := by omega
  have hcp := h.1
  have H := Lib.hid h
  have hin := Lib.hid (fun (b : UInt8) => rin_calls s b w hs)
  clear h hs
  have hcap : (t.length : Int) ≤ (cap : Int) := by omega
  go_enter Tryd.func28, Tryd.ntmps28
  go_wp2_with fail
  go_loopg [5] (t.length) (fun (n : Nat) (fv : Value) (wr : World) => T1Rel (goC s) t w n fv wr)
  case atStart => exact ⟨0, by omega, rfl, rfl, rfl⟩
  case round =>
    obtain ⟨i, hin1, rfl, hdw, rfl⟩ := hrel
    have hi0 : (0 : Int) ≤ i := by omega
    by_cases hi : i < t.length
    · have hil : (i : Int) < (t.length : Int) := by omega
      obtain ⟨tb, o, rfl, htb, x0, x1⟩ := H.out.2.2 i hi
      have hd : t.drop i = t[i] :: t.drop (i + 1) := List.drop_eq_getElem_cons hi
      obtain ⟨x, hx⟩ : ∃ x, x = t[i] := ⟨_, rfl⟩
      rw [← hx] at x0 x1 hd
      rw [hd, List.dropWhile_cons] at hdw
      by_cases hgx : goC s x = true
      · rw [if_pos hgx] at hdw
        have hrel := Lib.hid (show T1Rel (goC s) t w (gk - 1) (.int .i64 ((i : Int) + 1)) w from ⟨i + 1, by omega, rfl, hdw, rfl⟩)
        have Hms := Lib.hid (show gk - 1 < gk by omega)
        unfold goC at hgx
        simp only [Bool.and_eq_true, Bool.not_eq_true'] at hgx
        rw [hgx.1] at x1
        have hc := hin.out x.b
        rw [hgx.2] at hc
        have hc := Lib.hid hc
        clear hdw hgx hd hx hin1
        go_wp2_with fail
        refine hc.out.mono ?_
        rintro e w2 ⟨rfl, rfl⟩
        go_wp2_with fail
        go_roundg (gk - 1)
        case measure => exact Hms.out
        case rel => exact hrel.out
      · have hgx2 : goC s x = false := by simpa using hgx
        rw [if_neg hgx, ← hd] at hdw
        have h2 := Lib.hid (show T2Rel (goC s) t i w (t.length - i) (.int .i64 (t.length : Int)) w from ⟨by omega, by rw [show i + (t.length - i) = t.length by omega], by rw [List.take_of_length_le (by rw [List.length_drop]; exact Nat.le_refl _)]; unfold stripL; rw [← hdw], rfl⟩)
        have hcs : x.q = true ∨ (x.q = false ∧ inL s x.b = false) := by
          unfold goC at hgx2
          cases hq : x.q with
          | true => exact .inl rfl
          | false => rw [hq] at hgx2; exact .inr ⟨rfl, by simpa using hgx2⟩
        have hc := hin.out x.b
        clear hdw hgx hgx2 hd hx hin1
        rcases hcs with hq | ⟨hq, hi2⟩
        · rw [hq] at x1
          clear hc hq
          go_wp2_with fail
          go_loopg [6] (t.length - i) (fun (n : Nat) (tv : Value) (w9 : World) => T2Rel (goC s) t i w n tv w9)
          case atStart => exact h2.out
          case round =>
            clear h2
            obtain ⟨hle, rfl, hdw, rfl⟩ := hrel
            by_cases h0 : gk = 0
            · subst h0
              have hge : ¬ ((i : Int) < ((i + 0 : Nat) : Int)) := by omega
              have hge2 : ¬ ((i : Int) < (i : Int)) := by omega
              have hsl := fun W => rslice_mid (some ⟨tb, o, none⟩) t.length cap i i (Nat.le_refl _) (by omega) W
              rw [Nat.sub_self] at hsl
              have hst : stripL (goC s) t = [] := hdw.symm
              have hC := (H.out.tail i (by omega)).take 0
              have Hst := Lib.hid hst
              have HC := Lib.hid hC
              clear hdw hst hC hle
              go_wp2_with fail
              go_ret
              refine ⟨tailA (some ⟨tb, o, none⟩) i cap 2, cap - i, ?_, ?_, Below.refl _ _⟩
              · rw [Hst.out]; rfl
              · rw [Hst.out]; exact HC.out
            · obtain ⟨f, rfl⟩ : ∃ f, gk = f + 1 := ⟨gk - 1, by omega⟩
              have hk : i + f < t.length := by omega
              have hk0 : (0 : Int) ≤ ((i + f : Nat) : Int) := by omega
              have hk1 : (i : Int) < ((i + (f + 1) : Nat) : Int) := by omega
              have hk2 : ((i + (f + 1) : Nat) : Int) - 1 = ((i + f : Nat) : Int) := by omega
              have hk3 : ((i + f : Nat) : Int) < (t.length : Int) := by omega
              obtain ⟨k, hkk⟩ : ∃ k, k = i + f := ⟨_, rfl⟩
              obtain ⟨k1, hkk1⟩ : ∃ k, k = i + (f + 1) := ⟨_, rfl⟩
              obtain ⟨tb2, o2, e2, htb2, z0, z1⟩ := H.out.2.2 (i + f) hk
              obtain ⟨e3, e4⟩ : tb2 = tb ∧ o2 = o := by simpa using e2.symm
              rw [e3, e4] at z0 z1
              clear x0 x1 e2 htb2 e3 e4
              have x0 := z0
              have x1 := z1
              clear z0 z1
              have htk : (t.drop i).take (f + 1) = (t.drop i).take f ++ [t[i + f]] := by
                rw [List.take_succ_eq_append_getElem (by rw [List.length_drop]; omega), List.getElem_drop]
              obtain ⟨x, hx⟩ : ∃ x, x = t[i + f] := ⟨_, rfl⟩
              rw [← hx] at x0 x1 htk
              rw [htk, rdw_snoc] at hdw
              rw [← hkk] at x0 x1 hk hk0 hk2 hk3
              rw [← hkk1] at hk1 hk2
              rw [← hkk1]
              by_cases hgx : goC s x = true
              · rw [if_pos hgx] at hdw
                have hrel := Lib.hid (show T2Rel (goC s) t i w f (.int .i64 (k : Int)) w from ⟨by omega, by rw [hkk], hdw, rfl⟩)
                unfold goC at hgx
                simp only [Bool.and_eq_true, Bool.not_eq_true'] at hgx
                rw [hgx.1] at x1
                have hc := hin.out x.b
                rw [hgx.2] at hc
                have hc := Lib.hid hc
                have hkb : (k1 : Int) ≤ 100000 := by omega
                clear hdw hgx hx htk hle hkk hkk1
                go_wp2_with fail
                refine hc.out.mono ?_
                rintro e w2 ⟨rfl, rfl⟩
                go_wp2_with fail
                go_roundg f
                case measure => exact Nat.lt_succ_self f
                case rel => exact hrel.out
              · have hgx2 : goC s x = false := by simpa using hgx
                rw [if_neg hgx, ← htk] at hdw
                have hcs : x.q = true ∨ (x.q = false ∧ inL s x.b = false) := by
                  unfold goC at hgx2
                  cases hq : x.q with
                  | true => exact .inl rfl
                  | false => rw [hq] at hgx2; exact .inr ⟨rfl, by simpa using hgx2⟩
                have hc := hin.out x.b
                have hkb : (k1 : Int) ≤ 100000 := by omega
                have hsl := fun W => rslice_mid (some ⟨tb, o, none⟩) t.length cap i k1 (by omega) (by omega) W
                have hC := (H.out.tail i (by omega)).take (f + 1)
                rw [hdw] at hC
                have hln : (stripL (goC s) t).length = k1 - i := by rw [← hdw, List.length_take, List.length_drop]; omega
                have HC := Lib.hid hC
                have Hln := Lib.hid hln
                clear hdw hgx hgx2 hx htk hle hkk hkk1 hC hln
                rcases hcs with hq | ⟨hq, hi2⟩
                · rw [hq] at x1
                  clear hc hq
                  go_wp2_with fail
                  go_ret
                  exact ⟨_, _, by rw [Hln.out]; rfl, HC.out, Below.refl _ _⟩
                · rw [hq] at x1
                  rw [hi2] at hc
                  have hc := Lib.hid hc
                  clear hq hi2
                  go_wp2_with fail
                  refine hc.out.mono ?_
                  rintro e w2 ⟨rfl, rfl⟩
                  go_wp2_with fail
                  go_ret
                  exact ⟨_, _, by rw [Hln.out]; rfl, HC.out, Below.refl _ _⟩
        · rw [hq] at x1
          rw [hi2] at hc
          have hc := Lib.hid hc
          clear hq hi2
          go_wp2_with fail
          refine hc.out.mono ?_
          rintro e w2 ⟨rfl, rfl⟩
          go_wp2_with fail
          go_loopg [6] (t.length - i) (fun (n : Nat) (tv : Value) (w9 : World) => T2Rel (goC s) t i w n tv w9)
          case atStart => exact h2.out
          case round =>
            clear h2
            obtain ⟨hle, rfl, hdw, rfl⟩ := hrel
            by_cases h0 : gk = 0
            · subst h0
              have hge : ¬ ((i : Int) < ((i + 0 : Nat) : Int)) := by omega
              have hge2 : ¬ ((i : Int) < (i : Int)) := by omega
              have hsl := fun W => rslice_mid (some ⟨tb, o, none⟩) t.length cap i i (Nat.le_refl _) (by omega) W
              rw [Nat.sub_self] at hsl
              have hst : stripL (goC s) t = [] := hdw.symm
              have hC := (H.out.tail i (by omega)).take 0
              have Hst := Lib.hid hst
              have HC := Lib.hid hC
              clear hdw hst hC hle
              go_wp2_with fail
              go_ret
              refine ⟨tailA (some ⟨tb, o, none⟩) i cap 2, cap - i, ?_, ?_, Below.refl _ _⟩
              · rw [Hst.out]; rfl
              · rw [Hst.out]; exact HC.out
            · obtain ⟨f, rfl⟩ : ∃ f, gk = f + 1 := ⟨gk - 1, by omega⟩
              have hk : i + f < t.length := by omega
              have hk0 : (0 : Int) ≤ ((i + f : Nat) : Int) := by omega
              have hk1 : (i : Int) < ((i + (f + 1) : Nat) : Int) := by omega
              have hk2 : ((i + (f + 1) : Nat) : Int) - 1 = ((i + f : Nat) : Int) := by omega
              have hk3 : ((i + f : Nat) : Int) < (t.length : Int) := by omega
              obtain ⟨k, hkk⟩ : ∃ k, k = i + f := ⟨_, rfl⟩
              obtain ⟨k1, hkk1⟩ : ∃ k, k = i + (f + 1) := ⟨_, rfl⟩
              obtain ⟨tb2, o2, e2, htb2, z0, z1⟩ := H.out.2.2 (i + f) hk
              obtain ⟨e3, e4⟩ : tb2 = tb ∧ o2 = o := by simpa using e2.symm
              rw [e3, e4] at z0 z1
              clear x0 x1 e2 htb2 e3 e4
              have x0 := z0
              have x1 := z1
              clear z0 z1
              have htk : (t.drop i).take (f + 1) = (t.drop i).take f ++ [t[i + f]] := by
                rw [List.take_succ_eq_append_getElem (by rw [List.length_drop]; omega), List.getElem_drop]
              obtain ⟨x, hx⟩ : ∃ x, x = t[i + f] := ⟨_, rfl⟩
              rw [← hx] at x0 x1 htk
              rw [htk, rdw_snoc] at hdw
              rw [← hkk] at x0 x1 hk hk0 hk2 hk3
              rw [← hkk1] at hk1 hk2
              rw [← hkk1]
              by_cases hgx : goC s x = true
              · rw [if_pos hgx] at hdw
                have hrel := Lib.hid (show T2Rel (goC s) t i w f (.int .i64 (k : Int)) w from ⟨by omega, by rw [hkk], hdw, rfl⟩)
                unfold goC at hgx
                simp only [Bool.and_eq_true, Bool.not_eq_true'] at hgx
                rw [hgx.1] at x1
                have hc := hin.out x.b
                rw [hgx.2] at hc
                have hc := Lib.hid hc
                have hkb : (k1 : Int) ≤ 100000 := by omega
                clear hdw hgx hx htk hle hkk hkk1
                go_wp2_with fail
                refine hc.out.mono ?_
                rintro e w2 ⟨rfl, rfl⟩
                go_wp2_with fail
                go_roundg f
                case measure => exact Nat.lt_succ_self f
                case rel => exact hrel.out
              · have hgx2 : goC s x = false := by simpa using hgx
                rw [if_neg hgx, ← htk] at hdw
                have hcs : x.q = true ∨ (x.q = false ∧ inL s x.b = false) := by
                  unfold goC at hgx2
                  cases hq : x.q with
                  | true => exact .inl rfl
                  | false => rw [hq] at hgx2; exact .inr ⟨rfl, by simpa using hgx2⟩
                have hc := hin.out x.b
                have hkb : (k1 : Int) ≤ 100000 := by omega
                have hsl := fun W => rslice_mid (some ⟨tb, o, none⟩) t.length cap i k1 (by omega) (by omega) W
                have hC := (H.out.tail i (by omega)).take (f + 1)
                rw [hdw] at hC
                have hln : (stripL (goC s) t).length = k1 - i := by rw [← hdw, List.length_take, List.length_drop]; omega
                have HC := Lib.hid hC
                have Hln := Lib.hid hln
                clear hdw hgx hgx2 hx htk hle hkk hkk1 hC hln
                rcases hcs with hq | ⟨hq, hi2⟩
                · rw [hq] at x1
                  clear hc hq
                  go_wp2_with fail
                  go_ret
                  exact ⟨_, _, by rw [Hln.out]; rfl, HC.out, Below.refl _ _⟩
                · rw [hq] at x1
                  rw [hi2] at hc
                  have hc := Lib.hid hc
                  clear hq hi2
                  go_wp2_with fail
                  refine hc.out.mono ?_
                  rintro e w2 ⟨rfl, rfl⟩
                  go_wp2_with fail
                  go_ret
                  exact ⟨_, _, by rw [Hln.out]; rfl, HC.out, Below.refl _ _⟩
    · have hge : ¬ ((i : Int) < (t.length : Int)) := by omega
      have hie : i = t.length := by omega
      have hd : t.drop i = [] := List.drop_eq_nil_of_le (by omega)
      rw [hd] at hdw
      have h2 := Lib.hid (show T2Rel (goC s) t i w (t.length - i) (.int .i64 (t.length : Int)) w from ⟨by omega, by rw [show i + (t.length - i) = t.length by omega], by rw [hd]; unfold stripL; rw [← hdw]; rw [List.take_nil]; rfl, rfl⟩)
      clear hdw hd hin1 hie
      go_wp2_with fail
      go_loopg [6] (t.length - i) (fun (n : Nat) (tv : Value) (w9 : World) => T2Rel (goC s) t i w n tv w9)
      case atStart => exact h2.out
      case round =>
        clear h2
        obtain ⟨hle, rfl, hdw, rfl⟩ := hrel
        by_cases h0 : gk = 0
        · subst h0
          have hge : ¬ ((i : Int) < ((i + 0 : Nat) : Int)) := by omega
          have hge2 : ¬ ((i : Int) < (i : Int)) := by omega
          have hsl := fun W => rslice_mid ao t.length cap i i (Nat.le_refl _) (by omega) W
          rw [Nat.sub_self] at hsl
          have hst : stripL (goC s) t = [] := hdw.symm
          have hC := (H.out.tail i (by omega)).take 0
          have Hst := Lib.hid hst
          have HC := Lib.hid hC
          clear hdw hst hC hle
          go_wp2_with fail
          go_ret
          refine ⟨tailA ao i cap 2, cap - i, ?_, ?_, Below.refl _ _⟩
          · rw [Hst.out]; rfl
          · rw [Hst.out]; exact HC.out
        · exfalso; omega
end Go.Proofs.YtlpfcnpdecoblaaDoor.Marks
