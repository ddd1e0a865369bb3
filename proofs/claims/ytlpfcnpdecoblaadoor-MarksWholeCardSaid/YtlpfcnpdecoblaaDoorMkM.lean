/- The document's Chomp, Read walked. -/
import Derived.Test.YtlpfcnpdecoblaaDoorMkL
namespace Go.Proofs.YtlpfcnpdecoblaaDoor.Marks
open Go.RowKit Go.Proofs.YtlpfcnpdecoblaaDoor Go.Proofs.YtlpfcnpdecoblaaDoor.Hp
set_option linter.unusedVariables false
attribute [local go_sem] Oper.semAt_some

theorem ne_empty {t : ByteArray} (h : t.size ≠ 0) : (t.toList == ByteArray.toList { data := #[] }) = false := by
  rw [beq_eq_false_iff_ne]
  intro e
  rw [ByteArray.toList_eq, ByteArray.toList_eq] at e
  have : t.size = 0 := by rw [← bs_length]; unfold bs; rw [e]; rfl
  exact h this
set_option maxRecDepth 100000 in
set_option maxHeartbeats 1000000 in
theorem rchomp_calls (s : ByteArray) (w : World) (hm : (s.size : Int) ≤ 9223372036854775807) :
    Calls Tryd.prog 17 #[.string s] w fun e w' => e = .returned (.string ⟨(chompL (bs s)).toArray⟩) ∧ w = w' := by
  have Hm := Lib.hid hm
  clear hm
  go_enter Tryd.func17, Tryd.ntmps17
  go_wp2_with fail
  go_loopg [0] (s.size) (ChRel s w)
  case atStart => exact ⟨s, rfl, rfl, rfl, Nat.le_refl _, rfl⟩
  case round =>
    obtain ⟨t, rfl, hg, hc, hts, rfl⟩ := hrel
    have hm := Hm.out
    by_cases h0 : t.size = 0
    · have ht : bs t = [] := List.eq_nil_of_length_eq_zero (by rw [bs_length]; exact h0)
      have hte : t = { data := #[] } := bs_eq ht
      have hfin : t = ⟨(chompL (bs s)).toArray⟩ := by rw [← hc, ht]; exact bs_eq ht
      have Hfin := Lib.hid hfin
      clear hc ht hfin hg hts h0
      subst hte
      go_wp2_with fail
      go_ret
      exact ⟨congrArg (fun x => Ending.returned (.string x)) Hfin.out, rfl⟩
    · have hne := ne_empty h0
      have hne2 : (t.toList == []) = false := by simpa using hne
      have hne3 : t.toList ≠ [] := by simpa using hne2
      have hp : (0 : Int) < (t.size : Int) := by omega
      have hp1 : (0 : Int) ≤ (t.size : Int) - 1 := by omega
      have hp2 : (t.size : Int) - 1 < (t.size : Int) := by omega
      have hp3 : ((t.size : Int) - 1).toNat = t.size - 1 := by omega
      have hp4 : t.size - 1 < t.size := by omega
      have hp5 : (t.size : Int) - 1 ≤ (t.size : Int) := by omega
      have hts2 : (t.size : Int) ≤ 9223372036854775807 := by omega
      have hsp : bs t = (bs t).take (t.size - 1) ++ [t[t.size - 1]] := by
        have hl := bs_length t
        conv => lhs; rw [← List.take_append_drop (t.size - 1) (bs t), List.drop_eq_getElem_cons (by omega)]
        rw [show t.size - 1 + 1 = (bs t).length by omega, List.drop_length]; rfl
      have hcs := chomp_snoc ((bs t).take (t.size - 1)) t[t.size - 1]
      rw [← hsp] at hcs
      have hlit := u8_lit t[t.size - 1] 10 (by omega)
      rw [show ((10 : Nat) : Int) = 10 from rfl, show UInt8.ofNat 10 = 10 from rfl] at hlit
      have Hg := Lib.hid hg
      by_cases hl : (t[t.size - 1] == (10 : UInt8)) = true
      · rw [if_pos hl] at hcs
        rw [hl] at hlit
        have hnew : ChRel s wr (gk - 1) (.string (t.extract 0 (t.size - 1))) wr := by
          have e1 := bs_extract t 0 (t.size - 1)
          rw [List.drop_zero, Nat.sub_zero] at e1
          refine ⟨_, rfl, ?_, by rw [e1, ← hcs]; exact hc, ?_, rfl⟩
          · rw [← bs_length, e1, List.length_take, bs_length]; omega
          · rw [← bs_length, e1, List.length_take, bs_length]; omega
        have Hnew := Lib.hid hnew
        have hgk := Lib.hid (show gk - 1 < gk by omega)
        clear hnew hcs hsp hl hc hg hts h0
        go_wp2_with fail
        go_roundg (gk - 1)
        case measure => exact hgk.out
        case rel => exact Hnew.out
      · have hl2 : (t[t.size - 1] == (10 : UInt8)) = false := by simpa using hl
        rw [if_neg hl, hc] at hcs
        rw [hl2] at hlit
        have hfin : t = ⟨(chompL (bs s)).toArray⟩ := bs_eq hcs.symm
        have Hfin := Lib.hid hfin
        clear hcs hsp hl hl2 hc hg hts hfin h0
        go_wp2_with fail
        go_ret
        exact ⟨congrArg (fun x => Ending.returned (.string x)) Hfin.out, rfl⟩
abbrev rcA (p : Option Addr) (cap : Nat) (t : List Ch) : Hp := arr 66 2 p t.length cap (chCells t)
theorem appRC {w : World} {H : Hp} {ops : Array Oper} {rest : List Oper} {o : Oper} {a : Act} {Q : Exit → Act → World → Prop} (hgd : o.guard = none) (s x : Operand)
    (ho : o.op = .call { callee := .builtin .append, args := #[s, x], argTypes := #[27, 27] })
    (p : Option Addr) (n cap : Nat) (xs : List Value) (hp : a.eval s = .slice p n cap) (vx : Value) (hvx : a.eval x = vx) (m : Nat) (news : List Value) (hs : Src Tryd.prog 2 27 vx m news w) (h : Sat w (arr 66 2 p n cap xs * H)) (hn : n + m ≤ 1000000000)
    (hk : ∀ p' cap' w', Sat w' (arr 66 2 p' (n + m) cap' (xs ++ news) * H) → Ran w w' → wpList Tryd.prog ops Q rest (a.put o.dst (.slice p' (n + m) cap')) w') : wpList Tryd.prog ops Q (o :: rest) a w := by
  obtain ⟨i0, hi, hz0, hz1, hz2⟩ := info_parts infoRCh
  exact wpList_append_arr hgd s x _ _ ho 66 i0 _ 2 2 Tryd.underlying27 hi hz0 hz1 hz2 rfl p n cap xs hp h _ hvx m news (by rw [hz1]; exact hs) (by omega) (by unfold maxLen; omega) (fun p' cap' w' h1 h2 _ => hk p' cap' w' h1 h2)
theorem srcR1 {w : World} {b : Nat} {c : Ch} (hb : w.heap[b]? = some (.cells #[.int .u8 c.b.toNat, .bool c.q] 66 (0, 0))) : Src Tryd.prog 2 27 (.slice (some ⟨b, 0, none⟩) 1 1) 1 [.int .u8 c.b.toNat, .bool c.q] w := by
  refine Src.ofSlice w Tryd.underlying27 ⟨b, 0, none⟩ 1 1 _ rfl (fun j u hj => ?_) (by simp [Value.oneCell'])
  rw [Addr.add_lit, Nat.zero_add, cell_at hb, ← hj]
  simp
def RrRel (q : Bool) (s : ByteArray) (w : World) (g : Nat) (ov iv : Value) (wr : World) : Prop :=
  ∃ (i : Nat) (p : Option Addr) (cap : Nat) (acc : List Ch), i + g = s.size ∧ iv = .int .i64 (i : Int) ∧ ov = .slice p acc.length cap ∧ acc.length ≤ i ∧ readP false (bs s) = (readP q ((bs s).drop i)).map (acc ++ ·) ∧ Sat wr (rcA p cap acc * keep w) ∧ Ran w wr
/-- One marked byte more. -/
theorem rr_next {q2 : Bool} {s : ByteArray} {w : World} {i j : Nat} {acc : List Ch} {c : Ch} {al : Nat} (hal : al = acc.length) (hj : j ≤ s.size) (hij : i + 1 ≤ j) (hai : acc.length ≤ i) (hrd : readP false (bs s) = ((readP q2 ((bs s).drop j)).map (c :: ·)).map (acc ++ ·))
    (p' : Option Addr) (cap' : Nat) (w' : World) (hs : Sat w' (arr 66 2 p' (al + 1) cap' (chCells acc ++ [.int .u8 c.b.toNat, .bool c.q]) * keep w)) (hr : Ran w w') : RrRel q2 s w (s.size - j) (.slice p' (al + 1) cap') (.int .i64 (j : Int)) w' := by
  have e1 : (acc ++ [c]).length = al + 1 := by rw [List.length_append, hal]; rfl
  refine ⟨j, p', cap', acc ++ [c], by omega, rfl, by rw [e1], by rw [e1]; omega, by rw [hrd, map_snoc], ?_, hr⟩
  unfold rcA
  rw [e1, chCells_snoc]
  exact hs
set_option maxRecDepth 100000 in
set_option maxHeartbeats 8000000 in
theorem rread_calls (s : ByteArray) (w : World) (hm : s.size ≤ 100000) :
    Calls Tryd.prog 11 #[.string s] w (ReadPost s w) := by
  have hmm : (s.size : Int) ≤ 100000 := by omega
  have Hm := Lib.hid hm
  clear hm
  go_enter Tryd.func11, Tryd.ntmps11
  go_wp2_with fail
  go_loopg [4, 5] (s.size) (fun (g : Nat) (ov iv : Value) (wr : World) => RrRel false s w g ov iv wr)
  case atStart => exact ⟨0, none, 0, [], by omega, rfl, rfl, by simp, by simp, by show Sat w (arr 66 2 none 0 0 [] * keep w); exact (Sat.start w).nil_arr _ _, Below.refl 0 w⟩
  case round =>
    obtain ⟨i, p, cap, acc, hg, rfl, rfl, hai, hrd, HS, HR⟩ := hrel
    have hsm := Hm.out
    have hi0 : (0 : Int) ≤ i := by omega
    obtain ⟨al, hal⟩ : ∃ n, n = acc.length := ⟨_, rfl⟩
    have hlim : al + 1 ≤ 1000000000 := by omega
    by_cases hi : i < s.size
    · have hil : (i : Int) < (s.size : Int) := by omega
      obtain ⟨f, rfl⟩ : ∃ f, gk = f + 1 := ⟨gk - 1, by omega⟩
      have hd := bs_drop s i hi
      have l39 := u8_lit s[i] 39 (by omega)
      have l92 := u8_lit s[i] 92 (by omega)
      rw [show ((39 : Nat) : Int) = 39 from rfl, show UInt8.ofNat 39 = 39 from rfl] at l39
      rw [show ((92 : Nat) : Int) = 92 from rfl, show UInt8.ofNat 92 = 92 from rfl] at l92
      by_cases c39 : s[i] = 39
      · have e39 : (s[i] == (39 : UInt8)) = true := by rw [c39]; rfl
        rw [e39] at l39
        rw [hd, c39, readP_quote] at hrd
        have h0 := Lib.hid (show RrRel true s w (s.size - (i + 1)) (.slice p acc.length cap) (.int .i64 ((i : Int) + 1)) wr from ⟨i + 1, p, cap, acc, by omega, rfl, rfl, by omega, hrd, HS, HR⟩)
        clear hrd hd HS HR c39 e39 hai l92
        rw [← hal]
        rw [← hal] at h0
        clear hal
        go_wp2_with fail
        go_loopg [4, 5] (s.size - (i + 1)) (fun (g : Nat) (ov iv : Value) (wr : World) => g ≤ s.size - (i + 1) ∧ RrRel true s w g ov iv wr)
        case atStart => exact ⟨Nat.le_refl _, h0.out⟩
        case round =>
          clear h0
          obtain ⟨hgi, k, p, cap, acc, hkg, rfl, rfl, hak, hrd, HS, HR⟩ := hrel
          have hk0 : (0 : Int) ≤ k := by omega
          obtain ⟨al2, hal⟩ : ∃ n, n = acc.length := ⟨_, rfl⟩
          have hlim2 : al2 + 1 ≤ 1000000000 := by omega
          by_cases hk : k < s.size
          · have hkl : (k : Int) < (s.size : Int) := by omega
            have hkne : ((k : Int) == (s.size : Int)) = false := by rw [beq_eq_false_iff_ne]; omega
            have hd := bs_drop s k hk
            have l39k := u8_lit s[k] 39 (by omega)
            rw [show ((39 : Nat) : Int) = 39 from rfl, show UInt8.ofNat 39 = 39 from rfl] at l39k
            rw [hd, readP_true] at hrd
            by_cases c39 : (s[k] == (39 : UInt8)) = true
            · rw [c39] at l39k
              rw [if_pos c39] at hrd
              have Hrel := Lib.hid (show RrRel false s w (s.size - (k + 1)) (.slice p acc.length cap) (.int .i64 ((k : Int) + 1)) wr from ⟨k + 1, p, cap, acc, by omega, rfl, rfl, by omega, hrd, HS, HR⟩)
              have Hms := Lib.hid (show s.size - (k + 1) < f + 1 by omega)
              clear hrd hd HS HR c39 hak hg hgi hkg
              rw [← hal]
              rw [← hal] at Hrel
              clear hal
              go_wp2_with fail
              go_roundg (s.size - (k + 1))
              case measure => exact Hms.out
              case rel => exact Hrel.out
            · have e39 : (s[k] == (39 : UInt8)) = false := by simpa using c39
              rw [e39] at l39k
              rw [if_neg c39] at hrd
              have hnx := Lib.hid (fun p' cap' w' => rr_next (w := w) (c := ⟨s[k], true⟩) hal (show k + 1 ≤ s.size by omega) (Nat.le_refl _) hak hrd p' cap' w')
              have HSB : Sat (wr.alloc (.cells #[.int .u8 s[k].toNat, .bool true] 66 (0, 0))) (arr 66 2 p al2 cap (chCells acc) * keep w) := by rw [hal]; exact HS.old _
              have hsrc := Lib.hid (srcR1 (w := wr.alloc (.cells #[.int .u8 s[k].toNat, .bool true] 66 (0, 0))) (c := ⟨s[k], true⟩) (block_new rfl))
              have RB := Ran.new HR (.cells #[.int .u8 s[k].toNat, .bool true] 66 (0, 0))
              have Hms := Lib.hid (show s.size - (k + 1) < gk ∧ s.size - (k + 1) ≤ s.size - (i + 1) by omega)
              rw [← hal]
              clear hrd hd HS HR c39 e39 hak hg hgi hkg hal
              go_wp2_with (at_builtin; go_loud (refine appRC rfl _ _ rfl p al2 cap _ rfl _ rfl 1 _ hsrc.out HSB hlim2 ?_; intro p' cap' w6 T6 R6; clear HSB))
              have Hrel := Lib.hid (hnx.out p' cap' w6 T6 (Below.trans RB R6))
              clear T6 R6 hnx RB
              go_roundg (s.size - (k + 1))
              case measure => exact Hms.out.1
              case rel => exact ⟨Hms.out.2, Hrel.out⟩
          · have hkl : ¬ ((k : Int) < (s.size : Int)) := by omega
            have hke : k = s.size := by omega
            have hkeq : ((k : Int) == (s.size : Int)) = true := by rw [beq_iff_eq]; omega
            have hd : (bs s).drop k = [] := List.drop_eq_nil_of_le (by rw [bs_length]; omega)
            rw [hd] at hrd
            have hpost := Lib.hid (read_none (w := w) (w' := wr) (by rw [hrd]; rfl) (HR.whole HS))
            clear hrd hd HS HR hak hg hgi hkg hal
            go_wp2_with fail
            go_ret2
            exact hpost.out
      · have e39 : (s[i] == (39 : UInt8)) = false := by simpa using c39
        rw [e39] at l39
        by_cases c92 : s[i] = 92
        · have e92 : (s[i] == (92 : UInt8)) = true := by rw [c92]; rfl
          rw [e92] at l92
          by_cases h1 : i + 1 < s.size
          · have h1l : (i : Int) + 1 < (s.size : Int) := by omega
            have h1n : ((i : Int) + 1 == (s.size : Int)) = false := by rw [beq_eq_false_iff_ne]; omega
            have h10 : (0 : Int) ≤ (i : Int) + 1 := by omega
            have h1t : ((i : Int) + 1).toNat = i + 1 := by omega
            have hd1 := bs_drop s (i + 1) h1
            rw [hd, c92, hd1, readP_slash] at hrd
            have l10 := u8_lit s[i + 1] 10 (by omega)
            rw [show ((10 : Nat) : Int) = 10 from rfl, show UInt8.ofNat 10 = 10 from rfl] at l10
            have Hms := Lib.hid (show s.size - (i + 2) < f + 1 by omega)
            by_cases c10 : (s[i + 1] == (10 : UInt8)) = true
            · rw [c10] at l10
              rw [if_pos c10] at hrd
              have Hrel := Lib.hid (show RrRel false s w (s.size - (i + 2)) (.slice p acc.length cap) (.int .i64 ((i : Int) + 1 + 1)) wr from ⟨i + 2, p, cap, acc, by omega, by rw [show (i : Int) + 1 + 1 = ((i + 2 : Nat) : Int) by omega], rfl, by omega, hrd, HS, HR⟩)
              rw [← hal]
              rw [← hal] at Hrel
              clear hrd hd hd1 HS HR c39 e39 c92 e92 c10 hai hg hal
              go_wp2_with fail
              go_roundg (s.size - (i + 2))
              case measure => exact Hms.out
              case rel => exact Hrel.out
            · have e10 : (s[i + 1] == (10 : UInt8)) = false := by simpa using c10
              rw [e10] at l10
              rw [if_neg c10] at hrd
              have hnx := Lib.hid (fun p' cap' w' => rr_next (w := w) (c := ⟨s[i + 1], true⟩) hal (show i + 2 ≤ s.size by omega) (Nat.le_succ _) hai hrd p' cap' w')
              have HSB : Sat (wr.alloc (.cells #[.int .u8 s[i + 1].toNat, .bool true] 66 (0, 0))) (arr 66 2 p al cap (chCells acc) * keep w) := by rw [hal]; exact HS.old _
              have hsrc := Lib.hid (srcR1 (w := wr.alloc (.cells #[.int .u8 s[i + 1].toNat, .bool true] 66 (0, 0))) (c := ⟨s[i + 1], true⟩) (block_new rfl))
              have RB := Ran.new HR (.cells #[.int .u8 s[i + 1].toNat, .bool true] 66 (0, 0))
              have hii : (i : Int) + 1 + 1 = ((i + 2 : Nat) : Int) := by omega
              rw [← hal]
              clear hrd hd hd1 HS HR c39 e39 c92 e92 c10 e10 hai hg hal
              go_wp2_with (at_builtin; go_loud (refine appRC rfl _ _ rfl p al cap _ rfl _ rfl 1 _ hsrc.out HSB hlim ?_; intro p' cap' w6 T6 R6; clear HSB))
              have Hrel := Lib.hid (hnx.out p' cap' w6 T6 (Below.trans RB R6))
              clear T6 R6 hnx RB
              go_roundg (s.size - (i + 2))
              case measure => exact Hms.out
              case rel => exact Hrel.out
          · have h1l : ¬ ((i : Int) + 1 < (s.size : Int)) := by omega
            have h1e : ((i : Int) + 1 == (s.size : Int)) = true := by rw [beq_iff_eq]; omega
            have hd1 : (bs s).drop (i + 1) = [] := List.drop_eq_nil_of_le (by rw [bs_length]; omega)
            rw [hd, c92, hd1, readP_slash1] at hrd
            have hpost := Lib.hid (read_none (w := w) (w' := wr) (by rw [hrd]; rfl) (HR.whole HS))
            clear hrd hd hd1 HS HR c39 e39 c92 e92 hai hg hal
            go_wp2_with fail
            go_ret2
            exact hpost.out
        · have e92 : (s[i] == (92 : UInt8)) = false := by simpa using c92
          rw [e92] at l92
          rw [hd, readP_other _ _ e39 e92] at hrd
          have hnx := Lib.hid (fun p' cap' w' => rr_next (w := w) (c := ⟨s[i], false⟩) hal (show i + 1 ≤ s.size by omega) (Nat.le_refl _) hai hrd p' cap' w')
          have HSB : Sat (wr.alloc (.cells #[.int .u8 s[i].toNat, .bool false] 66 (0, 0))) (arr 66 2 p al cap (chCells acc) * keep w) := by rw [hal]; exact HS.old _
          have hsrc := Lib.hid (srcR1 (w := wr.alloc (.cells #[.int .u8 s[i].toNat, .bool false] 66 (0, 0))) (c := ⟨s[i], false⟩) (block_new rfl))
          have RB := Ran.new HR (.cells #[.int .u8 s[i].toNat, .bool false] 66 (0, 0))
          have Hms := Lib.hid (show s.size - (i + 1) < f + 1 by omega)
          rw [← hal]
          clear hrd hd HS HR c39 e39 c92 e92 hai hg hal
          go_wp2_with (at_builtin; go_loud (refine appRC rfl _ _ rfl p al cap _ rfl _ rfl 1 _ hsrc.out HSB hlim ?_; intro p' cap' w6 T6 R6; clear HSB))
          have Hrel := Lib.hid (hnx.out p' cap' w6 T6 (Below.trans RB R6))
          clear T6 R6 hnx RB
          go_roundg (s.size - (i + 1))
          case measure => exact Hms.out
          case rel => exact Hrel.out
    · have hil : ¬ ((i : Int) < (s.size : Int)) := by omega
      have hd : (bs s).drop i = [] := List.drop_eq_nil_of_le (by rw [bs_length]; omega)
      have hpost : ReadPost s w (.returned (.tuple #[.slice p acc.length cap, .int .i64 0])) wr := by
        have e : readP false (bs s) = some acc := by rw [hrd, hd]; simp [readP]
        refine ⟨p, cap, by rw [e]; rfl, ?_, HR.whole HS⟩
        rw [e]
        exact charsAt_arrR HS
      have Hpost := Lib.hid hpost
      clear hrd hd HS HR hai hg hpost hi
      rw [← hal]
      rw [← hal] at Hpost
      clear hal
      go_wp2_with fail
      go_ret2
      exact Hpost.out
end Go.Proofs.YtlpfcnpdecoblaaDoor.Marks
