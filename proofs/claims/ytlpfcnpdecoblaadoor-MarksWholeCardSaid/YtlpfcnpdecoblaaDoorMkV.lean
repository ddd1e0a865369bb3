/- The document's Of, Join walked. -/
import Derived.Test.YtlpfcnpdecoblaaDoorMkR
namespace Go.Proofs.YtlpfcnpdecoblaaDoor.Marks
open Go.RowKit Go.Proofs.YtlpfcnpdecoblaaDoor Go.Proofs.YtlpfcnpdecoblaaDoor.Hp
set_option linter.unusedVariables false
attribute [local go_sem] Oper.semAt_some

theorem srcRCh {w : World} {ao : Option Addr} {cap : Nat} {t : List Ch} (h : CharsAt w ao cap t) : Src Tryd.prog 2 27 (.slice ao t.length cap) t.length (chCells t) w := by
  cases ao with
  | none =>
    have h0 : t = [] := by
      cases t with
      | nil => rfl
      | cons c t => obtain ⟨b, o, e, _⟩ := h.2.2 0 (by simp); cases e
    subst h0
    exact Src.ofNil w Tryd.underlying27 cap
  | some a =>
    refine Src.ofSlice w Tryd.underlying27 a t.length cap (chCells t) (chCells_length t) (fun j u hj => ?_) (fun u hu => ?_)
    · have hl := chCells_length t
      have hj2 : j < t.length * 2 := by rw [← hl]; exact (List.getElem?_eq_some_iff.1 hj).1
      obtain ⟨b, o, e, hb, c0, c1⟩ := h.2.2 (j / 2) (by omega)
      simp only [Option.some.injEq] at e
      subst e
      rw [Addr.add_lit]
      obtain ⟨g0, g1⟩ := chCells_get t (j / 2) (by omega)
      rcases Nat.mod_two_eq_zero_or_one j with m | m
      · have ej : j = j / 2 * 2 := by omega
        rw [ej] at hj
        rw [hj] at g0
        rw [ej, c0]; exact g0.symm
      · have ej : j = j / 2 * 2 + 1 := by omega
        rw [ej] at hj
        rw [hj] at g1
        rw [ej, ← Nat.add_assoc, c1]; exact g1.symm
    · unfold chCells at hu
      obtain ⟨c, _, hc⟩ := List.mem_flatMap.1 hu
      simp only [List.mem_cons, List.not_mem_nil, or_false] at hc
      rcases hc with rfl | rfl <;> rfl
theorem chCells_join (a b : List Ch) : chCells (a ++ b) = chCells a ++ chCells b := by unfold chCells; exact List.flatMap_append
def RoRel (s : ByteArray) (q : Bool) (w : World) (g : Nat) (ov iv : Value) (wr : World) : Prop :=
  ∃ (i : Nat) (p : Option Addr) (cap : Nat), i + g = s.size ∧ iv = .int .i64 (i : Int) ∧ ov = .slice p i cap ∧ Sat wr (arr 66 2 p i cap (chCells (markL ((bs s).take i) q)) * keep w) ∧ Ran w wr
set_option maxRecDepth 100000 in
set_option maxHeartbeats 4000000 in
theorem rof_calls (s : ByteArray) (q : Bool) (w : World) (hm : s.size ≤ 100000) :
    Calls Tryd.prog 30 #[.string s, .bool q] w (CharsPost (markL (bs s) q) w) := by
  have hmm : (s.size : Int) ≤ 100000 := by omega
  have Hm := Lib.hid hm
  clear hm
  go_enter Tryd.func30, Tryd.ntmps30
  go_wp2_with fail
  go_loopg [5, 6] (s.size) (fun (g : Nat) (ov iv : Value) (wr : World) => RoRel s q w g ov iv wr)
  case atStart => exact ⟨0, none, 0, by omega, rfl, rfl, by show Sat w (arr 66 2 none 0 0 [] * keep w); exact (Sat.start w).nil_arr _ _, Below.refl 0 w⟩
  case round =>
    obtain ⟨i, p, cap, hig, rfl, rfl, HS, HR⟩ := hrel
    have hi0 : (0 : Int) ≤ i := by omega
    have hm := Hm.out
    have hlim : i + 1 ≤ 1000000000 := by omega
    by_cases hi : i < s.size
    · have hil : (i : Int) < (s.size : Int) := by omega
      have htk : markL ((bs s).take (i + 1)) q = markL ((bs s).take i) q ++ [⟨s[i], q⟩] := by
        unfold markL
        rw [List.take_succ_eq_append_getElem (by rw [bs_length]; exact hi), List.map_append]
        rfl
      have hcl : chCells (markL ((bs s).take (i + 1)) q) = chCells (markL ((bs s).take i) q) ++ [.int .u8 s[i].toNat, .bool q] := by rw [htk, chCells_snoc]
      have Hcl := Lib.hid hcl
      have Hig := Lib.hid hig
      obtain ⟨xs, hxs⟩ : ∃ xs, xs = chCells (markL ((bs s).take i) q) := ⟨_, rfl⟩
      rw [← hxs] at Hcl HS
      have HSB : Sat (wr.alloc (.cells #[.int .u8 s[i].toNat, .bool q] 66 (0, 0))) (arr 66 2 p i cap xs * keep w) := HS.old _
      have hsrc := Lib.hid (srcR1 (w := wr.alloc (.cells #[.int .u8 s[i].toNat, .bool q] 66 (0, 0))) (c := ⟨s[i], q⟩) (block_new rfl))
      have RB := Ran.new HR (.cells #[.int .u8 s[i].toNat, .bool q] 66 (0, 0))
      clear hig htk hcl hxs HS HR
      go_wp2_with (at_builtin; go_loud (refine appRC rfl _ _ rfl p i cap _ rfl _ rfl 1 _ hsrc.out HSB hlim ?_; intro p' cap' w6 T6 R6; clear HSB))
      have Hrel := Lib.hid (show RoRel s q w (gk - 1) (.slice p' (i + 1) cap') (.int .i64 ((i : Int) + 1)) w6 from ⟨i + 1, p', cap', by have := Hig.out; omega, rfl, rfl, by rw [Hcl.out]; exact T6, Below.trans RB R6⟩)
      clear T6 R6 RB
      go_roundg (gk - 1)
      case measure => have := Hig.out; omega
      case rel => exact Hrel.out
    · have hge : ¬ ((i : Int) < (s.size : Int)) := by omega
      have hie : i = s.size := by omega
      subst hie
      have hta : (bs s).take s.size = bs s := List.take_of_length_le (by rw [bs_length]; exact Nat.le_refl _)
      rw [hta] at HS
      have hml : (markL (bs s) q).length = s.size := by unfold markL; rw [List.length_map, bs_length]
      rw [← hml] at HS
      have hpost := Lib.hid (And.intro (rc_at HS) (HR.whole HS))
      have Hml := Lib.hid hml
      clear hta hml HS HR hi hig
      go_wp2_with fail
      go_ret
      exact ⟨p, cap, by rw [Hml.out]; rfl, hpost.out.1, hpost.out.2⟩
def RjRel (rs : List Rw) (w : World) (g : Nat) (ov iv : Value) (wr : World) : Prop :=
  ∃ (i : Nat) (p : Option Addr) (cap : Nat), i + g = rs.length ∧ iv = .int .i64 (i : Int) ∧ ov = .slice p (joinL (rs.take i)).length cap ∧ Sat wr (rcA p cap (joinL (rs.take i)) * keep w) ∧ Ran w wr
set_option maxRecDepth 100000 in
set_option maxHeartbeats 4000000 in
theorem rjoin_calls (rs : List Rw) (lo : Option Addr) (lc : Nat) (w : World) (h : RowsAt w lo rs) (hn : rs.length ≤ 100000) (hs : sumL rs ≤ 1000000) :
    Calls Tryd.prog 34 #[.slice lo rs.length lc] w (CharsPost (joinL rs) w) := by
  have hnn : (rs.length : Int) ≤ 100000 := by omega
  have H := Lib.hid h
  have Hs := Lib.hid hs
  clear h hs
  go_enter Tryd.func34, Tryd.ntmps34
  go_wp2_with fail
  go_loopg [3, 4] (rs.length) (fun (g : Nat) (ov iv : Value) (wr : World) => RjRel rs w g ov iv wr)
  case atStart => exact ⟨0, none, 0, by omega, rfl, rfl, by show Sat w (arr 66 2 none 0 0 [] * keep w); exact (Sat.start w).nil_arr _ _, Below.refl 0 w⟩
  case round =>
    obtain ⟨j, p, cap, hjg, rfl, rfl, HS, HR⟩ := hrel
    have hj0 : (0 : Int) ≤ j := by omega
    by_cases hj : j < rs.length
    · have hjl : (j : Int) < (rs.length : Int) := by omega
      obtain ⟨b, o, rfl, hc, hch⟩ := H.out.keep (kept_of HS) j hj
      have hjt := join_take rs j hj
      have hst := sum_take rs j hj
      have hsl := sum_le rs (j + 1)
      have hjlen := joinL_length (rs.take j)
      have hss := Hs.out
      obtain ⟨r, hr⟩ : ∃ r, r = rs[j] := ⟨_, rfl⟩
      rw [← hr] at hc hch hjt hst
      unfold rwV at hc
      have hsrc := Lib.hid (srcRCh hch)
      have hlim : (joinL (rs.take j)).length + r.L.length ≤ 1000000000 := by omega
      obtain ⟨nl, hnl⟩ : ∃ n, n = (joinL (rs.take j)).length := ⟨_, rfl⟩
      have HSB : Sat wr (arr 66 2 p nl cap (chCells (joinL (rs.take j))) * keep w) := by rw [hnl]; exact HS
      rw [← hnl] at hlim
      rw [← hnl]
      have Hnl := Lib.hid hnl
      have Hjt := Lib.hid hjt
      have Hjg := Lib.hid hjg
      clear hjt hst hsl hjlen hr hch hnl hjg HS hss
      go_wp2_with (at_builtin; go_loud (refine appRC rfl _ _ rfl p nl cap _ rfl _ rfl r.L.length _ hsrc.out HSB hlim ?_; intro p' cap' w6 T6 R6; clear HSB))
      have Hrel := Lib.hid (show RjRel rs w (gk - 1) (.slice p' (nl + r.L.length) cap') (.int .i64 ((j : Int) + 1)) w6 from by
        have e1 : (joinL (rs.take (j + 1))).length = nl + r.L.length := by rw [Hjt.out, List.length_append, Hnl.out]
        refine ⟨j + 1, p', cap', by have := Hjg.out; omega, rfl, by rw [e1], ?_, Below.trans HR R6⟩
        unfold rcA
        rw [e1, Hjt.out, chCells_join]
        exact T6)
      clear T6 R6
      go_roundg (gk - 1)
      case measure => have := Hjg.out; omega
      case rel => exact Hrel.out
    · have hge : ¬ ((j : Int) < (rs.length : Int)) := by omega
      have hta : rs.take j = rs := List.take_of_length_le (by omega)
      rw [hta] at HS
      rw [hta]
      have hpost := Lib.hid (And.intro (rc_at HS) (HR.whole HS))
      clear hta hjg hj HS HR
      go_wp2_with fail
      go_ret
      exact ⟨p, cap, rfl, hpost.out.1, hpost.out.2⟩
end Go.Proofs.YtlpfcnpdecoblaaDoor.Marks
