/- The document's answer in memory: New, note, Get, without walked. -/
import Derived.Test.YtibgpkcklneloaaUnW
namespace Go.Proofs.Ytibgpkcklneloaa.Undo
open Go.RowKit Go.Proofs.Ytibgpkcklneloaa Go.Proofs.Ytibgpkcklneloaa.Hp
set_option linter.unusedVariables false
attribute [local go_sem] Oper.semAt_some

abbrev allO (most nest : Int) (lp : Option Addr) (ln lc : Nat) (c : ByteArray) (wp : Option Addr) (wn wc : Nat) (nt : Nat) (hp : Option Addr) (hn hc : Nat) : Obj := .cells #[.int .i64 most, .int .i64 nest, .slice lp ln lc, .string c, .slice wp wn wc, .int .i64 (nt : Int), .slice hp hn hc] 54 (0, 0)
theorem all_cells {w : World} {ab : Nat} {most nest : Int} {lp wp hp : Option Addr} {ln lc wn wc nt hn hc : Nat} {c : ByteArray} {S : Hp} (h : Sat w (pts ab (allO most nest lp ln lc c wp wn wc nt hp hn hc) * S)) :
    w.cell? ⟨ab, 0, none⟩ = some (.int .i64 most) ∧ w.cell? ⟨ab, 1, none⟩ = some (.int .i64 nest) ∧ w.cell? ⟨ab, 2, none⟩ = some (.slice lp ln lc) ∧ w.cell? ⟨ab, 3, none⟩ = some (.string c) ∧ w.cell? ⟨ab, 4, none⟩ = some (.slice wp wn wc) ∧ w.cell? ⟨ab, 5, none⟩ = some (.int .i64 (nt : Int)) ∧ w.cell? ⟨ab, 6, none⟩ = some (.slice hp hn hc) ∧ ∀ i, w.frozen? ⟨ab, i, none⟩ = false :=
  ⟨by rw [cell_at h.get]; rfl, by rw [cell_at h.get]; rfl, by rw [cell_at h.get]; rfl, by rw [cell_at h.get]; rfl, by rw [cell_at h.get]; rfl, by rw [cell_at h.get]; rfl, by rw [cell_at h.get]; rfl, fun i => free_at h.get i⟩
/-- Arguments that New does not take. -/
def BadN (most nest : Int) : Prop := most < 0 ∨ 1048576 < most ∨ nest < 1 ∨ 1024 < nest
set_option maxHeartbeats 1000000 in
theorem rnew_calls (most nest : Int) (h1 : 0 ≤ most) (h2 : most ≤ 1048576) (h3 : 1 ≤ nest) (h4 : nest ≤ 1024) (w : World) (R : Hp) (h : Sat w R) :
    Calls Try.prog 16 #[.int .i64 most, .int .i64 nest] w fun e w' => ∃ ab, e = .returned (.tuple #[.pointer (some ⟨ab, 0, none⟩), .int .i64 0]) ∧ Sat w' (pts ab (allO most nest none 0 0 ⟨#[]⟩ none 0 0 0 none 0 0) * R) ∧ Ran w w' := by
  have H := h.alloc (allO most nest none 0 0 ⟨#[]⟩ none 0 0 0 none 0 0)
  go_enter Try.func16, Try.ntmps16
  go_wp2_with fail
  go_ret2
  exact ⟨_, rfl, H, Ran.new (Below.refl _ _) _⟩
set_option maxHeartbeats 1000000 in
theorem rnew_bad (most nest : Int) (hb : BadN most nest) (w : World) :
    Calls Try.prog 16 #[.int .i64 most, .int .i64 nest] w fun e w' => e = .returned (.tuple #[.pointer none, .int .i64 1]) ∧ w = w' := by
  by_cases a0 : most < 0
  · go_enter Try.func16, Try.ntmps16
    go_wp2_with fail
    go_ret2
    exact ⟨rfl, rfl⟩
  · have a0' : 0 ≤ most := by omega
    by_cases a1 : 1048576 < most
    · go_enter Try.func16, Try.ntmps16
      go_wp2_with fail
      go_ret2
      exact ⟨rfl, rfl⟩
    · have a1' : most ≤ 1048576 := by omega
      by_cases a2 : nest < 1
      · go_enter Try.func16, Try.ntmps16
        go_wp2_with fail
        go_ret2
        exact ⟨rfl, rfl⟩
      · have a2' : 1 ≤ nest := by omega
        have a3 : 1024 < nest := by unfold BadN at hb; omega
        go_enter Try.func16, Try.ntmps16
        go_wp2_with fail
        go_ret2
        exact ⟨rfl, rfl⟩
set_option maxHeartbeats 1000000 in
theorem new_bad (most nest : Int) (hb : BadN most nest) (w : World) :
    Calls Try.prog 9 #[.int .i64 most, .int .i64 nest] w fun e w' => e = .returned (.tuple #[.pointer none, .int .i64 1]) ∧ w = w' := by
  by_cases a0 : most < 0
  · go_enter Try.func9, Try.ntmps9
    go_wp2_with fail
    go_ret2
    exact ⟨rfl, rfl⟩
  · have a0' : 0 ≤ most := by omega
    by_cases a1 : 1048576 < most
    · go_enter Try.func9, Try.ntmps9
      go_wp2_with fail
      go_ret2
      exact ⟨rfl, rfl⟩
    · have a1' : most ≤ 1048576 := by omega
      by_cases a2 : nest < 1
      · go_enter Try.func9, Try.ntmps9
        go_wp2_with fail
        go_ret2
        exact ⟨rfl, rfl⟩
      · have a2' : 1 ≤ nest := by omega
        have a3 : 1024 < nest := by unfold BadN at hb; omega
        go_enter Try.func9, Try.ntmps9
        go_wp2_with fail
        go_ret2
        exact ⟨rfl, rfl⟩
/-- What note answers, and how many notes there are then. -/
def rE (most : Int) (wn nt : Nat) : Int := if wn = 0 then 0 else if (nt : Int) < most then 0 else 43
def rN (most : Int) (wn nt : Nat) : Nat := if wn = 0 then nt else if (nt : Int) < most then nt + 1 else nt
set_option maxRecDepth 100000 in
set_option maxHeartbeats 1000000 in
theorem rnote_calls (ab : Nat) (most nest : Int) (lp wp hp : Option Addr) (ln lc wn wc nt hn hc : Nat) (c : ByteArray) (w : World) (S : Hp) (hnt : nt ≤ 1000000000) (hwn : wn ≤ 1000000) (h : Sat w (pts ab (allO most nest lp ln lc c wp wn wc nt hp hn hc) * S)) :
    Calls Try.prog 52 #[.pointer (some ⟨ab, 0, none⟩)] w fun e w' => (e = .returned (.int .i64 (rE most wn nt)) ∧ Sat w' (pts ab (allO most nest lp ln lc c wp wn wc (rN most wn nt) hp hn hc) * S)) ∧ Ran w w' := by
  obtain ⟨a0, a1, a2, a3, a4, a5, a6, az⟩ := all_cells h
  have H := Lib.hid h
  clear h
  have hnt0 : (0 : Int) ≤ nt := by omega
  have hnt2 : (nt : Int) ≤ 1000000000 := by omega
  by_cases c0 : wn = 0
  · have hE : rE most wn nt = 0 := by unfold rE; rw [if_pos c0]
    have hN : rN most wn nt = nt := by unfold rN; rw [if_pos c0]
    rw [hE, hN]
    have hb : ((wn : Int) == 0) = true := by rw [c0]; rfl
    clear hE hN c0
    go_enter Try.func52, Try.ntmps52
    go_wp2_with fail
    go_ret
    exact ⟨⟨rfl, H.out⟩, Below.refl 0 w⟩
  · have hb : ((wn : Int) == 0) = false := by rw [beq_eq_false_iff_ne]; omega
    by_cases d : (nt : Int) < most
    · have hE : rE most wn nt = 0 := by unfold rE; rw [if_neg c0, if_pos d]
      have hN : rN most wn nt = nt + 1 := by unfold rN; rw [if_neg c0, if_pos d]
      rw [hE, hN]
      clear hE hN c0
      have hq : ¬ (most ≤ (nt : Int)) := by omega
      go_enter Try.func52, Try.ntmps52
      go_wp2_with fail
      go_quiet (fail)
      go_wp2_with fail
      go_ret
      refine ⟨⟨rfl, ?_⟩, Ran.set (Ran.drewN (Below.refl 0 w) _) _ _⟩
      exact (H.out.drewN _).set (i := 5) (.int .i64 ((nt + 1 : Nat) : Int))
    · have hE : rE most wn nt = 43 := by unfold rE; rw [if_neg c0, if_neg d]
      have hN : rN most wn nt = nt := by unfold rN; rw [if_neg c0, if_neg d]
      rw [hE, hN]
      clear hE hN c0
      have hq : most ≤ (nt : Int) := by omega
      go_enter Try.func52, Try.ntmps52
      go_wp2_with fail
      go_quiet (fail)
      go_wp2_with fail
      go_ret
      exact ⟨⟨rfl, H.out.drewN _⟩, Ran.drewN (Below.refl 0 w) _⟩
set_option maxRecDepth 100000 in
set_option maxHeartbeats 1000000 in
theorem rget_calls (ab : Nat) (lp : Option Addr) (lc : Nat) (L : List Pr) (M : ByteArray → Option Int) (k : ByteArray) (w : World) (hn : L.length ≤ 1000000) (hL : PairsOf M L) (hk : k.size ≤ maxLen) (a2 : w.cell? ⟨ab, 2, none⟩ = some (.slice lp L.length lc)) (hp : PrAt w lp L) :
    Calls Try.prog 23 #[.pointer (some ⟨ab, 0, none⟩), .string k] w fun e w' => e = .returned (.tuple #[.int .i64 ((M k).getD 0), .bool (M k).isSome]) ∧ w = w' := by
  have hnn : (L.length : Int) ≤ 1000000 := by omega
  have Hp := Lib.hid hp
  clear hp
  cases hM : M k with
  | none =>
    have hno := Lib.hid (look_none hL hM)
    clear hL hM
    go_enter Try.func23, Try.ntmps23
    go_wp2_with fail
    go_loopg [6] (L.length) (fun k iv wr => ∃ i : Nat, i + k = L.length ∧ iv = .int .i64 (i : Int) ∧ wr = w)
    case atStart => exact ⟨0, by omega, rfl, rfl⟩
    case round =>
      obtain ⟨i, hik, rfl, rfl⟩ := hrel
      have hi0 : (0 : Int) ≤ i := by omega
      by_cases hi : i < L.length
      · obtain ⟨b, o, rfl, p0, p1⟩ := Hp.out i hi
        have hne := toList_ne (hno.out L[i] (List.getElem_mem hi))
        have hlt : (i : Int) < L.length := by omega
        generalize L[i].1 = x at *
        have Hik := Lib.hid hik
        clear hik p1
        go_wp2_with fail
        go_roundg (gk - 1)
        case measure => have := Hik.out; omega
        case rel => exact ⟨i + 1, by have := Hik.out; omega, rfl, rfl⟩
      · have hge : ¬ ((i : Int) < L.length) := by omega
        clear hik
        go_wp2_with fail
        go_ret2
        exact ⟨rfl, rfl⟩
  | some v =>
    obtain ⟨j, hj, hjk, hjv, hot⟩ := look_some hL hM
    have Hot := Lib.hid hot
    clear hL hM hot
    go_enter Try.func23, Try.ntmps23
    go_wp2_with fail
    go_loopg [6] (j + 1) (fun k iv wr => ∃ i : Nat, i + k = j + 1 ∧ 0 < k ∧ iv = .int .i64 (i : Int) ∧ wr = w)
    case atStart => exact ⟨0, by omega, by omega, rfl, rfl⟩
    case round =>
      obtain ⟨i, hik, hk0, rfl, rfl⟩ := hrel
      have hi : i < L.length := by omega
      have hlt : (i : Int) < L.length := by omega
      have hi0 : (0 : Int) ≤ i := by omega
      obtain ⟨b, o, rfl, p0, p1⟩ := Hp.out i hi
      by_cases hij : i = j
      · subst hij
        have heq : (L[i].1.toList == k.toList) = true := (toList_eq_iff _ _).2 hjk
        rw [hjk] at p0
        rw [hjv] at p1
        clear hjk hjv heq hik
        go_wp2_with fail
        go_ret2
        exact ⟨rfl, rfl⟩
      · have hne := toList_ne (Hot.out i hi hij)
        clear hjk hjv
        generalize L[i].1 = x at *
        have Hik := Lib.hid hik
        clear hik p1
        go_wp2_with fail
        go_roundg (gk - 1)
        case measure => omega
        case rel => exact ⟨i + 1, by have := Hik.out; omega, by have := Hik.out; omega, rfl, rfl⟩
theorem appPr {w : World} {H : Hp} {ops : Array Oper} {rest : List Oper} {o : Oper} {a : Act} {Q : Exit → Act → World → Prop} (hgd : o.guard = none) (s x : Operand)
    (ho : o.op = .call { callee := .builtin .append, args := #[s, x], argTypes := #[49, 49] })
    (p : Option Addr) (n cap : Nat) (xs : List Value) (hp : a.eval s = .slice p n cap) (b : Nat) (hvx : a.eval x = .slice (some ⟨b, 0, none⟩) 1 1) (h : Sat w (arr 84 2 p n cap xs * H)) (v0 v1 : Value) (hb : w.heap[b]? = some (.cells #[v0, v1] 84 (0, 0))) (h0 : v0.oneCell' = true) (h1 : v1.oneCell' = true) (hn : n ≤ 1000000000)
    (hk : ∀ p' cap' w', Sat w' (arr 84 2 p' (n + 1) cap' (xs ++ [v0, v1]) * H) → Ran w w' → wpList Try.prog ops Q rest (a.put o.dst (.slice p' (n + 1) cap')) w') : wpList Try.prog ops Q (o :: rest) a w := by
  obtain ⟨i0, hi, hz0, hz1, hz2⟩ := info_parts infoPr
  refine wpList_append_arr hgd s x _ _ ho 84 i0 _ 2 24 Try.underlying49 hi hz0 hz1 hz2 rfl p n cap xs hp h _ hvx 1 [v0, v1] (Src.ofSlice w Try.underlying49 ⟨b, 0, none⟩ 1 1 [v0, v1] (by rw [hz1]; rfl) ?_ (by simp [h0, h1])) (by omega) (by unfold maxLen; omega) (fun p' cap' w' h1 h2 _ => hk p' cap' w' h1 h2)
  intro j u hj
  rw [Addr.add_lit, Nat.zero_add, cell_at hb, ← hj]
  simp
def RwSays (k : ByteArray) (L : List Pr) (S : Hp) (e : Ending) (w' : World) : Prop := ∃ p' cap', e = .returned (.slice p' (without k L).length cap') ∧ Sat w' (prArr p' cap' (without k L) * S)
def WoRel (k : ByteArray) (L : List Pr) (S : Hp) (w : World) (g : Nat) (ov iv : Value) (wr : World) : Prop :=
  ∃ (i : Nat) (p' : Option Addr) (cap' : Nat), i + g = L.length ∧ iv = .int .i64 (i : Int) ∧ ov = .slice p' (without k (L.take i)).length cap' ∧ Sat wr (prArr p' cap' (without k (L.take i)) * S) ∧ Ran w wr
set_option maxRecDepth 100000 in
set_option maxHeartbeats 2000000 in
theorem rwithout_calls (ab : Nat) (lp : Option Addr) (lc : Nat) (L : List Pr) (k : ByteArray) (w : World) (S : Hp) (hn : L.length ≤ 1000000) (hrd : ∀ W S', Sat W (S * S') → W.cell? ⟨ab, 2, none⟩ = some (.slice lp L.length lc) ∧ PrAt W lp L) (h : Sat w S) :
    Calls Try.prog 53 #[.pointer (some ⟨ab, 0, none⟩), .string k] w fun e w' => RwSays k L S e w' ∧ Ran w w' := by
  have hnn : (L.length : Int) ≤ 1000000 := by omega
  have Hrd := Lib.hid hrd
  have H := Lib.hid h
  clear hrd h
  go_enter Try.func53, Try.ntmps53
  go_wp2_with fail
  go_loopg [5, 6] (L.length) (WoRel k L S w)
  case atStart => exact ⟨0, none, 0, by omega, rfl, rfl, by show Sat w (arr 84 2 none 0 0 [] * S); exact H.out.nil_arr _ _, Below.refl 0 w⟩
  case round =>
    obtain ⟨i, p', cap', hik, rfl, rfl, HS, HR⟩ := hrel
    have hi0 : (0 : Int) ≤ i := by omega
    obtain ⟨a2, hp⟩ := Hrd.out wr (prArr p' cap' (without k (L.take i))) (HS.perm (by ac_rfl))
    by_cases hi : i < L.length
    · obtain ⟨b, o, rfl, p0, p1⟩ := hp i hi
      have hlt : (i : Int) < L.length := by omega
      have htk : L.take (i + 1) = L.take i ++ [L[i]] := List.take_succ_eq_append_getElem hi
      have hsn := without_snoc k (L.take i) L[i]
      rw [← htk] at hsn
      have hln := without_len k (L.take i)
      rw [List.length_take] at hln
      have hln2 : (without k (L.take i)).length ≤ 1000000000 := by omega
      obtain ⟨nl, hnl⟩ : ∃ n, n = (without k (L.take i)).length := ⟨_, rfl⟩
      by_cases heq : (L[i].1.toList == k.toList) = true
      · rw [if_pos heq, List.append_nil] at hsn
        have Hrel := Lib.hid (show WoRel k L S w (gk - 1) (.slice p' (without k (L.take i)).length cap') (.int .i64 ((i : Int) + 1)) wr from ⟨i + 1, p', cap', by omega, rfl, by rw [hsn], by rw [hsn]; exact HS, HR⟩)
        rw [(toList_eq_iff _ _).1 heq] at p0
        have Hik := Lib.hid hik
        clear hik p1 hsn htk hln hln2 hp HS heq
        rw [← hnl]
        rw [← hnl] at Hrel
        clear hnl
        go_wp2_with fail
        go_roundg (gk - 1)
        case measure => have := Hik.out; omega
        case rel => exact Hrel.out
      · have hne : (L[i].1.toList == k.toList) = false := by simpa using heq
        rw [if_neg heq] at hsn
        rw [← hnl] at hln2
        have HSB := (HS.old (.cells #[.string L[i].1, .int .i64 L[i].2] 84 (0, 0)))
        have RB := Ran.new HR (.cells #[.string L[i].1, .int .i64 L[i].2] 84 (0, 0))
        unfold prArr at HSB
        rw [← hnl] at HSB
        have Hsn := Lib.hid hsn
        have Hnl := Lib.hid hnl
        have Hik := Lib.hid hik
        rw [← hnl]
        obtain ⟨x, hx⟩ : ∃ x, x = L[i].1 := ⟨_, rfl⟩
        obtain ⟨v, hv⟩ : ∃ x, x = L[i].2 := ⟨_, rfl⟩
        have Hxv := Lib.hid (show L[i] = (x, v) by rw [hx, hv])
        rw [← hx] at p0 hne HSB RB
        rw [← hv] at p1 HSB RB
        clear hik hsn htk hln hp HS heq hnl hx hv
        go_wp2_with (at_builtin; go_loud (refine appPr rfl _ _ rfl p' nl cap' _ rfl _ rfl HSB _ _ (blk_new rfl) rfl rfl hln2 ?_; intro p2 cap2 w6 HS7 HR7; clear HSB p0 p1 a2))
        have Hrel := Lib.hid (show WoRel k L S w (gk - 1) (.slice p2 (nl + 1) cap2) (.int .i64 ((i : Int) + 1)) w6 from by
          have hl2 : (without k (L.take (i + 1))).length = nl + 1 := by rw [Hsn.out, List.length_append, Hnl.out]; rfl
          refine ⟨i + 1, p2, cap2, by have := Hik.out; omega, rfl, by rw [hl2], ?_, Below.trans RB HR7⟩
          unfold prArr
          rw [hl2, Hsn.out, prCells_append, Hxv.out]
          exact HS7)
        clear HS7 HR7 RB
        go_roundg (gk - 1)
        case measure => have := Hik.out; omega
        case rel => exact Hrel.out
    · have hge : ¬ ((i : Int) < L.length) := by omega
      have hiL : i = L.length := by omega
      have htl : L.take i = L := by rw [hiL]; exact List.take_length
      rw [htl] at HS
      rw [htl]
      have HS0 := Lib.hid HS
      clear hik HS hiL htl hp hi
      go_wp2_with fail
      go_ret
      exact ⟨⟨p', cap', rfl, HS0.out⟩, HR⟩
end Go.Proofs.Ytibgpkcklneloaa.Undo
