/- The document's answer as a machine's copies in memory; asked walked. -/
import Derived.Test.YtibgpkcklneloaaUnZ
namespace Go.Proofs.Ytibgpkcklneloaa.Undo
open Go.RowKit Go.Proofs.Ytibgpkcklneloaa Go.Proofs.Ytibgpkcklneloaa.Hp
set_option linter.unusedVariables false
attribute [local go_sem] Oper.semAt_some

structure RM where
  now : Cp
  was : List Cp
  wp : Option Addr
  wc : Nat
  hp : Option Addr
  hc : Nat
  piles : List Cp
def stC (x : Cp) : List Value := [.slice x.p x.L.length x.cap, .string x.c]
theorem stC_len (l : List Cp) : (l.flatMap stC).length = l.length * 2 := by
  induction l with
  | nil => rfl
  | cons c l ih => simp only [List.flatMap_cons, List.length_append, List.length_cons, ih, stC, List.length_nil]; omega
def pile (x : Cp) : Hp := prArr x.p x.cap x.L
def hadV (ms : List Nat) : List Value := ms.map fun m : Nat => Value.int .i64 (m : Int)
def RM.own (r : RM) (ms : List Nat) (R : Hp) : Hp := stA r.wp r.was.length r.wc (r.was.flatMap stC) * (inA r.hp ms.length r.hc (hadV ms) * (all pile r.piles * R))
def RM.box (r : RM) (ab : Nat) (most nest : Int) (m : Mach) : Hp := pts ab (allO most nest r.now.p r.now.L.length r.now.cap r.now.c r.wp r.was.length r.wc m.hist.length r.hp m.ms.length r.hc)
def RM.all (r : RM) (ab : Nat) (most nest : Int) (m : Mach) (R : Hp) : Hp := r.box ab most nest m * r.own m.ms R
def Piled (piles : List Cp) (x : Cp) : Prop := ∃ y ∈ piles, y.p = x.p ∧ y.cap = x.cap ∧ y.L = x.L
structure ROk (m : Mach) (r : RM) : Prop where
  sync : Sync m r.now r.was
  now : Piled r.piles r.now
  was : ∀ x ∈ r.was, Piled r.piles x
theorem Piled.more {piles : List Cp} {x y : Cp} (h : Piled piles x) : Piled (y :: piles) x := by
  obtain ⟨z, hz, h1⟩ := h
  exact ⟨z, List.mem_cons_of_mem _ hz, h1⟩
theorem Piled.reads {piles : List Cp} {x : Cp} (h : Piled piles x) {w : World} {S : Hp} (hs : Sat w (all pile piles * S)) : PrAt w x.p x.L := by
  obtain ⟨y, hy, h1, h2, h3⟩ := h
  obtain ⟨i, hi, rfl⟩ := List.mem_iff_getElem.1 hy
  rw [all_split pile piles i hi, sep_assoc] at hs
  rw [← h1, ← h3]
  exact prAt_arr hs
theorem ROk.reads {m : Mach} {r : RM} (h : ROk m r) (ms : List Nat) (R : Hp) (W : World) (S : Hp) (hs : Sat W (r.own ms R * S)) : PrAt W r.now.p r.now.L :=
  h.now.reads (hs.perm (show _ = Hp.all pile r.piles * (stA r.wp r.was.length r.wc (r.was.flatMap stC) * (inA r.hp ms.length r.hc (hadV ms) * (R * S))) by unfold RM.own; ac_rfl))
theorem rE_eq {most : Int} {m : Mach} {n : Nat} (h : n = m.ms.length) : rE most n m.hist.length = tE most m.hist m.ms := by
  subst h
  unfold rE tE
  by_cases c : m.ms = []
  · rw [if_pos c, if_pos (by rw [c]; rfl)]
  · rw [if_neg c, if_neg (fun e => c (List.eq_nil_of_length_eq_zero e))]
theorem rN_eq {most : Int} {m : Mach} {n : Nat} (h : n = m.ms.length) (s : St) : rN most n m.hist.length = (tH most m.hist m.ms s).length := by
  subst h
  unfold rN tH
  by_cases c : m.ms = []
  · rw [if_pos c, if_pos (by rw [c]; rfl)]
  · rw [if_neg c, if_neg (fun e => c (List.eq_nil_of_length_eq_zero e))]
    split
    · rw [List.length_append]; rfl
    · rfl
/-- What a call leaves. -/
def RLeaves (ab : Nat) (most nest : Int) (m : Mach) (R : Hp) (w' : World) : Prop := ∃ r, ROk m r ∧ Sat w' (RM.all r ab most nest m R)
theorem changed {ab : Nat} {most nest : Int} {m : Mach} {r : RM} {R : Hp} {L2 : List Pr} {s2 : St} {e : Ending} {w' : World} (hok : ROk m r) (hm : Marked m.hist.length m.ms.reverse) (hs : ∀ p cap, StR s2 ⟨p, cap, L2, r.now.c⟩)
    (h : RsSays ab most nest r.now.p r.now.cap r.now.L r.now.c r.wp r.was.length r.wc m.hist.length r.hp m.ms.length r.hc L2 (r.own m.ms R) e w') : e = .returned (.int .i64 (noted most m s2).1.2) ∧ RLeaves ab most nest (noted most m s2).2 R w' := by
  obtain ⟨he, h⟩ := h
  have hl := hok.sync.len
  have e1 := rE_eq (most := most) hl
  have e2 := rN_eq (most := most) hl m.s
  rw [e1] at he h
  refine ⟨he, ?_⟩
  rcases h with ⟨h0, p', cap', hS⟩ | ⟨h0, hS⟩
  · rw [e2] at hS
    refine ⟨⟨⟨p', cap', L2, r.now.c⟩, r.was, r.wp, r.wc, r.hp, r.hc, ⟨p', cap', L2, r.now.c⟩ :: r.piles⟩, ⟨?_, ⟨_, List.mem_cons_self .., rfl, rfl, rfl⟩, fun x hx => (hok.was x hx).more⟩, ?_⟩
    · have := hok.sync.noted (most := most) hm (hs p' cap')
      rw [if_pos h0] at this
      exact this
    · refine hS.perm ?_
      unfold RM.all RM.box RM.own noted
      show pts ab _ * (prArr p' cap' L2 * (_ * (_ * (Hp.all pile r.piles * R)))) = pts ab _ * (_ * (_ * ((prArr p' cap' L2 * Hp.all pile r.piles) * R)))
      ac_rfl
  · rw [e2] at hS
    refine ⟨r, ⟨?_, hok.now, hok.was⟩, ?_⟩
    · have := hok.sync.noted (most := most) hm (hs none 0)
      rw [if_neg h0] at this
      exact this
    · exact hS
theorem celled {ab : Nat} {most nest : Int} {m : Mach} {r : RM} {R : Hp} {v : ByteArray} {e : Ending} {w' : World} (hok : ROk m r) (hm : Marked m.hist.length m.ms.reverse)
    (h : RcSays ab most nest r.now.p r.wp r.hp r.now.L.length r.now.cap r.was.length r.wc m.hist.length m.ms.length r.hc r.now.c v (r.own m.ms R) e w') : e = .returned (.int .i64 (noted most m ⟨m.s.M, v⟩).1.2) ∧ RLeaves ab most nest (noted most m ⟨m.s.M, v⟩).2 R w' := by
  obtain ⟨he, hS⟩ := h
  have hl := hok.sync.len
  have e1 := rE_eq (most := most) hl
  have e2 := rN_eq (most := most) hl m.s
  rw [e1] at he hS
  rw [e2] at hS
  refine ⟨he, ⟨⟨if tE most m.hist m.ms = 0 then ⟨r.now.p, r.now.cap, r.now.L, v⟩ else r.now, r.was, r.wp, r.wc, r.hp, r.hc, r.piles⟩, ⟨hok.sync.noted (most := most) hm ⟨hok.sync.now.L, rfl⟩, ?_, hok.was⟩, ?_⟩⟩
  · show Piled r.piles (if tE most m.hist m.ms = 0 then ⟨r.now.p, r.now.cap, r.now.L, v⟩ else r.now)
    split
    · exact hok.now
    · exact hok.now
  · refine hS.perm ?_
    unfold RM.all RM.box noted
    dsimp only
    by_cases c : tE most m.hist m.ms = 0
    · simp only [if_pos c]; rfl
    · simp only [if_neg c]
theorem rset_m (ab : Nat) (most nest : Int) (m : Mach) (r : RM) (k : ByteArray) (v : Int) (w : World) (R : Hp) (hok : ROk m r) (hm : Marked m.hist.length m.ms.reverse) (hb : m.hist.length ≤ 1000000) (hms : m.ms.length ≤ 1000000) (hL : r.now.L.length ≤ 1000000) (hks : ∀ x ∈ r.now.L, x.1.size ≤ maxLen) (h : Sat w (r.all ab most nest m R)) :
    Calls Try.prog 42 #[.pointer (some ⟨ab, 0, none⟩), .string k, .int .i64 v] w fun e w' => (e = .returned (.int .i64 (noted most m ⟨putM m.s.M k v, m.s.c⟩).1.2) ∧ RLeaves ab most nest (noted most m ⟨putM m.s.M k v, m.s.c⟩).2 R w') ∧ Ran w w' :=
  (rset_calls ab most nest r.now.p r.wp r.hp r.now.cap r.was.length r.wc m.hist.length m.ms.length r.hc r.now.L r.now.c k v w (r.own m.ms R) (by omega) (by rw [hok.sync.len]; exact hms) hL hks (hok.reads m.ms R) h).mono
    fun e w' h2 => ⟨changed hok hm (fun p cap => ⟨ins_pairs hok.sync.now.L k v, hok.sync.now.c⟩) h2.1, h2.2⟩
theorem rdel_m (ab : Nat) (most nest : Int) (m : Mach) (r : RM) (k : ByteArray) (w : World) (R : Hp) (hok : ROk m r) (hm : Marked m.hist.length m.ms.reverse) (hb : m.hist.length ≤ 1000000) (hms : m.ms.length ≤ 1000000) (hL : r.now.L.length ≤ 1000000) (hk : k.size ≤ maxLen) (hsome : (m.s.M k).isSome = true) (h : Sat w (r.all ab most nest m R)) :
    Calls Try.prog 40 #[.pointer (some ⟨ab, 0, none⟩), .string k] w fun e w' => (e = .returned (.int .i64 (noted most m ⟨delM m.s.M k, m.s.c⟩).1.2) ∧ RLeaves ab most nest (noted most m ⟨delM m.s.M k, m.s.c⟩).2 R w') ∧ Ran w w' :=
  (rdel_calls ab most nest r.now.p r.wp r.hp r.now.cap r.was.length r.wc m.hist.length m.ms.length r.hc r.now.L m.s.M r.now.c k w (r.own m.ms R) (by omega) (by rw [hok.sync.len]; exact hms) hL hok.sync.now.L hk hsome (hok.reads m.ms R) h).mono
    fun e w' h2 => ⟨changed hok hm (fun p cap => ⟨without_pairs hok.sync.now.L k, hok.sync.now.c⟩) h2.1, h2.2⟩
theorem rdelnone_m (ab : Nat) (most nest : Int) (m : Mach) (r : RM) (k : ByteArray) (w : World) (R : Hp) (hok : ROk m r) (hL : r.now.L.length ≤ 1000000) (hk : k.size ≤ maxLen) (hnone : (m.s.M k).isSome = false) (h : Sat w (r.all ab most nest m R)) :
    Calls Try.prog 40 #[.pointer (some ⟨ab, 0, none⟩), .string k] w fun e w' => e = .returned (.int .i64 0) ∧ w = w' :=
  rdel_none ab r.now.p r.now.cap r.now.L m.s.M k w hL hok.sync.now.L hk hnone (all_cells h).2.2.1 (hok.reads m.ms R w _ (h.perm (show _ = r.own m.ms R * r.box ab most nest m by unfold RM.all; ac_rfl)))
theorem rget_m (ab : Nat) (most nest : Int) (m : Mach) (r : RM) (k : ByteArray) (w : World) (R : Hp) (hok : ROk m r) (hL : r.now.L.length ≤ 1000000) (hk : k.size ≤ maxLen) (h : Sat w (r.all ab most nest m R)) :
    Calls Try.prog 23 #[.pointer (some ⟨ab, 0, none⟩), .string k] w fun e w' => e = .returned (.tuple #[.int .i64 ((m.s.M k).getD 0), .bool (m.s.M k).isSome]) ∧ w = w' :=
  rget_calls ab r.now.p r.now.cap r.now.L m.s.M k w hL hok.sync.now.L hk (all_cells h).2.2.1 (hok.reads m.ms R w _ (h.perm (show _ = r.own m.ms R * r.box ab most nest m by unfold RM.all; ac_rfl)))
theorem rcell_m (ab : Nat) (most nest : Int) (m : Mach) (r : RM) (v : ByteArray) (w : World) (R : Hp) (hok : ROk m r) (hm : Marked m.hist.length m.ms.reverse) (hb : m.hist.length ≤ 1000000) (hms : m.ms.length ≤ 1000000) (h : Sat w (r.all ab most nest m R)) :
    Calls Try.prog 41 #[.pointer (some ⟨ab, 0, none⟩), .string v] w fun e w' => (e = .returned (.int .i64 (noted most m ⟨m.s.M, v⟩).1.2) ∧ RLeaves ab most nest (noted most m ⟨m.s.M, v⟩).2 R w') ∧ Ran w w' :=
  (rcell_calls ab most nest r.now.p r.wp r.hp r.now.L.length r.now.cap r.was.length r.wc m.hist.length m.ms.length r.hc r.now.c v w (r.own m.ms R) (by omega) (by rw [hok.sync.len]; exact hms) h).mono
    fun e w' h2 => ⟨celled hok hm h2.1, h2.2⟩
theorem rmark_m (ab : Nat) (most nest : Int) (m : Mach) (r : RM) (w : World) (R : Hp) (hok : ROk m r) (hm : Marked m.hist.length m.ms.reverse) (hms : m.ms.length ≤ 1000000) (hl : (m.ms.length : Int) < nest) (h : Sat w (r.all ab most nest m R)) :
    Calls Try.prog 38 #[.pointer (some ⟨ab, 0, none⟩)] w fun e w' => (e = .returned (.tuple #[.int .i64 ((m.ms.length : Int) + 1), .int .i64 0]) ∧ RLeaves ab most nest (markM m) R w') ∧ Ran w w' := by
  have hwl := hok.sync.len
  refine (rmark_calls ab most nest r.now.p r.wp r.hp r.now.L.length r.now.cap r.was.length r.wc m.hist.length m.ms.length r.hc r.now.c (r.was.flatMap stC) (hadV m.ms) w (all pile r.piles * R) (by rw [hwl]; exact hl) (by rw [hwl]; exact hms) hms h).mono ?_
  rintro e w' ⟨⟨rfl, wp, wc, hp, hc, hS⟩, hR⟩
  refine ⟨⟨by rw [hwl], ⟨r.now, r.was ++ [r.now], wp, wc, hp, hc, r.piles⟩, ⟨hok.sync.mark hm, hok.now, fun x hx => ?_⟩, ?_⟩, hR⟩
  · rcases List.mem_append.1 hx with hx | hx
    · exact hok.was x hx
    · rw [List.mem_singleton] at hx; subst hx; exact hok.now
  · have e1 : (r.was ++ [r.now]).length = r.was.length + 1 := by rw [List.length_append]; rfl
    have e2 : (m.ms ++ [m.hist.length]).length = m.ms.length + 1 := by rw [List.length_append]; rfl
    have e3 : (r.was ++ [r.now]).flatMap stC = r.was.flatMap stC ++ [.slice r.now.p r.now.L.length r.now.cap, .string r.now.c] := by rw [List.flatMap_append]; simp [stC]
    have e4 : hadV (m.ms ++ [m.hist.length]) = hadV m.ms ++ [.int .i64 (m.hist.length : Int)] := by unfold hadV; rw [List.map_append]; rfl
    unfold RM.all RM.box RM.own markM
    dsimp only
    rw [e1, e2, e3, e4]
    exact hS
theorem rundo_m (ab : Nat) (most nest : Int) (m : Mach) (r : RM) (w : World) (R : Hp) (hok : ROk m r) (hm : Marked m.hist.length m.ms.reverse) (hms : m.ms.length ≤ 1000000) (hne : m.ms ≠ []) (h : Sat w (r.all ab most nest m R)) :
    Calls Try.prog 39 #[.pointer (some ⟨ab, 0, none⟩)] w fun e w' => (e = .returned (.int .i64 0) ∧ RLeaves ab most nest (undoM m) R w') ∧ Ran w w' := by
  have hwl := hok.sync.len
  have hp := List.length_pos_iff.2 hne
  have hw : m.ms.length - 1 < r.was.length := by omega
  have hsy := hok.sync.undo hm hne hw
  have hwne : r.was ≠ [] := List.length_pos_iff.1 (by omega)
  have ew : r.was = r.was.dropLast ++ [r.was[m.ms.length - 1]] := by
    have e1 := (List.dropLast_concat_getLast hwne).symm
    rw [List.getLast_eq_getElem] at e1
    simp only [hwl] at e1
    exact e1
  have em : m.ms = m.ms.dropLast ++ [m.ms[m.ms.length - 1]] := by
    rw [← List.getLast_eq_getElem hne]; exact (List.dropLast_concat_getLast hne).symm
  have hlast : m.ms.getLastD 0 = m.ms[m.ms.length - 1] := by
    rw [List.getLastD_eq_getLast?, List.getLast?_eq_some_getLast hne, List.getLast_eq_getElem]; rfl
  have hle := marked_at hm (m.ms.length - 1) (by omega)
  have hpx : Piled r.piles r.was[m.ms.length - 1] := hok.was _ (List.getElem_mem _)
  obtain ⟨x, hx⟩ : ∃ x, x = r.was[m.ms.length - 1] := ⟨_, rfl⟩
  obtain ⟨y, hy⟩ : ∃ y, y = m.ms[m.ms.length - 1] := ⟨_, rfl⟩
  rw [← hx] at hsy ew hpx
  rw [← hy] at em hle hlast
  obtain ⟨wn, hwn⟩ : ∃ n, n = m.ms.length - 1 := ⟨_, rfl⟩
  have l1 : r.was.dropLast.length = wn := by rw [List.length_dropLast]; omega
  have l2 : m.ms.dropLast.length = wn := by rw [List.length_dropLast]; omega
  have HS : Sat w (pts ab (allO most nest r.now.p r.now.L.length r.now.cap r.now.c r.wp (wn + 1) r.wc m.hist.length r.hp (wn + 1) r.hc) * (stA r.wp (wn + 1) r.wc (r.was.dropLast.flatMap stC ++ [.slice x.p x.L.length x.cap, .string x.c]) * (inA r.hp (wn + 1) r.hc (hadV m.ms.dropLast ++ [.int .i64 (y : Int)]) * (all pile r.piles * R)))) := by
    have h1 : r.was.length = wn + 1 := by omega
    have h2 : m.ms.length = wn + 1 := by omega
    have h3 : r.was.flatMap stC = r.was.dropLast.flatMap stC ++ [.slice x.p x.L.length x.cap, .string x.c] := by
      conv => lhs; rw [ew]
      rw [List.flatMap_append]; simp [stC]
    have h4 : hadV m.ms = hadV m.ms.dropLast ++ [.int .i64 (y : Int)] := by
      conv => lhs; rw [em]
      unfold hadV; rw [List.map_append]; rfl
    unfold RM.all RM.box RM.own at h
    rw [h1, h2, h3, h4] at h
    exact h
  refine (rundo_calls ab most nest r.now.p r.wp r.hp r.now.L.length r.now.cap wn r.wc m.hist.length r.hc r.now.c (r.was.dropLast.flatMap stC) (hadV m.ms.dropLast) x.p x.L.length x.cap y x.c w (all pile r.piles * R) (by omega) (by rw [stC_len, l1]) (by unfold hadV; rw [List.length_map, l2]) HS).mono ?_
  rintro e w' ⟨⟨rfl, hS⟩, hR⟩
  refine ⟨⟨rfl, ⟨x, r.was.dropLast, r.wp, r.wc, r.hp, r.hc, r.piles⟩, ⟨hsy, hpx, fun z hz => hok.was z (by rw [List.dropLast_eq_take] at hz; exact List.mem_of_mem_take hz)⟩, ?_⟩, hR⟩
  have l3 : (m.hist.take (m.ms.getLastD 0)).length = y := by rw [hlast, List.length_take]; omega
  unfold RM.all RM.box RM.own undoM
  dsimp only
  rw [l1, l2, l3]
  exact hS
end Go.Proofs.Ytibgpkcklneloaa.Undo
