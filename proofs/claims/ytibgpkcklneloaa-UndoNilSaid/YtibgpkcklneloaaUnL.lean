/- Things as the laws use them: what was at each note. -/
import Derived.Test.YtibgpkcklneloaaUnK
namespace Go.Proofs.Ytibgpkcklneloaa.Undo
open Go.RowKit Go.Proofs.Ytibgpkcklneloaa Go.Proofs.Ytibgpkcklneloaa.Hp
set_option linter.unusedVariables false

structure St where
  M : ByteArray → Option Int
  c : ByteArray
inductive Rec where
  | m (isb wasb mbx kbx : Nat) (k : ByteArray) (o : Option Int)
  | c (wasb cbx : Nat) (was : ByteArray)
namespace Rec
def val : Rec → Value
  | .m isb wasb mbx kbx _ _ => .func (.func 54) #[] (noteC isb wasb mbx kbx)
  | .c wasb cbx _ => .func (.func 47) #[] (cnoteC wasb cbx)
def own (mb cb : Nat) : Rec → Hp
  | .m isb wasb mbx kbx k o => noteB isb wasb mbx kbx mb k o
  | .c wasb cbx was => cnoteB wasb cbx cb was
def back (s : St) : Rec → St
  | .m _ _ _ _ k o => ⟨rest s.M k o, s.c⟩
  | .c _ _ was => ⟨s.M, was⟩
def ok : Rec → Prop
  | .m _ _ _ _ k o => k.size ≤ maxLen ∧ ∀ v, o = some v → (Lit.int .i64 v).wf = true
  | .c _ _ _ => True
end Rec
/-- What there is behind the notes from the i-th on. -/
def undone (rs : List Rec) (s : St) (i : Nat) : St := (rs.drop i).foldr (fun r s => r.back s) s
theorem undone_len (rs : List Rec) (s : St) : undone rs s rs.length = s := by simp [undone]
theorem undone_step (rs : List Rec) (s : St) (i : Nat) (h : i < rs.length) : undone rs s i = rs[i].back (undone rs s (i + 1)) := by
  unfold undone
  rw [List.drop_eq_getElem_cons h, List.foldr_cons]
/-- The states ahead of the notes are what undoing comes to. -/
def Chain (rs : List Rec) (hist : List St) (s : St) : Prop := rs.length = hist.length ∧ ∀ i (h : i < hist.length), undone rs s i = hist[i]
theorem chain_nil (s : St) : Chain [] [] s := ⟨rfl, fun i h => absurd h (Nat.not_lt_zero i)⟩
theorem chain_snoc {rs : List Rec} {hist : List St} {s s' : St} {r : Rec} (h : Chain rs hist s) (hr : r.back s' = s) : Chain (rs ++ [r]) (hist ++ [s]) s' := by
  refine ⟨by simp [h.1], fun i hi => ?_⟩
  have hl := h.1
  have e : undone (rs ++ [r]) s' i = undone rs s i := by
    unfold undone
    rw [List.drop_append_of_le_length (by simp at hi; omega), List.foldr_append]
    simp only [List.foldr_cons, List.foldr_nil, hr]
  rw [e]
  by_cases c : i < hist.length
  · rw [h.2 i c, List.getElem_append_left c]
  · have : i = rs.length := by simp at hi; omega
    subst this
    rw [undone_len, List.getElem_append_right (by omega)]
    simp [hl]
theorem chain_take {rs : List Rec} {hist : List St} {s : St} (h : Chain rs hist s) {m : Nat} (hm : m ≤ rs.length) : Chain (rs.take m) (hist.take m) (undone rs s m) := by
  refine ⟨by simp [h.1], fun i hi => ?_⟩
  have hi2 : i < hist.length := by simp at hi; omega
  have him : i < m := by simp at hi; omega
  rw [List.getElem_take, ← h.2 i hi2]
  unfold undone
  have e : rs.drop i = (rs.take m).drop i ++ rs.drop m := by
    rw [← List.drop_append_of_le_length (by simp; omega), List.take_append_drop]
  rw [e, List.foldr_append]
/-- Marks (the last one first) of a log with n notes. -/
def Marked : Nat → List Nat → Prop
  | n, [] => n = 0
  | n, m :: l => m ≤ n ∧ Marked m l
theorem marked_more {n : Nat} {ms : List Nat} (h : Marked n ms.reverse) (hm : ms ≠ []) : Marked (n + 1) ms.reverse := by
  cases e : ms.reverse with
  | nil => simp at e; exact absurd e hm
  | cons m l => rw [e] at h; exact ⟨Nat.le_succ_of_le h.1, h.2⟩
theorem marked_mark {n : Nat} {ms : List Nat} (h : Marked n ms.reverse) : Marked n (ms ++ [n]).reverse := by
  rw [List.reverse_append]; exact ⟨Nat.le_refl _, h⟩
theorem marked_undo {n m : Nat} {ms : List Nat} (h : Marked n (ms ++ [m]).reverse) : m ≤ n ∧ Marked m ms.reverse := by
  rw [List.reverse_append] at h; exact h
/-- A log, a map and a cell of it; hist: what was ahead of each note; N: a bound. -/
def Things (w : World) (lb mb cb : Nat) (most nest : Int) (hist : List St) (ms : List Nat) (N : Nat) (s : St) (R : Hp) : Prop :=
  ∃ rs B, Marked hist.length ms.reverse ∧ Chain rs hist s ∧ (∀ r ∈ rs, r.ok) ∧ B + hist.length ≤ N ∧ LogAt w lb most nest (rs.map Rec.val) ms (all (Rec.own mb cb) rs * (MapAt mb (some ⟨lb, 0, none⟩) B s.M * (CellAt cb (some ⟨lb, 0, none⟩) s.c * R)))
theorem LogAt.perm {w : World} {lb : Nat} {most nest : Int} {fs : List Value} {ms : List Nat} {R R' : Hp} (h : LogAt w lb most nest fs ms R) (e : R = R') : LogAt w lb most nest fs ms R' := e ▸ h
theorem LogAt.right {w : World} {lb : Nat} {most nest : Int} {fs : List Value} {ms : List Nat} {A R : Hp} (h : LogAt w lb most nest fs ms (A * R)) : LogAt w lb most nest fs ms R := by
  obtain ⟨np, nc, mp, mc, HS⟩ := h
  exact ⟨np, nc, mp, mc, (pull3 HS).right⟩
theorem LogAt.rest {w : World} {lb : Nat} {most nest : Int} {fs : List Value} {ms : List Nat} {R : Hp} (h : LogAt w lb most nest fs ms R) : Sat w R := by
  obtain ⟨np, nc, mp, mc, HS⟩ := h
  exact HS.right.right.right
theorem LogAt.alloc {w : World} {lb : Nat} {most nest : Int} {fs : List Value} {ms : List Nat} {R : Hp} (h : LogAt w lb most nest fs ms R) (o : Obj) : LogAt (w.alloc o) lb most nest fs ms (pts w.heap.size o * R) := by
  obtain ⟨np, nc, mp, mc, HS⟩ := h
  exact ⟨np, nc, mp, mc, (HS.alloc o).perm (by ac_rfl)⟩
theorem Things.perm {w : World} {lb mb cb : Nat} {most nest : Int} {hist : List St} {ms : List Nat} {N : Nat} {s : St} {R R' : Hp} (h : Things w lb mb cb most nest hist ms N s R) (e : R = R') : Things w lb mb cb most nest hist ms N s R' := e ▸ h
theorem Things.rest {w : World} {lb mb cb : Nat} {most nest : Int} {hist : List St} {ms : List Nat} {N : Nat} {s : St} {R : Hp} (h : Things w lb mb cb most nest hist ms N s R) : Sat w R := by
  obtain ⟨rs, B, _, _, _, _, HL⟩ := h
  exact HL.rest.right.right.right
theorem Things.alloc {w : World} {lb mb cb : Nat} {most nest : Int} {hist : List St} {ms : List Nat} {N : Nat} {s : St} {R : Hp} (h : Things w lb mb cb most nest hist ms N s R) (o : Obj) : Things (w.alloc o) lb mb cb most nest hist ms N s (pts w.heap.size o * R) := by
  obtain ⟨rs, B, h0, h1, h2, h3, HL⟩ := h
  exact ⟨rs, B, h0, h1, h2, h3, (HL.alloc o).perm (by ac_rfl)⟩
theorem mapAt_wf {w : World} {mb : Nat} {lb : Option Addr} {B : Nat} {M : ByteArray → Option Int} {S : Hp} (h : Sat w (MapAt mb lb B M * S)) : WfM M := by
  obtain ⟨mp, n, hn, hM, HS⟩ := mapAt_out h
  exact hM
/-- What a call answers that lays a note; what was ahead of each note then. -/
def tE (most : Int) (hist : List St) (ms : List Nat) : Int := if ms = [] then 0 else if (hist.length : Int) < most then 0 else 43
def tH (most : Int) (hist : List St) (ms : List Nat) (s : St) : List St := if ms = [] then hist else if (hist.length : Int) < most then hist ++ [s] else hist
theorem tE_eq (most : Int) (fs : List Value) (hist : List St) (ms : List Nat) (h : fs.length = hist.length) : nE most fs ms = tE most hist ms := by unfold nE tE; rw [h]
/-- A note laid, and something done. -/
theorem things_noted {w : World} {lb mb cb : Nat} {most nest : Int} {hist : List St} {ms : List Nat} {N B : Nat} {s s2 : St} {R : Hp} {rs : List Rec} (r : Rec) (h0 : Marked hist.length ms.reverse) (h1 : Chain rs hist s) (h2 : ∀ r ∈ rs, r.ok) (h3 : B + hist.length ≤ N) (hr : r.ok) (hb : r.back s2 = s)
    (h : LogAt w lb most nest (nF most (rs.map Rec.val) ms r.val) ms (r.own mb cb * (all (Rec.own mb cb) rs * (MapAt mb (some ⟨lb, 0, none⟩) (B + 1) (if tE most hist ms = 0 then s2 else s).M * (CellAt cb (some ⟨lb, 0, none⟩) (if tE most hist ms = 0 then s2 else s).c * R))))) :
    Things w lb mb cb most nest (tH most hist ms s) ms (N + 2) (if tE most hist ms = 0 then s2 else s) R := by
  have hl := h1.1
  unfold nF at h
  unfold tH tE at *
  rw [List.length_map, hl] at h
  by_cases c : ms = []
  · subst c
    simp only [if_true] at h ⊢
    have e : hist = [] := List.eq_nil_of_length_eq_zero h0
    subst e
    have e : rs = [] := List.eq_nil_of_length_eq_zero hl
    subst e
    exact ⟨[], B + 1, rfl, chain_nil _, by simp, by simp at h3 ⊢; omega, h.right⟩
  · simp only [if_neg c] at h ⊢
    by_cases d : (hist.length : Int) < most
    · simp only [if_pos d, if_true] at h ⊢
      refine ⟨rs ++ [r], B + 1, ?_, chain_snoc h1 hb, ?_, by simp; omega, ?_⟩
      · rw [List.length_append]; exact marked_more h0 c
      · intro x hx
        rcases List.mem_append.1 hx with hx | hx
        · exact h2 x hx
        · rw [List.mem_singleton] at hx; subst hx; exact hr
      · rw [List.map_append, all_snoc]
        exact h.perm (by ac_rfl)
    · simp only [if_neg d, show ¬ (43 : Int) = 0 by decide, if_false] at h ⊢
      exact ⟨rs, B + 1, h0, h1, h2, by omega, h.right⟩
theorem set_things (lb mb cb : Nat) (most nest : Int) (hist : List St) (ms : List Nat) (N : Nat) (s : St) (k : ByteArray) (v : Int) (w : World) (R : Hp) (hk : k.size ≤ maxLen) (hv : (Lit.int .i64 v).wf = true) (hb : hist.length ≤ 1000000000) (hms : ms.length ≤ 1000000) (hN : N < maxLen)
    (h : Things w lb mb cb most nest hist ms N s R) :
    Calls Try.prog 28 #[.pointer (some ⟨mb, 0, none⟩), .string k, .int .i64 v] w fun e w' => (e = .returned (.int .i64 (tE most hist ms)) ∧ Things w' lb mb cb most nest (tH most hist ms s) ms (N + 2) (if tE most hist ms = 0 then ⟨putM s.M k v, s.c⟩ else s) R) ∧ Ran w w' := by
  obtain ⟨rs, B, h0, h1, h2, h3, HL⟩ := h
  have HL2 := HL.perm (show _ = MapAt mb (some ⟨lb, 0, none⟩) B s.M * (all (Rec.own mb cb) rs * (CellAt cb (some ⟨lb, 0, none⟩) s.c * R)) by ac_rfl)
  have hM := mapAt_wf HL2.rest
  have hl : (rs.map Rec.val).length = hist.length := by rw [List.length_map]; exact h1.1
  refine (set_calls lb mb most nest (rs.map Rec.val) ms k v B s.M w _ hk hv (by omega) hms (by omega) HL2).mono ?_
  rintro e w' ⟨⟨isb, wasb, mbx, kbx, rfl, HS⟩, hr⟩
  rw [tE_eq most _ hist ms hl] at *
  refine ⟨⟨rfl, things_noted (.m isb wasb mbx kbx k (s.M k)) h0 h1 h2 h3 ⟨hk, fun v e => hM k v e⟩ ?_ ?_⟩, hr⟩
  · show St.mk _ _ = _
    rw [rest_put]
  · refine HS.perm ?_
    show noteB isb wasb mbx kbx mb k (s.M k) * _ = noteB isb wasb mbx kbx mb k (s.M k) * _
    by_cases c : tE most hist ms = 0
    · simp only [if_pos c]; ac_rfl
    · simp only [if_neg c]; ac_rfl
/-- Delete of a key that is there. -/
theorem del_things (lb mb cb : Nat) (most nest : Int) (hist : List St) (ms : List Nat) (N : Nat) (s : St) (k : ByteArray) (w : World) (R : Hp) (hk : k.size ≤ maxLen) (hb : hist.length ≤ 1000000000) (hms : ms.length ≤ 1000000) (hN : N < maxLen) (hsome : (s.M k).isSome = true)
    (h : Things w lb mb cb most nest hist ms N s R) :
    Calls Try.prog 29 #[.pointer (some ⟨mb, 0, none⟩), .string k] w fun e w' => (e = .returned (.int .i64 (tE most hist ms)) ∧ Things w' lb mb cb most nest (tH most hist ms s) ms (N + 2) (if tE most hist ms = 0 then ⟨delM s.M k, s.c⟩ else s) R) ∧ Ran w w' := by
  obtain ⟨rs, B, h0, h1, h2, h3, HL⟩ := h
  have HL2 := HL.perm (show _ = MapAt mb (some ⟨lb, 0, none⟩) B s.M * (all (Rec.own mb cb) rs * (CellAt cb (some ⟨lb, 0, none⟩) s.c * R)) by ac_rfl)
  have hM := mapAt_wf HL2.rest
  have hl : (rs.map Rec.val).length = hist.length := by rw [List.length_map]; exact h1.1
  refine (del_calls lb mb most nest (rs.map Rec.val) ms k B s.M w _ hk (by omega) hms (by omega) hsome HL2).mono ?_
  rintro e w' ⟨⟨isb, wasb, mbx, kbx, rfl, HS⟩, hr⟩
  rw [tE_eq most _ hist ms hl] at *
  refine ⟨⟨rfl, things_noted (.m isb wasb mbx kbx k (s.M k)) h0 h1 h2 h3 ⟨hk, fun v e => hM k v e⟩ ?_ ?_⟩, hr⟩
  · show St.mk _ _ = _
    rw [rest_del]
  · refine HS.perm ?_
    show noteB isb wasb mbx kbx mb k (s.M k) * _ = noteB isb wasb mbx kbx mb k (s.M k) * _
    by_cases c : tE most hist ms = 0
    · simp only [if_pos c]; ac_rfl
    · simp only [if_neg c]; ac_rfl
theorem Things.map {w : World} {lb mb cb : Nat} {most nest : Int} {hist : List St} {ms : List Nat} {N : Nat} {s : St} {R : Hp} (h : Things w lb mb cb most nest hist ms N s R) : ∃ B S, Sat w (MapAt mb (some ⟨lb, 0, none⟩) B s.M * S) := by
  obtain ⟨rs, B, h0, h1, h2, h3, HL⟩ := h
  exact ⟨B, _, HL.rest.perm (show _ = MapAt mb (some ⟨lb, 0, none⟩) B s.M * (all (Rec.own mb cb) rs * (CellAt cb (some ⟨lb, 0, none⟩) s.c * R)) by ac_rfl)⟩
theorem Things.cell {w : World} {lb mb cb : Nat} {most nest : Int} {hist : List St} {ms : List Nat} {N : Nat} {s : St} {R : Hp} (h : Things w lb mb cb most nest hist ms N s R) : ∃ S, Sat w (CellAt cb (some ⟨lb, 0, none⟩) s.c * S) := by
  obtain ⟨rs, B, h0, h1, h2, h3, HL⟩ := h
  exact ⟨_, HL.rest.perm (show _ = CellAt cb (some ⟨lb, 0, none⟩) s.c * (all (Rec.own mb cb) rs * (MapAt mb (some ⟨lb, 0, none⟩) B s.M * R)) by unfold CellAt; ac_rfl)⟩
theorem delnone_things (lb mb cb : Nat) (most nest : Int) (hist : List St) (ms : List Nat) (N : Nat) (s : St) (k : ByteArray) (w : World) (R : Hp) (hk : k.size ≤ maxLen) (hnone : (s.M k).isSome = false)
    (h : Things w lb mb cb most nest hist ms N s R) :
    Calls Try.prog 29 #[.pointer (some ⟨mb, 0, none⟩), .string k] w fun e w' => e = .returned (.int .i64 0) ∧ w = w' := by
  obtain ⟨B, S, hm⟩ := h.map
  exact del_idle lb mb B s.M k w S hk hnone hm
theorem get_things (lb mb cb : Nat) (most nest : Int) (hist : List St) (ms : List Nat) (N : Nat) (s : St) (k : ByteArray) (w : World) (R : Hp) (hk : k.size ≤ maxLen) (h : Things w lb mb cb most nest hist ms N s R) :
    Calls Try.prog 22 #[.pointer (some ⟨mb, 0, none⟩), .string k] w fun e w' => e = .returned (.tuple #[.int .i64 ((s.M k).getD 0), .bool (s.M k).isSome]) ∧ w = w' := by
  obtain ⟨B, S, hm⟩ := h.map
  exact get_calls mb _ B s.M k hk w S hm
theorem cget_things (lb mb cb : Nat) (most nest : Int) (hist : List St) (ms : List Nat) (N : Nat) (s : St) (w : World) (R : Hp) (h : Things w lb mb cb most nest hist ms N s R) :
    Calls Try.prog 32 #[.pointer (some ⟨cb, 0, none⟩)] w fun e w' => e = .returned (.string s.c) ∧ w = w' := by
  obtain ⟨S, hm⟩ := h.cell
  exact cget_calls cb _ s.c w S hm
theorem len_things (lb mb cb : Nat) (most nest : Int) (hist : List St) (ms : List Nat) (N : Nat) (s : St) (w : World) (R : Hp) (h : Things w lb mb cb most nest hist ms N s R) :
    Calls Try.prog 21 #[.pointer (some ⟨lb, 0, none⟩)] w fun e w' => e = .returned (.int .i64 (hist.length : Int)) ∧ w = w' := by
  obtain ⟨rs, B, h0, h1, h2, h3, HL⟩ := h
  rw [← h1.1, ← List.length_map (f := Rec.val)]
  exact len_calls lb most nest _ ms w _ HL
theorem marks_things (lb mb cb : Nat) (most nest : Int) (hist : List St) (ms : List Nat) (N : Nat) (s : St) (w : World) (R : Hp) (h : Things w lb mb cb most nest hist ms N s R) :
    Calls Try.prog 20 #[.pointer (some ⟨lb, 0, none⟩)] w fun e w' => e = .returned (.int .i64 (ms.length : Int)) ∧ w = w' := by
  obtain ⟨rs, B, h0, h1, h2, h3, HL⟩ := h
  exact marks_calls lb most nest _ ms w _ HL
theorem mark_things (lb mb cb : Nat) (most nest : Int) (hist : List St) (ms : List Nat) (N : Nat) (s : St) (w : World) (R : Hp) (hl : (ms.length : Int) < nest) (hb : hist.length ≤ 1000000000) (hms : ms.length ≤ 1000000) (h : Things w lb mb cb most nest hist ms N s R) :
    Calls Try.prog 10 #[.pointer (some ⟨lb, 0, none⟩)] w fun e w' => (e = .returned (.tuple #[.int .i64 ((ms.length : Int) + 1), .int .i64 0]) ∧ Things w' lb mb cb most nest hist (ms ++ [hist.length]) N s R) ∧ Ran w w' := by
  obtain ⟨rs, B, h0, h1, h2, h3, HL⟩ := h
  have hl2 : (rs.map Rec.val).length = hist.length := by rw [List.length_map]; exact h1.1
  refine (mark_calls lb most nest _ ms w _ HL hl (by omega) hms).mono ?_
  rintro e w' ⟨rfl, HS, hr⟩
  rw [hl2] at HS
  exact ⟨⟨rfl, rs, B, marked_mark h0, h1, h2, h3, HS⟩, hr⟩
theorem undonone_things (lb mb cb : Nat) (most nest : Int) (hist : List St) (N : Nat) (s : St) (w : World) (R : Hp) (h : Things w lb mb cb most nest hist [] N s R) :
    Calls Try.prog 13 #[.pointer (some ⟨lb, 0, none⟩)] w fun e w' => (e = .returned (.int .i64 1) ∧ Things w' lb mb cb most nest hist [] N s R) ∧ Ran w w' := by
  obtain ⟨rs, B, h0, h1, h2, h3, HL⟩ := h
  refine (undo_idle lb most nest _ w _ HL).mono ?_
  rintro e w' ⟨rfl, HS, hr⟩
  exact ⟨⟨rfl, rs, B, h0, h1, h2, h3, HS⟩, hr⟩
theorem enters_note : Enters Try.prog 54 := enters_of Try.func54 (by kernel_rfl) rfl
theorem enters_cset : Enters Try.prog 47 := enters_of Try.func47 (by kernel_rfl) rfl
/-- What there is between two notes that are undone. -/
def between (rs : List Rec) (mb cb : Nat) (lb : Option Addr) (B : Nat) (s : St) (i : Nat) : Hp :=
  all (Rec.own mb cb) (rs.take i) * (MapAt mb lb (B + (rs.length - i)) (undone rs s i).M * CellAt cb lb (undone rs s i).c)
theorem effects (rs : List Rec) (mb cb : Nat) (lb : Option Addr) (B : Nat) (s : St) (m : Nat) (hok : ∀ r ∈ rs, r.ok) (hB : B + rs.length < maxLen) : Effects (between rs mb cb lb B s) (rs.map Rec.val) m := by
  intro i _ hi
  rw [List.length_map] at hi
  have hri := hok rs[i] (List.getElem_mem hi)
  have hgd : (rs.map Rec.val).getD i undef = rs[i].val := by rw [List.getD_eq_getElem?_getD, List.getElem?_map, List.getElem?_eq_getElem hi]; rfl
  have htk : rs.take (i + 1) = rs.take i ++ [rs[i]] := List.take_succ_eq_append_getElem hi
  have hst := undone_step rs s i hi
  rw [hgd]
  generalize hq : rs[i] = r at *
  have hbd : B + (rs.length - i) = B + (rs.length - (i + 1)) + 1 := by omega
  unfold between
  rw [htk, all_snoc, hst, hbd]
  generalize undone rs s (i + 1) = s1 at *
  have hB1 : B + (rs.length - (i + 1)) < maxLen := by omega
  generalize B + (rs.length - (i + 1)) = B1 at *
  cases r with
  | m isb wasb mbx kbx k o =>
    refine ⟨_, _, rfl, enters_note, fun S W hS => ?_⟩
    refine (note1_calls isb wasb mbx kbx mb lb k o B1 s1.M W (all (Rec.own mb cb) (rs.take i) * (CellAt cb lb s1.c * S)) hri.1 hB1 hri.2 (hS.perm (by show noteB isb wasb mbx kbx mb k o * _ * _ * _ = _; unfold CellAt; ac_rfl))).mono ?_
    rintro e w' ⟨he, hs, hr⟩
    exact ⟨he, hs.perm (by show _ = all (Rec.own mb cb) (rs.take i) * (MapAt mb lb (B1 + 1) (rest s1.M k o) * CellAt cb lb s1.c) * S; unfold CellAt; ac_rfl), hr⟩
  | c wasb cbx was =>
    refine ⟨_, _, rfl, enters_cset, fun S W hS => ?_⟩
    refine (cset1_calls wasb cbx cb lb s1.c was W (all (Rec.own mb cb) (rs.take i) * (MapAt mb lb (B1 + 1) s1.M * S)) ?_).mono ?_
    · have h1 := mapAt_more (hS.perm (show _ = MapAt mb lb B1 s1.M * (cnoteB wasb cbx cb was * (CellAt cb lb s1.c * (all (Rec.own mb cb) (rs.take i) * S))) by show cnoteB wasb cbx cb was * _ * _ * _ = _; unfold CellAt; ac_rfl)) (Nat.le_succ B1)
      exact h1.perm (by unfold CellAt; ac_rfl)
    · rintro e w' ⟨he, hs, hr⟩
      exact ⟨he, hs.perm (by show _ = all (Rec.own mb cb) (rs.take i) * (MapAt mb lb (B1 + 1) s1.M * CellAt cb lb was) * S; unfold CellAt; ac_rfl), hr⟩
theorem undo_things (lb mb cb : Nat) (most nest : Int) (hist : List St) (ms : List Nat) (m : Nat) (N : Nat) (s : St) (w : World) (R : Hp) (hb : hist.length ≤ 1000000) (hms : ms.length ≤ 1000000) (hN : N < maxLen) (h : Things w lb mb cb most nest hist (ms ++ [m]) N s R) :
    Calls Try.prog 13 #[.pointer (some ⟨lb, 0, none⟩)] w fun e w' => (e = .returned (.int .i64 0) ∧ Things w' lb mb cb most nest (hist.take m) ms N ((hist ++ [s]).getD m s) R) ∧ Ran w w' := by
  obtain ⟨rs, B, h0, h1, h2, h3, HL⟩ := h
  have hl := h1.1
  obtain ⟨hm, h0⟩ := marked_undo h0
  have HL2 : LogAt w lb most nest (rs.map Rec.val) (ms ++ [m]) (between rs mb cb (some ⟨lb, 0, none⟩) B s (rs.map Rec.val).length * R) := by
    unfold between
    rw [List.length_map, undone_len, List.take_length, Nat.sub_self, Nat.add_zero]
    exact HL.perm (by unfold CellAt; ac_rfl)
  refine (undo_calls lb most nest (rs.map Rec.val) ms m w _ R HL2 (by rw [List.length_map]; omega) (by rw [List.length_map]; omega) hms (effects rs mb cb _ B s m h2 (by omega))).mono ?_
  rintro e w' ⟨rfl, HS, hr⟩
  have est : undone rs s m = (hist ++ [s]).getD m s := by
    by_cases c : m < hist.length
    · rw [h1.2 m c, List.getD_eq_getElem?_getD, List.getElem?_append_left c, List.getElem?_eq_getElem c]; rfl
    · have : m = rs.length := by omega
      subst this
      rw [undone_len, hl, List.getD_eq_getElem?_getD, List.getElem?_append_right (Nat.le_refl _), Nat.sub_self]; rfl
  refine ⟨⟨rfl, rs.take m, B + (rs.length - m), ?_, ?_, fun r hr => h2 r (List.mem_of_mem_take hr), ?_, ?_⟩, hr⟩
  · rw [List.length_take, Nat.min_eq_left hm]; exact h0
  · rw [← est]; exact chain_take h1 (by omega)
  · rw [List.length_take]; omega
  · rw [← est]
    unfold between at HS
    rw [← List.map_take] at HS
    exact HS.perm (by unfold CellAt; ac_rfl)
theorem cset_things (lb mb cb : Nat) (most nest : Int) (hist : List St) (ms : List Nat) (N : Nat) (s : St) (v : ByteArray) (w : World) (R : Hp) (hb : hist.length ≤ 1000000000) (hms : ms.length ≤ 1000000)
    (h : Things w lb mb cb most nest hist ms N s R) :
    Calls Try.prog 31 #[.pointer (some ⟨cb, 0, none⟩), .string v] w fun e w' => (e = .returned (.int .i64 (tE most hist ms)) ∧ Things w' lb mb cb most nest (tH most hist ms s) ms (N + 2) (if tE most hist ms = 0 then ⟨s.M, v⟩ else s) R) ∧ Ran w w' := by
  obtain ⟨rs, B, h0, h1, h2, h3, HL⟩ := h
  have HL2 := HL.perm (show _ = CellAt cb (some ⟨lb, 0, none⟩) s.c * (all (Rec.own mb cb) rs * (MapAt mb (some ⟨lb, 0, none⟩) B s.M * R)) by unfold CellAt; ac_rfl)
  have hl : (rs.map Rec.val).length = hist.length := by rw [List.length_map]; exact h1.1
  refine (cset_calls lb cb most nest (rs.map Rec.val) ms s.c v w _ (by omega) hms HL2).mono ?_
  rintro e w' ⟨⟨wasb, cbx, rfl, HS⟩, hr⟩
  rw [tE_eq most _ hist ms hl] at *
  refine ⟨⟨rfl, things_noted (B := B) (.c wasb cbx s.c) h0 h1 h2 h3 trivial rfl ?_⟩, hr⟩
  obtain ⟨np, nc, qp, qc, HQ⟩ := HS
  refine ⟨np, nc, qp, qc, ?_⟩
  have hq := mapAt_more (HQ.perm (show _ = MapAt mb (some ⟨lb, 0, none⟩) B s.M * (pts lb _ * (notes np _ nc _ * (marksA qp qc ms * (cnoteB wasb cbx cb s.c * (pts cb (cellO (some ⟨lb, 0, none⟩) (if tE most hist ms = 0 then v else s.c)) * (all (Rec.own mb cb) rs * R)))))) by unfold CellAt; ac_rfl)) (Nat.le_succ B)
  refine hq.perm ?_
  show _ = pts lb _ * (notes np _ nc _ * (marksA qp qc ms * (cnoteB wasb cbx cb s.c * _)))
  by_cases c : tE most hist ms = 0
  · simp only [if_pos c]; unfold CellAt; ac_rfl
  · simp only [if_neg c]; unfold CellAt; ac_rfl
end Go.Proofs.Ytibgpkcklneloaa.Undo
