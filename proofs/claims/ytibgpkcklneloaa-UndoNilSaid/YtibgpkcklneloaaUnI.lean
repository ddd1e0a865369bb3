/- A map of a log: Set, Delete, has, Get walked; Len, Marks, Undo without marks. -/
import Derived.Test.YtibgpkcklneloaaUnH
namespace Go.Proofs.Ytibgpkcklneloaa.Undo
open Go.RowKit Go.Proofs.Ytibgpkcklneloaa Go.Proofs.Ytibgpkcklneloaa.Hp
set_option linter.unusedVariables false
attribute [local go_sem] Oper.semAt_some

theorem nE_cases (most : Int) (fs : List Value) (ms : List Nat) : nE most fs ms = 0 ∨ nE most fs ms = 43 := by
  unfold nE
  by_cases h : ms = []
  · rw [if_pos h]; exact .inl rfl
  · rw [if_neg h]
    by_cases h2 : (fs.length : Int) < most
    · rw [if_pos h2]; exact .inl rfl
    · rw [if_neg h2]; exact .inr rfl
theorem map_reads {w : World} {mb : Nat} {lb : Option Addr} {B : Nat} {M : ByteArray → Option Int} {S : Hp} (h : Sat w (MapAt mb lb B M * S)) (k : ByteArray) (hk : k.size ≤ maxLen) :
    ∃ mp, w.cell? ⟨mb, 0, none⟩ = some (.pointer lb) ∧ w.cell? ⟨mb, 1, none⟩ = some (.map (some mp)) ∧ (Instr.lookup 85 (.map (some mp)) (.string k) true).run Try.prog w = .ok (.tuple #[.int .i64 ((M k).getD 0), .bool (M k).isSome]) w := by
  obtain ⟨mp, n, hn, hM, HS⟩ := mapAt_out h
  exact ⟨mp, (map_cells HS).1, (map_cells HS).2, run_look (pull1 HS) k hk⟩
theorem has_calls (mb : Nat) (lb : Option Addr) (B : Nat) (M : ByteArray → Option Int) (k : ByteArray) (hk : k.size ≤ maxLen) (w : World) (S : Hp) (h : Sat w (MapAt mb lb B M * S)) :
    Calls Try.prog 44 #[.pointer (some ⟨mb, 0, none⟩), .string k] w fun e w' => e = .returned (.bool (M k).isSome) ∧ w = w' := by
  obtain ⟨mp, c0, c1, hl⟩ := map_reads h k hk
  clear h
  go_enter Try.func44, Try.ntmps44
  go_wp2_with fail
  go_ret
  exact ⟨rfl, rfl⟩
theorem get_calls (mb : Nat) (lb : Option Addr) (B : Nat) (M : ByteArray → Option Int) (k : ByteArray) (hk : k.size ≤ maxLen) (w : World) (S : Hp) (h : Sat w (MapAt mb lb B M * S)) :
    Calls Try.prog 22 #[.pointer (some ⟨mb, 0, none⟩), .string k] w fun e w' => e = .returned (.tuple #[.int .i64 ((M k).getD 0), .bool (M k).isSome]) ∧ w = w' := by
  obtain ⟨mp, c0, c1, hl⟩ := map_reads h k hk
  clear h
  go_enter Try.func22, Try.ntmps22
  go_wp2_with fail
  go_ret2
  exact ⟨rfl, rfl⟩
theorem len_calls (lb : Nat) (most nest : Int) (fs : List Value) (ms : List Nat) (w : World) (R : Hp) (h : LogAt w lb most nest fs ms R) :
    Calls Try.prog 21 #[.pointer (some ⟨lb, 0, none⟩)] w fun e w' => e = .returned (.int .i64 (fs.length : Int)) ∧ w = w' := by
  obtain ⟨np, nc, mp, mc, HS⟩ := h
  obtain ⟨c0, c1, c2, c3, cz⟩ := log_cells HS.get
  clear HS
  go_enter Try.func21, Try.ntmps21
  go_wp2_with fail
  go_ret
  exact ⟨rfl, rfl⟩
theorem marks_calls (lb : Nat) (most nest : Int) (fs : List Value) (ms : List Nat) (w : World) (R : Hp) (h : LogAt w lb most nest fs ms R) :
    Calls Try.prog 20 #[.pointer (some ⟨lb, 0, none⟩)] w fun e w' => e = .returned (.int .i64 (ms.length : Int)) ∧ w = w' := by
  obtain ⟨np, nc, mp, mc, HS⟩ := h
  obtain ⟨c0, c1, c2, c3, cz⟩ := log_cells HS.get
  clear HS
  go_enter Try.func20, Try.ntmps20
  go_wp2_with fail
  go_ret
  exact ⟨rfl, rfl⟩
set_option maxRecDepth 100000 in
/-- Undo without an open mark. -/
theorem undo_idle (lb : Nat) (most nest : Int) (fs : List Value) (w : World) (R : Hp) (h : LogAt w lb most nest fs [] R) :
    Calls Try.prog 13 #[.pointer (some ⟨lb, 0, none⟩)] w fun e w' => e = .returned (.int .i64 1) ∧ LogAt w' lb most nest fs [] R ∧ Ran w w' := by
  obtain ⟨np, nc, mp, mc, HS⟩ := h
  obtain ⟨c0, c1, c2, c3, cz⟩ := log_cells HS.get
  have HS0 := Lib.hid HS
  clear HS
  refine calls_of_wp_marks Try.func13 rfl ?_
  simp only [Try.ntmps13, List.size_toArray, List.length_cons, List.length_nil, Nat.reduceAdd, Nat.reduceSub, Array.replicate_succ, Array.replicate_zero, List.push_toArray, List.append_toArray, List.nil_append, List.cons_append]
  go_wp2_with fail
  refine marks_ret (results_tmp rfl _ _ _) rfl ?_
  exact ⟨rfl, ⟨np, nc, mp, mc, HS0.out⟩, Below.refl 0 w⟩
/-- What Set and Delete leave; M2: what the map has when it is done. -/
def SetSays (lb mb : Nat) (most nest : Int) (fs : List Value) (ms : List Nat) (k : ByteArray) (B : Nat) (M M2 : ByteArray → Option Int) (R : Hp) (e : Ending) (w' : World) : Prop :=
  ∃ isb wasb mbx kbx, e = .returned (.int .i64 (nE most fs ms)) ∧ LogAt w' lb most nest (nF most fs ms (.func (.func 54) #[] (noteC isb wasb mbx kbx))) ms (noteB isb wasb mbx kbx mb k (M k) * (MapAt mb (some ⟨lb, 0, none⟩) (B + 1) (if nE most fs ms = 0 then M2 else M) * R))
set_option maxRecDepth 100000 in
set_option maxHeartbeats 4000000 in
theorem set_calls (lb mb : Nat) (most nest : Int) (fs : List Value) (ms : List Nat) (k : ByteArray) (v : Int) (B : Nat) (M : ByteArray → Option Int) (w : World) (R : Hp) (hk : k.size ≤ maxLen) (hv : (Lit.int .i64 v).wf = true) (hb : fs.length ≤ 1000000000) (hms : ms.length ≤ 1000000) (hB : B < maxLen)
    (h : LogAt w lb most nest fs ms (MapAt mb (some ⟨lb, 0, none⟩) B M * R)) :
    Calls Try.prog 28 #[.pointer (some ⟨mb, 0, none⟩), .string k, .int .i64 v] w fun e w' => SetSays lb mb most nest fs ms k B M (putM M k v) R e w' ∧ Ran w w' := by
  have Hn := Lib.hid (mnote_calls lb mb most nest fs ms k B M w R hk hb hms h)
  clear h
  go_enter Try.func28, Try.ntmps28
  go_wp2_with fail
  refine Hn.out.mono ?_
  rintro e w1 ⟨⟨isb, wasb, mbx, kbx, rfl, HL⟩, R1⟩
  obtain ⟨fl, hfl⟩ : ∃ f, f = nF most fs ms (.func (.func 54) #[] (noteC isb wasb mbx kbx)) := ⟨_, rfl⟩
  rw [← hfl] at HL
  have Hfl := Lib.hid hfl
  clear hfl
  rcases nE_cases most fs ms with hE | hE
  · have HE := Lib.hid hE
    rw [hE]
    clear hE
    obtain ⟨np, nc, qp, qc, HS⟩ := HL
    obtain ⟨mp, n, hn, hM, HM⟩ := mapAt_out (pull4 HS)
    obtain ⟨c0, c1⟩ := map_cells HM
    obtain ⟨w', hrun, hs', hr'⟩ := run_put (pull1 HM) (show n < maxLen by omega) k hk v hv
    have Hs := Lib.hid (mapAt_in (lb := some ⟨lb, 0, none⟩) (B := B + 1) (pull1 hs') (by omega) (wfM_put hM hv))
    clear HS HM hs' Hn
    go_wp2_with fail
    go_ret
    refine ⟨⟨isb, wasb, mbx, kbx, by rw [HE.out]; rfl, ?_⟩, Below.trans R1 hr'⟩
    rw [if_pos HE.out, ← Hfl.out]
    exact ⟨np, nc, qp, qc, Hs.out.perm (by ac_rfl)⟩
  · have HE := Lib.hid hE
    rw [hE]
    have HL0 := Lib.hid HL
    clear HL Hn hE
    go_wp2_with fail
    go_ret
    refine ⟨⟨isb, wasb, mbx, kbx, by rw [HE.out]; rfl, ?_⟩, R1⟩
    rw [if_neg (by rw [HE.out]; decide), ← Hfl.out]
    obtain ⟨np, nc, qp, qc, HS⟩ := HL0.out
    exact ⟨np, nc, qp, qc, (mapAt_more (pull4 HS) (Nat.le_succ B)).perm (by ac_rfl)⟩
set_option maxRecDepth 100000 in
set_option maxHeartbeats 4000000 in
/-- Delete of a key that is there. -/
theorem del_calls (lb mb : Nat) (most nest : Int) (fs : List Value) (ms : List Nat) (k : ByteArray) (B : Nat) (M : ByteArray → Option Int) (w : World) (R : Hp) (hk : k.size ≤ maxLen) (hb : fs.length ≤ 1000000000) (hms : ms.length ≤ 1000000) (hB : B < maxLen) (hsome : (M k).isSome = true)
    (h : LogAt w lb most nest fs ms (MapAt mb (some ⟨lb, 0, none⟩) B M * R)) :
    Calls Try.prog 29 #[.pointer (some ⟨mb, 0, none⟩), .string k] w fun e w' => SetSays lb mb most nest fs ms k B M (delM M k) R e w' ∧ Ran w w' := by
  have Hn := Lib.hid (mnote_calls lb mb most nest fs ms k B M w R hk hb hms h)
  obtain ⟨np, nc, qp, qc, HS⟩ := h
  have Hh := Lib.hid (has_calls mb (some ⟨lb, 0, none⟩) B M k hk w _ (pull3 HS))
  obtain ⟨mp, c0, c1, hl⟩ := map_reads (pull3 HS) k hk
  clear HS
  go_enter Try.func29, Try.ntmps29
  go_wp2_with fail
  refine Hh.out.mono ?_
  rintro e w0 ⟨rfl, rfl⟩
  rw [hsome]
  go_wp2_with fail
  refine Hn.out.mono ?_
  rintro e w1 ⟨⟨isb, wasb, mbx, kbx, rfl, HL⟩, R1⟩
  obtain ⟨fl, hfl⟩ : ∃ f, f = nF most fs ms (.func (.func 54) #[] (noteC isb wasb mbx kbx)) := ⟨_, rfl⟩
  rw [← hfl] at HL
  have Hfl := Lib.hid hfl
  clear hfl c0 c1 hl Hh
  rcases nE_cases most fs ms with hE | hE
  · have HE := Lib.hid hE
    rw [hE]
    clear hE
    obtain ⟨np, nc, qp, qc, HS⟩ := HL
    obtain ⟨mp, n, hn, hM, HM⟩ := mapAt_out (pull4 HS)
    obtain ⟨c0, c1⟩ := map_cells HM
    obtain ⟨w', hrun, hs', hr'⟩ := run_del (pull1 HM) k hk 0
    have Hs := Lib.hid (mapAt_in (lb := some ⟨lb, 0, none⟩) (B := B + 1) (pull1 hs') (by omega) (wfM_del hM))
    clear HS HM hs' Hn
    go_wp2_with fail
    go_ret
    refine ⟨⟨isb, wasb, mbx, kbx, by rw [HE.out]; rfl, ?_⟩, Below.trans R1 hr'⟩
    rw [if_pos HE.out, ← Hfl.out]
    exact ⟨np, nc, qp, qc, Hs.out.perm (by ac_rfl)⟩
  · have HE := Lib.hid hE
    rw [hE]
    have HL0 := Lib.hid HL
    clear HL Hn hE
    go_wp2_with fail
    go_ret
    refine ⟨⟨isb, wasb, mbx, kbx, by rw [HE.out]; rfl, ?_⟩, R1⟩
    rw [if_neg (by rw [HE.out]; decide), ← Hfl.out]
    obtain ⟨np, nc, qp, qc, HS⟩ := HL0.out
    exact ⟨np, nc, qp, qc, (mapAt_more (pull4 HS) (Nat.le_succ B)).perm (by ac_rfl)⟩
set_option maxRecDepth 100000 in
/-- Delete of a key that is not there. -/
theorem del_idle (lb mb : Nat) (B : Nat) (M : ByteArray → Option Int) (k : ByteArray) (w : World) (S : Hp) (hk : k.size ≤ maxLen) (hnone : (M k).isSome = false) (h : Sat w (MapAt mb (some ⟨lb, 0, none⟩) B M * S)) :
    Calls Try.prog 29 #[.pointer (some ⟨mb, 0, none⟩), .string k] w fun e w' => e = .returned (.int .i64 0) ∧ w = w' := by
  have Hh := Lib.hid (has_calls mb (some ⟨lb, 0, none⟩) B M k hk w _ h)
  obtain ⟨mp, c0, c1, hl⟩ := map_reads h k hk
  clear h
  go_enter Try.func29, Try.ntmps29
  go_wp2_with fail
  refine Hh.out.mono ?_
  rintro e w0 ⟨rfl, rfl⟩
  rw [hnone]
  go_wp2_with fail
  go_ret
  exact ⟨rfl, rfl⟩
end Go.Proofs.Ytibgpkcklneloaa.Undo
