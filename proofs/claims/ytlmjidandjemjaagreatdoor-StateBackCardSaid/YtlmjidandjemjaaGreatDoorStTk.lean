/- Enter, New, begun walked. -/
import Derived.Test.YtlmjidandjemjaaGreatDoorStTj
namespace Go.Proofs.YtlmjidandjemjaaGreatDoor.State
open Go.RowKit Go.Proofs.YtlmjidandjemjaaGreatDoor Go.Proofs.YtlmjidandjemjaaGreatDoor.Hp Go.Proofs.YtlmjidandjemjaaGreatDoor.Undo
set_option linter.unusedVariables false
attribute [local go_sem] Oper.semAt_some

def EnterSays (K : Ctx) (n : Now) (R : Hp) (e : Ending) (w' : World) : Prop :=
  ∃ ks, KeysOf n.s.T ks ∧ e = .returned (.int .i64 (Now.enterL K.most ks n).1) ∧ SAt K w' (Now.enterL K.most ks n).2 R
def EtRel (K : Ctx) (n : Now) (R : Hp) (ks : List ByteArray) (q : Option Addr) (qc : Nat) (w : World) (g : Nat) (v4 v5 v6 v7 v16 : Value) (wr : World) : Prop :=
  ∃ (i : Nat) (m : Now), v16 = .int .i64 (i : Int) ∧ i + g = ks.length ∧ Now.enterL K.most (ks.drop i) m = Now.enterL K.most ks n ∧ m.N ≤ n.N + 2 * i ∧ m.ms = n.ms ∧ SAt K wr m (arr 9 1 q ks.length qc (ks.map sv) * R) ∧ Ran w wr
theorem enterL_cons (most : Int) (k : ByteArray) (ks : List ByteArray) (m : Now) : Now.enterL most (k :: ks) m = if ((m.s.T k).getD ⟨#[]⟩).size = 0 then Now.enterL most ks m else if (m.delT most k).1 = 0 then Now.enterL most ks (m.delT most k).2 else m.delT most k := rfl
set_option maxRecDepth 100000 in
set_option maxHeartbeats 8000000 in
theorem Enter_calls (K : Ctx) (n : Now) (w : World) (R : Hp) (hN : n.N ≤ 900000) (hms : n.ms.length ≤ 1000000) (hT : ∀ ks, KeysOf n.s.T ks → ks.length ≤ 1000 ∧ ∀ k ∈ ks, k.size ≤ 1000000) (h : SAt K w n R) :
    Calls Tryz.prog 38 #[pp K.sb] w fun e w' => EnterSays K n R e w' ∧ Ran w w' := by
  obtain ⟨c0, c1, c2, c3, c4, c5, c6, cz⟩ := h.cells
  have HK := Lib.hid (keysT K n w R (by omega) h)
  have HT := Lib.hid hT
  have HN := Lib.hid (And.intro hN hms)
  clear h hT hN hms
  go_enter Tryz.func38, Tryz.ntmps38
  go_wp2_with fail
  refine HK.out.mono ?_
  rintro e w1 ⟨⟨q, qc, ks, rfl, hk, hkl, HS⟩, hB⟩
  have Hk := Lib.hid hk
  obtain ⟨hkl3, hks⟩ := HT.out ks hk
  have Hks := Lib.hid (And.intro hkl3 hks)
  have HS0 := Lib.hid HS
  have R1 := Lib.hid (hB.mono (Nat.zero_le _) : Ran w w1)
  have hklI : (ks.length : Int) ≤ 1000000 := by omega
  clear hk hkl HS hB HK HT hkl3 hks c0 c1 c2 c3 c4 c5 c6 cz
  go_wp2_with fail
  go_loopg [4, 5, 6, 7, 16] (ks.length) (EtRel K n R ks q qc w)
  case atStart => exact ⟨0, n, rfl, by omega, by rw [List.drop_zero], by omega, rfl, HS0.out, R1.out⟩
  case round =>
    obtain ⟨i, m, rfl, hg, hE, hmN, hmm, HSi, HR⟩ := hrel
    clear HS0 R1
    obtain ⟨c0, c1, c2, c3, c4, c5, c6, cz⟩ := HSi.cells
    by_cases hlt : i < ks.length
    · have hltI : (i : Int) < ks.length := by omega
      have hi0 : (0 : Int) ≤ i := by omega
      obtain ⟨x, hx⟩ : ∃ x, x = ks[i] := ⟨_, rfl⟩
      have hxs : x.size ≤ maxLen := by have := Hks.out.2 x (by rw [hx]; exact List.getElem_mem hlt); unfold maxLen; omega
      obtain ⟨qb, qo, hq⟩ := (HSi.rest).arr_addr (by have := HSi.rest.arr_len; omega)
      subst hq
      have hci : wr.cell? ⟨qb, qo + i, none⟩ = some (.string x) := by
        rw [HSi.rest.arr_cell i (by rw [List.length_map]; exact hlt), List.getElem_map, hx]
      have hE2 := hE
      rw [List.drop_eq_getElem_cons hlt, ← hx, enterL_cons] at hE2
      have HTr := Lib.hid (Trap_calls K m x wr _ hxs HSi)
      obtain ⟨tv, htv⟩ : ∃ tv, tv = (m.s.T x).getD ⟨#[]⟩ := ⟨_, rfl⟩
      obtain ⟨tb, htb⟩ : ∃ tb, tb = (m.s.T x).isSome := ⟨_, rfl⟩
      rw [← htv, ← htb] at HTr
      rw [← htv] at hE2
      have hem := tol tv []
      have hem2 : (tv.toList == ([] : List UInt8)) = decide (tv.size = 0) := beq_nil tv
      have HSi0 := Lib.hid HSi
      have HRi := Lib.hid HR
      have hmN2 : m.N ≤ 1000000 := by have := HN.out.1; have := Hks.out.1; omega
      have hmm2 : m.ms.length ≤ 1000000 := by rw [hmm]; exact HN.out.2
      by_cases hz : tv.size = 0
      · rw [if_pos hz] at hE2
        rw [decide_eq_true hz] at hem2
        have HE := Lib.hid hE2
        have Hm := Lib.hid (And.intro hmN hmm)
        clear hx htv htb hz hem hE2 hE HSi HR hmN hmm hmN2 hmm2 hxs
        go_wp2_with fail
        refine HTr.out.mono ?_
        rintro e w2 ⟨rfl, hB2⟩
        have HS2 := Lib.hid (HSi0.out.below hB2)
        have R2 := Lib.hid (Below.trans HRi.out (hB2.mono (Nat.zero_le _)))
        clear hB2 hci HTr c0 c1 c2 c3 c4 c5 c6 cz
        go_wp2_with fail
        go_roundg (gk - 1)
        case rel => exact ⟨i + 1, m, by simp, by omega, HE.out, by have := Hm.out.1; omega, Hm.out.2, HS2.out, R2.out⟩
        case measure => omega
      · rw [if_neg hz] at hE2
        rw [decide_eq_false hz] at hem2
        have hsome : (m.s.T x).isSome = true := by
          cases hc : m.s.T x with
          | none => rw [hc] at htv; exact absurd (by rw [htv]; rfl) hz
          | some _ => rfl
        have hd : m.delT K.most x = m.put K.most { m.s with T := delM m.s.T x } := by
          unfold Now.delT
          rw [if_neg (by rw [hsome]; decide)]
        rw [hd] at hE2
        have Hsm := Lib.hid hsome
        have HE := Lib.hid hE2
        have Hm := Lib.hid (And.intro hmN hmm)
        have Hfit := Lib.hid (And.intro hmN2 (And.intro hmm2 hxs))
        have hput : (m.put K.most { m.s with T := delM m.s.T x }).2.N = m.N + 2 ∧ (m.put K.most { m.s with T := delM m.s.T x }).2.ms = m.ms := ⟨rfl, rfl⟩
        have Hput := Lib.hid hput
        clear hx htv htb hz hem hE2 hE HSi HR hmN hmm hmN2 hmm2 hxs hsome hd hput
        go_wp2_with fail
        refine HTr.out.mono ?_
        rintro e w2 ⟨rfl, hB2⟩
        have HS2 := HSi0.out.below hB2
        have R2 := Lib.hid (Below.trans HRi.out (hB2.mono (Nat.zero_le _)))
        clear c0 c1 c2 c3 c4 c5 c6 cz
        obtain ⟨c0, c1, c2, c3, c4, c5, c6, cz⟩ := HS2.cells
        have HD := Lib.hid (ndelT K w2 m _ x Hfit.out.2.2 Hfit.out.1 Hfit.out.2.1 Hsm.out HS2)
        clear hB2 hci HTr HS2
        go_wp2_with fail
        refine HD.out.mono ?_
        rintro e w3 ⟨⟨rfl, HS3⟩, R3⟩
        have R3 := Lib.hid (Below.trans R2.out R3)
        have HS3 := Lib.hid HS3
        obtain ⟨en, hen⟩ : ∃ en, en = (m.put K.most { m.s with T := delM m.s.T x }).1 := ⟨_, rfl⟩
        have hcase : en = 0 ∨ en = 43 := by rw [hen]; exact tE_cases _ _ _
        have hE3 := HE.out
        rw [← hen] at hE3 ⊢
        rcases hcase with rfl | rfl
        · rw [if_pos rfl] at hE3
          have HE3 := Lib.hid hE3
          clear hE3 HE hen HD
          go_wp2_with fail
          go_roundg (gk - 1)
          case rel => exact ⟨i + 1, _, by simp, by omega, HE3.out, by rw [Hput.out.1]; have := Hm.out.1; omega, by rw [Hput.out.2]; exact Hm.out.2, HS3.out, R3.out⟩
          case measure => omega
        · rw [if_neg (by decide)] at hE3
          have HE3 := Lib.hid hE3
          have Hen := Lib.hid hen
          clear hE3 HE hen HD
          go_wp2_with fail
          go_ret
          refine ⟨⟨ks, Hk.out, by rw [← HE3.out, ← Hen.out]; rfl, ?_⟩, R3.out⟩
          rw [← HE3.out]
          exact HS3.out.right
    · have hge : i = ks.length := by omega
      subst hge
      rw [List.drop_length] at hE
      have HE := Lib.hid hE
      have HS9 := Lib.hid HSi
      have HR9 := Lib.hid HR
      clear HSi HR hE
      go_wp2_with fail
      go_ret
      refine ⟨⟨ks, Hk.out, by rw [← HE.out]; rfl, ?_⟩, HR9.out⟩
      rw [← HE.out]
      exact HS9.out.right
/-- A state in which nothing is known. -/
def n0 : Now := ⟨[], [], 0, ⟨fun _ => none, fun _ => none, fun _ => none, fun _ => none, ⟨#[]⟩, [], 1, 0⟩, 0⟩
def s0 : Sta := ⟨fun _ => none, fun _ => none, fun _ => none, fun _ => none, ⟨#[]⟩, ⟨none, 0, 0, 1, 0, []⟩⟩
set_option maxRecDepth 100000 in
set_option maxHeartbeats 8000000 in
theorem New_calls (lb : Nat) (most nest : Int) (w : World) (R : Hp) (h : LogAt w lb most nest [] [] R) :
    Calls Tryz.prog 21 #[.pointer (some ⟨lb, 0, none⟩)] w fun e w' => (∃ K : Ctx, K.lb = lb ∧ K.most = most ∧ K.nest = nest ∧ e = .returned (.tuple #[pp K.sb, .int .i64 0]) ∧ SAt K w' n0 R) ∧ Ran w w' := by
  obtain ⟨np, nc, qp, qc, HS⟩ := h
  have H0 := Lib.hid HS
  clear HS
  go_enter Tryz.func21, Tryz.ntmps21
  go_wp2_with fail
  refine (VM.newmap_calls (some ⟨lb, 0, none⟩) w _ H0.out).mono ?_
  rintro e w1 ⟨vb, rfl, H1, R1⟩
  have H1 := Lib.hid H1
  have R1 := Lib.hid R1
  go_wp2_with fail
  refine (NM.newmap_calls (some ⟨lb, 0, none⟩) w1 _ H1.out).mono ?_
  rintro e w2 ⟨fb, rfl, H2, R2⟩
  have H2 := Lib.hid H2
  have R2 := Lib.hid (Below.trans R1.out R2)
  go_wp2_with fail
  refine (SM.newmap_calls (some ⟨lb, 0, none⟩) w2 _ H2.out).mono ?_
  rintro e w3 ⟨ab, rfl, H3, R3⟩
  have H3 := Lib.hid H3
  have R3 := Lib.hid (Below.trans R2.out R3)
  go_wp2_with fail
  refine (SM.newmap_calls (some ⟨lb, 0, none⟩) w3 _ H3.out).mono ?_
  rintro e w4 ⟨tb, rfl, H4, R4⟩
  have H4 := Lib.hid H4
  have R4 := Lib.hid (Below.trans R3.out R4)
  go_wp2_with fail
  refine (OC.newcell_calls (some ⟨lb, 0, none⟩) ⟨#[]⟩ w4 _ H4.out).mono ?_
  rintro e w5 ⟨ob, rfl, H5, R5⟩
  have H5 := Lib.hid H5
  have R5 := Lib.hid (Below.trans R4.out R5)
  go_wp2_with fail
  refine (GC.newcell_calls (some ⟨lb, 0, none⟩) ⟨none, 0, 0, 1, 0, []⟩ w5 _ H5.out).mono ?_
  rintro e w6 ⟨gb, rfl, H6, R6⟩
  have H6 := Lib.hid H6
  have R6 := Lib.hid (Below.trans R5.out R6)
  go_wp2_with fail
  go_ret2
  have H7 := H6.out.alloc (stO ⟨vb, fb, ab, tb, ob, gb⟩ 0)
  refine ⟨⟨⟨lb, w6.heap.size, ⟨vb, fb, ab, tb, ob, gb⟩, most, nest⟩, rfl, rfl, rfl, rfl, ?_⟩, Ran.new R6.out _⟩
  refine ⟨[], s0, [], rfl, rfl, fun x hx => by obtain rfl := List.mem_singleton.1 hx; exact ⟨rfl, Nat.le_refl _, .inl rfl⟩, [], 0, rfl, chain_nil _, by simp, Nat.le_refl _, np, nc, qp, qc, ?_⟩
  have he : all row1 [] = emp := rfl
  have he2 : all (Nt.own ⟨vb, fb, ab, tb, ob, gb⟩) [] = emp := rfl
  refine H7.perm ?_
  show _ = pts lb (logO most nest np 0 nc qp 0 qc) * (notes np 0 nc [] * (marksA qp qc [] * (all (Nt.own ⟨vb, fb, ab, tb, ob, gb⟩) [] * (lies (some ⟨lb, 0, none⟩) ⟨vb, fb, ab, tb, ob, gb⟩ 0 s0 * (pts w6.heap.size (stO ⟨vb, fb, ab, tb, ob, gb⟩ 0) * (all row1 [] * R))))))
  rw [he, he2, emp_sep, emp_sep]
  unfold lies s0
  dsimp only
  ac_rfl
def BegunSays (most : Int) (R : Hp) (e : Ending) (w' : World) : Prop := ∃ K : Ctx, K.most = most ∧ K.nest = 20 ∧ e = .returned (.tuple #[pp K.sb, pp K.lb, .bool true]) ∧ SAt K w' n0 R
set_option maxRecDepth 100000 in
set_option maxHeartbeats 8000000 in
theorem begun_calls (most : Int) (h1 : 0 ≤ most) (h2 : most ≤ 1048576) (w : World) (R : Hp) (h : Sat w R) :
    Calls Tryz.prog 8 #[.int .i64 most] w fun e w' => BegunSays most R e w' ∧ Ran w w' := by
  have HN := Lib.hid (new_calls most 20 h1 h2 (by decide) (by decide) w R h)
  clear h
  go_enter Tryz.func8, Tryz.ntmps8
  go_wp2_with fail
  refine HN.out.mono ?_
  rintro e w1 ⟨rfl, HL, R1⟩
  obtain ⟨lb, hlb⟩ : ∃ lb, lb = w.heap.size := ⟨_, rfl⟩
  rw [← hlb] at HL ⊢
  have HW := Lib.hid (New_calls lb most 20 w1 R HL)
  have R1 := Lib.hid R1
  clear HL hlb HN
  go_wp2_with fail
  refine HW.out.mono ?_
  rintro e w2 ⟨⟨K, rfl, rfl, hnest, rfl, HS⟩, R2⟩
  have HS := Lib.hid HS
  have R2 := Lib.hid (Below.trans R1.out R2)
  clear HW
  go_wp2_with fail
  go_ret3
  exact ⟨⟨K, rfl, hnest, rfl, HS.out⟩, R2.out⟩
end Go.Proofs.YtlmjidandjemjaaGreatDoor.State
