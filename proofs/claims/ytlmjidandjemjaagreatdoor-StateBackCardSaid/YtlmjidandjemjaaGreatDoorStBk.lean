/- StateBack: behind an Undo all is as it was at the mark, but for the status. (printed by gen_stbk.py) -/
import Derived.Test.YtlmjidandjemjaaGreatDoorStTp
import Derived.Test.YtlmjidandjemjaaGreatDoorStOx
import Derived.Test.YtlmjidandjemjaaGreatDoorTie
import Derived.Test.YtlmjidandjemjaaGreatDoorCards
import Derived.SevenTiedAt
import Derived.Stop.Joined
namespace Go.Proofs.YtlmjidandjemjaaGreatDoor.stateBack
open Go.ChangeShapes Go.WideShapes Go.ChangeAt Go.RowKit Go.Proofs.YtlmjidandjemjaaGreatDoor Go.Proofs.YtlmjidandjemjaaGreatDoor.Hp Go.Proofs.YtlmjidandjemjaaGreatDoor.Undo Go.Proofs.YtlmjidandjemjaaGreatDoor.State Go.ChangeMaps
set_option linter.unusedVariables false
attribute [local go_sem] Oper.semAt_some

theorem fin_true {W w1 w2 : World} (h1 : Ran W w1) (hs : Sat w2 (keep W)) (h2 : Ran w1 w2) : Below W.heap.size W w2 := Ran.whole' (Below.trans h1 h2) hs
theorem keep_texts {W w : World} {p : Option Addr} {l : List ByteArray} (h : TextsAt W p l) {S : Hp} (hs : Sat w (S * keep W)) : StrsAt w p l := by
  have hk := hs.right.kept
  rcases h.strs with h0 | ⟨b, o, hp, hc⟩
  · exact .inl h0
  · refine .inr ⟨b, o, hp, fun j hj => ?_⟩
    rw [← hc j hj]
    exact World.cell?_of_block (w := W) (hk b (World.block_lt_of_cell? _ _ (hc j hj)))
set_option maxRecDepth 100000 in
set_option maxHeartbeats 4000000 in
theorem few_any (l : List Opr) (ao : Option Addr) (cap : Nat) (w : World) (hl : OpsAt w ao l) :
    Calls Tryz.prog 13 #[.slice ao l.length cap] w (FewSays l w) := by
  by_cases h : l.length ≤ 9223372036854775807
  · exact few_calls l ao cap w hl h
  · have h50I : (50 : Int) < l.length := by omega
    clear h hl
    go_enter Tryz.func13, Tryz.ntmps13
    go_wp2_with fail
    go_ret
    exact ⟨⟨false, rfl, fun h => by cases h⟩, rfl⟩

/-- The names that calls name, beside a state. -/
theorem nameds_S (K : Ctx) (n : Now) (l : List Opr) (ao : Option Addr) (cap : Nat) (W w : World) (X : Hp) (hl : OpsAt W ao l) (h50 : l.length ≤ 100) (h : SAt K w n (X * keep W)) :
    Calls Tryz.prog 24 #[.slice ao l.length cap] w fun e w' => (∃ p c, e = .returned (.slice p (l.map Opr.k).length c) ∧ SAt K w' n (arr 9 1 p (l.map Opr.k).length c ((l.map Opr.k).map sv) * (X * keep W))) ∧ Ran w w' := by
  obtain ⟨Y, h1, h2⟩ := h.frame
  refine (nameds_calls l ao cap W w (Y * X) hl h50 (h1.perm (by ac_rfl))).mono ?_
  rintro e w' ⟨⟨p, c, rfl, hs⟩, hr⟩
  refine ⟨⟨p, c, by rw [List.length_map], ?_⟩, hr⟩
  rw [List.length_map, List.map_map]
  exact h2 _ _ (hs.perm (show _ = Y * (arr 9 1 p l.length c (l.map fun o => sv o.k) * (X * keep W)) by ac_rfl))
def RelA (K : Ctx) (l : List Opr) (W : World) (g : Nat) (v8 : Value) (wr : World) : Prop :=
  ∃ (i : Nat) (n : Now), v8 = .int .i64 (i : Int) ∧ i + g = l.length ∧ GoodN (20 * i) n ∧ SAt K wr n (emp * keep W) ∧ Ran W wr
def RelB (K : Ctx) (n0 : Now) (l : List Opr) (W : World) (R : Hp) (g : Nat) (v16 : Value) (wr : World) : Prop :=
  ∃ (i : Nat) (m : Now) (rest : List Nat), v16 = .int .i64 (i : Int) ∧ i + g = l.length ∧ GoodN (1000 + 20 * i) m ∧ BehindN n0 rest m ∧ SAt K wr m (R * keep W) ∧ Ran W wr
def RelC (K : Ctx) (n0 : Now) (q : Int) (W : World) (R : Hp) (g : Nat) (wr : World) : Prop :=
  ∃ m : Now, ((g = 0 ∧ m.s = n0.s ∧ m.ms = n0.ms) ∨ (∃ rest, g = rest.length + 1 ∧ BehindN n0 rest m)) ∧ GoodN 2000 m ∧ m.q = q ∧ SAt K wr m (R * keep W) ∧ Ran W wr
/-- A mark undone. -/
theorem behindN_one {n0 m : Now} {rest : List Nat} (h : BehindN n0 rest m) (hm : Marked m.hist.length m.ms.reverse) :
    m.undoM.1 = 0 ∧ m.undoM.2.q = m.q ∧ ((rest.length = 0 ∧ m.undoM.2.s = n0.s ∧ m.undoM.2.ms = n0.ms) ∨ (∃ rest', rest.length = rest'.length + 1 ∧ BehindN n0 rest' m.undoM.2)) := by
  by_cases hr : rest = []
  · subst hr
    obtain ⟨e1, e2, e3, e4, e5, e6⟩ := behindN_back h
    exact ⟨e1, e5, .inl ⟨rfl, e4, e3⟩⟩
  · have hd := List.dropLast_concat_getLast hr
    rw [← hd] at h
    have hms : m.ms = (n0.ms ++ n0.hist.length :: rest.dropLast) ++ [rest.getLast hr] := by rw [h.ms]; simp
    have hu := undoM_snoc m _ _ hms
    refine ⟨by rw [hu], by rw [hu], .inr ⟨rest.dropLast, ?_, behindN_undo h hm⟩⟩
    have := congrArg List.length hd
    rw [List.length_append] at this
    exact this.symm
set_option maxRecDepth 100000 in
set_option maxHeartbeats 32000000 in
theorem walk (ao : Option Addr) (acap : Nat) (la : List Opr) (bo : Option Addr) (bcap : Nat) (lb : List Opr) (W : World) (hla : OpsAt W ao la) (hlb : OpsAt W bo lb) (hg : Glob (keep W)) :
    Calls Tryz.prog 6 #[.slice ao la.length acap, .slice bo lb.length bcap] W fun e w' => e = .returned (.bool true) ∧ Below W.heap.size W w' := by
  have HF := Lib.hid (few_any la ao acap W hla)
  have HF2 := Lib.hid (few_any lb bo bcap W hlb)
  have HB := Lib.hid (begun_calls 1000 (by decide) (by decide) W (keep W) (Sat.start W))
  have HA := Lib.hid (fun w hw => awake_calls w (keep W) hg hw)
  have HLA := Lib.hid hla
  have HLB := Lib.hid hlb
  have HG := Lib.hid hg
  clear hla hlb hg
  go_enter Tryz.func6, Tryz.ntmps6
  go_wp2_with fail
  refine HF.out.mono ?_
  rintro e w1 ⟨⟨r, rfl, hr⟩, rfl⟩
  clear HF
  cases r with
  | false =>
    have hA := Lib.hid (HA.out W (Sat.start W))
    clear hr HB HF2
    go_wp2_with fail
    refine hA.out.mono ?_
    rintro e w9 ⟨⟨rfl, h2⟩, h3⟩
    have h2 := Lib.hid h2
    have h3 := Lib.hid h3
    clear hA
    go_wp2_with fail
    go_ret
    exact ⟨rfl, fin_true (Below.refl 0 W) h2.out h3.out⟩
  | true =>
    have HFa := Lib.hid (hr rfl)
    clear hr
    go_wp2_with fail
    refine HF2.out.mono ?_
    rintro e w1 ⟨⟨r, rfl, hr⟩, rfl⟩
    clear HF2
    cases r with
    | false =>
      have hA := Lib.hid (HA.out W (Sat.start W))
      clear hr HB
      go_wp2_with fail
      refine hA.out.mono ?_
      rintro e w9 ⟨⟨rfl, h2⟩, h3⟩
      have h2 := Lib.hid h2
      have h3 := Lib.hid h3
      clear hA
      go_wp2_with fail
      go_ret
      exact ⟨rfl, fin_true (Below.refl 0 W) h2.out h3.out⟩
    | true =>
    have HFb := Lib.hid (hr rfl)
    clear hr
    go_wp2_with fail
    refine HB.out.mono ?_
    rintro e w1 ⟨⟨K, hm, hnest, rfl, S1⟩, Rn1⟩
    have HM := Lib.hid hm
    have HK := Lib.hid hnest
    have Rn1 := Lib.hid Rn1
    have S1 := Lib.hid (S1.perm (show _ = emp * keep W by rw [emp_sep]))
    clear hm hnest HB
    go_wp2_with fail
    go_loopg [8] (la.length) (RelA K la W)
    case atStart => exact ⟨0, n0, rfl, by omega, good0, S1.out, Rn1.out⟩
    case round =>
      obtain ⟨i, n, rfl, hgk, hG, HSi, HRi⟩ := hrel
      clear S1 Rn1
      by_cases hlt : i < la.length
      · have hltI : (i : Int) < la.length := by omega
        have hi0 : (0 : Int) ≤ i := by omega
        have h50 : la.length ≤ 50 := HFa.out.1
        obtain ⟨op, hope⟩ : ∃ op, op = la[i] := ⟨_, rfl⟩
        have hfo : FewO op := by rw [hope]; exact HFa.out.2 _ (List.getElem_mem hlt)
        obtain ⟨okx, b, o, rfl, hbW, o0, o1, o2, o3, o4⟩ := HLA.out i hlt
        rw [← hope] at okx o0 o1 o2 o3 o4
        have HopA := Lib.hid (fun (W' : World) (hk : ∀ k, k < W.heap.size → W'.heap[k]? = W.heap[k]?) => (And.intro ((World.cell?_of_block (w := W) (hk b hbW)).trans o0) (And.intro ((World.cell?_of_block (w := W) (hk b hbW)).trans o1) (And.intro ((World.cell?_of_block (w := W) (hk b hbW)).trans o2) (And.intro ((World.cell?_of_block (w := W) (hk b hbW)).trans o3) ((World.cell?_of_block (w := W) (hk b hbW)).trans o4)))) : W'.cell? ⟨b, o + i * 5, none⟩ = some (.int .i64 op.ask) ∧ W'.cell? ⟨b, o + i * 5 + 1, none⟩ = some (.string op.k) ∧ W'.cell? ⟨b, o + i * 5 + 2, none⟩ = some (.string op.t) ∧ W'.cell? ⟨b, o + i * 5 + 3, none⟩ = some (.int .i64 op.n) ∧ W'.cell? ⟨b, o + i * 5 + 4, none⟩ = some (.slice op.p op.L.length op.c)))
        have HTx := Lib.hid okx.2.2.2.2
        have Hok := Lib.hid okx
        have Hfo := Lib.hid hfo
        obtain ⟨o0, o1, o2, o3, o4⟩ := HopA.out wr HSi.rest.right.kept
        have hfit : Fit K n op wr (emp * keep W) := fit_of hG (by omega) HK.out hfo okx.1 okx.2.2.2.1 (keep_texts HTx.out (S := emp) HSi.rest) (Glob.more HG.out)
        have HD := Lib.hid (does_calls K n op wr _ hfit HSi)
        have HG2 := Lib.hid hG
        have HR0 := Lib.hid HRi
        clear hope hfo okx hG HSi HRi hbW hfit
        go_wp2_with fail
        refine HD.out.mono ?_
        rintro e w5 ⟨⟨en, m, rfl, hdo, S5⟩, R5⟩
        have HG5 := Lib.hid (does_good HG2.out HK.out Hfo.out hdo)
        have R5 := Lib.hid (Below.trans HR0.out R5)
        have S5 := Lib.hid S5
        clear hdo HD HR0 o0 o1 o2 o3 o4
        go_wp2_with fail
        go_roundg (gk - 1)
        case rel => exact ⟨i + 1, m, by simp, by omega, HG5.out, S5.out, R5.out⟩
        case measure => omega
      · have hge : i = la.length := by omega
        have h50a : la.length ≤ 50 := HFa.out.1
        have h50b : lb.length ≤ 50 := HFb.out.1
        have hG1 : GoodN 1000 n := hG.le (by omega)
        have HN1 := Lib.hid (nameds_S K n la ao acap W wr emp HLA.out (by omega) HSi)
        have HG1 := Lib.hid hG1
        have HRi := Lib.hid HRi
        clear hG hG1 HSi hlt
        go_wp2_with fail
        refine HN1.out.mono ?_
        rintro e w2 ⟨⟨p1, c1, rfl, S2⟩, R2⟩
        have R2 := Lib.hid (Below.trans HRi.out R2)
        have HN2 := Lib.hid (nameds_S K n lb bo bcap W w2 _ HLB.out (by omega) (S2.perm (show _ = (arr 9 1 p1 (la.map Opr.k).length c1 ((la.map Opr.k).map sv) * emp) * keep W by ac_rfl)))
        have hml : (la.map Opr.k).length ≤ 50 := by rw [List.length_map]; exact h50a
        have hmb : (lb.map Opr.k).length ≤ 50 := by rw [List.length_map]; exact h50b
        have hza : ∀ x ∈ la.map Opr.k, x.size ≤ maxLen := fun x hx => by
          obtain ⟨y, hy, rfl⟩ := List.mem_map.1 hx
          have := (HFa.out.2 y hy).1
          unfold maxLen; omega
        have hzb : ∀ x ∈ lb.map Opr.k, x.size ≤ maxLen := fun x hx => by
          obtain ⟨y, hy, rfl⟩ := List.mem_map.1 hx
          have := (HFb.out.2 y hy).1
          unfold maxLen; omega
        obtain ⟨na, hna⟩ : ∃ na, na = la.map Opr.k := ⟨_, rfl⟩
        obtain ⟨nb, hnb⟩ : ∃ nb, nb = lb.map Opr.k := ⟨_, rfl⟩
        rw [← hna] at HN2 hml hza ⊢
        rw [← hnb] at HN2 hmb hzb
        clear S2 HN1 HRi hna hnb
        have Hza := Lib.hid hza
        have Hzb := Lib.hid hzb
        clear hza hzb
        go_wp2_with fail
        refine HN2.out.mono ?_
        rintro e w3 ⟨⟨p2, c2, rfl, S3⟩, R3⟩
        have hst : StrsAt w3 p2 nb := StrsAt.arr S3.rest
        have R3 := Lib.hid (Below.trans R2.out R3)
        have HSB := S3.perm (show _ = arr 9 1 p1 na.length c1 (na.map sv) * (arr 9 1 p2 nb.length c2 (nb.map sv) * (emp * keep W)) by ac_rfl)
        have hn9 : na.length + nb.length ≤ 1000000000 := by omega
        clear HN2 R2 S3
        go_wp2_with (at_builtin; go_loud (refine appS rfl _ _ rfl K n _ p1 c1 na rfl p2 c2 nb nb.length rfl rfl hst HSB hn9 ?_; intro p4 c4 w4 S4 R4; generalize hnm : na ++ nb = names at S4 ⊢; clear HSB))
        have hnl : names.length ≤ 1000 := by rw [← hnm, List.length_append]; omega
        have hnz : ∀ x ∈ names, x.size ≤ maxLen := by
          rw [← hnm]; intro x hx
          rcases List.mem_append.1 hx with hx | hx
          · exact Hza.out x hx
          · exact Hzb.out x hx
        have S4 := S4.perm (show _ = arr 9 1 p2 nb.length c2 (nb.map sv) * (arr 9 1 p4 names.length c4 (names.map sv) * (emp * keep W)) by ac_rfl)
        have S4 := S4.right.perm (show _ = arr 9 1 p4 names.length c4 (names.map sv) * keep W by rw [emp_sep])
        have R4 := Lib.hid (Below.trans R3.out R4)
        have hq : ∀ W', SAt K W' n (arr 9 1 p4 names.length c4 (names.map sv) * keep W) → StrsAt W' p4 names := fun W' hW => StrsAt.arr hW.rest
        have HT := Lib.hid (told_calls K n 1000 HG1.out (by omega) names p4 c4 hnl hnz w4 _ hq S4)
        have Hnz := Lib.hid hnz
        clear S4 hq hnz hnm Hza Hzb hst R3 hml hmb hn9
        go_wp2_with fail
        refine HT.out.mono ?_
        rintro e w5 ⟨⟨ks, al, p5, c5, hks, hal, rfl, S5⟩, R5⟩
        obtain ⟨T, hT⟩ : ∃ T, T = toldL n.s ks al names := ⟨_, rfl⟩
        rw [← hT] at S5 ⊢
        have hTl : T.length ≤ maxLen := by have := S5.rest.arr_len; omega
        have hTl2 : T.length ≤ 9223372036854775807 := by unfold maxLen at hTl; omega
        have R5 := Lib.hid (Below.trans R4.out R5)
        have HC := Lib.hid (Cursor_calls K n w5 _ S5)
        have Hks := Lib.hid hks
        have Hal := Lib.hid hal
        have HT' := Lib.hid hT
        have S5 := Lib.hid S5
        clear hks hal hT HT R4 hTl
        go_wp2_with fail
        refine HC.out.mono ?_
        rintro e w6 ⟨rfl, hB6⟩
        have S6 := S5.out.below hB6
        have R6 := Lib.hid (Below.trans R5.out (hB6.mono (Nat.zero_le _)))
        have hms20 : n.ms.length ≤ 20 := HG1.out.ms
        have HMs := sMarks K n w6 _ S6
        have hK20 : K.nest = 20 := HK.out
        have HMk := sMark K n w6 _ (by rw [hK20]; omega) (by have := HG1.out.N; omega) (by omega) S6
        rw [hK20] at HMk
        clear HC hB6 S5 R5 hK20
        by_cases hc : n.ms.length = 20
        · have he : n.markM 20 = (42, n) := by unfold Now.markM; rw [if_pos (by rw [hc]; rfl)]
          rw [he] at HMk
          rw [hc] at HMs
          have HMs := Lib.hid HMs
          have HMk := Lib.hid HMk
          clear he hc hms20 S6
          go_wp2_with fail
          refine HMs.out.mono ?_
          rintro e w7 ⟨rfl, rfl⟩
          go_wp2_with fail
          refine HMk.out.mono ?_
          rintro e w7 ⟨⟨v, rfl, S7⟩, R7⟩
          have R7 := Lib.hid (Below.trans R6.out R7)
          have S7 := Lib.hid S7
          clear HMs HMk R6
          have hA := Lib.hid (HA.out w7 S7.out.rest.right.right)
          skip
          go_wp2_with fail
          refine hA.out.mono ?_
          rintro e w9 ⟨⟨rfl, h2⟩, h3⟩
          have h2 := Lib.hid h2
          have h3 := Lib.hid h3
          clear hA
          go_wp2_with fail
          go_ret
          exact ⟨rfl, fin_true R7.out h2.out h3.out⟩
        · have he : n.markM 20 = (0, { n with ms := n.ms ++ [n.hist.length] }) := by unfold Now.markM; rw [if_neg (by omega)]
          rw [he] at HMk
          have hbe := behindN_mark n
          obtain ⟨n1, hn1⟩ : ∃ n1 : Now, n1 = { n with ms := n.ms ++ [n.hist.length] } := ⟨_, rfl⟩
          have hgo : GoodN 1000 n1 := by
            rw [hn1]
            exact ⟨HG1.out.s, HG1.out.hist, by show (n.ms ++ [n.hist.length]).length ≤ 20; rw [List.length_append]; show n.ms.length + 1 ≤ 20; omega, HG1.out.N⟩
          rw [← hn1] at HMk hbe
          obtain ⟨mk, hmk⟩ : ∃ mk, mk = n.ms.length := ⟨_, rfl⟩
          rw [← hmk] at HMs hms20
          have hmkI : (mk : Int) ≤ 20 := by omega
          have hmk0 : (0 : Int) ≤ mk := by omega
          have HMs := Lib.hid HMs
          have HMk := Lib.hid HMk
          have Hbe := Lib.hid hbe
          have Hgo := Lib.hid hgo
          have Hmk := Lib.hid hmk
          clear he hc S6 hn1 hgo hbe hmk
          go_wp2_with fail
          refine HMs.out.mono ?_
          rintro e w7 ⟨rfl, rfl⟩
          go_wp2_with fail
          refine HMk.out.mono ?_
          rintro e w7 ⟨⟨v, rfl, S7⟩, R7⟩
          have R7 := Lib.hid (Below.trans R6.out R7)
          have S7 := Lib.hid (S7.perm (show _ = (arr 9 1 p5 T.length c5 (T.map sv) * arr 9 1 p4 names.length c4 (names.map sv)) * keep W by ac_rfl))
          clear HMs HMk R6
          go_wp2_with fail
          go_loopg [16] (lb.length) (RelB K n lb W (arr 9 1 p5 T.length c5 (T.map sv) * arr 9 1 p4 names.length c4 (names.map sv)))
          case atStart => exact ⟨0, n1, [], rfl, by omega, Hgo.out, Hbe.out, S7.out, R7.out⟩
          case round =>
            obtain ⟨i, m, rest, rfl, hgk, hG, hBe, HSi, HRi⟩ := hrel
            clear S7 R7 Hgo Hbe
            have hlen := hBe.len
            rw [← Hmk.out] at hlen
            by_cases hlt : i < lb.length
            · have hltI : (i : Int) < lb.length := by omega
              have hi0 : (0 : Int) ≤ i := by omega
              have h50 : lb.length ≤ 50 := HFb.out.1
              obtain ⟨op, hope⟩ : ∃ op, op = lb[i] := ⟨_, rfl⟩
              have hfo : FewO op := by rw [hope]; exact HFb.out.2 _ (List.getElem_mem hlt)
              obtain ⟨okx, b, o, rfl, hbW, o0, o1, o2, o3, o4⟩ := HLB.out i hlt
              rw [← hope] at okx o0 o1 o2 o3 o4
              have HopA := Lib.hid (fun (W' : World) (hk : ∀ k, k < W.heap.size → W'.heap[k]? = W.heap[k]?) => (And.intro ((World.cell?_of_block (w := W) (hk b hbW)).trans o0) (And.intro ((World.cell?_of_block (w := W) (hk b hbW)).trans o1) (And.intro ((World.cell?_of_block (w := W) (hk b hbW)).trans o2) (And.intro ((World.cell?_of_block (w := W) (hk b hbW)).trans o3) ((World.cell?_of_block (w := W) (hk b hbW)).trans o4)))) : W'.cell? ⟨b, o + i * 5, none⟩ = some (.int .i64 op.ask) ∧ W'.cell? ⟨b, o + i * 5 + 1, none⟩ = some (.string op.k) ∧ W'.cell? ⟨b, o + i * 5 + 2, none⟩ = some (.string op.t) ∧ W'.cell? ⟨b, o + i * 5 + 3, none⟩ = some (.int .i64 op.n) ∧ W'.cell? ⟨b, o + i * 5 + 4, none⟩ = some (.slice op.p op.L.length op.c)))
              have HTx := Lib.hid okx.2.2.2.2
              have Hok := Lib.hid okx
              have Hfo := Lib.hid hfo
              have HAk := Lib.hid (ask_calls op wr okx.1)
              obtain ⟨o0, o1, o2, o3, o4⟩ := HopA.out wr HSi.rest.right.kept
              have HG2 := Lib.hid hG
              have HBe := Lib.hid hBe
              have HS0 := Lib.hid HSi
              have HR0 := Lib.hid HRi
              by_cases h18 : 18 ≤ askI op
              · by_cases hr0 : rest = []
                · have hlen : m.ms.length = mk + 1 := by rw [hlen, hr0]; rfl
                  have Hlen := Lib.hid hlen
                  clear hope hfo okx hG hBe HSi HRi hbW hr0 hlen
                  go_wp2_with fail
                  refine HAk.out.mono ?_
                  rintro e w4 ⟨rfl, hB4⟩
                  have S4 := HS0.out.below hB4
                  have R4 := Lib.hid (Below.trans HR0.out (hB4.mono (Nat.zero_le _)))
                  have HMs := sMarks K m w4 _ S4
                  rw [Hlen.out] at HMs
                  rw [show ((mk + 1 : Nat) : Int) = (mk : Int) + 1 by omega] at HMs
                  have HMs := Lib.hid HMs
                  have S4 := Lib.hid S4
                  clear hB4 HAk HS0 HR0 o0 o1 o2 o3 o4
                  go_wp2_with fail
                  refine HMs.out.mono ?_
                  rintro e w7 ⟨rfl, rfl⟩
                  clear HMs
                  go_wp2_with fail
                  go_roundg (gk - 1)
                  case rel => exact ⟨i + 1, m, rest, by simp, by omega, HG2.out.le (by omega), HBe.out, S4.out, R4.out⟩
                  case measure => omega
                · have hrl : 0 < rest.length := List.length_pos_iff.2 hr0
                  obtain ⟨v, hv⟩ : ∃ v : Int, v = (m.ms.length : Int) := ⟨_, rfl⟩
                  have hvn : ¬ v = (mk : Int) + 1 := by rw [hv, hlen]; omega
                  have hvb : (v == (mk : Int) + 1) = false := by rw [beq_eq_false_iff_ne]; exact hvn
                  have Hv := Lib.hid hv
                  have Hr0 := Lib.hid hr0
                  clear hope hfo okx hG hBe HSi HRi hbW hr0 hlen hv hrl
                  go_wp2_with fail
                  refine HAk.out.mono ?_
                  rintro e w4 ⟨rfl, hB4⟩
                  have S4 := HS0.out.below hB4
                  have R4 := Lib.hid (Below.trans HR0.out (hB4.mono (Nat.zero_le _)))
                  have HMs := sMarks K m w4 _ S4
                  rw [← Hv.out] at HMs
                  have HMs := Lib.hid HMs
                  have hfit : Fit K m op w4 ((arr 9 1 p5 T.length c5 (T.map sv) * arr 9 1 p4 names.length c4 (names.map sv)) * keep W) := fit_of HG2.out (by omega) HK.out Hfo.out Hok.out.1 Hok.out.2.2.2.1 (keep_texts HTx.out S4.rest) (Glob.more HG.out)
                  have HD := Lib.hid (does_calls K m op w4 _ hfit S4)
                  have S4 := Lib.hid S4
                  clear o0 o1 o2 o3 o4
                  obtain ⟨o0, o1, o2, o3, o4⟩ := HopA.out w4 S4.out.rest.right.kept
                  clear hB4 HAk HS0 HR0 hfit
                  go_wp2_with fail
                  refine HMs.out.mono ?_
                  rintro e w7 ⟨rfl, rfl⟩
                  clear HMs
                  go_wp2_with fail
                  refine HD.out.mono ?_
                  rintro e w5 ⟨⟨en, m2, rfl, hdo, S5⟩, R5⟩
                  have HG5 := Lib.hid (does_good HG2.out HK.out Hfo.out hdo)
                  have R5 := Lib.hid (Below.trans R4.out R5)
                  obtain ⟨rest2, hB2⟩ := behindN_do HBe.out S4.out.marked hdo (fun _ => Hr0.out)
                  have HB2 := Lib.hid hB2
                  have S5 := Lib.hid S5
                  clear hdo HD R4 o0 o1 o2 o3 o4 hB2 S4
                  go_wp2_with fail
                  go_roundg (gk - 1)
                  case rel => exact ⟨i + 1, m2, rest2, by simp, by omega, HG5.out, HB2.out, S5.out, R5.out⟩
                  case measure => omega
              · have h18I : askI op < 18 := by omega
                clear h18 hope hfo okx hG hBe HSi HRi hbW hlen
                go_wp2_with fail
                refine HAk.out.mono ?_
                rintro e w4 ⟨rfl, hB4⟩
                have S4 := HS0.out.below hB4
                have R4 := Lib.hid (Below.trans HR0.out (hB4.mono (Nat.zero_le _)))
                have hfit : Fit K m op w4 ((arr 9 1 p5 T.length c5 (T.map sv) * arr 9 1 p4 names.length c4 (names.map sv)) * keep W) := fit_of HG2.out (by omega) HK.out Hfo.out Hok.out.1 Hok.out.2.2.2.1 (keep_texts HTx.out S4.rest) (Glob.more HG.out)
                have HD := Lib.hid (does_calls K m op w4 _ hfit S4)
                have S4 := Lib.hid S4
                clear o0 o1 o2 o3 o4
                obtain ⟨o0, o1, o2, o3, o4⟩ := HopA.out w4 S4.out.rest.right.kept
                clear hB4 HAk HS0 HR0 hfit
                go_wp2_with fail
                refine HD.out.mono ?_
                rintro e w5 ⟨⟨en, m2, rfl, hdo, S5⟩, R5⟩
                have HG5 := Lib.hid (does_good HG2.out HK.out Hfo.out hdo)
                have R5 := Lib.hid (Below.trans R4.out R5)
                obtain ⟨rest2, hB2⟩ := behindN_do HBe.out S4.out.marked hdo (fun h => absurd h (by omega))
                have HB2 := Lib.hid hB2
                have S5 := Lib.hid S5
                clear hdo HD R4 o0 o1 o2 o3 o4 hB2 S4
                go_wp2_with fail
                go_roundg (gk - 1)
                case rel => exact ⟨i + 1, m2, rest2, by simp, by omega, HG5.out, HB2.out, S5.out, R5.out⟩
                case measure => omega
            · have hge : i = lb.length := by omega
              have hgeI : (lb.length : Int) ≤ i := by omega
              have HSt := Lib.hid (Status_calls K m wr _ HSi)
              have HG2 := Lib.hid (hG.le (show 1000 + 20 * i ≤ 2000 by omega))
              have HBe := Lib.hid hBe
              have HSi := Lib.hid HSi
              have HRi := Lib.hid HRi
              obtain ⟨q, hq⟩ : ∃ q, q = m.q := ⟨_, rfl⟩
              rw [← hq] at HSt
              have Hq := Lib.hid hq
              clear hG hBe hlen hge hlt hq
              go_wp2_with fail
              refine HSt.out.mono ?_
              rintro e w7 ⟨rfl, rfl⟩
              clear HSt hgeI
              go_wp2_with fail
              go_loopg [] (rest.length + 1) (fun (g : Nat) (wr : World) => RelC K n q W (arr 9 1 p5 T.length c5 (T.map sv) * arr 9 1 p4 names.length c4 (names.map sv)) g wr)
              case atStart => exact ⟨m, .inr ⟨rest, rfl, HBe.out⟩, HG2.out, Hq.out.symm, HSi.out, HRi.out⟩
              case round =>
                clear HSi HRi HG2 HBe Hq
                obtain ⟨m, hcs, hG, hq, HSi, HRi⟩ := hrel
                have HMs := sMarks K m _ _ HSi
                rcases hcs with ⟨hg0, hs, hms⟩ | ⟨rest2, hgr, hBe⟩
                · rw [hms, ← Hmk.out] at HMs
                  have HMs := Lib.hid HMs
                  have HCu := Cursor_calls K m _ _ HSi
                  rw [hs] at HCu
                  have HCu := Lib.hid HCu
                  have HSi := Lib.hid HSi
                  have HRi := Lib.hid HRi
                  have HG2 := Lib.hid hG
                  have Hq := Lib.hid hq
                  have Hs := Lib.hid hs
                  clear hg0 hs hms hG hq
                  go_wp2_with fail
                  refine HMs.out.mono ?_
                  rintro e w7 ⟨rfl, rfl⟩
                  clear HMs
                  go_wp2_with fail
                  refine HCu.out.mono ?_
                  rintro e w8 ⟨rfl, hB8⟩
                  have S8 := (HSi.out.below hB8).perm (show _ = arr 9 1 p4 names.length c4 (names.map sv) * (arr 9 1 p5 T.length c5 (T.map sv) * keep W) by ac_rfl)
                  have R8 := Lib.hid (Below.trans HRi.out (hB8.mono (Nat.zero_le _)))
                  have hq2 : ∀ W', SAt K W' m (arr 9 1 p4 names.length c4 (names.map sv) * (arr 9 1 p5 T.length c5 (T.map sv) * keep W)) → StrsAt W' p4 names := fun W' hW => StrsAt.arr hW.rest
                  have HTo := Lib.hid (told_calls K m 2000 HG2.out (by omega) names p4 c4 hnl Hnz.out w8 _ hq2 S8)
                  clear hB8 HCu HSi HRi S8 hq2
                  go_wp2_with fail
                  refine HTo.out.mono ?_
                  rintro e w9 ⟨⟨ks2, al2, p9, c9, hks2, hal2, rfl, S9⟩, R9⟩
                  rw [Hs.out] at hks2 hal2 S9 ⊢
                  obtain rfl : ks2 = ks := keys_unique hks2 Hks.out
                  obtain rfl : al2 = al := keys_unique hal2 Hal.out
                  rw [← HT'.out] at S9 ⊢
                  have R9 := Lib.hid (Below.trans R8.out R9)
                  have HTe := texts_calls T T p9 p5 c9 c5 w9 (StrsAt.arr S9.rest) (StrsAt.arr (S9.perm (show _ = arr 9 1 p5 T.length c5 (T.map sv) * (arr 9 1 p9 T.length c9 (T.map sv) * (arr 9 1 p4 names.length c4 (names.map sv) * keep W)) by ac_rfl)).rest) hTl2 hTl2
                  rw [show decide (T = T) = true by simp] at HTe
                  have HTe := Lib.hid HTe
                  have S9 := Lib.hid S9
                  clear hks2 hal2 HTo R8
                  go_wp2_with fail
                  refine HTe.out.mono ?_
                  rintro e w10 ⟨rfl, hB10⟩
                  have S10 := S9.out.below hB10
                  have HSt := Status_calls K m w10 _ S10
                  rw [Hq.out] at HSt
                  have HSt := Lib.hid HSt
                  have S10 := Lib.hid S10
                  have R10 := Lib.hid (Below.trans R9.out (hB10.mono (Nat.zero_le _)))
                  clear HTe hB10 S9 R9
                  go_wp2_with fail
                  refine HSt.out.mono ?_
                  rintro e w11 ⟨rfl, rfl⟩
                  clear HSt
                  have hA := Lib.hid (HA.out w10 S10.out.rest.right.right.right)
                  skip
                  go_wp2_with fail
                  refine hA.out.mono ?_
                  rintro e w9 ⟨⟨rfl, h2⟩, h3⟩
                  have h2 := Lib.hid h2
                  have h3 := Lib.hid h3
                  clear hA
                  go_wp2_with fail
                  go_ret
                  exact ⟨rfl, fin_true R10.out h2.out h3.out⟩
                · have hlen := hBe.len
                  rw [← Hmk.out] at hlen
                  obtain ⟨v, hv⟩ : ∃ v : Int, v = (m.ms.length : Int) := ⟨_, rfl⟩
                  have hvn : (mk : Int) < v := by rw [hv, hlen]; omega
                  have hvn2 : ¬ v ≤ (mk : Int) := by omega
                  rw [← hv] at HMs
                  have hun := sUndo K m _ _ (by have := hG.N; omega) (by have := hG.ms; omega) HSi
                  obtain ⟨e1, e2, e3⟩ := behindN_one hBe HSi.marked
                  rw [e1] at hun
                  have HG5 := Lib.hid (undo_good hG)
                  have Hrel := Lib.hid (And.intro (e2.trans hq) e3)
                  have HMs := Lib.hid HMs
                  have HUn := Lib.hid hun
                  have HRi := Lib.hid HRi
                  clear hlen hv hG hq hBe HSi e1 e2 e3 hun
                  go_wp2_with fail
                  refine HMs.out.mono ?_
                  rintro e w7 ⟨rfl, rfl⟩
                  clear HMs
                  go_wp2_with fail
                  refine HUn.out.mono ?_
                  rintro e w8 ⟨⟨rfl, S8⟩, R8⟩
                  have R8 := Lib.hid (Below.trans HRi.out R8)
                  have S8 := Lib.hid S8
                  clear HUn HRi
                  go_wp2_with fail
                  go_roundg (gk - 1)
                  case rel =>
                    refine ⟨m.undoM.2, ?_, HG5.out, Hrel.out.1, S8.out, R8.out⟩
                    rcases Hrel.out.2 with ⟨x1, x2, x3⟩ | ⟨rest3, x1, x2⟩
                    · exact .inl ⟨by omega, x2, x3⟩
                    · exact .inr ⟨rest3, by omega, x2⟩
                  case measure => omega
theorem own : ownKnob Tryz.prog.godebug = none := by kernel_rfl
theorem laidOut : laidOutB Tryz.prog = true := by kernel_rfl

set_option maxRecDepth 100000 in
theorem lifted (os : Os) (started : os.Started) (H : Type) (enc : TypeId × Value → H) :
    ReturnsInHanded {} Tryz.checked os 6 .any (fun w args => (Rows.stateBackSpec.pre enc Tryz.prog Tryz.f6 Rows.stateBackRow.domain false w args ∧ laidMetH Tryz.prog Rows.stateBackRow.laid w) ∧ sizedMet enc Tryz.prog Tryz.f6 (OpenSpec.ofChange Rows.stateBackSpec) false w args) (Rows.stateBackSpec.post enc Tryz.prog Tryz.f6 false true false false) := by
  refine handed_shaped (C := Tryz.checked) (X := fun w _ => laidMetH Tryz.prog Rows.stateBackRow.laid w) (fun _ _ _ hh h => h.of_heap hh) own started (by kernel_rfl) Tryz.func6
    (ChangeSpec.witness_shaped (enc := enc) (C := Tryz.checked) (os := os) (X := fun w _ => laidMetH Tryz.prog Rows.stateBackRow.laid w) false (World.laidAll Tryz.prog os Rows.stateBackRow.laid) #[.slice none 0 0, .slice none 0 0] 8 (World.laidAll_os _ _ _)
      (World.shaped_of_ZipB (by kernel_rfl) (by kernel_rfl)) (by kernel_rfl) (by kernel_rfl) (by kernel_rfl)
      (by rw [MakeChecks.laidMetH_plain _ _ _ (by kernel_rfl)]; exact laidMet_laidAll _ (by kernel_rfl) (by kernel_rfl))) ?_
  intro W base args ds gs before hval0 hW hcnd _ hL hsh
  have hval : ∀ (j : Nat) t v, Tryz.f6.params[j]? = some t → args[j]? = some v → Value.okWide Tryz.prog W .any base t v := hval0
  have hW' := hW
  obtain ⟨p, q, hA0, hV, rfl, hfz, hnd⟩ := hW
  have hA : DataW.TrodAll enc Tryz.prog W 0 (fun _ => true) true Tryz.f6.params.toList args.toList ds p := hA0
  rw [Tryz.params6] at hA hval
  obtain ⟨v0, vs0, d0, ds0, p0, q0, hargs, rfl, rfl, h0, r0⟩ := trodAll_cons hA
  obtain ⟨v1, vs1, d1, ds1, p1, q1, rfl, rfl, rfl, h1, r1⟩ := trodAll_cons r0
  obtain ⟨rfl, rfl, rfl⟩ := trodAll_nil r1
  obtain rfl : args = #[v0, v1] := by cases args; simp_all
  obtain ⟨rfl, rfl⟩ := trodVars_none hV
  have k0 := h0
  have lt0 : ∀ x ∈ p0, x.block < W.heap.size := by obtain ⟨m, hm⟩ := k0; exact DataW.trod_lt m _ _ _ hm
  obtain ⟨ao0, l0, cap0, rfl, w0⟩ := ops_open (hval 0 33 v0 rfl rfl) h0
  have k1 := h1
  have lt1 : ∀ x ∈ p1, x.block < W.heap.size := by obtain ⟨m, hm⟩ := k1; exact DataW.trod_lt m _ _ _ hm
  obtain ⟨ao1, l1, cap1, rfl, w1⟩ := ops_open (hval 1 33 v1 rfl rfl) h1
  clear hA0 hval0
  refine (walk ao0 cap0 l0 ao1 cap1 l1 W w0 w1 (glob_keep hsh)).mono fun e W' ⟨he, bel⟩ => ?_
  subst he
  exact ⟨_, rfl, _, _, _, [], _, [], hW', trodAll_mk1 (shut_bool Tryz.underlying4 _), (trodAll_cons_mk (Below.trod laidOut (by kernel_rfl) (of_decide_eq_true (by kernel_rfl)) k0 bel lt0) (trodAll_cons_mk (Below.trod laidOut (by kernel_rfl) (of_decide_eq_true (by kernel_rfl)) k1 bel lt1) trodAll_mk0)), rfl, bel.frame _, fun h => by cases h⟩

theorem over : Rows.stateBackRow.holds Tryz.pinned (OpenSpec.ofChange Rows.stateBackSpec) :=
  OpenClaim.holds_of_wide 6 Tryz.f6 rfl rfl rfl rfl rfl rfl rfl ⟨rfl, rfl, rfl, rfl, rfl⟩ rfl rfl rfl rfl rfl (by kernel_rfl) Tryz.func6 (by kernel_rfl)
    (of_decide_eq_true (by kernel_rfl)) (by unfold Func.isWrapper; first | (rw [if_pos (by decide +kernel)]; kernel_rfl) | (rw [if_neg (by decide +kernel)]; exact ⟨rfl, rfl⟩))
    (fun os started H enc _ => lifted os started H enc)

theorem proved : Rows.StateBackCardSaid :=
  Claim7.holds_tied_plain_at .later [] [.data, .pinned] true (true, "83f1ec9fe5598e44ca1373aaa29f11eda85e46993f0c38abd82652bee74b7ab8") false over (fun _ h => by cases h) (by kernel_rfl) (fun _ h => by cases h) stateBack_row_tie rfl ⟨rfl, rfl⟩ (by kernel_rfl) rfl
    (fun f fn hf hfn => by
      obtain rfl : f = 6 := Option.some.inj ((show Tryz.prog.funcNamed "whelk/whelklaw10.StateBack" = some 6 by kernel_rfl).symm.trans hf) |>.symm
      obtain rfl : fn = Tryz.f6 := (Option.some.inj (Tryz.func6.symm.trans hfn)).symm
      exact ⟨by kernel_rfl, fun j t ht => by
        rw [Tryz.params6] at ht
        have hm : t ∈ [33, 33] := by simpa using Array.mem_of_getElem? ht
        have hall : ([33, 33].all fun u => !Tryz.prog.wantsStandIn u) = true := by kernel_rfl
        exact (show Tryz.prog.wantsStandIn t = false by simpa using List.all_eq_true.1 hall t hm)⟩)
    (by kernel_rfl)
#print axioms proved
end Go.Proofs.YtlmjidandjemjaaGreatDoor.stateBack
