/- StateFixed: what is fixed keeps its value, and stays. (printed by gen_stfx.py) -/
import Derived.Test.YtlmjidandjemjaaGreatDoorStGd
import Derived.Test.YtlmjidandjemjaaGreatDoorTie
import Derived.Test.YtlmjidandjemjaaGreatDoorCards
import Derived.SevenTiedAt
import Derived.Stop.Joined
namespace Go.Proofs.YtlmjidandjemjaaGreatDoor.stateFixed
open Go.ChangeShapes Go.WideShapes Go.ChangeAt Go.RowKit Go.Proofs.YtlmjidandjemjaaGreatDoor Go.Proofs.YtlmjidandjemjaaGreatDoor.Hp Go.Proofs.YtlmjidandjemjaaGreatDoor.Undo Go.Proofs.YtlmjidandjemjaaGreatDoor.State Go.ChangeMaps
set_option linter.unusedVariables false
attribute [local go_sem] Oper.semAt_some

theorem fin_true {W w1 w2 : World} (h1 : Ran W w1) (hs : Sat w2 (keep W)) (h2 : Ran w1 w2) : Below W.heap.size W w2 := Ran.whole' (Below.trans h1 h2) hs
theorem keep_texts {W w : World} {p : Option Addr} {l : List ByteArray} (h : TextsAt W p l) {S : Hp} (hs : Sat w (S * keep W)) : StrsAt w p l := by
  have hk := hs.right.kept
  rcases h.strs with h0 | ⟨b, o, hp, hc⟩
  · exact .inl h0
  · refine .inr ⟨b, o, hp, fun j hj => ?_⟩
    rw [← hc j hj]
    exact World.cell?_of_block (w := W) (hk b (World.block_lt_of_cell? _ _ (hc j hj)))
set_option maxRecDepth 100000 in
set_option maxHeartbeats 4000000 in
theorem few_any (l : List Opr) (ao : Option Addr) (cap : Nat) (w : World) (hl : OpsAt w ao l) :
    Calls Tryz.prog 13 #[.slice ao l.length cap] w (FewSays l w) := by
  by_cases h : l.length ≤ 9223372036854775807
  · exact few_calls l ao cap w hl h
  · have h50I : (50 : Int) < l.length := by omega
    clear h hl
    go_enter Tryz.func13, Tryz.ntmps13
    go_wp2_with fail
    go_ret
    exact ⟨⟨false, rfl, fun h => by cases h⟩, rfl⟩
/-- The two calls ahead. -/
theorem starts (K : Ctx) (k v : ByteArray) (hk : isName k = true) (hks : k.size ≤ 200) (hv : v.size ≤ 200) :
    ∃ n1 n2 : Now, n0.setP K.most k v = (0, n1) ∧ n1.markP K.most k false true = (0, n2) ∧ GoodN 20 n1 ∧ GoodN 40 n2 ∧ FixAt k v n2.s := by
  have hn : ¬ (isName k = false) := by rw [hk]; decide
  have h1 : n0.setP K.most k v = n0.put K.most { n0.s with V := putM n0.s.V k ⟨v, true, (n0.s.var k).exp || n0.s.option 97, false⟩ } := by
    unfold Now.setP
    rw [if_neg hn, if_neg (by omega)]
    exact if_neg (fun h => by cases h)
  have hg1 : GoodN 20 (n0.put K.most { n0.s with V := putM n0.s.V k ⟨v, true, (n0.s.var k).exp || n0.s.option 97, false⟩ }).2 := put_good K.most good0 (goodP_putV good0.s (by omega) (by show v.size ≤ 5000; omega))
  obtain ⟨n1, hn1⟩ : ∃ n1, n1 = (n0.put K.most { n0.s with V := putM n0.s.V k ⟨v, true, (n0.s.var k).exp || n0.s.option 97, false⟩ }).2 := ⟨_, rfl⟩
  have hms : n1.ms = [] := by rw [hn1]; rfl
  have hvar : n1.s.var k = ⟨v, true, (n0.s.var k).exp || n0.s.option 97, false⟩ := by
    rw [hn1]
    show (putM n0.s.V k _ k).getD VM.zt = _
    rw [putM_at, if_pos rfl]
    rfl
  rw [← hn1] at hg1
  have h2 : n1.markP K.most k false true = n1.put K.most { n1.s with V := putM n1.s.V k ⟨v, true, (n0.s.var k).exp || n0.s.option 97, true⟩ } := by
    unfold Now.markP
    rw [if_neg hn]
    dsimp only
    rw [hvar]
    dsimp only
    rw [if_neg (by unfold nilVar; simp)]
    simp
  refine ⟨n1, (n1.put K.most { n1.s with V := putM n1.s.V k ⟨v, true, (n0.s.var k).exp || n0.s.option 97, true⟩ }).2, by rw [h1, hn1]; rfl, ?_, hg1, put_good K.most hg1 (goodP_putV hg1.s (by omega) (by show v.size ≤ 5000; omega)), ?_⟩
  · rw [h2]
    exact Prod.ext (show tE K.most n1.hist n1.ms = 0 by rw [hms]; rfl) rfl
  · have e : (n1.put K.most { n1.s with V := putM n1.s.V k ⟨v, true, (n0.s.var k).exp || n0.s.option 97, true⟩ }).2.s = { n1.s with V := putM n1.s.V k ⟨v, true, (n0.s.var k).exp || n0.s.option 97, true⟩ } := by
      show (if tE K.most n1.hist n1.ms = 0 then _ else _) = _
      rw [hms]
      rfl
    rw [e]
    have e2 : Pst.var { n1.s with V := putM n1.s.V k ⟨v, true, (n0.s.var k).exp || n0.s.option 97, true⟩ } k = ⟨v, true, (n0.s.var k).exp || n0.s.option 97, true⟩ := by
      show (putM n1.s.V k _ k).getD VM.zt = _
      rw [putM_at, if_pos rfl]
      rfl
    unfold FixAt
    rw [e2]
    exact ⟨rfl, rfl, rfl⟩
theorem unnamed (K : Ctx) (k v : ByteArray) (hk : isName k = false) (n : Now) : n.setP K.most k v = (16, n) ∧ n.markP K.most k true true = (16, n) ∧ n.unsetP K.most k = (16, n) := by
  unfold Now.setP Now.markP Now.unsetP
  rw [if_pos hk, if_pos hk, if_pos hk]
  exact ⟨rfl, rfl, rfl⟩
def Rel (K : Ctx) (l : List Opr) (k v : ByteArray) (W : World) (g : Nat) (v11 v12 v13 : Value) (wr : World) : Prop :=
  ∃ (i : Nat) (n : Now), v11 = .int .i64 (i : Int) ∧ i + g = l.length ∧ GoodN (40 + 20 * i) n ∧ FixAt k v n.s ∧ SAt K wr n (keep W) ∧ Ran W wr
set_option maxRecDepth 100000 in
set_option maxHeartbeats 16000000 in
theorem walk (ao : Option Addr) (cap : Nat) (l : List Opr) (k v : ByteArray) (W : World) (hl : OpsAt W ao l) (hk : (k.size : Int) ≤ 9223372036854775807) (hv : (v.size : Int) ≤ 9223372036854775807) (hg : Glob (keep W)) :
    Calls Tryz.prog 4 #[.slice ao l.length cap, .string k, .string v] W fun e w' => e = .returned (.bool true) ∧ Below W.heap.size W w' := by
  have HF := Lib.hid (few_any l ao cap W hl)
  have HB := Lib.hid (begun_calls 1000 (by decide) (by decide) W (keep W) (Sat.start W))
  have HA := Lib.hid (fun w hw => awake_calls w (keep W) hg hw)
  have HL := Lib.hid hl
  have HG := Lib.hid hg
  clear hl hg
  go_enter Tryz.func4, Tryz.ntmps4
  go_wp2_with fail
  refine HF.out.mono ?_
  rintro e w1 ⟨⟨r, rfl, hr⟩, rfl⟩
  clear HF
  cases r with
  | false =>
    have hA := Lib.hid (HA.out W (Sat.start W))
    clear hr HB
    go_wp2_with fail
    refine hA.out.mono ?_
    rintro e w9 ⟨⟨rfl, h2⟩, h3⟩
    have h2 := Lib.hid h2
    have h3 := Lib.hid h3
    clear hA
    go_wp2_with fail
    go_ret
    exact ⟨rfl, fin_true (Below.refl 0 W) h2.out h3.out⟩
  | true =>
    have HFw := Lib.hid (hr rfl)
    clear hr
    by_cases hk2 : 200 < k.size
    · have hk2I : (200 : Int) < k.size := by omega
      have hA := Lib.hid (HA.out W (Sat.start W))
      clear HB hk2
      go_wp2_with fail
      refine hA.out.mono ?_
      rintro e w9 ⟨⟨rfl, h2⟩, h3⟩
      have h2 := Lib.hid h2
      have h3 := Lib.hid h3
      clear hA
      go_wp2_with fail
      go_ret
      exact ⟨rfl, fin_true (Below.refl 0 W) h2.out h3.out⟩
    by_cases hv2 : 200 < v.size
    · have hk2I : (k.size : Int) ≤ 200 := by omega
      have hv2I : (200 : Int) < v.size := by omega
      have hA := Lib.hid (HA.out W (Sat.start W))
      clear HB hk2 hv2
      go_wp2_with fail
      refine hA.out.mono ?_
      rintro e w9 ⟨⟨rfl, h2⟩, h3⟩
      have h2 := Lib.hid h2
      have h3 := Lib.hid h3
      clear hA
      go_wp2_with fail
      go_ret
      exact ⟨rfl, fin_true (Below.refl 0 W) h2.out h3.out⟩
    have hk2I : (k.size : Int) ≤ 200 := by omega
    have hv2I : (v.size : Int) ≤ 200 := by omega
    have Hk2 := Lib.hid (show k.size ≤ 200 by omega)
    have Hv2 := Lib.hid (show v.size ≤ 200 by omega)
    clear hk2 hv2
    go_wp2_with fail
    refine HB.out.mono ?_
    rintro e w1 ⟨⟨K, hm, hnest, rfl, S1⟩, Rn1⟩
    have HM := Lib.hid hm
    have HK := Lib.hid hnest
    have Rn1 := Lib.hid Rn1
    clear hm hnest HB
    have HC := Set_calls K n0 k v w1 _ (by have := Hk2.out; unfold maxLen; omega) (by have := Hv2.out; unfold maxLen; omega) (by decide) (by decide) S1
    have HN := Lib.hid (fun w => Name_calls k w hk)
    clear S1
    cases hn : isName k with
    | false =>
      obtain ⟨u1, u2, u3⟩ := unnamed K k v hn n0
      rw [u1] at HC
      rw [hn] at HN
      have HC := Lib.hid HC
      have Hu := Lib.hid (And.intro u2 u3)
      clear u1 u2 u3 hn
      go_wp2_with fail
      refine HC.out.mono ?_
      rintro e w2 ⟨⟨rfl, S2⟩, R2⟩
      have R2 := Lib.hid (Below.trans Rn1.out R2)
      have HC2 := Mark_calls K n0 k true true w2 _ (by have := Hk2.out; unfold maxLen; omega) (by decide) (by decide) S2
      rw [Hu.out.1] at HC2
      have HC2 := Lib.hid HC2
      clear HC Rn1 S2
      go_wp2_with fail
      refine (HN.out w2).mono ?_
      rintro e w3 ⟨rfl, rfl⟩
      clear HN
      go_wp2_with fail
      refine HC2.out.mono ?_
      rintro e w3 ⟨⟨rfl, S3⟩, R3⟩
      have R3 := Lib.hid (Below.trans R2.out R3)
      have HC3 := Unset_calls K n0 k w3 _ (by have := Hk2.out; unfold maxLen; omega) (by decide) (by decide) S3
      rw [Hu.out.2] at HC3
      have HC3 := Lib.hid HC3
      clear HC2 R2 S3
      go_wp2_with fail
      refine HC3.out.mono ?_
      rintro e w4 ⟨⟨rfl, S4⟩, R4⟩
      have R4 := Lib.hid (Below.trans R3.out R4)
      have S4 := Lib.hid S4
      clear HC3 R3
      have hA := Lib.hid (HA.out w4 S4.out.rest)
      skip
      go_wp2_with fail
      refine hA.out.mono ?_
      rintro e w9 ⟨⟨rfl, h2⟩, h3⟩
      have h2 := Lib.hid h2
      have h3 := Lib.hid h3
      clear hA
      go_wp2_with fail
      go_ret
      exact ⟨rfl, fin_true R4.out h2.out h3.out⟩
    | true =>
      obtain ⟨n1, n2, u1, u2, g1, g2, f2⟩ := starts K k v hn Hk2.out Hv2.out
      rw [u1] at HC
      rw [hn] at HN
      have HC := Lib.hid HC
      have Hu := Lib.hid u2
      have G1 := Lib.hid g1
      have G2 := Lib.hid g2
      have F2 := Lib.hid f2
      have Hn := Lib.hid hn
      clear u1 u2 hn g1 g2 f2
      go_wp2_with fail
      refine HC.out.mono ?_
      rintro e w2 ⟨⟨rfl, S2⟩, R2⟩
      have R2 := Lib.hid (Below.trans Rn1.out R2)
      have HC2 := Mark_calls K n1 k false true w2 _ (by have := Hk2.out; unfold maxLen; omega) (by have := G1.out.N; omega) (by have := G1.out.ms; omega) S2
      rw [Hu.out] at HC2
      have HC2 := Lib.hid HC2
      clear HC Rn1 S2
      go_wp2_with fail
      refine (HN.out w2).mono ?_
      rintro e w3 ⟨rfl, rfl⟩
      clear HN
      go_wp2_with fail
      refine HC2.out.mono ?_
      rintro e w3 ⟨⟨rfl, S3⟩, R3⟩
      have R3 := Lib.hid (Below.trans R2.out R3)
      have S3 := Lib.hid S3
      clear HC2 R2
      go_wp2_with fail
      go_loopg [11, 12, 13] (l.length) (Rel K l k v W)
      case atStart => exact ⟨0, n2, rfl, by omega, G2.out, F2.out, S3.out, R3.out⟩
      case round =>
        obtain ⟨i, n, rfl, hgk, hG, hFx, HSi, HRi⟩ := hrel
        clear S3 R3 G1 G2 F2 Hu
        by_cases hlt : i < l.length
        · have hltI : (i : Int) < l.length := by omega
          have hi0 : (0 : Int) ≤ i := by omega
          have h50 : l.length ≤ 50 := HFw.out.1
          obtain ⟨op, hope⟩ : ∃ op, op = l[i] := ⟨_, rfl⟩
          have hfo : FewO op := by rw [hope]; exact HFw.out.2 _ (List.getElem_mem hlt)
          obtain ⟨okx, b, o, rfl, hbW, o0, o1, o2, o3, o4⟩ := HL.out i hlt
          rw [← hope] at okx o0 o1 o2 o3 o4
          have HopA := Lib.hid (fun (W' : World) (hk : ∀ k, k < W.heap.size → W'.heap[k]? = W.heap[k]?) => (And.intro ((World.cell?_of_block (w := W) (hk b hbW)).trans o0) (And.intro ((World.cell?_of_block (w := W) (hk b hbW)).trans o1) (And.intro ((World.cell?_of_block (w := W) (hk b hbW)).trans o2) (And.intro ((World.cell?_of_block (w := W) (hk b hbW)).trans o3) ((World.cell?_of_block (w := W) (hk b hbW)).trans o4)))) : W'.cell? ⟨b, o + i * 5, none⟩ = some (.int .i64 op.ask) ∧ W'.cell? ⟨b, o + i * 5 + 1, none⟩ = some (.string op.k) ∧ W'.cell? ⟨b, o + i * 5 + 2, none⟩ = some (.string op.t) ∧ W'.cell? ⟨b, o + i * 5 + 3, none⟩ = some (.int .i64 op.n) ∧ W'.cell? ⟨b, o + i * 5 + 4, none⟩ = some (.slice op.p op.L.length op.c)))
          have HAk := Lib.hid (ask_calls op wr okx.1)
          obtain ⟨o0, o1, o2, o3, o4⟩ := HopA.out wr HSi.rest.kept
          have HTx := Lib.hid okx.2.2.2.2
          have Hok := Lib.hid okx
          have HG2 := Lib.hid hG
          have HFx := Lib.hid hFx
          have HS0 := Lib.hid HSi
          have HR0 := Lib.hid HRi
          have Hfo := Lib.hid hfo
          clear hope hfo okx hG hFx HSi HRi hbW
          by_cases h18 : 18 ≤ askI op
          · go_wp2_with fail
            refine HAk.out.mono ?_
            rintro e w4 ⟨rfl, hB4⟩
            have S4 := Lib.hid (HS0.out.below hB4)
            have R4 := Lib.hid (Below.trans HR0.out (hB4.mono (Nat.zero_le _)))
            clear hB4 HAk HS0 HR0 o0 o1 o2 o3 o4
            go_wp2_with fail
            go_roundg (gk - 1)
            case rel => exact ⟨i + 1, n, by simp, by omega, HG2.out.le (by omega), HFx.out, S4.out, R4.out⟩
            case measure => omega
          · have h18I : askI op < 18 := by omega
            clear h18
            go_wp2_with fail
            refine HAk.out.mono ?_
            rintro e w4 ⟨rfl, hB4⟩
            have S4 := HS0.out.below hB4
            have R4 := Lib.hid (Below.trans HR0.out (hB4.mono (Nat.zero_le _)))
            have hfit := fit_of HG2.out (by omega) HK.out Hfo.out Hok.out.1 Hok.out.2.2.2.1 (keep_texts HTx.out (S := emp) (by rw [emp_sep]; exact S4.rest)) HG.out
            have HD := Lib.hid (does_calls K n op w4 _ hfit S4)
            clear o0 o1 o2 o3 o4
            obtain ⟨o0, o1, o2, o3, o4⟩ := HopA.out w4 S4.rest.kept
            clear hB4 HAk HS0 HR0 S4 hfit
            go_wp2_with fail
            refine HD.out.mono ?_
            rintro e w5 ⟨⟨en, m, rfl, hdo, S5⟩, R5⟩
            have hG5 := does_good HG2.out HK.out Hfo.out hdo
            obtain ⟨hF5, hen⟩ := does_fix HFx.out Hn.out hdo h18I
            have R5 := Lib.hid (Below.trans R4.out R5)
            have HV := Var_calls K m k w5 _ (by have := Hk2.out; unfold maxLen; omega) S5
            have HF5 := Lib.hid hF5
            have S5 := Lib.hid S5
            have HG5 := Lib.hid hG5
            obtain ⟨y, hy⟩ : ∃ y, y = m.s.var k := ⟨_, rfl⟩
            obtain ⟨f1, f2, f3⟩ := hF5
            rw [← hy] at f1 f2 f3 HV
            obtain ⟨yv, ys, ye, yf⟩ := y
            dsimp only at f1 f2 f3 HV
            subst f1 f2 f3
            have HV := Lib.hid HV
            clear hy hdo hG5 HD R4 o0 o1 o2 o3 o4
            go_wp2_with fail
            refine HV.out.mono ?_
            rintro e w6 ⟨rfl, hB6⟩
            have S6 := Lib.hid (S5.out.below hB6)
            have R6 := Lib.hid (Below.trans R5.out (hB6.mono (Nat.zero_le _)))
            clear HV S5 R5 hB6
            have S7 := S6.out.alloc (VM.boxO ⟨yv, true, ye, true⟩)
            have R7 : Ran W (w6.alloc (VM.boxO ⟨yv, true, ye, true⟩)) := Ran.new R6.out _
            obtain ⟨w7, hw7⟩ : ∃ w7, w7 = w6.alloc (VM.boxO ⟨yv, true, ye, true⟩) := ⟨_, rfl⟩
            obtain ⟨vb, hvb⟩ : ∃ b, b = w6.heap.size := ⟨_, rfl⟩
            rw [← hw7, ← hvb] at S7
            rw [← hw7] at R7
            obtain ⟨z0, z1, z2, z3⟩ := VM.box_cells S7.rest
            have HAk2 := Lib.hid (ask_calls op w7 Hok.out.1)
            obtain ⟨o0, o1, o2, o3, o4⟩ := HopA.out w7 S7.rest.right.kept
            have S7 := Lib.hid S7
            have R7 := Lib.hid R7
            have Hen := Lib.hid hen
            clear S6 R6 hen
            go_upto_region 17 with fail
            rw [← hw7, ← hvb]
            clear hw7 hvb
            have fin : ∀ w8, SAt K w8 m (pts vb (VM.boxO ⟨yv, true, ye, true⟩) * keep W) → Ran W w8 → Rel K l k yv W (gk - 1) (.int .i64 ((i : Int) + 1)) (.int .i64 en) (.pointer (some ⟨vb, 0, none⟩)) w8 := fun w8 h8 r8 => ⟨i + 1, m, by simp, by omega, HG5.out.le (by omega), HF5.out, h8.right, r8⟩
            have Fin := Lib.hid fin
            clear fin
            by_cases hle : askI op ≤ 1
            · by_cases hke : op.k = k
              · have hen2 := Hen.out hle hke
                have Hke := Lib.hid hke
                clear hke
                rcases hen2 with rfl | rfl
                all_goals
                  go_wp2_with fail
                  refine HAk2.out.mono ?_
                  rintro e w8 ⟨rfl, hB8⟩
                  have S8 := S7.out.below hB8
                  have R8 := Lib.hid (Below.trans R7.out (hB8.mono (Nat.zero_le _)))
                  clear o0 o1 o2 o3 o4
                  obtain ⟨o0, o1, o2, o3, o4⟩ := HopA.out w8 S8.rest.right.kept
                  rw [Hke.out] at o1
                  have S8 := Lib.hid S8
                  clear hB8 HAk2 S7 R7
                  go_wp2_with fail
                  go_roundg (gk - 1)
                  case rel => exact Fin.out _ S8.out R8.out
                  case measure => omega
              · have hkl : ¬ op.k.toList = k.toList := fun h => hke (by
                  rw [ByteArray.toList_eq, ByteArray.toList_eq] at h
                  exact ByteArray.ext (Array.ext' h))
                clear hke
                go_wp2_with fail
                refine HAk2.out.mono ?_
                rintro e w8 ⟨rfl, hB8⟩
                have S8 := S7.out.below hB8
                have R8 := Lib.hid (Below.trans R7.out (hB8.mono (Nat.zero_le _)))
                clear o0 o1 o2 o3 o4
                obtain ⟨o0, o1, o2, o3, o4⟩ := HopA.out w8 S8.rest.right.kept
                have S8 := Lib.hid S8
                clear hB8 HAk2 S7 R7
                go_wp2_with fail
                go_roundg (gk - 1)
                case rel => exact Fin.out _ S8.out R8.out
                case measure => omega
            · have hleI : 1 < askI op := by omega
              clear hle
              go_wp2_with fail
              refine HAk2.out.mono ?_
              rintro e w8 ⟨rfl, hB8⟩
              have S8 := Lib.hid (S7.out.below hB8)
              have R8 := Lib.hid (Below.trans R7.out (hB8.mono (Nat.zero_le _)))
              clear hB8 HAk2 S7 R7 o0 o1 o2 o3 o4
              go_wp2_with fail
              go_roundg (gk - 1)
              case rel => exact Fin.out _ S8.out R8.out
              case measure => omega
        · have hge : i = l.length := by omega
          subst hge
          have S4 := Lib.hid HSi
          have R4 := Lib.hid HRi
          clear HSi HRi hG hFx
          have hA := Lib.hid (HA.out wr S4.out.rest)
          skip
          go_wp2_with fail
          refine hA.out.mono ?_
          rintro e w9 ⟨⟨rfl, h2⟩, h3⟩
          have h2 := Lib.hid h2
          have h3 := Lib.hid h3
          clear hA
          go_wp2_with fail
          go_ret
          exact ⟨rfl, fin_true R4.out h2.out h3.out⟩
theorem own : ownKnob Tryz.prog.godebug = none := by kernel_rfl
theorem laidOut : laidOutB Tryz.prog = true := by kernel_rfl

set_option maxRecDepth 100000 in
theorem lifted (os : Os) (started : os.Started) (H : Type) (enc : TypeId × Value → H) :
    ReturnsInHanded {} Tryz.checked os 4 .any (fun w args => (Rows.stateFixedSpec.pre enc Tryz.prog Tryz.f4 Rows.stateFixedRow.domain false w args ∧ laidMetH Tryz.prog Rows.stateFixedRow.laid w) ∧ sizedMet enc Tryz.prog Tryz.f4 (OpenSpec.ofChange Rows.stateFixedSpec) false w args) (Rows.stateFixedSpec.post enc Tryz.prog Tryz.f4 false true false false) := by
  refine handed_shaped (C := Tryz.checked) (X := fun w _ => laidMetH Tryz.prog Rows.stateFixedRow.laid w) (fun _ _ _ hh h => h.of_heap hh) own started (by kernel_rfl) Tryz.func4
    (ChangeSpec.witness_shaped (enc := enc) (C := Tryz.checked) (os := os) (X := fun w _ => laidMetH Tryz.prog Rows.stateFixedRow.laid w) false (World.laidAll Tryz.prog os Rows.stateFixedRow.laid) #[.slice none 0 0, .string ⟨#[]⟩, .string ⟨#[]⟩] 8 (World.laidAll_os _ _ _)
      (World.shaped_of_ZipB (by kernel_rfl) (by kernel_rfl)) (by kernel_rfl) (by kernel_rfl) (by kernel_rfl)
      (by rw [MakeChecks.laidMetH_plain _ _ _ (by kernel_rfl)]; exact laidMet_laidAll _ (by kernel_rfl) (by kernel_rfl))) ?_
  intro W base args ds gs before hval0 hW hcnd _ hL hsh
  have hval : ∀ (j : Nat) t v, Tryz.f4.params[j]? = some t → args[j]? = some v → Value.okWide Tryz.prog W .any base t v := hval0
  have hW' := hW
  obtain ⟨p, q, hA0, hV, rfl, hfz, hnd⟩ := hW
  have hA : DataW.TrodAll enc Tryz.prog W 0 (fun _ => true) true Tryz.f4.params.toList args.toList ds p := hA0
  rw [Tryz.params4] at hA hval
  obtain ⟨v0, vs0, d0, ds0, p0, q0, hargs, rfl, rfl, h0, r0⟩ := trodAll_cons hA
  obtain ⟨v1, vs1, d1, ds1, p1, q1, rfl, rfl, rfl, h1, r1⟩ := trodAll_cons r0
  obtain ⟨v2, vs2, d2, ds2, p2, q2, rfl, rfl, rfl, h2, r2⟩ := trodAll_cons r1
  obtain ⟨rfl, rfl, rfl⟩ := trodAll_nil r2
  obtain rfl : args = #[v0, v1, v2] := by cases args; simp_all
  obtain ⟨rfl, rfl⟩ := trodVars_none hV
  have k0 := h0
  have lt0 : ∀ x ∈ p0, x.block < W.heap.size := by obtain ⟨m, hm⟩ := k0; exact DataW.trod_lt m _ _ _ hm
  obtain ⟨ao0, l0, cap0, rfl, w0⟩ := ops_open (hval 0 33 v0 rfl rfl) h0
  obtain ⟨s1, rfl, rfl, rfl, w1⟩ := open_string Tryz.underlying9 (hval 1 9 v1 rfl rfl) h1
  obtain ⟨s2, rfl, rfl, rfl, w2⟩ := open_string Tryz.underlying9 (hval 2 9 v2 rfl rfl) h2
  clear hA0 hval0
  refine (walk ao0 cap0 l0 s1 s2 W w0 (by unfold maxLen at w1; omega) (by unfold maxLen at w2; omega) (glob_keep hsh)).mono fun e W' ⟨he, bel⟩ => ?_
  subst he
  exact ⟨_, rfl, _, _, _, [], _, [], hW', trodAll_mk1 (shut_bool Tryz.underlying4 _), (trodAll_cons_mk (Below.trod laidOut (by kernel_rfl) (of_decide_eq_true (by kernel_rfl)) k0 bel lt0) (trodAll_cons_mk (shut_string Tryz.underlying9 w1) (trodAll_cons_mk (shut_string Tryz.underlying9 w2) trodAll_mk0))), rfl, bel.frame _, fun h => by cases h⟩

theorem over : Rows.stateFixedRow.holds Tryz.pinned (OpenSpec.ofChange Rows.stateFixedSpec) :=
  OpenClaim.holds_of_wide 4 Tryz.f4 rfl rfl rfl rfl rfl rfl rfl ⟨rfl, rfl, rfl, rfl, rfl⟩ rfl rfl rfl rfl rfl (by kernel_rfl) Tryz.func4 (by kernel_rfl)
    (of_decide_eq_true (by kernel_rfl)) (by unfold Func.isWrapper; first | (rw [if_pos (by decide +kernel)]; kernel_rfl) | (rw [if_neg (by decide +kernel)]; exact ⟨rfl, rfl⟩))
    (fun os started H enc _ => lifted os started H enc)

theorem proved : Rows.StateFixedCardSaid :=
  Claim7.holds_tied_plain_at .later [] [.data, .pinned] true (true, "83f1ec9fe5598e44ca1373aaa29f11eda85e46993f0c38abd82652bee74b7ab8") false over (fun _ h => by cases h) (by kernel_rfl) (fun _ h => by cases h) stateFixed_row_tie rfl ⟨rfl, rfl⟩ (by kernel_rfl) rfl
    (fun f fn hf hfn => by
      obtain rfl : f = 4 := Option.some.inj ((show Tryz.prog.funcNamed "whelk/whelklaw10.StateFixed" = some 4 by kernel_rfl).symm.trans hf) |>.symm
      obtain rfl : fn = Tryz.f4 := (Option.some.inj (Tryz.func4.symm.trans hfn)).symm
      exact ⟨by kernel_rfl, fun j t ht => by
        rw [Tryz.params4] at ht
        have hm : t ∈ [33, 9, 9] := by simpa using Array.mem_of_getElem? ht
        have hall : ([33, 9, 9].all fun u => !Tryz.prog.wantsStandIn u) = true := by kernel_rfl
        exact (show Tryz.prog.wantsStandIn t = false by simpa using List.all_eq_true.1 hall t hm)⟩)
    (by kernel_rfl)
#print axioms proved
end Go.Proofs.YtlmjidandjemjaaGreatDoor.stateFixed
