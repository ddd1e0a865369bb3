/- HandlesPlays, part 19 of 34: the texts HdPe HdPf HdPg HdPh, joined by a program. -/
import Derived.Test.YtljlpkeddbfpaaaGreatDoorHm12
import Derived.Test.YtljlpkeddbfpaaaGreatDoorHm18
namespace Go.Proofs.YtljlpkeddbfpaaaGreatDoor.Hd
open Go.RowKit Go.Maps Go.Proofs.YtljlpkeddbfpaaaGreatDoor Go.Proofs.YtljlpkeddbfpaaaGreatDoor.Hp
set_option linter.unusedVariables false
attribute [local go_sem] Oper.semAt_some

def padB (T : ByteArray) (a : Nat) : ByteArray := T ++ zerosB (a - T.size)
theorem padB_size (T : ByteArray) (a : Nat) : (padB T a).size = max T.size a := by
  unfold padB; rw [ByteArray.size_append, zeros_size]; omega
theorem zeros_succ (n : Nat) : zerosB (n + 1) = (⟨#[0]⟩ : ByteArray) ++ zerosB n := by
  apply ByteArray.ext
  rw [ByteArray.data_append]
  unfold zerosB
  apply Array.ext'
  simp [Lib.repeatL]
/-- A write told by the document's way. -/
theorem wr_pad (T : ByteArray) (a : Nat) (d : ByteArray) : wrB T a d = nowB (padB T a) a d := by
  by_cases h : a ≤ T.size
  · rw [wr_now T a d h]
    unfold padB
    rw [show a - T.size = 0 by omega, zeros0, empty_add]
  · have hs := padB_size T a
    have hsz : (padB T a).size = a := by omega
    have he : (padB T a).extract 0 a = padB T a := by
      have := cut_all (padB T a); rw [hsz] at this; exact this
    unfold nowB
    rw [he]
    rw [if_neg (by rw [ByteArray.size_append, hsz]; omega)]
    unfold wrB
    rw [show min a T.size = T.size by omega, cut_all, show min (a + d.size) T.size = T.size by omega, cut_end, empty_add]
    rfl
def fwD (room : Int) (L : List DN) (i a : Nat) (x : DN) (d : ByteArray) : Int × List DN :=
  if 4096 < a ∨ 4096 - a < d.size then (21, L) else if d.size = 0 then (0, L)
  else if room < (sizD (L.drop 1) : Int) + ((wrB x.text a d).size : Int) - (x.text.size : Int) then (15, L)
  else (0, L.set i { x with text := wrB x.text a d })
section
variable {w : World} {c : RF} {L : List DN} {R : Hp}
set_option maxRecDepth 100000 in
set_option maxHeartbeats 2000000 in
theorem fwrite_no {i : Nat} (a : Nat) (d : ByteArray) (hi1 : 1 ≤ i) (hi : i < L.length) (hk : L[i].kind = 2) (ha : a ≤ 1000000000) (hd : d.size ≤ 1000000000) (hno : 4096 < a ∨ 4096 - a < d.size ∨ d.size = 0) (h : Sat w (rfHp c L * R)) :
    Calls Tryz.prog 86 #[pp c.fb, .int .i64 (i : Int), .int .i64 (a : Int), .string d] w fun e w' => (e = .returned (.int .i64 (fwD c.room L i a L[i] d).1) ∧ Sat w' (rfHp c (fwD c.room L i a L[i] d).2 * R)) ∧ Ran w w' := by
  have HT := rtext_calls (i : Int) h
  rw [textD_at hi1 hi (by omega) (by omega)] at HT
  have HK := rkind_calls (i : Int) h
  rw [kindD_at hi1 hi, hk] at HK
  have HT := Lib.hid HT
  have HK := Lib.hid HK
  have H0 := Lib.hid (And.intro h (Below.refl 0 w : Ran w w))
  have ha0 : (0 : Int) ≤ (a : Int) := by omega
  have hda : decide ((a : Int) < 0) = false := decide_eq_false (by omega)
  have haI : (a : Int) ≤ 1000000000 := by omega
  have hdI : (d.size : Int) ≤ 1000000000 := by omega
  have hw : IntKind.i64.wrap ((a : Int) + (d.size : Int)) = (a : Int) + (d.size : Int) := IntWalk.i64_in _ (by omega)
  unfold fwD
  by_cases hb1 : 4096 < a
  · rw [if_pos (.inl hb1)]
    have hd1 : decide ((a : Int) > 4096) = true := decide_eq_true (by omega)
    have hd2 : decide ((4096 : Int) < (a : Int)) = true := decide_eq_true (by omega)
    clear h hk hno hb1
    go_enter Tryz.func86, Tryz.ntmps86
    go_wp2_with fail
    refine HT.out.mono ?_
    rintro e w1 ⟨rfl, rfl⟩
    go_wp2_with fail
    refine HK.out.mono ?_
    rintro e w1 ⟨rfl, rfl⟩
    go_wp2_with fail
    go_ret
    exact ⟨⟨rfl, H0.out.1⟩, H0.out.2⟩
  have hd1 : decide ((a : Int) > 4096) = false := decide_eq_false (by omega)
  have hd2 : decide ((4096 : Int) < (a : Int)) = false := decide_eq_false (by omega)
  by_cases hb2 : 4096 - a < d.size
  · rw [if_pos (.inr hb2)]
    have hd3 : decide ((a : Int) + (d.size : Int) > 4096) = true := decide_eq_true (by omega)
    have hd4 : decide ((4096 : Int) < (a : Int) + (d.size : Int)) = true := decide_eq_true (by omega)
    clear h hk hno hb1 hb2
    go_enter Tryz.func86, Tryz.ntmps86
    go_wp2_with fail
    refine HT.out.mono ?_
    rintro e w1 ⟨rfl, rfl⟩
    go_wp2_with fail
    refine HK.out.mono ?_
    rintro e w1 ⟨rfl, rfl⟩
    go_wp2_with fail
    go_ret
    exact ⟨⟨rfl, H0.out.1⟩, H0.out.2⟩
  have hd3 : decide ((a : Int) + (d.size : Int) > 4096) = false := decide_eq_false (by omega)
  have hd4 : decide ((4096 : Int) < (a : Int) + (d.size : Int)) = false := decide_eq_false (by omega)
  have hz : d.size = 0 := by omega
  rw [if_neg (by omega), if_pos hz]
  obtain rfl : d = ⟨#[]⟩ := empty_of hz
  clear h hk hno hb1 hb2 hz hdI hd
  go_enter Tryz.func86, Tryz.ntmps86
  go_wp2_with fail
  refine HT.out.mono ?_
  rintro e w1 ⟨rfl, rfl⟩
  go_wp2_with fail
  refine HK.out.mono ?_
  rintro e w1 ⟨rfl, rfl⟩
  go_wp2_with fail
  go_ret
  exact ⟨⟨rfl, H0.out.1⟩, H0.out.2⟩
set_option maxRecDepth 100000 in
set_option maxHeartbeats 4000000 in
theorem fwrite_go {i : Nat} (a : Nat) (d : ByteArray) (hi1 : 1 ≤ i) (hi : i < L.length) (hL2 : L.length ≤ 2000) (hzz : sizD (L.drop 1) ≤ 100000000) (hr : 0 ≤ c.room ∧ c.room ≤ 1000000000) (hk : L[i].kind = 2) (hts : L[i].text.size ≤ 1000000) (ha : a ≤ 4096) (hd : d.size ≤ 4096 - a) (hz : d.size ≠ 0) (h : Sat w (rfHp c L * R)) :
    Calls Tryz.prog 86 #[pp c.fb, .int .i64 (i : Int), .int .i64 (a : Int), .string d] w fun e w' => (e = .returned (.int .i64 (fwD c.room L i a L[i] d).1) ∧ Sat w' (rfHp c (fwD c.room L i a L[i] d).2 * R)) ∧ Ran w w' := by
  have HT := rtext_calls (i : Int) h
  rw [textD_at hi1 hi (by omega) (by omega)] at HT
  have HK := rkind_calls (i : Int) h
  rw [kindD_at hi1 hi, hk] at HK
  have HT := Lib.hid HT
  have HK := Lib.hid HK
  have HU := Lib.hid (rused_calls (by omega) hL2 hzz h)
  have H0 := Lib.hid (And.intro h (Below.refl 0 w : Ran w w))
  have hlm := rf_len h
  have hlI : (L.length : Int) ≤ 9223372036854775807 := by unfold maxLen at hlm; omega
  obtain ⟨c0, c1, c2⟩ := rf_cells h
  obtain ⟨d0, d1, -⟩ := dn_cells h hi
  have f0 := rf_free h
  unfold fwD
  rw [if_neg (by omega), if_neg hz]
  have hwp := wr_pad L[i].text a d
  have hps := padB_size L[i].text a
  have S1 := Lib.hid (fun (t : ByteArray) => dn_set h hi 1 (.string t) { L[i] with text := t } (by omega) rfl)
  obtain ⟨x, hx⟩ : ∃ x, x = L[i] := ⟨_, rfl⟩
  rw [← hx] at d1 hts hwp hps S1 ⊢
  clear hx
  have ha0 : (0 : Int) ≤ (a : Int) := by omega
  have hda : decide ((a : Int) < 0) = false := decide_eq_false (by omega)
  have hd1 : decide ((a : Int) > 4096) = false := decide_eq_false (by omega)
  have hd2 : decide ((4096 : Int) < (a : Int)) = false := decide_eq_false (by omega)
  have hd3 : decide ((a : Int) + (d.size : Int) > 4096) = false := decide_eq_false (by omega)
  have hd4 : decide ((4096 : Int) < (a : Int) + (d.size : Int)) = false := decide_eq_false (by omega)
  have haI : (a : Int) ≤ 4096 := by omega
  have hdI : (d.size : Int) ≤ 4096 := by omega
  have htI : (x.text.size : Int) ≤ 1000000 := by omega
  have h1 : (0 : Int) ≤ (i : Int) := by omega
  have h2 : (i : Int) < (L.length : Int) := by omega
  have hw : IntKind.i64.wrap ((a : Int) + (d.size : Int)) = (a : Int) + (d.size : Int) := IntWalk.i64_in _ (by omega)
  have hzl : d.toList.isEmpty = false := by
    cases hl : d.toList with
    | nil => exact absurd (by rw [ByteArray.toList_eq] at hl; have := congrArg List.length hl; simpa using this) hz
    | cons y l => rfl
  obtain ⟨o, ho⟩ : ∃ o, o = wrB x.text a d := ⟨_, rfl⟩
  rw [← ho] at hwp ⊢
  have Hwp := Lib.hid (And.intro hwp hps)
  have Hsz := Lib.hid hzz
  obtain ⟨sz, hsz⟩ : ∃ z, z = sizD (L.drop 1) := ⟨_, rfl⟩
  rw [← hsz] at HU hzz ⊢
  have hszI : (sz : Int) ≤ 100000000 := by omega
  obtain ⟨cn, hcn⟩ : ∃ z, z = cntD (L.drop 1) := ⟨_, rfl⟩
  rw [← hcn] at HU
  obtain ⟨zz, hzr⟩ : ∃ z, z = (if c.room < (sz : Int) + (o.size : Int) - (x.text.size : Int) then ((15 : Int), L) else (0, L.set i { x with text := o })) := ⟨_, rfl⟩
  rw [← hzr]
  obtain ⟨ze, zl⟩ := zz
  have HZR := Lib.hid hzr
  clear h hk hwp hps hsz hcn hlm d0 ho hzr
  dsimp only
  go_enter Tryz.func86, Tryz.ntmps86
  go_wp2_with fail
  refine HT.out.mono ?_
  rintro e w1 ⟨rfl, rfl⟩
  go_wp2_with fail
  refine HK.out.mono ?_
  rintro e w1 ⟨rfl, rfl⟩
  go_wp2_with fail
  go_loopg [10] (a - x.text.size) (fun (g : Nat) (v10 : Value) (wr : World) => ∃ s : ByteArray, v10 = .string s ∧ s.size ≤ 1005000 ∧ padB s a = padB x.text a ∧ a - s.size = g ∧ w = wr)
  case atStart => exact ⟨x.text, rfl, by omega, rfl, rfl, rfl⟩
  case round =>
    obtain ⟨s, rfl, hs1, hs2, hg, rfl⟩ := hrel
    have hsI : (s.size : Int) ≤ 1005000 := by omega
    by_cases hlt : s.size < a
    · have hltI : (s.size : Int) < (a : Int) := by omega
      have hov : ¬ s.size + 1 > 9223372036854775807 := by omega
      have HS := Lib.hid (And.intro hs2 hg)
      clear hs2 hg
      go_wp2_with fail
      go_roundg (gk - 1)
      case rel => exact ⟨s ++ ⟨#[0]⟩, rfl, by rw [ByteArray.size_append]; show s.size + 1 ≤ _; omega, by rw [← HS.out.1]; unfold padB; rw [ByteArray.size_append, show a - s.size = (a - (s.size + 1)) + 1 by omega, zeros_succ, ByteArray.append_assoc]; rfl, by rw [ByteArray.size_append, ← HS.out.2]; show a - (s.size + 1) = _; omega, rfl⟩
      case measure => rw [← HS.out.2]; omega
    · have hge : (a : Int) ≤ (s.size : Int) := by omega
      have hge2 : a ≤ s.size := by omega
      have hsp : padB x.text a = s := by rw [← hs2]; unfold padB; rw [show a - s.size = 0 by omega, zeros0, empty_add]
      have HE := Lib.hid (And.intro (show o = nowB s a d by rw [Hwp.out.1, hsp]) hsp)
      clear hs2 hg hsp hlt
      have hso := padB_size x.text a
      by_cases hlt3 : a + d.size < s.size
      · have hlt3I : (a : Int) + (d.size : Int) < (s.size : Int) := by omega
        have hle3 : a + d.size ≤ s.size := by omega
        have hN : nowB s a d = s.extract 0 a ++ d ++ s.extract (a + d.size) s.size := by
          unfold nowB
          have hq : (s.extract 0 a ++ d).size = a + d.size := by rw [ByteArray.size_append, size_cut s a hge2]
          rw [hq, if_pos hlt3]
        have hNs : (nowB s a d).size = s.size := by rw [nowB_size s a d hge2]; omega
        have HN := Lib.hid (And.intro hN hNs)
        clear hN hNs hlt3 hso
        go_wp2_with fail
        rw [← HN.out.1]
        rw [← HE.out.1]
        have hos : o.size ≤ 1010000 := by rw [HE.out.1, HN.out.2]; omega
        have hoI : (o.size : Int) ≤ 1010000 := by omega
        have hr1 := hr.1
        have hr2 := hr.2
        have S2 := Lib.hid (S1.out o)
        clear HN hs1 hsI hge hge2 HE
        refine HU.out.mono ?_
        rintro e w2 ⟨rfl, rfl⟩
        by_cases hro : c.room < (sz : Int) + (o.size : Int) - (x.text.size : Int)
        · have HR := HZR.out
          rw [if_pos hro] at HR
          injection HR with HR1 HR2
          subst HR1 HR2
          clear HZR
          have hroB : decide ((sz : Int) + (o.size : Int) - (x.text.size : Int) > c.room) = true := decide_eq_true hro
          go_wp2_with fail
          go_ret
          exact ⟨⟨rfl, H0.out.1⟩, H0.out.2⟩
        · have HR := HZR.out
          rw [if_neg hro] at HR
          injection HR with HR1 HR2
          subst HR1 HR2
          clear HZR
          have hroB : decide ((sz : Int) + (o.size : Int) - (x.text.size : Int) > c.room) = false := decide_eq_false hro
          have hro2 : (sz : Int) + (o.size : Int) - (x.text.size : Int) ≤ c.room := by omega
          go_wp2_with fail
          go_ret
          exact ⟨⟨rfl, S2.out⟩, Ran.set (Below.refl 0 w) _ _⟩
      · have hlt3I : ¬ (a : Int) + (d.size : Int) < (s.size : Int) := by omega
        have hN : nowB s a d = s.extract 0 a ++ d := by
          unfold nowB
          have hq : (s.extract 0 a ++ d).size = a + d.size := by rw [ByteArray.size_append, size_cut s a hge2]
          rw [hq, if_neg hlt3]
        have hNs : (nowB s a d).size = a + d.size := by rw [nowB_size s a d hge2]; omega
        have HN := Lib.hid (And.intro hN hNs)
        clear hN hNs hlt3 hso
        go_wp2_with fail
        rw [← HN.out.1]
        rw [← HE.out.1]
        have hos : o.size ≤ 1010000 := by rw [HE.out.1, HN.out.2]; omega
        have hoI : (o.size : Int) ≤ 1010000 := by omega
        have hr1 := hr.1
        have hr2 := hr.2
        have S2 := Lib.hid (S1.out o)
        clear HN hs1 hsI hge hge2 HE
        refine HU.out.mono ?_
        rintro e w2 ⟨rfl, rfl⟩
        by_cases hro : c.room < (sz : Int) + (o.size : Int) - (x.text.size : Int)
        · have HR := HZR.out
          rw [if_pos hro] at HR
          injection HR with HR1 HR2
          subst HR1 HR2
          clear HZR
          have hroB : decide ((sz : Int) + (o.size : Int) - (x.text.size : Int) > c.room) = true := decide_eq_true hro
          go_wp2_with fail
          go_ret
          exact ⟨⟨rfl, H0.out.1⟩, H0.out.2⟩
        · have HR := HZR.out
          rw [if_neg hro] at HR
          injection HR with HR1 HR2
          subst HR1 HR2
          clear HZR
          have hroB : decide ((sz : Int) + (o.size : Int) - (x.text.size : Int) > c.room) = false := decide_eq_false hro
          have hro2 : (sz : Int) + (o.size : Int) - (x.text.size : Int) ≤ c.room := by omega
          go_wp2_with fail
          go_ret
          exact ⟨⟨rfl, S2.out⟩, Ran.set (Below.refl 0 w) _ _⟩
/-- Write of a file. -/
theorem dwrite_calls {i : Nat} (a : Nat) (d : ByteArray) (hi1 : 1 ≤ i) (hi : i < L.length) (hL2 : L.length ≤ 2000) (hzz : sizD (L.drop 1) ≤ 100000000) (hr : 0 ≤ c.room ∧ c.room ≤ 1000000000) (hk : L[i].kind = 2) (hts : L[i].text.size ≤ 1000000) (ha : a ≤ 1000000000) (hd : d.size ≤ 1000000000) (h : Sat w (rfHp c L * R)) :
    Calls Tryz.prog 86 #[pp c.fb, .int .i64 (i : Int), .int .i64 (a : Int), .string d] w fun e w' => (e = .returned (.int .i64 (fwD c.room L i a L[i] d).1) ∧ Sat w' (rfHp c (fwD c.room L i a L[i] d).2 * R)) ∧ Ran w w' := by
  by_cases hno : 4096 < a ∨ 4096 - a < d.size ∨ d.size = 0
  · exact fwrite_no a d hi1 hi hk ha hd hno h
  · exact fwrite_go a d hi1 hi hL2 hzz hr hk hts (by omega) (by omega) (by omega) h
end
end Go.Proofs.YtljlpkeddbfpaaaGreatDoor.Hd

namespace Go.Proofs.YtljlpkeddbfpaaaGreatDoor.Hd
open Go.RowKit Go.Maps Go.Proofs.YtljlpkeddbfpaaaGreatDoor Go.Proofs.YtljlpkeddbfpaaaGreatDoor.Hp
set_option linter.unusedVariables false
attribute [local go_sem] Oper.semAt_some

/-- The least number that is not among a row's. -/
structure FreeD (L : List DH) (g : Nat) : Prop where
  pos : 1 ≤ g
  top : g ≤ 100001
  no : placeN L (g : Int) 0 = -1
  le : ∀ j : Nat, 1 ≤ j → j < g → placeN L (j : Int) 0 ≠ -1
section
variable {w : World} {c : RT} {L : List DH} {qn g : Nat} {cf : RF} {N : List DN} {R : Hp}
set_option maxRecDepth 100000 in
set_option maxHeartbeats 4000000 in
theorem RText_ok (s : ByteArray) (hs : s.size ≤ 1048576) (hL : L.length ≤ 100000) (hf : FreeD L g) (h : Sat w (rtHp c L qn * R)) :
    Calls Tryz.prog 49 #[pp c.tb, .string s] w fun e w' => (e = .returned (.tuple #[.int .i64 (g : Int), .int .i64 0]) ∧ ∃ lp lc, Sat w' (rtHp { c with lp := lp, lc := lc } (insN ⟨(g : Int), 2, 1, 0, 0, false, false, false, s, 0, 0⟩ L false) qn * R)) ∧ Ran w w' := by
  have HA := Lib.hid (radd_calls c L qn g ⟨0, 2, 0, 0, 0, false, false, false, s, 0, 0⟩ hL hf.pos hf.top hf.no hf.le w R h)
  have hle : (s.size : Int) ≤ 1048576 := by omega
  clear h hf
  go_enter Tryz.func49, Tryz.ntmps49
  go_wp2_with fail
  refine HA.out.mono ?_
  rintro e w1 ⟨⟨rfl, lp, lc, S1⟩, R1⟩
  have S1 := Lib.hid (And.intro S1 R1)
  clear HA R1
  go_wp2_with fail
  go_ret2
  exact ⟨⟨rfl, lp, lc, S1.out.1⟩, S1.out.2⟩
set_option maxRecDepth 100000 in
set_option maxHeartbeats 4000000 in
theorem RSink_bad (n : Int) (hn : I64 n) (hb : n < 0 ∨ 1048576 < n) :
    Calls Tryz.prog 50 #[pp c.tb, .int .i64 n] w fun e w' => e = .returned (.tuple #[.int .i64 0, .int .i64 1]) ∧ w = w' := by
  by_cases h1 : n < 0
  · have hd : decide (n < 0) = true := decide_eq_true h1
    clear hb
    go_enter Tryz.func50, Tryz.ntmps50
    go_wp2_with fail
    go_ret2
    exact ⟨rfl, rfl⟩
  · have hd : decide (n < 0) = false := decide_eq_false h1
    have hd2 : decide (n > 1048576) = true := decide_eq_true (by omega)
    have hd3 : decide ((1048576 : Int) < n) = true := decide_eq_true (by omega)
    clear hb
    go_enter Tryz.func50, Tryz.ntmps50
    go_wp2_with fail
    go_ret2
    exact ⟨rfl, rfl⟩
set_option maxRecDepth 100000 in
set_option maxHeartbeats 4000000 in
theorem RSink_ok (n : Int) (h1 : 0 ≤ n) (h2 : n ≤ 1048576) (hL : L.length ≤ 100000) (hf : FreeD L g) (h : Sat w (rtHp c L qn * R)) :
    Calls Tryz.prog 50 #[pp c.tb, .int .i64 n] w fun e w' => (e = .returned (.tuple #[.int .i64 (g : Int), .int .i64 0]) ∧ ∃ lp lc, Sat w' (rtHp { c with lp := lp, lc := lc } (insN ⟨(g : Int), 3, 1, 0, 0, false, false, false, ⟨#[]⟩, n, 0⟩ L false) qn * R)) ∧ Ran w w' := by
  have HA := Lib.hid (radd_calls c L qn g ⟨0, 3, 0, 0, 0, false, false, false, ⟨#[]⟩, n, 0⟩ hL hf.pos hf.top hf.no hf.le w R h)
  have hd : decide (n < 0) = false := decide_eq_false (by omega)
  have hd2 : decide (n > 1048576) = false := decide_eq_false (by omega)
  have hd3 : decide ((1048576 : Int) < n) = false := decide_eq_false (by omega)
  clear h hf
  go_enter Tryz.func50, Tryz.ntmps50
  go_wp2_with fail
  refine HA.out.mono ?_
  rintro e w1 ⟨⟨rfl, lp, lc, S1⟩, R1⟩
  have S1 := Lib.hid (And.intro S1 R1)
  clear HA R1
  go_wp2_with fail
  go_ret2
  exact ⟨⟨rfl, lp, lc, S1.out.1⟩, S1.out.2⟩
set_option maxRecDepth 100000 in
set_option maxHeartbeats 4000000 in
/-- File of no node. -/
theorem RFile_none (n : Int) (rd pt mo : Bool) (hrf : c.rf = cf.fb) (hk : kindD N n = 0) (h : Sat w (rtHp c L qn * (rfHp cf N * R))) :
    Calls Tryz.prog 48 #[pp c.tb, .int .i64 n, .bool rd, .bool pt, .bool mo] w fun e w' => (e = .returned (.tuple #[.int .i64 0, .int .i64 10]) ∧ Sat w' (rtHp c L qn * (rfHp cf N * R))) ∧ Ran w w' := by
  obtain ⟨c0, -⟩ := rt_cells h
  rw [hrf] at c0
  have HST := Lib.hid (rstat_none n hk (h.perm (show _ = rfHp cf N * (rtHp c L qn * R) by ac_rfl)))
  clear h hrf hk
  go_enter Tryz.func48, Tryz.ntmps48
  go_wp2_with fail
  refine HST.out.mono ?_
  rintro e w1 ⟨⟨rfl, S1⟩, R1⟩
  have S1 := Lib.hid (And.intro (S1.old (infoD 0 0 0 0)) (Ran.new R1 (infoD 0 0 0 0)))
  clear HST R1
  go_wp2_with fail
  go_ret2
  exact ⟨⟨rfl, S1.out.1.perm (by ac_rfl)⟩, S1.out.2⟩
set_option maxRecDepth 100000 in
set_option maxHeartbeats 4000000 in
/-- File of a directory, a link, or for nothing. -/
theorem RFile_bad {i : Nat} (rd pt mo : Bool) (hrf : c.rf = cf.fb) (hi1 : 1 ≤ i) (hi : i < N.length) (hk : N[i].kind ≠ 0) (hs : N[i].text.size ≤ 1000000 ∧ N[i].kn ≤ 1000000) (hb : N[i].kind = 1 ∨ N[i].kind = 3 ∨ (N[i].kind = 2 ∧ rd = false ∧ pt = false)) (h : Sat w (rtHp c L qn * (rfHp cf N * R))) :
    Calls Tryz.prog 48 #[pp c.tb, .int .i64 (i : Int), .bool rd, .bool pt, .bool mo] w fun e w' => (e = .returned (.tuple #[.int .i64 0, .int .i64 (if N[i].kind = 1 then 13 else 1)]) ∧ Sat w' (rtHp c L qn * (rfHp cf N * R))) ∧ Ran w w' := by
  obtain ⟨c0, -⟩ := rt_cells h
  rw [hrf] at c0
  have HST := Lib.hid (rstat_some hi1 hi hk hs (h.perm (show _ = rfHp cf N * (rtHp c L qn * R) by ac_rfl)))
  obtain ⟨x, hx⟩ : ∃ x, x = N[i] := ⟨_, rfl⟩
  rw [← hx] at HST hb hk ⊢
  clear h hrf hx hs
  obtain ⟨xk, xt, xp, xn, xc, xpa, xna, xh⟩ := x
  dsimp only at HST hb hk ⊢
  by_cases h1 : xk = 1
  · subst h1
    rw [if_pos rfl]
    clear hb hk
    go_enter Tryz.func48, Tryz.ntmps48
    go_wp2_with fail
    refine HST.out.mono ?_
    rintro e w1 ⟨⟨rfl, S1⟩, R1⟩
    obtain ⟨r0, -⟩ := infoD_cells (S1.alloc (infoD 1 ((xt.size : Int) + (xn : Int)) xna xh))
    have S1 := Lib.hid (And.intro (S1.old (infoD 1 ((xt.size : Int) + (xn : Int)) xna xh)) (Ran.new R1 (infoD 1 ((xt.size : Int) + (xn : Int)) xna xh)))
    clear HST R1
    go_wp2_with fail
    go_ret2
    exact ⟨⟨rfl, S1.out.1.perm (by ac_rfl)⟩, S1.out.2⟩
  · rw [if_neg h1]
    have hb1 : (xk == 1) = false := by simp [h1]
    by_cases h3 : xk = 3
    · subst h3
      clear hb hk h1
      go_enter Tryz.func48, Tryz.ntmps48
      go_wp2_with fail
      refine HST.out.mono ?_
      rintro e w1 ⟨⟨rfl, S1⟩, R1⟩
      obtain ⟨r0, -⟩ := infoD_cells (S1.alloc (infoD 3 ((xt.size : Int) + (xn : Int)) xna xh))
      have S1 := Lib.hid (And.intro (S1.old (infoD 3 ((xt.size : Int) + (xn : Int)) xna xh)) (Ran.new R1 (infoD 3 ((xt.size : Int) + (xn : Int)) xna xh)))
      clear HST R1
      go_wp2_with fail
      go_ret2
      exact ⟨⟨rfl, S1.out.1.perm (by ac_rfl)⟩, S1.out.2⟩
    · obtain ⟨rfl, rfl, rfl⟩ : xk = 2 ∧ rd = false ∧ pt = false := by
        rcases hb with h | h | h
        · exact absurd h h1
        · exact absurd h h3
        · exact h
      clear hb hk h1 h3 hb1
      go_enter Tryz.func48, Tryz.ntmps48
      go_wp2_with fail
      refine HST.out.mono ?_
      rintro e w1 ⟨⟨rfl, S1⟩, R1⟩
      obtain ⟨r0, -⟩ := infoD_cells (S1.alloc (infoD 2 ((xt.size : Int) + (xn : Int)) xna xh))
      have S1 := Lib.hid (And.intro (S1.old (infoD 2 ((xt.size : Int) + (xn : Int)) xna xh)) (Ran.new R1 (infoD 2 ((xt.size : Int) + (xn : Int)) xna xh)))
      clear HST R1
      go_wp2_with fail
      go_ret2
      exact ⟨⟨rfl, S1.out.1.perm (by ac_rfl)⟩, S1.out.2⟩
set_option maxRecDepth 100000 in
set_option maxHeartbeats 4000000 in
theorem RFile_ok {i : Nat} (rd pt mo : Bool) (hrf : c.rf = cf.fb) (hi1 : 1 ≤ i) (hi : i < N.length) (hk : N[i].kind = 2) (hs : N[i].text.size ≤ 1000000 ∧ N[i].kn ≤ 1000000) (hh : 0 ≤ N[i].holds ∧ N[i].holds ≤ 1000000) (hb : (rd || pt) = true) (hL : L.length ≤ 100000) (hf : FreeD L g) (h : Sat w (rtHp c L qn * (rfHp cf N * R))) :
    Calls Tryz.prog 48 #[pp c.tb, .int .i64 (i : Int), .bool rd, .bool pt, .bool mo] w fun e w' => (e = .returned (.tuple #[.int .i64 (g : Int), .int .i64 0]) ∧ ∃ lp lc, Sat w' (rtHp { c with lp := lp, lc := lc } (insN ⟨(g : Int), 1, 1, 0, (i : Int), rd, pt, mo, ⟨#[]⟩, 0, 0⟩ L false) qn * (rfHp cf (N.set i { N[i] with holds := N[i].holds + 1 }) * R))) ∧ Ran w w' := by
  obtain ⟨c0, -⟩ := rt_cells h
  rw [hrf] at c0
  have HST := Lib.hid (rstat_some hi1 hi (by omega) hs (h.perm (show _ = rfHp cf N * (rtHp c L qn * R) by ac_rfl)))
  have HH := Lib.hid (fun (W : World) (X : Hp) (hX : Sat W (rfHp cf N * X)) => rhold_calls hi1 hi (by omega) hh hX)
  have HA := Lib.hid (fun (W : World) (X : Hp) (hX : Sat W (rtHp c L qn * X)) => radd_calls c L qn g ⟨0, 1, 0, 0, (i : Int), rd, pt, mo, ⟨#[]⟩, 0, 0⟩ hL hf.pos hf.top hf.no hf.le W X hX)
  have HRF := Lib.hid hrf
  obtain ⟨z, hz⟩ : ∃ z, z = (N.set i { N[i] with holds := N[i].holds + 1 }) := ⟨_, rfl⟩
  rw [← hz] at HH ⊢
  obtain ⟨x, hx⟩ : ∃ x, x = N[i] := ⟨_, rfl⟩
  rw [← hx] at HST hk
  clear h hrf hx hs hz hh
  obtain ⟨xk, xt, xp, xn, xc, xpa, xna, xh⟩ := x
  dsimp only at HST hk
  subst hk
  clear hf
  have goal2 : ∀ (rd' pt' : Bool), rd' = rd → pt' = pt → Calls Tryz.prog 48 #[pp c.tb, .int .i64 (i : Int), .bool rd', .bool pt', .bool mo] w fun e w' => (e = .returned (.tuple #[.int .i64 (g : Int), .int .i64 0]) ∧ ∃ lp lc, Sat w' (rtHp { c with lp := lp, lc := lc } (insN ⟨(g : Int), 1, 1, 0, (i : Int), rd, pt, mo, ⟨#[]⟩, 0, 0⟩ L false) qn * (rfHp cf z * R))) ∧ Ran w w' := by
    intro rd' pt' e1 e2
    have hb' : (rd' || pt') = true := by rw [e1, e2]; exact hb
    cases rd' <;> cases pt'
    · cases hb'
    all_goals
      rw [← e1, ← e2] at HA
      rw [← e1, ← e2]
      clear hb hb' e1 e2
      go_enter Tryz.func48, Tryz.ntmps48
      go_wp2_with fail
      refine HST.out.mono ?_
      rintro e w1 ⟨⟨rfl, S1⟩, R1⟩
      obtain ⟨r0, -⟩ := infoD_cells (S1.alloc (infoD 2 ((xt.size : Int) + (xn : Int)) xna xh))
      have S1 := S1.old (infoD 2 ((xt.size : Int) + (xn : Int)) xna xh)
      have R1 := Lib.hid (Ran.new R1 (infoD 2 ((xt.size : Int) + (xn : Int)) xna xh))
      obtain ⟨c0, -⟩ := rt_cells (S1.perm (show _ = rtHp c L qn * (rfHp cf N * R) by ac_rfl))
      rw [HRF.out] at c0
      have HH := Lib.hid (HH.out _ _ S1)
      have HRF := Lib.hid HRF
      clear HST S1
      go_wp2_with fail
      refine HH.out.mono ?_
      rintro e w2 ⟨⟨rfl, S2⟩, R2⟩
      have R2 := Lib.hid (Below.trans R1.out R2)
      have HA := Lib.hid (HA.out _ _ (S2.perm (show _ = rtHp c L qn * (rfHp cf z * R) by ac_rfl)))
      clear HH S2 r0 c0
      go_wp2_with fail
      refine HA.out.mono ?_
      rintro e w3 ⟨⟨rfl, lp, lc, S3⟩, R3⟩
      have S3 := Lib.hid (And.intro S3 (Below.trans R2.out R3))
      clear HA R3
      go_wp2_with fail
      go_ret2
      exact ⟨⟨rfl, lp, lc, S3.out.1⟩, S3.out.2⟩
  exact goal2 rd pt rfl rfl
end
end Go.Proofs.YtljlpkeddbfpaaaGreatDoor.Hd

namespace Go.Proofs.YtljlpkeddbfpaaaGreatDoor.Hd
open Go.RowKit Go.Maps Go.Proofs.YtljlpkeddbfpaaaGreatDoor Go.Proofs.YtljlpkeddbfpaaaGreatDoor.Hp
set_option linter.unusedVariables false
attribute [local go_sem] Oper.semAt_some

section
variable {w : World} {c : RT} {L : List DH} {qn : Nat} {R : Hp}
set_option maxRecDepth 100000 in
set_option maxHeartbeats 4000000 in
theorem RSeen_none (id : Int) (hL : L.length ≤ 1000000) (hp : placeN L id 0 = -1) (h : Sat w (rtHp c L qn * R)) :
    Calls Tryz.prog 61 #[pp c.tb, .int .i64 id] w fun e w' => e = .returned (.tuple #[.string ⟨#[]⟩, .int .i64 18]) ∧ w = w' := by
  have HP := rplace_calls c L qn id hL w R h
  rw [hp] at HP
  have HP := Lib.hid HP
  clear h hp
  go_enter Tryz.func61, Tryz.ntmps61
  go_wp2_with fail
  refine HP.out.mono ?_
  rintro e w1 ⟨rfl, rfl⟩
  clear HP
  go_wp2_with fail
  go_ret2
  exact ⟨rfl, rfl⟩
set_option maxRecDepth 100000 in
set_option maxHeartbeats 4000000 in
theorem RSeen_some (id : Int) (i : Nat) (hL : L.length ≤ 1000000) (hi : i < L.length) (hp : placeN L id 0 = (i : Int)) (h : Sat w (rtHp c L qn * R)) :
    Calls Tryz.prog 61 #[pp c.tb, .int .i64 id] w fun e w' => e = .returned (.tuple #[.string (if L[i].kind = 3 then L[i].data else ⟨#[]⟩), .int .i64 (if L[i].kind = 3 then 0 else 19)]) ∧ w = w' := by
  have HP := rplace_calls c L qn id hL w R h
  rw [hp] at HP
  have HP := Lib.hid HP
  obtain ⟨c0, c1, c2, c3⟩ := rt_cells h
  obtain ⟨⟨b, o, hb⟩, hlc, hlm⟩ := rt_addr h hi
  obtain ⟨m0, m1, m2, m3, m4, m5, m6, m7, m8, m9, m10⟩ := dh_cells h hb hi
  rw [hb] at c2
  have hcm : (c.lc : Int) ≤ 9223372036854775807 := by unfold maxLen at hlm; omega
  have hiI : (i : Int) < (L.length : Int) := by omega
  have hi0 : (0 : Int) ≤ (i : Int) := by omega
  have hLI : (L.length : Int) ≤ 1000000 := by omega
  obtain ⟨x, hx⟩ : ∃ x, x = L[i] := ⟨_, rfl⟩
  rw [← hx] at m1 m8 ⊢
  obtain ⟨xi, xk, xr, xa, xn, xrd, xpt, xmo, xd, xm, xp⟩ := x
  dsimp only at m1 m8 ⊢
  clear h hp hx hb m0 m2 m3 m4 m5 m6 m7 m9 m10 hlm
  by_cases hk : xk = 3
  · subst hk
    rw [if_pos rfl, if_pos rfl]
    go_enter Tryz.func61, Tryz.ntmps61
    go_wp2_with fail
    refine HP.out.mono ?_
    rintro e w1 ⟨rfl, rfl⟩
    clear HP
    go_wp2_with fail
    go_ret2
    exact ⟨rfl, rfl⟩
  · rw [if_neg hk, if_neg hk]
    have hb1 : (xk != 3) = true := by simp [hk]
    clear hk
    go_enter Tryz.func61, Tryz.ntmps61
    go_wp2_with fail
    refine HP.out.mono ?_
    rintro e w1 ⟨rfl, rfl⟩
    clear HP
    go_wp2_with fail
    go_ret2
    exact ⟨rfl, rfl⟩
abbrev dh0 : DH := ⟨0, 0, 0, 0, 0, false, false, false, ⟨#[]⟩, 0, 0⟩
set_option maxRecDepth 100000 in
set_option maxHeartbeats 4000000 in
theorem RStat_none (id : Int) (hL : L.length ≤ 1000000) (hp : placeN L id 0 = -1) (h : Sat w (rtHp c L qn * R)) :
    Calls Tryz.prog 60 #[pp c.tb, .int .i64 id] w fun e w' => (e = .returned (.tuple #[dhV dh0, .int .i64 18]) ∧ Sat w' (rtHp c L qn * R)) ∧ Ran w w' := by
  have HP := rplace_calls c L qn id hL _ _ (h.old (dhO dh0))
  rw [hp] at HP
  have HP := Lib.hid HP
  obtain ⟨m0, m1, m2, m3, m4, m5, m6, m7, m8, m9, m10⟩ := dhO_cells (h.alloc (dhO dh0))
  have S1 := Lib.hid (And.intro (h.old (dhO dh0)) (Ran.new (Below.refl 0 w) (dhO dh0)))
  clear h hp
  go_enter Tryz.func60, Tryz.ntmps60
  go_wp2_with fail
  refine HP.out.mono ?_
  rintro e w1 ⟨rfl, rfl⟩
  clear HP
  go_wp2_with fail
  exact bodyPost_ret (v := .tuple #[dhV dh0, .int .i64 18]) (by simp [results, Tryz.results60, go_sem, m0, m1, m2, m3, m4, m5, m6, m7, m8, m9, m10]) rfl ⟨⟨rfl, S1.out.1⟩, S1.out.2⟩
set_option maxRecDepth 100000 in
set_option maxHeartbeats 4000000 in
theorem RStat_plain (id : Int) (i : Nat) (hL : L.length ≤ 1000000) (hi : i < L.length) (hp : placeN L id 0 = (i : Int)) (hk : L[i].kind ≠ 3) (hpi : L[i].pipe ≤ 0) (h : Sat w (rtHp c L qn * R)) :
    Calls Tryz.prog 60 #[pp c.tb, .int .i64 id] w fun e w' => (e = .returned (.tuple #[dhV L[i], .int .i64 0]) ∧ Sat w' (rtHp c L qn * R)) ∧ Ran w w' := by
  have HP := rplace_calls c L qn id hL _ _ (h.old (dhO dh0))
  rw [hp] at HP
  have HP := Lib.hid HP
  have h1 := h.old (dhO dh0)
  obtain ⟨c0, c1, c2, c3⟩ := rt_cells h1
  obtain ⟨⟨b, o, hb⟩, hlc, hlm⟩ := rt_addr h1 hi
  obtain ⟨m0, m1, m2, m3, m4, m5, m6, m7, m8, m9, m10⟩ := dh_cells h1 hb hi
  rw [hb] at c2
  have hcm : (c.lc : Int) ≤ 9223372036854775807 := by unfold maxLen at hlm; omega
  have hiI : (i : Int) < (L.length : Int) := by omega
  have hi0 : (0 : Int) ≤ (i : Int) := by omega
  have hLI : (L.length : Int) ≤ 1000000 := by omega
  obtain ⟨x, hx⟩ : ∃ x, x = L[i] := ⟨_, rfl⟩
  rw [← hx] at m0 m1 m2 m3 m4 m5 m6 m7 m8 m9 m10 hk hpi ⊢
  have S1 := Lib.hid (And.intro ((h.old (dhO x)).old (dhO x)) (Ran.new (Ran.new (Below.refl 0 w) (dhO x)) (dhO x)))
  obtain ⟨r0, r1, r2, r3, r4, r5, r6, r7, r8, r9, r10⟩ := dhO_cells (((h.alloc (dhO x)).alloc (dhO x)).perm (show _ = pts w.heap.size (dhO x) * (pts (w.alloc (dhO x)).heap.size (dhO x) * (rtHp c L qn * R)) by ac_rfl))
  obtain ⟨xi, xk, xr, xa, xn, xrd, xpt, xmo, xd, xm, xp⟩ := x
  dsimp only at m0 m1 m2 m3 m4 m5 m6 m7 m8 m9 m10 r0 r1 r2 r3 r4 r5 r6 r7 r8 r9 r10 hk hpi ⊢
  have hb1 : (xk == 3) = false := by simp [hk]
  have hd : decide (xp > 0) = false := decide_eq_false (by omega)
  have hd2 : decide (0 < xp) = false := decide_eq_false (by omega)
  clear h h1 hp hx hb hlm hk
  go_enter Tryz.func60, Tryz.ntmps60
  go_wp2_with fail
  refine HP.out.mono ?_
  rintro e w1 ⟨rfl, rfl⟩
  clear HP
  go_wp2_with fail
  exact bodyPost_ret (v := .tuple #[dhV ⟨xi, xk, xr, xa, xn, xrd, xpt, xmo, xd, xm, xp⟩, .int .i64 0]) (by simp [results, Tryz.results60, go_sem, r0, r1, r2, r3, r4, r5, r6, r7, r8, r9, r10]) rfl ⟨⟨rfl, S1.out.1⟩, S1.out.2⟩
set_option maxRecDepth 100000 in
set_option maxHeartbeats 4000000 in
theorem RStat_sink (id : Int) (i : Nat) (hL : L.length ≤ 1000000) (hi : i < L.length) (hp : placeN L id 0 = (i : Int)) (hk : L[i].kind = 3) (hpi : L[i].pipe ≤ 0) (h : Sat w (rtHp c L qn * R)) :
    Calls Tryz.prog 60 #[pp c.tb, .int .i64 id] w fun e w' => (e = .returned (.tuple #[dhV { L[i] with at_ := (L[i].data.size : Int) }, .int .i64 0]) ∧ Sat w' (rtHp c L qn * R)) ∧ Ran w w' := by
  have HP := rplace_calls c L qn id hL _ _ (h.old (dhO dh0))
  rw [hp] at HP
  have HP := Lib.hid HP
  have h1 := h.old (dhO dh0)
  obtain ⟨c0, c1, c2, c3⟩ := rt_cells h1
  obtain ⟨⟨b, o, hb⟩, hlc, hlm⟩ := rt_addr h1 hi
  obtain ⟨m0, m1, m2, m3, m4, m5, m6, m7, m8, m9, m10⟩ := dh_cells h1 hb hi
  rw [hb] at c2
  have hcm : (c.lc : Int) ≤ 9223372036854775807 := by unfold maxLen at hlm; omega
  have hiI : (i : Int) < (L.length : Int) := by omega
  have hi0 : (0 : Int) ≤ (i : Int) := by omega
  have hLI : (L.length : Int) ≤ 1000000 := by omega
  obtain ⟨x, hx⟩ : ∃ x, x = L[i] := ⟨_, rfl⟩
  rw [← hx] at m0 m1 m2 m3 m4 m5 m6 m7 m8 m9 m10 hk hpi ⊢
  obtain ⟨y, hy⟩ : ∃ y : DH, y = { x with at_ := (x.data.size : Int) } := ⟨_, rfl⟩
  rw [← hy]
  have S1 := (And.intro ((h.old (dhO y)).old (dhO y)) (Ran.new (Ran.new (Below.refl 0 w) (dhO y)) (dhO y)))
  obtain ⟨r0, r1, r2, r3, r4, r5, r6, r7, r8, r9, r10⟩ := dhO_cells (((h.alloc (dhO y)).alloc (dhO y)).perm (show _ = pts w.heap.size (dhO y) * (pts (w.alloc (dhO y)).heap.size (dhO y) * (rtHp c L qn * R)) by ac_rfl))
  subst hy
  obtain ⟨xi, xk, xr, xa, xn, xrd, xpt, xmo, xd, xm, xp⟩ := x
  dsimp only at m0 m1 m2 m3 m4 m5 m6 m7 m8 m9 m10 r0 r1 r2 r3 r4 r5 r6 r7 r8 r9 r10 hk hpi S1 ⊢
  have S1 := Lib.hid S1
  subst hk
  have hd : decide (xp > 0) = false := decide_eq_false (by omega)
  have hd2 : decide (0 < xp) = false := decide_eq_false (by omega)
  clear h h1 hp hx hb hlm
  go_enter Tryz.func60, Tryz.ntmps60
  go_wp2_with fail
  refine HP.out.mono ?_
  rintro e w1 ⟨rfl, rfl⟩
  clear HP
  go_wp2_with fail
  exact bodyPost_ret (v := .tuple #[dhV ⟨xi, 3, xr, xd.size, xn, xrd, xpt, xmo, xd, xm, xp⟩, .int .i64 0]) (by simp [results, Tryz.results60, go_sem, r0, r1, r2, r3, r4, r5, r6, r7, r8, r9, r10]) rfl ⟨⟨rfl, S1.out.1⟩, S1.out.2⟩
end
end Go.Proofs.YtljlpkeddbfpaaaGreatDoor.Hd

namespace Go.Proofs.YtljlpkeddbfpaaaGreatDoor.Hd
open Go.RowKit Go.Maps Go.Proofs.YtljlpkeddbfpaaaGreatDoor Go.Proofs.YtljlpkeddbfpaaaGreatDoor.Hp
set_option linter.unusedVariables false
attribute [local go_sem] Oper.semAt_some

abbrev pqHp (c : RT) (B : List Spill.Bf) : Hp := arr 179 1 c.qp B.length c.qc (B.map Spill.rptr)
def putDH (w : World) (b : Nat) (y : DH) : World := (((((((((((w.setCell ⟨b, 0, none⟩ (.int .i64 y.id)).setCell ⟨b, 1, none⟩ (.int .i64 y.kind)).setCell ⟨b, 2, none⟩ (.int .i64 y.refs)).setCell ⟨b, 3, none⟩ (.int .i64 y.at_)).setCell ⟨b, 4, none⟩ (.int .i64 y.node)).setCell ⟨b, 5, none⟩ (.bool y.rd)).setCell ⟨b, 6, none⟩ (.bool y.pt)).setCell ⟨b, 7, none⟩ (.bool y.mo)).setCell ⟨b, 8, none⟩ (.string y.data)).setCell ⟨b, 9, none⟩ (.int .i64 y.most)).setCell ⟨b, 10, none⟩ (.int .i64 y.pipe))
theorem putDH_ran {w0 w : World} {b : Nat} {y : DH} (h : Ran w0 w) : Ran w0 (putDH w b y) := (Ran.set (Ran.set (Ran.set (Ran.set (Ran.set (Ran.set (Ran.set (Ran.set (Ran.set (Ran.set (Ran.set h _ _) _ _) _ _) _ _) _ _) _ _) _ _) _ _) _ _) _ _) _ _)
theorem putDH_sat {w : World} {b : Nat} {x y : DH} {S : Hp} (h : Sat w (pts b (dhO x) * S)) : Sat (putDH w b y) (pts b (dhO y) * S) := by
  unfold putDH
  have h0 : Sat _ (pts b (dhO ⟨y.id, x.kind, x.refs, x.at_, x.node, x.rd, x.pt, x.mo, x.data, x.most, x.pipe⟩) * S) := h.set (i := 0) (.int .i64 y.id)
  have h1 : Sat _ (pts b (dhO ⟨y.id, y.kind, x.refs, x.at_, x.node, x.rd, x.pt, x.mo, x.data, x.most, x.pipe⟩) * S) := h0.set (i := 1) (.int .i64 y.kind)
  have h2 : Sat _ (pts b (dhO ⟨y.id, y.kind, y.refs, x.at_, x.node, x.rd, x.pt, x.mo, x.data, x.most, x.pipe⟩) * S) := h1.set (i := 2) (.int .i64 y.refs)
  have h3 : Sat _ (pts b (dhO ⟨y.id, y.kind, y.refs, y.at_, x.node, x.rd, x.pt, x.mo, x.data, x.most, x.pipe⟩) * S) := h2.set (i := 3) (.int .i64 y.at_)
  have h4 : Sat _ (pts b (dhO ⟨y.id, y.kind, y.refs, y.at_, y.node, x.rd, x.pt, x.mo, x.data, x.most, x.pipe⟩) * S) := h3.set (i := 4) (.int .i64 y.node)
  have h5 : Sat _ (pts b (dhO ⟨y.id, y.kind, y.refs, y.at_, y.node, y.rd, x.pt, x.mo, x.data, x.most, x.pipe⟩) * S) := h4.set (i := 5) (.bool y.rd)
  have h6 : Sat _ (pts b (dhO ⟨y.id, y.kind, y.refs, y.at_, y.node, y.rd, y.pt, x.mo, x.data, x.most, x.pipe⟩) * S) := h5.set (i := 6) (.bool y.pt)
  have h7 : Sat _ (pts b (dhO ⟨y.id, y.kind, y.refs, y.at_, y.node, y.rd, y.pt, y.mo, x.data, x.most, x.pipe⟩) * S) := h6.set (i := 7) (.bool y.mo)
  have h8 : Sat _ (pts b (dhO ⟨y.id, y.kind, y.refs, y.at_, y.node, y.rd, y.pt, y.mo, y.data, x.most, x.pipe⟩) * S) := h7.set (i := 8) (.string y.data)
  have h9 : Sat _ (pts b (dhO ⟨y.id, y.kind, y.refs, y.at_, y.node, y.rd, y.pt, y.mo, y.data, y.most, x.pipe⟩) * S) := h8.set (i := 9) (.int .i64 y.most)
  have h10 : Sat _ (pts b (dhO ⟨y.id, y.kind, y.refs, y.at_, y.node, y.rd, y.pt, y.mo, y.data, y.most, y.pipe⟩) * S) := h9.set (i := 10) (.int .i64 y.pipe)
  exact h10
section
variable {w : World} {c : RT} {L : List DH} {B : List Spill.Bf} {R : Hp}
theorem pq_cell (h : Sat w (pqHp c B * R)) {k : Nat} (hk : k < B.length) : (∃ b o, c.qp = some ⟨b, o, none⟩ ∧ w.cell? ⟨b, o + k, none⟩ = some (pp B[k].rb)) ∧ B.length ≤ c.qc ∧ c.qc ≤ maxLen := by
  have hl := h.arr_len
  obtain ⟨b, o, hb⟩ := h.arr_addr (by omega)
  refine ⟨⟨b, o, hb, ?_⟩, hl.2.1, hl.2.2⟩
  unfold pqHp at h
  rw [hb] at h
  rw [h.arr_cell k (by simpa using hk)]
  simp [Spill.rptr]
set_option maxRecDepth 100000 in
set_option maxHeartbeats 4000000 in
theorem RStat_pipe (id : Int) (i k : Nat) (hL : L.length ≤ 1000000) (hi : i < L.length) (hp : placeN L id 0 = (i : Int)) (hkd : L[i].kind ≠ 3) (hpi : L[i].pipe = (k : Int) + 1) (hk : k < B.length) (hB : B.length ≤ 1000000) (hsm : Spill.Small B[k]) (h : Sat w (rtHp c L B.length * (pqHp c B * (all Spill.rbuf B * R)))) :
    Calls Tryz.prog 60 #[pp c.tb, .int .i64 id] w fun e w' => (e = .returned (.tuple #[dhV { L[i] with at_ := (B[k].h : Int) }, .int .i64 0]) ∧ Sat w' (rtHp c L B.length * (pqHp c B * (all Spill.rbuf B * R)))) ∧ Ran w w' := by
  have HP := rplace_calls c L B.length id hL _ _ (h.old (dhO dh0))
  rw [hp] at HP
  have HP := Lib.hid HP
  have h1 := h.old (dhO dh0)
  obtain ⟨c0, c1, c2, c3⟩ := rt_cells h1
  obtain ⟨⟨b, o, hb⟩, hlc, hlm⟩ := rt_addr h1 hi
  obtain ⟨m0, m1, m2, m3, m4, m5, m6, m7, m8, m9, m10⟩ := dh_cells h1 hb hi
  obtain ⟨⟨b2, o2, hb2, q0⟩, hqc, hqm⟩ := pq_cell (h1.perm (show _ = pqHp c B * (rtHp c L B.length * (all Spill.rbuf B * R)) by ac_rfl)) hk
  rw [hb] at c2
  have hcm : (c.lc : Int) ≤ 9223372036854775807 := by unfold maxLen at hlm; omega
  have hqm : (c.qc : Int) ≤ 9223372036854775807 := by unfold maxLen at hqm; omega
  have hqcI : (B.length : Int) ≤ (c.qc : Int) := by omega
  have hkI : (k : Int) < (B.length : Int) := by omega
  have hk0 : (0 : Int) ≤ (k : Int) := by omega
  have hBI : (B.length : Int) ≤ 1000000 := by omega
  have hiI : (i : Int) < (L.length : Int) := by omega
  have hi0 : (0 : Int) ≤ (i : Int) := by omega
  have hLI : (L.length : Int) ≤ 1000000 := by omega
  obtain ⟨x, hx⟩ : ∃ x, x = L[i] := ⟨_, rfl⟩
  rw [← hx] at m0 m1 m2 m3 m4 m5 m6 m7 m8 m9 m10 hkd hpi ⊢
  obtain ⟨y, hy⟩ : ∃ y, y = B[k] := ⟨_, rfl⟩
  rw [← hy] at q0 hsm ⊢
  have S2 := (((h.alloc (dhO dh0)).alloc (dhO x)).drew)
  obtain ⟨C0, C1, C2, C3⟩ := rt_cells (S2.perm (show _ = rtHp c L B.length * (pts (w.alloc (dhO dh0)).heap.size (dhO x) * (pts w.heap.size (dhO dh0) * (pqHp c B * (all Spill.rbuf B * R)))) by ac_rfl))
  obtain ⟨⟨b3, o3, hb3, Q0⟩, -, -⟩ := pq_cell (S2.perm (show _ = pqHp c B * (pts (w.alloc (dhO dh0)).heap.size (dhO x) * (pts w.heap.size (dhO dh0) * (rtHp c L B.length * (all Spill.rbuf B * R)))) by ac_rfl)) hk
  rw [hb2] at hb3
  obtain ⟨rfl, rfl⟩ : b2 = b3 ∧ o2 = o3 := by injection hb3 with e; injection e with e1 e2; exact ⟨e1, e2⟩
  rw [hb2] at C3
  rw [← hy] at Q0
  have HLN : Hid (Calls Tryz.prog 87 #[pp y.rb] (((w.alloc (dhO dh0)).alloc (dhO x)).drew) fun e w' => e = .returned (.int .i64 y.h) ∧ ∃ n, w' = (((w.alloc (dhO dh0)).alloc (dhO x)).drew).drewN n) := Lib.hid (Spill.rlen y _ (by
    have := S2.perm (show _ = all Spill.rbuf B * (pts (w.alloc (dhO dh0)).heap.size (dhO x) * (pts w.heap.size (dhO dh0) * (rtHp c L B.length * (pqHp c B * R)))) by ac_rfl)
    rw [all_split Spill.rbuf B k hk, ← hy] at this
    exact (this.perm (show _ = pts y.rb (Spill.rbo y) * (all Spill.rbuf (B.take k) * all Spill.rbuf (B.drop (k + 1)) * (pts (w.alloc (dhO dh0)).heap.size (dhO x) * (pts w.heap.size (dhO dh0) * (rtHp c L B.length * (pqHp c B * R))))) by
      show _ = Spill.rbuf y * _; ac_rfl)).get) hsm)
  have hsz : (w.alloc (dhO dh0)).heap.size = w.heap.size + 1 := by simp
  rw [hsz] at S2
  obtain ⟨r0, r1, r2, r3, r4, r5, r6, r7, r8, r9, r10⟩ := dhO_cells S2
  obtain ⟨xi, xk, xr, xa, xn, xrd, xpt, xmo, xd, xm, xp⟩ := x
  dsimp only at m0 m1 m2 m3 m4 m5 m6 m7 m8 m9 m10 r0 r1 r2 r3 r4 r5 r6 r7 r8 r9 r10 hkd hpi ⊢
  subst hpi
  have hb1 : (xk == 3) = false := by simp [hkd]
  have hd : decide ((k : Int) + 1 > 0) = true := decide_eq_true (by omega)
  have hd2 : decide ((0 : Int) < (k : Int) + 1) = true := decide_eq_true (by omega)
  have hw : IntKind.i64.wrap (k : Int) = (k : Int) := IntWalk.i64_in _ (by omega)
  have HS := Lib.hid (fun (nn : Nat) => (show Sat ((((w.alloc (dhO dh0)).alloc (dhO ⟨xi, xk, xr, xa, xn, xrd, xpt, xmo, xd, xm, (k : Int) + 1⟩)).drewN (1 + nn))) _ from S2))
  have HC := Lib.hid (fun (W' : World) (v : DH) (hX : Sat W' (pts (w.heap.size + 1) (dhO v) * (pts w.heap.size (dhO dh0) * (rtHp c L B.length * (pqHp c B * (all Spill.rbuf B * R)))))) => (show W'.cell? ⟨c.tb, 3, none⟩ = some (.slice (some ⟨b2, o2, none⟩) B.length c.qc) ∧ W'.cell? ⟨b2, o2 + k, none⟩ = some (pp y.rb) ∧ W'.cell? ⟨w.heap.size + 1, 10, none⟩ = some (.int .i64 v.pipe) by
    have e3 := (rt_cells hX.right.right).2.2.2
    obtain ⟨⟨b4, o4, hb4, Q4⟩, -, -⟩ := pq_cell (hX.right.right.right) hk
    rw [hb2] at hb4
    obtain ⟨rfl, rfl⟩ : b2 = b4 ∧ o2 = o4 := by injection hb4 with e; injection e with e1 e2; exact ⟨e1, e2⟩
    rw [hb2] at e3
    rw [← hy] at Q4
    exact ⟨e3, Q4, (dhO_cells hX).2.2.2.2.2.2.2.2.2.2⟩))
  have S2 := Lib.hid S2
  clear hsz
  clear h h1 hp hx hb hlm hkd hy hsm hb2 hb3 q0
  go_enter Tryz.func60, Tryz.ntmps60
  go_wp2_with fail
  refine HP.out.mono ?_
  rintro e w1 ⟨rfl, rfl⟩
  clear HP
  go_upto_region 8 with fail
  refine region_plan (S := (fun w' => w'.cell? ⟨c.tb, 3, none⟩ = some (.slice (some ⟨b2, o2, none⟩) B.length c.qc) ∧ w'.cell? ⟨b2, o2 + k, none⟩ = some (pp y.rb) ∧ w'.cell? ⟨w.heap.size + 1, 10, none⟩ = some (.int .i64 ((k : Int) + 1)))) [(0, true), (1, true), (2, true), (3, true), (4, true), (5, true), (6, true), (7, true), (8, true), (9, false), (10, true), (11, false)] (by kernel_rfl) (by kernel_rfl) (by kernel_rfl) ?_ ?_
  · ((try dsimp only); (first | done | (first | exact Kset.out | exact ⟨C3, Q0, r10⟩)))
  simp only [planOps, List.map_cons, List.map_nil, List.getElem?_toArray, List.getElem?_cons_zero, List.getElem?_cons_succ]
  repeat (first
    | ((refine plan_yes (v := ?_) (by rfl) ?_ ?_); rotate_left; (focus (intro w hSw; (try dsimp only at hSw); go_simp; try (with_reducible rfl))); (try simp only [Act.put, List.setIfInBounds_toArray, List.set_cons_zero, List.set_cons_succ]))
    | ((refine plan_no (by rfl) ?_); (try simp only [Act.put, List.setIfInBounds_toArray, List.set_cons_zero, List.set_cons_succ]))
    | ((refine plan_step (fun K hK => ?_)); (first | (go_simp; (go_at_call 87; refine HLN.out.mono ?_; rintro e w3 ⟨rfl, nn, rfl⟩; have S3 := HS.out nn; have f0 : ∀ i, ((((w.alloc (dhO dh0)).alloc (dhO ⟨xi, xk, xr, xa, xn, xrd, xpt, xmo, xd, xm, (k : Int) + 1⟩)).drewN (1 + nn))).frozen? ⟨w.heap.size + 1, i, none⟩ = false := (fun i => free_at S3.get i); have Kset := HC.out _ ⟨xi, xk, xr, (y.h : Int), xn, xrd, xpt, xmo, xd, xm, (k : Int) + 1⟩ (S3.set (i := 3) (.int .i64 (y.h : Int))); have Kset := Lib.hid Kset; have S3 := Lib.hid S3); (try go_wp2_with fail)) | go_simp); (refine hK.out _ _ ?_ (fun hHeld => ?_)); (focus ((try dsimp only); (first | done | (first | exact Kset.out | exact ⟨C3, Q0, r10⟩)))); clear hK K; (try simp only [Act.put, List.setIfInBounds_toArray, List.set_cons_zero, List.set_cons_succ])))
  refine plan_done ?_
  go_wp2_with fail
  have S4 := (S3.out.set (i := 3) (.int .i64 (y.h : Int))).perm (show pts (w.heap.size + 1) (dhO ⟨xi, xk, xr, (y.h : Int), xn, xrd, xpt, xmo, xd, xm, (k : Int) + 1⟩) * _ = pts w.heap.size (dhO dh0) * (pts (w.heap.size + 1) (dhO ⟨xi, xk, xr, (y.h : Int), xn, xrd, xpt, xmo, xd, xm, (k : Int) + 1⟩) * (rtHp c L B.length * (pqHp c B * (all Spill.rbuf B * R)))) by ac_rfl)
  obtain ⟨W, hW⟩ : ∃ W, W = (((((w.alloc (dhO dh0)).alloc (dhO ⟨xi, xk, xr, xa, xn, xrd, xpt, xmo, xd, xm, (k : Int) + 1⟩)).drewN (1 + nn))).setCell ⟨w.heap.size + 1, 3, none⟩ (.int .i64 (y.h : Int))) := ⟨_, rfl⟩
  have R4 : Ran w W := by rw [hW]; exact (Ran.set (Ran.drewN (Ran.new (Ran.new (Below.refl 0 w) (dhO dh0)) (dhO ⟨xi, xk, xr, xa, xn, xrd, xpt, xmo, xd, xm, (k : Int) + 1⟩)) (1 + nn)) ⟨w.heap.size + 1, 3, none⟩ (.int .i64 (y.h : Int)))
  rw [← hW] at S4 ⊢
  have S5 := putDH_sat (y := ⟨xi, xk, xr, (y.h : Int), xn, xrd, xpt, xmo, xd, xm, (k : Int) + 1⟩) S4
  have R5 := Lib.hid (putDH_ran (y := ⟨xi, xk, xr, (y.h : Int), xn, xrd, xpt, xmo, xd, xm, (k : Int) + 1⟩) (b := w.heap.size) R4)
  obtain ⟨r0, r1, r2, r3, r4, r5, r6, r7, r8, r9, r10⟩ := dhO_cells S5
  dsimp only at r0 r1 r2 r3 r4 r5 r6 r7 r8 r9 r10
  have S5 := Lib.hid S5.right.right
  clear S4 hW R4
  obtain ⟨V, hV⟩ : ∃ V, V = putDH W w.heap.size ⟨xi, xk, xr, (y.h : Int), xn, xrd, xpt, xmo, xd, xm, (k : Int) + 1⟩ := ⟨_, rfl⟩
  have hV2 := hV
  unfold putDH at hV2
  dsimp only at hV2
  rw [← hV2]
  rw [← hV] at S5 R5 r0 r1 r2 r3 r4 r5 r6 r7 r8 r9 r10
  clear hV hV2
  exact bodyPost_ret (v := .tuple #[dhV ⟨xi, xk, xr, (y.h : Int), xn, xrd, xpt, xmo, xd, xm, (k : Int) + 1⟩, .int .i64 0]) (by simp [results, Tryz.results60, go_sem, r0, r1, r2, r3, r4, r5, r6, r7, r8, r9, r10]) rfl ⟨⟨rfl, S5.out⟩, R5.out⟩
end
end Go.Proofs.YtljlpkeddbfpaaaGreatDoor.Hd

