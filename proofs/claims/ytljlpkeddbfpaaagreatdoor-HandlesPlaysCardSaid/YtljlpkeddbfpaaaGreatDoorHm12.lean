/- HandlesPlays, part 12 of 34: the texts HdPd HdTr HdTt, joined by a program. -/
import Derived.Test.YtljlpkeddbfpaaaGreatDoorHm11
import Derived.Test.YtljlpkeddbfpaaaGreatDoorHm8
import Derived.Test.YtljlpkeddbfpaaaGreatDoorHm6
namespace Go.Proofs.YtljlpkeddbfpaaaGreatDoor.Hd
open Go.RowKit Go.Maps Go.Proofs.YtljlpkeddbfpaaaGreatDoor Go.Proofs.YtljlpkeddbfpaaaGreatDoor.Hp
set_option linter.unusedVariables false
attribute [local go_sem] Oper.semAt_some

abbrev dnO (x : DN) : Obj := .cells #[.int .i64 x.kind, .string x.text, .slice x.kp x.kn x.kc, .int .i64 x.par, .int .i64 x.names, .int .i64 x.holds] 169 (0, 0)
abbrev infoD (a b c d : Int) : Obj := .cells #[.int .i64 a, .int .i64 b, .int .i64 c, .int .i64 d] 175 (0, 0)
theorem infoD_cells {w : World} {b : Nat} {x y z u : Int} {S : Hp} (h : Sat w (pts b (infoD x y z u) * S)) : w.cell? ⟨b, 0, none⟩ = some (.int .i64 x) ∧ w.cell? ⟨b, 1, none⟩ = some (.int .i64 y) ∧ w.cell? ⟨b, 2, none⟩ = some (.int .i64 z) ∧ w.cell? ⟨b, 3, none⟩ = some (.int .i64 u) := by
  have hb := h.get
  refine ⟨?_, ?_, ?_, ?_⟩ <;> rw [cell_at hb] <;> rfl
theorem dnO_cells {w : World} {b : Nat} {x : DN} {S : Hp} (h : Sat w (pts b (dnO x) * S)) : w.cell? ⟨b, 0, none⟩ = some (.int .i64 x.kind) ∧ w.cell? ⟨b, 1, none⟩ = some (.string x.text) ∧ w.cell? ⟨b, 2, none⟩ = some (.slice x.kp x.kn x.kc) ∧ w.cell? ⟨b, 3, none⟩ = some (.int .i64 x.par) ∧ w.cell? ⟨b, 4, none⟩ = some (.int .i64 x.names) ∧ w.cell? ⟨b, 5, none⟩ = some (.int .i64 x.holds) := by
  have hb := h.get
  refine ⟨?_, ?_, ?_, ?_, ?_, ?_⟩ <;> rw [cell_at hb] <;> rfl
section
variable {w : World} {c : RF} {L : List DN} {R : Hp}
set_option maxRecDepth 100000 in
set_option maxHeartbeats 4000000 in
theorem rstat_none (n : Int) (hk : kindD L n = 0) (h : Sat w (rfHp c L * R)) :
    Calls Tryz.prog 76 #[pp c.fb, .int .i64 n] w fun e w' => (e = .returned (.tuple #[.agg #[.int .i64 0, .int .i64 0, .int .i64 0, .int .i64 0], .int .i64 10]) ∧ Sat w' (rfHp c L * R)) ∧ Ran w w' := by
  have H1 := h.alloc (infoD 0 0 0 0)
  have HK := rkind_calls n (H1.perm (show _ = rfHp c L * (pts w.heap.size (infoD 0 0 0 0) * R) by ac_rfl))
  rw [hk] at HK
  have HK := Lib.hid HK
  obtain ⟨r0, r1, r2, r3⟩ := infoD_cells H1
  have HB := Lib.hid (And.intro (h.old (infoD 0 0 0 0)) (Ran.new (Below.refl 0 w) (infoD 0 0 0 0)))
  clear h H1 hk
  go_enter Tryz.func76, Tryz.ntmps76
  go_wp2_with fail
  refine HK.out.mono ?_
  rintro e w1 ⟨rfl, rfl⟩
  go_wp2_with fail
  exact bodyPost_ret (v := .tuple #[.agg #[.int .i64 0, .int .i64 0, .int .i64 0, .int .i64 0], .int .i64 10]) (by simp [results, Tryz.results76, go_sem]) rfl ⟨⟨rfl, HB.out.1⟩, HB.out.2⟩
set_option maxRecDepth 100000 in
set_option maxHeartbeats 4000000 in
theorem rstat_some {i : Nat} (hi1 : 1 ≤ i) (hi : i < L.length) (hk : L[i].kind ≠ 0) (hs : L[i].text.size ≤ 1000000 ∧ L[i].kn ≤ 1000000) (h : Sat w (rfHp c L * R)) :
    Calls Tryz.prog 76 #[pp c.fb, .int .i64 (i : Int)] w fun e w' => (e = .returned (.tuple #[.agg #[.int .i64 L[i].kind, .int .i64 ((L[i].text.size : Int) + (L[i].kn : Int)), .int .i64 L[i].names, .int .i64 L[i].holds], .int .i64 0]) ∧ Sat w' (rfHp c L * R)) ∧ Ran w w' := by
  have H1 := h.alloc (infoD 0 0 0 0)
  have H1 := (H1.perm (show _ = rfHp c L * (pts w.heap.size (infoD 0 0 0 0) * R) by ac_rfl))
  have HK := rkind_calls (i : Int) H1
  rw [show kindD L (i : Int) = L[i].kind by unfold kindD dget; rw [if_pos (by omega), show ((i : Int)).toNat = i by omega, List.getElem?_eq_getElem hi]] at HK
  have HK := Lib.hid HK
  have hlm := rf_len h
  have hlI : (L.length : Int) ≤ 9223372036854775807 := by unfold maxLen at hlm; omega
  obtain ⟨x, hx⟩ : ∃ x, x = L[i] := ⟨_, rfl⟩
  rw [← hx] at hk hs HK
  have HX := Lib.hid hx
  obtain ⟨c0, c1, c2⟩ := rf_cells H1
  obtain ⟨d0, d1, d2, d3, d4, d5⟩ := dn_cells H1 hi
  rw [← hx] at d0 d1 d2 d3 d4 d5 ⊢
  have hb : (x.kind == 0) = false := by simp [hk]
  have h1 : (0 : Int) ≤ (i : Int) := by omega
  have h2 : (i : Int) < (L.length : Int) := by omega
  have hb1 : (x.text.size : Int) ≤ 1000000 := by omega
  have hb2 : (x.kn : Int) ≤ 1000000 := by omega
  have hw : IntKind.i64.wrap ((x.text.size : Int) + (x.kn : Int)) = (x.text.size : Int) + (x.kn : Int) := IntWalk.i64_in _ (by omega)
  have HN := (h.alloc (infoD x.kind ((x.text.size : Int) + (x.kn : Int)) x.names x.holds))
  obtain ⟨r0, r1, r2, r3⟩ := infoD_cells ((HN.alloc (dnO x)).perm (show _ = pts w.heap.size (infoD x.kind ((x.text.size : Int) + (x.kn : Int)) x.names x.holds) * (pts (w.alloc (infoD x.kind ((x.text.size : Int) + (x.kn : Int)) x.names x.holds)).heap.size (dnO x) * (rfHp c L * R)) by ac_rfl))
  have HB := Lib.hid (And.intro ((h.old (infoD x.kind ((x.text.size : Int) + (x.kn : Int)) x.names x.holds)).old (dnO x)) (Ran.new (Ran.new (Below.refl 0 w) (infoD x.kind ((x.text.size : Int) + (x.kn : Int)) x.names x.holds)) (dnO x)))
  clear hx hk hs h H1 hlm HN
  go_enter Tryz.func76, Tryz.ntmps76
  go_wp2_with fail
  refine HK.out.mono ?_
  rintro e w1 ⟨rfl, rfl⟩
  clear HK
  go_wp2_with fail
  exact bodyPost_ret (v := .tuple #[.agg #[.int .i64 x.kind, .int .i64 ((x.text.size : Int) + (x.kn : Int)), .int .i64 x.names, .int .i64 x.holds], .int .i64 0]) (by simp [results, Tryz.results76, go_sem, r0, r1, r2, r3]) rfl ⟨⟨rfl, HB.out.1⟩, HB.out.2⟩
end
def cntD : List DN → Nat
  | [] => 0
  | x :: r => (if 0 < x.kind then 1 else 0) + cntD r
def sizD : List DN → Nat
  | [] => 0
  | x :: r => (if 0 < x.kind then x.text.size else 0) + sizD r
theorem cntD_cons (x : DN) (r : List DN) : cntD (x :: r) = (if 0 < x.kind then 1 else 0) + cntD r := rfl
theorem sizD_cons (x : DN) (r : List DN) : sizD (x :: r) = (if 0 < x.kind then x.text.size else 0) + sizD r := rfl
theorem cntD_nil : cntD [] = 0 := rfl
theorem sizD_nil : sizD [] = 0 := rfl
section
variable {w : World} {c : RF} {L : List DN} {R : Hp}
set_option maxRecDepth 100000 in
set_option maxHeartbeats 4000000 in
theorem rused_calls (hL : 1 ≤ L.length) (hL2 : L.length ≤ 2000) (hz : sizD (L.drop 1) ≤ 100000000) (h : Sat w (rfHp c L * R)) :
    Calls Tryz.prog 74 #[pp c.fb] w fun e w' => e = .returned (.tuple #[.int .i64 (cntD (L.drop 1) : Nat), .int .i64 (sizD (L.drop 1) : Nat)]) ∧ w = w' := by
  obtain ⟨c0, c1, c2⟩ := rf_cells h
  have hlI : (L.length : Int) ≤ 2000 := by omega
  have H := Lib.hid h
  have HZ := Lib.hid hz
  clear h hz
  go_enter Tryz.func74, Tryz.ntmps74
  go_wp2_with fail
  go_loopg [4, 5, 6] (L.length) (fun (g : Nat) (v4 v5 v6 : Value) (wr : World) => ∃ i n z : Nat, v4 = .int .i64 (n : Int) ∧ v5 = .int .i64 (z : Int) ∧ v6 = .int .i64 (i : Int) ∧ 1 ≤ i ∧ i + g = L.length + 1 ∧ n ≤ i ∧ n + cntD (L.drop i) = cntD (L.drop 1) ∧ z + sizD (L.drop i) = sizD (L.drop 1) ∧ w = wr)
  case atStart => exact ⟨1, 0, 0, rfl, rfl, rfl, by omega, by omega, by omega, by omega, by omega, rfl⟩
  case round =>
    obtain ⟨i, n, z, rfl, rfl, rfl, hi1, hg, hni, hcn, hsz, rfl⟩ := hrel
    have hz := HZ.out
    by_cases hlt : i < L.length
    · have hltI : (i : Int) < (L.length : Int) := by omega
      have hi0 : (0 : Int) ≤ (i : Int) := by omega
      obtain ⟨d0, d1, -⟩ := dn_cells H.out hlt
      rw [List.drop_eq_getElem_cons hlt] at hcn hsz
      obtain ⟨x, hx⟩ : ∃ x, x = L[i] := ⟨_, rfl⟩
      rw [← hx] at d0 d1 hcn hsz
      clear hx
      obtain ⟨xk, xt, xp, xn, xc, xpa, xna, xh⟩ := x
      dsimp only at d0 d1
      rw [cntD_cons] at hcn
      rw [sizD_cons] at hsz
      dsimp only at hcn hsz
      have hnI : (n : Int) ≤ 2000 := by omega
      have hn0 : (0 : Int) ≤ (n : Int) := by omega
      by_cases hp : 0 < xk
      · rw [if_pos hp] at hcn hsz
        have hd : decide (0 < xk) = true := decide_eq_true hp
        have hd2 : decide (xk > 0) = true := decide_eq_true hp
        have hzI : (z : Int) + (xt.size : Int) ≤ 100000000 := by omega
        have hz0 : (0 : Int) ≤ (z : Int) := by omega
        have hw : IntKind.i64.wrap ((z : Int) + (xt.size : Int)) = (z : Int) + (xt.size : Int) := IntWalk.i64_in _ (by omega)
        have HE := Lib.hid (show n + 1 + cntD (L.drop (i + 1)) = cntD (L.drop 1) ∧ (z + xt.size) + sizD (L.drop (i + 1)) = sizD (L.drop 1) by omega)
        clear hcn hsz hz
        go_wp2_with fail
        go_roundg (gk - 1)
        case rel => exact ⟨i + 1, n + 1, z + xt.size, by simp, by simp, by simp, by omega, by omega, by omega, HE.out.1, HE.out.2, rfl⟩
        case measure => omega
      · rw [if_neg hp] at hcn hsz
        have hd : decide (0 < xk) = false := decide_eq_false hp
        have hd2 : decide (xk > 0) = false := decide_eq_false hp
        have HE := Lib.hid (show n + cntD (L.drop (i + 1)) = cntD (L.drop 1) ∧ z + sizD (L.drop (i + 1)) = sizD (L.drop 1) by omega)
        clear hcn hsz hz
        go_wp2_with fail
        go_roundg (gk - 1)
        case rel => exact ⟨i + 1, n, z, by simp, by simp, by simp, by omega, by omega, by omega, HE.out.1, HE.out.2, rfl⟩
        case measure => omega
    · have hge : (L.length : Int) ≤ (i : Int) := by omega
      have hd0 : L.drop i = [] := List.drop_eq_nil_of_le (by omega)
      rw [hd0] at hcn hsz
      have HE := Lib.hid (show n = cntD (L.drop 1) ∧ z = sizD (L.drop 1) by rw [cntD_nil] at hcn; rw [sizD_nil] at hsz; omega)
      clear hcn hsz hz hd0
      go_wp2_with fail
      go_ret2
      exact ⟨(rfl : _ = Ending.returned (.tuple #[.int .i64 (n : Int), .int .i64 (z : Int)])).trans (by rw [← HE.out.1, ← HE.out.2]), rfl⟩
theorem kindD_at {i : Nat} (hi1 : 1 ≤ i) (hi : i < L.length) : kindD L (i : Int) = L[i].kind := by
  unfold kindD dget; rw [if_pos (by omega), show ((i : Int)).toNat = i by omega, List.getElem?_eq_getElem hi]
theorem textD_at {i : Nat} (hi1 : 1 ≤ i) (hi : i < L.length) (h0 : L[i].kind ≠ 0) (hk : L[i].kind ≠ 1) : textD L (i : Int) = 0 := by
  unfold textD; rw [kindD_at hi1 hi, if_neg h0, if_neg hk]
set_option maxRecDepth 100000 in
set_option maxHeartbeats 4000000 in
/-- Read of a node with bytes. -/
theorem frread_calls {i : Nat} (a m : Nat) (hi1 : 1 ≤ i) (hi : i < L.length) (h0 : L[i].kind ≠ 0) (hk : L[i].kind ≠ 1) (hz : L[i].text.size ≤ 1000000) (ha : a ≤ 1000000000) (hm : m ≤ 9223372036854775807) (h : Sat w (rfHp c L * R)) :
    Calls Tryz.prog 84 #[pp c.fb, .int .i64 (i : Int), .int .i64 (a : Int), .int .i64 (m : Int)] w fun e w' => (e = .returned (.tuple #[.string (readB L[i].text a m), .int .i64 0]) ∧ Sat w' (rfHp c L * R)) ∧ Ran w w' := by
  have HT := rtext_calls (i : Int) h
  rw [textD_at hi1 hi h0 hk] at HT
  have HT := Lib.hid HT
  obtain ⟨c0, c1, c2⟩ := rf_cells h
  have hlm := rf_len h
  have hlI : (L.length : Int) ≤ 9223372036854775807 := by unfold maxLen at hlm; omega
  obtain ⟨d0, d1, -⟩ := dn_cells h hi
  obtain ⟨x, hx⟩ : ∃ x, x = L[i].text := ⟨_, rfl⟩
  rw [← hx] at d1 hz ⊢
  have h1 : (0 : Int) ≤ (i : Int) := by omega
  have h2 : (i : Int) < (L.length : Int) := by omega
  have H0 := Lib.hid (And.intro h (Below.refl 0 w : Ran w w))
  have ha0 : (0 : Int) ≤ (a : Int) := by omega
  have hm0 : (0 : Int) ≤ (m : Int) := by omega
  have hda : decide ((a : Int) < 0) = false := decide_eq_false (by omega)
  have hdm : decide ((m : Int) < 0) = false := decide_eq_false (by omega)
  have hzI : (x.size : Int) ≤ 1000000 := by omega
  clear h hx hlm h0 hk d0
  unfold readB
  by_cases hax : x.size ≤ a
  · have hge : (x.size : Int) ≤ (a : Int) := by omega
    have hE : Hid (((x.extract (min a x.size) x.size).extract 0 (min m (x.extract (min a x.size) x.size).size)) = ⟨#[]⟩) := Lib.hid (by
      rw [Nat.min_eq_right hax]; apply ByteArray.ext; simp)
    clear hax
    rw [hE.out]
    go_enter Tryz.func84, Tryz.ntmps84
    go_wp2_with fail
    refine HT.out.mono ?_
    rintro e w1 ⟨rfl, rfl⟩
    clear HT
    go_wp2_with fail
    go_ret2
    exact ⟨⟨rfl, H0.out.1⟩, H0.out.2⟩
  · have hlt : (a : Int) < (x.size : Int) := by omega
    have hmn : min a x.size = a := by omega
    have hle : a ≤ x.size := by omega
    have hleI : (a : Int) ≤ (x.size : Int) := by omega
    have hsz : (x.extract a x.size).size = x.size - a := by simp
    by_cases hm2 : m < x.size - a
    · have hmn2 : ((x.extract (min a x.size) x.size).extract 0 (min m (x.extract (min a x.size) x.size).size)) = (x.extract a x.size).extract 0 m := by
        rw [hmn, hsz, show min m (x.size - a) = m by omega]
      have hle2 : m ≤ x.size - a := by omega
      clear hax hmn hsz
      rw [hmn2]
      clear hmn2
      go_enter Tryz.func84, Tryz.ntmps84
      go_wp2_with fail
      refine HT.out.mono ?_
      rintro e w1 ⟨rfl, rfl⟩
      clear HT
      go_wp2_with fail
      go_ret2
      exact ⟨⟨rfl, H0.out.1⟩, H0.out.2⟩
    · have hmn2 : ((x.extract (min a x.size) x.size).extract 0 (min m (x.extract (min a x.size) x.size).size)) = x.extract a x.size := by
        rw [hmn, hsz, show min m (x.size - a) = x.size - a by omega, ← hsz]; apply ByteArray.ext; simp; rw [show min (a + (x.size - a)) x.size = x.size by omega]
      have hle2 : x.size - a ≤ m := by omega
      clear hax hmn hsz
      rw [hmn2]
      clear hmn2
      go_enter Tryz.func84, Tryz.ntmps84
      go_wp2_with fail
      refine HT.out.mono ?_
      rintro e w1 ⟨rfl, rfl⟩
      clear HT
      go_wp2_with fail
      go_ret2
      exact ⟨⟨rfl, H0.out.1⟩, H0.out.2⟩
end
end Go.Proofs.YtljlpkeddbfpaaaGreatDoor.Hd

namespace Go.Proofs.YtljlpkeddbfpaaaGreatDoor.Hd
open Go.RowKit Go.Maps Go.Proofs.YtljlpkeddbfpaaaGreatDoor Go.Proofs.YtljlpkeddbfpaaaGreatDoor.Hp
set_option linter.unusedVariables false
attribute [local go_sem] Oper.semAt_some

set_option maxRecDepth 100000 in
set_option maxHeartbeats 4000000 in
theorem tread_calls (xb : Nat) (s : ByteArray) (a q : Nat) (ha : a ≤ s.size) (hs : s.size ≤ 1048576) (hq : q ≤ 9223372036854775807) (w : World) (R : Hp) (h : Sat w (pts xb (txO s a) * R)) :
    Calls Tryz.prog 213 #[pp xb, .int .i64 q] w fun e w' => (e = .returned (.tuple #[.string (readB s a q), .int .i64 0]) ∧ Sat w' (pts xb (txO s ((a + (readB s a q).size : Nat) : Int)) * R)) ∧ Ran w w' := by
  obtain ⟨d0, d1⟩ := tx_cells h.drew
  have f0 : ∀ i, w.drew.frozen? ⟨xb, i, none⟩ = false := fun i => free_at h.drew.get i
  unfold readB
  rw [Nat.min_eq_left ha]
  obtain ⟨rs, hrs⟩ : ∃ r, r = s.extract a s.size := ⟨_, rfl⟩
  have hrsz : rs.size ≤ s.size := by rw [hrs, ByteArray.size_extract]; omega
  rw [← hrs]
  obtain ⟨pm, hpm⟩ : ∃ p, p = min q rs.size := ⟨_, rfl⟩
  rw [← hpm]
  have hmin2 : min (q : Int) (rs.size : Int) = (pm : Int) := by omega
  have hp2 : (0 : Int) ≤ (pm : Int) := by omega
  have hp3n : pm ≤ rs.size := by omega
  obtain ⟨t, ht⟩ : ∃ t, t = rs.extract 0 pm := ⟨_, rfl⟩
  have htz : t.size ≤ 1048576 := by rw [ht, ByteArray.size_extract]; omega
  rw [← ht, show ((a + t.size : Nat) : Int) = (a : Int) + (t.size : Int) by omega]
  have htI : (t.size : Int) ≤ 1048576 := by omega
  have haI : (a : Int) ≤ (s.size : Int) := by omega
  have ha0 : (0 : Int) ≤ (a : Int) := by omega
  have hsI : (s.size : Int) ≤ 1048576 := by omega
  have S3 : Hid (Sat (w.drew.setCell ⟨xb, 1, none⟩ (.int .i64 ((a : Int) + (t.size : Int)))) (pts xb (txO s ((a : Int) + (t.size : Int))) * R)) := Lib.hid (h.drew.set (i := 1) (.int .i64 ((a : Int) + (t.size : Int))))
  have Hrs := Lib.hid hrs.symm
  have Ht := Lib.hid ht.symm
  clear h hrs hpm ht
  go_enter Tryz.func213, Tryz.ntmps213
  go_wp2_with fail
  refine region_plan (S := (fun w' => w'.cell? ⟨xb, 0, none⟩ = some (.string s) ∧ w'.cell? ⟨xb, 1, none⟩ = some (.int .i64 (a : Int)))) [(0, true), (1, true), (2, true), (3, true), (4, true), (5, true), (6, true), (7, true), (8, true), (9, true)] (by kernel_rfl) (by kernel_rfl) (by kernel_rfl) ?_ ?_
  · ((try dsimp only); (first | done | (exact ⟨d0, d1⟩)))
  simp only [planOps, List.map_cons, List.map_nil, List.getElem?_toArray, List.getElem?_cons_zero, List.getElem?_cons_succ]
  repeat (first
    | ((refine plan_yes (v := ?_) (by rfl) ?_ ?_); rotate_left; (focus (intro w hSw; (try dsimp only at hSw); go_simp; try (with_reducible rfl))); (try simp only [Act.put, List.setIfInBounds_toArray, List.set_cons_zero, List.set_cons_succ]))
    | ((refine plan_no (by rfl) ?_); (try simp only [Act.put, List.setIfInBounds_toArray, List.set_cons_zero, List.set_cons_succ]))
    | ((refine plan_step (fun K hK => ?_)); (first | (fail) | (go_simp; (fail); (try go_wp2_with fail)) | go_simp); (refine hK.out _ _ ?_ (fun hHeld => ?_)); (focus ((try dsimp only); (first | done | (exact ⟨d0, d1⟩)))); clear hK K; (try simp only [Act.put, List.setIfInBounds_toArray, List.set_cons_zero, List.set_cons_succ])))
  refine plan_done ?_
  rw [Hrs.out]
  go_upto_region 3 with fail
  rw [Ht.out]
  go_wp2_with fail
  go_ret2
  exact ⟨⟨rfl, S3.out⟩, Ran.set (Ran.drewN (Below.refl 0 w) 1) _ _⟩
end Go.Proofs.YtljlpkeddbfpaaaGreatDoor.Hd

namespace Go.Proofs.YtljlpkeddbfpaaaGreatDoor.Hd
open Go.RowKit Go.Maps Go.Proofs.YtljlpkeddbfpaaaGreatDoor Go.Proofs.YtljlpkeddbfpaaaGreatDoor.Hp
set_option linter.unusedVariables false
attribute [local go_sem] Oper.semAt_some

set_option maxRecDepth 100000 in
set_option maxHeartbeats 4000000 in
theorem TRead_text (tb fb pb hm n : Nat) (L : HL) (id : Int) (y : Hn) (s : ByteArray) (a q : Nat) (hid : I64 id) (hy : findA L id = some y) (hyt : y.t = .text s a) (ha : a ≤ s.size) (hs : s.size ≤ 1048576) (hq : q ≤ 9223372036854775807) (w : World) (R : Hp)
    (h : Sat w (tabHp tb fb pb hm L n * R)) :
    Calls Tryz.prog 19 #[pp tb, .int .i64 id, .int .i64 q] w fun e w' => (e = .returned (.tuple #[.string (readB s a q), .int .i64 0]) ∧
      Sat w' (tabHp tb fb pb hm (updA L id { y with t := .text s (a + (readB s a q).size) }) n * R)) ∧ Ran w w' := by
  have HGt := get_calls tb fb pb hm n L id hid w _ h
  unfold getE at HGt
  rw [show hblk L id = some y.b by unfold hblk; rw [hy]; rfl, hy] at HGt
  unfold pv at HGt
  have HGt := Lib.hid HGt
  obtain ⟨X, S1, back⟩ := tab_node h hy
  obtain ⟨d0, d1⟩ := hn_cells S1
  rw [hyt] at S1 d1
  unfold thT at d1
  unfold thO at S1
  have hmi := meth_text_info y.xb
  have hmw2 := meth_text_read y.xb
  have S2 := S1.perm (show _ = pts y.xb (txO s a) * (X * R * pts y.b (hnO y)) by ac_rfl)
  have HIn := Lib.hid (tinfo_calls y.xb s a w _ S2)
  have S2 := Lib.hid S2
  have HFR := Lib.hid (fun W hW => tread_calls y.xb s a q ha hs hq W (X * R * pts y.b (hnO y)) hW)
  obtain ⟨r, hr⟩ : ∃ r, r = readB s a q := ⟨_, rfl⟩
  rw [← hr] at HFR ⊢
  have Back := Lib.hid back
  have Hyt := Lib.hid hyt
  have hf1 := field_mode 2 0 a 0 true false false
  have hf2 := field_r true false false
  have hq0 : (0 : Int) ≤ (q : Int) := by omega
  clear h S1 back hyt hy hr
  go_enter Tryz.func19, Tryz.ntmps19
  go_wp2_with fail
  refine HGt.out.mono ?_
  rintro e w1 ⟨rfl, rfl⟩
  go_wp2_with fail
  refine HIn.out.mono ?_
  rintro e w1 ⟨rfl, hB⟩
  have S3 := S2.out.below hB
  have R3 := Lib.hid (below_ran hB)
  obtain ⟨e0, e1⟩ := hn_cells (S3.perm (show _ = pts y.b (hnO y) * (pts y.xb (txO s a) * (X * R)) by ac_rfl))
  rw [Hyt.out] at e1
  unfold thT at e1
  have HW := Lib.hid (HFR.out _ S3)
  clear hB HIn HFR HGt d0 d1 S3 S2
  go_wp2_with fail
  refine HW.out.mono ?_
  rintro e w2 ⟨⟨rfl, S4⟩, R4⟩
  have R4 := Lib.hid (Below.trans R3.out R4)
  have S5 := Lib.hid (Back.out w2 { y with t := .text s (a + r.size) } R rfl (S4.perm (show _ = pts y.b (hnO { y with t := .text s (a + r.size) }) * (pts y.xb (txO s ((a + r.size : Nat) : Int)) * (X * R)) by
    rw [show hnO { y with t := .text s (a + r.size) } = hnO y by unfold hnO; rw [Hyt.out]; rfl]
    ac_rfl)))
  clear S4 HW
  go_wp2_with fail
  go_ret2
  exact ⟨⟨rfl, S5.out⟩, R4.out⟩
end Go.Proofs.YtljlpkeddbfpaaaGreatDoor.Hd

