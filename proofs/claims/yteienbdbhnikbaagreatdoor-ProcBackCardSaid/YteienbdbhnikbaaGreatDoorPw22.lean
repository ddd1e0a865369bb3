/- HandlesPlays, part 22 of 31: the texts PrS HdQ HdR PrT PrU, joined by a program. -/
import Derived.Test.YteienbdbhnikbaaGreatDoorPw21
import Derived.Test.YteienbdbhnikbaaGreatDoorPw14
import Derived.Test.YteienbdbhnikbaaGreatDoorPw10
namespace Go.Proofs.YteienbdbhnikbaaGreatDoor.Pr
open Go.RowKit Go.Maps Go.Proofs.YteienbdbhnikbaaGreatDoor Go.Proofs.YteienbdbhnikbaaGreatDoor.Hp Go.Proofs.YteienbdbhnikbaaGreatDoor.Hd
set_option linter.unusedVariables false
attribute [local go_sem] Oper.semAt_some

section
variable {c : Pls} {N : Nat} {b : Int → Int} {most : Int} {p : Pc} {nl : List Nt} {ms : List Nat} {w : World} {R : Hp} {s : Sg}
theorem base_more (hb : Base b) (id : Int) : Base (fun k => b k + dl id k) := fun k => by
  have := hb k
  have := dl0 id k
  refine ⟨by dsimp only; omega, fun h1 h2 => ?_⟩
  have := (hb k).2 h1 h2
  dsimp only
  omega
theorem f_more (id k : Int) : fOf (fun k => b k + dl id k) p nl k = fOf b p nl k + dl id k := by
  unfold fOf
  dsimp only
  omega
theorem l_Unref (hN : N ≤ 700000) {id : Int} (h5 : 5 ≤ id) (hb : Base b) (h : Sat w (PH c N (fun k => b k + dl id k) most p nl ms * R)) :
    Calls Tryz.prog 52 #[pp c.tb, .int .i64 id] w fun e w' => e = .returned (.int .i64 0) ∧ Sat w' (PH c (N + 1) b most p nl ms * R) ∧ Ran w w' := by
  obtain ⟨s, hI, hf, hg, hS⟩ := ph_bes h
  have h1 : 1 ≤ rf s.L id := by
    rw [hf, f_more, dl_self (by omega)]
    have h1 := nF0 p.fds id
    have h2 := nN0 nl id
    have h3 := (hb id).1
    unfold fOf
    omega
  refine (m_Unref (n := id) (by omega) hI h1 (fun _ => h5) hS).mono ?_
  rintro e w' ⟨rfl, hE⟩
  obtain ⟨h2, h3⟩ := st_eff hE (f' := fOf b p nl) (g' := gOf p nl) (fun k => by
    rw [hf, f_more]
    unfold dl
    by_cases e : k = id
    · rw [if_pos e, if_pos (And.intro e (by omega))]; omega
    · rw [if_neg e, if_neg (fun h => e h.1)]; omega) hg
  exact ⟨rfl, h2.perm (by unfold PH Bes; ac_rfl), h3⟩
/-- What Open does once the file is there: the handle, the slot, the handle's own ref let go. -/
theorem open_rest (hl : Link c p) (ho : POk p nl) (hN : N ≤ 500000) (hb : Base b) (hm4 : ms.length ≤ 4) {i : Nat} (hi : i < 16) (m : Md) {s2 : Sg} {n : Int} {x : Nd} (hx : Hd.find s2.F.L n = some x) (hI : InvT (N + 1) s2) (hf : ∀ k, rf s2.L k = fOf b p nl k) (hg : ∀ k, xt s2 k = gOf p nl k) {w2 : World} (hR : Ran w w2) (hS : Sat w2 (SgHp c s2 * (Bes most p nl ms * R))) :
    Calls Tryz.prog 62 #[pp c.tb, .int .i64 n, mdV m] w2 fun e w3 => ∃ id er3 : Int, e = .returned (.tuple #[.int .i64 id, .int .i64 er3]) ∧ ((er3 ≠ 0 → Res c (N + 8) b most p nl ms w R er3 w3) ∧
      (er3 = 0 → Calls Tryz.prog 56 #[pp p.pb, slP p.pb i, .int .i64 id] w3 fun e w4 => ∃ er4, e = .returned (.int .i64 er4) ∧ w4.cell? ⟨p.pb, 1, none⟩ = some (pp c.tb) ∧
        Calls Tryz.prog 52 #[pp c.tb, .int .i64 id] w4 fun e w5 => ∃ v, e = .returned (.int .i64 v) ∧ Res c (N + 8) b most p nl ms w R er4 w5)) := by
  refine (m_File (m := m) (by omega) hI (fun k h1 h4 => ?_) hx hS).mono ?_
  · rw [hf]
    have h2 := nF0 p.fds k
    have h3 := nN0 nl k
    have h5 := (hb k).2 h1 h4
    unfold fOf
    omega
  rintro e w3 ⟨id, er3, rfl, h43, (⟨h0, hE⟩ | ⟨h0, h5, h6, hr0, hE⟩)⟩
  · refine ⟨id, er3, rfl, fun _ => ?_, fun e => absurd e h0⟩
    obtain ⟨h2, h3⟩ := st_eff hE (f' := fOf b p nl) (g' := gOf p nl) hf hg
    exact res_same (N := N + 1 + 1) (by omega) h43 (h2.perm (by unfold PH Bes; ac_rfl)) (Below.trans hR h3)
  · refine ⟨id, er3, rfl, fun e => absurd h0 e, fun _ => ?_⟩
    obtain ⟨h2, h3⟩ := st_eff hE (f' := fOf (fun k => b k + dl id k) p nl) (g' := gOf p nl) (fun k => by
      rw [hf, f_more]
      unfold dl
      by_cases e : k = id
      · rw [if_pos e, if_pos (And.intro e (by omega))]
      · rw [if_neg e, if_neg (fun h => e h.1)]) hg
    have h4 : Sat w3 (PH c (N + 1 + 1) (fun k => b k + dl id k) most p nl ms * R) := h2.perm (by unfold PH Bes; ac_rfl)
    refine (fd_set hl (by omega) (base_more hb id) hi id (fun _ => ?_) hm4 (by have := ho.len; omega) (ho.vals i (by omega)).2.2 (php h4)).mono ?_
    · rw [f_more, dl_self (by omega)]
      have h1 := nF0 p.fds id
      have h2 := nN0 nl id
      have h3 := (hb id).1
      unfold fOf
      omega
    · rintro e w4 ⟨er4, p', nl', rfl, hs, S4, R4⟩
      refine ⟨er4, rfl, ?_, ?_⟩
      · have hp' : p'.pb = p.pb ∧ p'.tb = p.tb := by
          cases hs with
          | now _ => exact ⟨(Pc.put_same p i _).1, (Pc.put_same p i _).2.2.1⟩
          | full _ _ => exact ⟨rfl, rfl⟩
          | noted sb wb _ _ => exact ⟨(Pc.put_same p i _).1, (Pc.put_same p i _).2.2.1⟩
        have := (pc_heads (ph_pc S4)).2.1
        rw [hp'.1, hp'.2, hl.tb] at this
        exact this
      · refine (l_Unref (by omega) h5 hb S4).mono ?_
        rintro e w5 ⟨rfl, S5, R5⟩
        exact ⟨0, rfl, p', nl', ms, .set i id er4 p' nl' (by omega) (by omega) h6 hs, ph_more (by omega) S5, Below.trans (Below.trans (Below.trans hR h3) R4) R5, rfl⟩
set_option maxRecDepth 100000 in
set_option maxHeartbeats 2000000 in
theorem p_Open (hl : Link c p) (ho : POk p nl) (hN : N ≤ 500000) (hb : Base b) (hm4 : ms.length ≤ 4) (fd : Int) (path : ByteArray) (hp : path.size ≤ 1000) (kind : Int) (hG : Glob R) (h : Sat w (PH c N b most p nl ms * R)) :
    Calls Tryz.prog 26 #[pp p.pb, .int .i64 fd, .string path, .int .i64 kind] w fun e w' => ∃ er, e = .returned (.int .i64 er) ∧ Res c (N + 8) b most p nl ms w R er w' := by
  have HSm := Lib.hid (fun (er : Int) (he : er ≠ 43) => res_same (M := N + 8) (by omega) he h (Below.refl 0 w))
  by_cases hr : 0 ≤ fd ∧ fd < 16
  case neg =>
    have HA := Lib.hid (at_bad p.pb fd (by omega) w)
    clear h ho hr hl hb
    go_enter Tryz.func26, Tryz.ntmps26
    go_wp2_with fail
    refine HA.out.mono ?_
    rintro e w1 ⟨rfl, rfl⟩
    go_wp2_with fail
    go_ret
    exact ⟨18, rfl, HSm.out 18 (by decide)⟩
  obtain ⟨i, rfl⟩ : ∃ i : Nat, fd = i := ⟨fd.toNat, by omega⟩
  have hi : i < 16 := by omega
  have HA := Lib.hid (at_calls p.pb i hi w)
  by_cases hlo : kind < 1
  · clear h ho hr hl hb
    go_enter Tryz.func26, Tryz.ntmps26
    go_wp2_with fail
    refine HA.out.mono ?_
    rintro e w1 ⟨rfl, rfl⟩
    go_wp2_with fail
    go_ret
    exact ⟨1, rfl, HSm.out 1 (by decide)⟩
  by_cases hhi : 4 < kind
  · clear h ho hr hl hb
    go_enter Tryz.func26, Tryz.ntmps26
    go_wp2_with fail
    refine HA.out.mono ?_
    rintro e w1 ⟨rfl, rfl⟩
    go_wp2_with fail
    go_ret
    exact ⟨1, rfl, HSm.out 1 (by decide)⟩
  obtain ⟨s, hI, hf, hg, hS⟩ := ph_bes h
  have hv := ho.vals 16 (by omega)
  have hv : 0 ≤ p.dir.has ∧ p.dir.has ≤ 1000000 ∧ 0 ≤ p.dir.mark := hv
  have HFile := Lib.hid (fun (kind : Int) => p_file hl ⟨hv.1, hv.2.1⟩ (by omega) path hp kind hI hG hS)
  have HOp := fun (m : Md) (s2 : Sg) (n : Int) (x : Nd) (hx : Hd.find s2.F.L n = some x) (hI : InvT (N + 1) s2) (hf2 : ∀ k, rf s2.L k = rf s.L k) (hg2 : ∀ k, xt s2 k = xt s k) (w2 : World) (hR : Ran w w2) (hS : Sat w2 (SgHp c s2 * (Bes most p nl ms * R))) => open_rest hl ho hN hb hm4 hi m hx hI (fun k => (hf2 k).trans (hf k)) (fun k => (hg2 k).trans (hg k)) hR hS
  have HBad := Lib.hid (fun (s2 : Sg) (er : Int) (hI : InvT (N + 1) s2) (hf2 : ∀ k, rf s2.L k = rf s.L k) (hg2 : ∀ k, xt s2 k = xt s k) (w2 : World) (he : er ≠ 43) (hR : Ran w w2) (hS : Sat w2 (SgHp c s2 * (Bes most p nl ms * R))) => (by
    have h1 : Sat w2 (PHP c (N + 1) b most p nl ms (fun _ => True) * R) := ph_in hI (fun k => (hf2 k).trans (hf k)) (fun k => (hg2 k).trans (hg k)) trivial hS
    exact res_same (by omega) he (show Sat w2 (PH c (N + 1) b most p nl ms * R) from h1) hR : Res c (N + 8) b most p nl ms w R er w2))
  have htb := hl.tb
  have HTb := Lib.hid (fun (s2 : Sg) (W : World) (hW : Sat W (SgHp c s2 * (Bes most p nl ms * R))) => (by
    have := (pc_heads (bes_pc hW)).2.1
    rw [htb] at this
    exact this : W.cell? ⟨p.pb, 1, none⟩ = some (pp c.tb)))
  have HOp := Lib.hid HOp
  clear h ho hr hl hb hS hI hf hg hv htb
  rcases (show kind = 1 ∨ kind = 2 ∨ kind = 3 ∨ kind = 4 by omega) with rfl | rfl | rfl | rfl
  · skip
    have HFi := Lib.hid (HFile.out 1)
    have HFl := Lib.hid (HOp.out ⟨true, false, false⟩)
    clear HFile HOp hlo hhi
    go_enter Tryz.func26, Tryz.ntmps26
    go_wp2_with fail
    refine HA.out.mono ?_
    rintro e w1 ⟨rfl, rfl⟩
    go_wp2_with fail
    refine HFi.out.mono ?_
    rintro e w2 ⟨n, er, s2, rfl, he, hin, hI2, hf2, hg2, S2, R2⟩
    have hI2 := Lib.hid hI2
    have hf2 := Lib.hid hf2
    have hg2 := Lib.hid hg2
    have R2 := Lib.hid R2
    by_cases hz : er = 0
    · subst hz
      obtain ⟨x, hx⟩ := hin rfl
      have HF2 := Lib.hid (HFl.out s2 n x hx hI2.out hf2.out hg2.out w2 R2.out S2)
      have a1 := HTb.out s2 w2 S2
      clear he hin S2 hx HFl HFi
      go_wp2_with fail
      refine HF2.out.mono ?_
      rintro e w3 ⟨id, er3, rfl, hres⟩
      by_cases h3 : er3 = 0
      · subst h3
        have HSt := Lib.hid (hres.2 rfl)
        clear hres
        go_wp2_with fail
        refine HSt.out.mono ?_
        rintro e w4 ⟨er4, rfl, a4, HUn⟩
        have HUn := Lib.hid HUn
        go_wp2_with fail
        refine HUn.out.mono ?_
        rintro e w5 ⟨v, rfl, hq⟩
        have hq := Lib.hid hq
        go_wp2_with fail
        go_ret
        exact ⟨er4, rfl, hq.out⟩
      · have hr3 := Lib.hid (hres.1 h3)
        have h3b : (er3 == 0) = false := by simpa using h3
        clear hres
        go_wp2_with fail
        go_ret
        exact ⟨er3, rfl, hr3.out⟩
    · have hq := Lib.hid (HBad.out s2 er hI2.out hf2.out hg2.out w2 (by omega) R2.out S2)
      have hzb : (er == 0) = false := by simpa using hz
      clear he hin S2 HFl HFi
      go_wp2_with fail
      go_ret
      exact ⟨er, rfl, hq.out⟩
  · skip
    have HFi := Lib.hid (HFile.out 2)
    have HFl := Lib.hid (HOp.out ⟨false, true, false⟩)
    clear HFile HOp hlo hhi
    go_enter Tryz.func26, Tryz.ntmps26
    go_wp2_with fail
    refine HA.out.mono ?_
    rintro e w1 ⟨rfl, rfl⟩
    go_wp2_with fail
    refine HFi.out.mono ?_
    rintro e w2 ⟨n, er, s2, rfl, he, hin, hI2, hf2, hg2, S2, R2⟩
    have hI2 := Lib.hid hI2
    have hf2 := Lib.hid hf2
    have hg2 := Lib.hid hg2
    have R2 := Lib.hid R2
    by_cases hz : er = 0
    · subst hz
      obtain ⟨x, hx⟩ := hin rfl
      have HF2 := Lib.hid (HFl.out s2 n x hx hI2.out hf2.out hg2.out w2 R2.out S2)
      have a1 := HTb.out s2 w2 S2
      clear he hin S2 hx HFl HFi
      go_wp2_with fail
      refine HF2.out.mono ?_
      rintro e w3 ⟨id, er3, rfl, hres⟩
      by_cases h3 : er3 = 0
      · subst h3
        have HSt := Lib.hid (hres.2 rfl)
        clear hres
        go_wp2_with fail
        refine HSt.out.mono ?_
        rintro e w4 ⟨er4, rfl, a4, HUn⟩
        have HUn := Lib.hid HUn
        go_wp2_with fail
        refine HUn.out.mono ?_
        rintro e w5 ⟨v, rfl, hq⟩
        have hq := Lib.hid hq
        go_wp2_with fail
        go_ret
        exact ⟨er4, rfl, hq.out⟩
      · have hr3 := Lib.hid (hres.1 h3)
        have h3b : (er3 == 0) = false := by simpa using h3
        clear hres
        go_wp2_with fail
        go_ret
        exact ⟨er3, rfl, hr3.out⟩
    · have hq := Lib.hid (HBad.out s2 er hI2.out hf2.out hg2.out w2 (by omega) R2.out S2)
      have hzb : (er == 0) = false := by simpa using hz
      clear he hin S2 HFl HFi
      go_wp2_with fail
      go_ret
      exact ⟨er, rfl, hq.out⟩
  · skip
    have HFi := Lib.hid (HFile.out 3)
    have HFl := Lib.hid (HOp.out ⟨false, true, true⟩)
    clear HFile HOp hlo hhi
    go_enter Tryz.func26, Tryz.ntmps26
    go_wp2_with fail
    refine HA.out.mono ?_
    rintro e w1 ⟨rfl, rfl⟩
    go_wp2_with fail
    refine HFi.out.mono ?_
    rintro e w2 ⟨n, er, s2, rfl, he, hin, hI2, hf2, hg2, S2, R2⟩
    have hI2 := Lib.hid hI2
    have hf2 := Lib.hid hf2
    have hg2 := Lib.hid hg2
    have R2 := Lib.hid R2
    by_cases hz : er = 0
    · subst hz
      obtain ⟨x, hx⟩ := hin rfl
      have HF2 := Lib.hid (HFl.out s2 n x hx hI2.out hf2.out hg2.out w2 R2.out S2)
      have a1 := HTb.out s2 w2 S2
      clear he hin S2 hx HFl HFi
      go_wp2_with fail
      refine HF2.out.mono ?_
      rintro e w3 ⟨id, er3, rfl, hres⟩
      by_cases h3 : er3 = 0
      · subst h3
        have HSt := Lib.hid (hres.2 rfl)
        clear hres
        go_wp2_with fail
        refine HSt.out.mono ?_
        rintro e w4 ⟨er4, rfl, a4, HUn⟩
        have HUn := Lib.hid HUn
        go_wp2_with fail
        refine HUn.out.mono ?_
        rintro e w5 ⟨v, rfl, hq⟩
        have hq := Lib.hid hq
        go_wp2_with fail
        go_ret
        exact ⟨er4, rfl, hq.out⟩
      · have hr3 := Lib.hid (hres.1 h3)
        have h3b : (er3 == 0) = false := by simpa using h3
        clear hres
        go_wp2_with fail
        go_ret
        exact ⟨er3, rfl, hr3.out⟩
    · have hq := Lib.hid (HBad.out s2 er hI2.out hf2.out hg2.out w2 (by omega) R2.out S2)
      have hzb : (er == 0) = false := by simpa using hz
      clear he hin S2 HFl HFi
      go_wp2_with fail
      go_ret
      exact ⟨er, rfl, hq.out⟩
  · skip
    have HFi := Lib.hid (HFile.out 4)
    have HFl := Lib.hid (HOp.out ⟨true, true, false⟩)
    clear HFile HOp hlo hhi
    go_enter Tryz.func26, Tryz.ntmps26
    go_wp2_with fail
    refine HA.out.mono ?_
    rintro e w1 ⟨rfl, rfl⟩
    go_wp2_with fail
    refine HFi.out.mono ?_
    rintro e w2 ⟨n, er, s2, rfl, he, hin, hI2, hf2, hg2, S2, R2⟩
    have hI2 := Lib.hid hI2
    have hf2 := Lib.hid hf2
    have hg2 := Lib.hid hg2
    have R2 := Lib.hid R2
    by_cases hz : er = 0
    · subst hz
      obtain ⟨x, hx⟩ := hin rfl
      have HF2 := Lib.hid (HFl.out s2 n x hx hI2.out hf2.out hg2.out w2 R2.out S2)
      have a1 := HTb.out s2 w2 S2
      clear he hin S2 hx HFl HFi
      go_wp2_with fail
      refine HF2.out.mono ?_
      rintro e w3 ⟨id, er3, rfl, hres⟩
      by_cases h3 : er3 = 0
      · subst h3
        have HSt := Lib.hid (hres.2 rfl)
        clear hres
        go_wp2_with fail
        refine HSt.out.mono ?_
        rintro e w4 ⟨er4, rfl, a4, HUn⟩
        have HUn := Lib.hid HUn
        go_wp2_with fail
        refine HUn.out.mono ?_
        rintro e w5 ⟨v, rfl, hq⟩
        have hq := Lib.hid hq
        go_wp2_with fail
        go_ret
        exact ⟨er4, rfl, hq.out⟩
      · have hr3 := Lib.hid (hres.1 h3)
        have h3b : (er3 == 0) = false := by simpa using h3
        clear hres
        go_wp2_with fail
        go_ret
        exact ⟨er3, rfl, hr3.out⟩
    · have hq := Lib.hid (HBad.out s2 er hI2.out hf2.out hg2.out w2 (by omega) R2.out S2)
      have hzb : (er == 0) = false := by simpa using hz
      clear he hin S2 HFl HFi
      go_wp2_with fail
      go_ret
      exact ⟨er, rfl, hq.out⟩
end
end Go.Proofs.YteienbdbhnikbaaGreatDoor.Pr

namespace Go.Proofs.YteienbdbhnikbaaGreatDoor.Hd
open Go.RowKit Go.Maps Go.Proofs.YteienbdbhnikbaaGreatDoor Go.Proofs.YteienbdbhnikbaaGreatDoor.Hp
set_option linter.unusedVariables false
attribute [local go_sem] Oper.semAt_some

end Go.Proofs.YteienbdbhnikbaaGreatDoor.Hd

namespace Go.Proofs.YteienbdbhnikbaaGreatDoor.Hd
open Go.RowKit Go.Maps Go.Proofs.YteienbdbhnikbaaGreatDoor Go.Proofs.YteienbdbhnikbaaGreatDoor.Hp
set_option linter.unusedVariables false
attribute [local go_sem] Oper.semAt_some

/-- The root, when it is new. -/
def rootN (b kb : Nat) : Nd := ⟨b, 1, ⟨#[]⟩, some ⟨kb, fun _ => none, 0, 0⟩, 1, 0, 0⟩
def newF (most room : Int) (b kb : Nat) : Fs := ⟨most, room, 0, [((1 : Int), rootN b kb)], 1⟩
set_option maxRecDepth 100000 in
set_option maxHeartbeats 8000000 in
theorem New_calls (most room : Int) (h1 : 1 ≤ most) (h2 : most ≤ 1024) (h3 : 0 ≤ room) (h4 : room ≤ 1048576) (w : World) (R : Hp) (h : Sat w R) :
    Calls Tryz.prog 30 #[.int .i64 most, .int .i64 room] w fun e w' => (∃ fb mb b kb, e = .returned (.tuple #[pp fb, .int .i64 0]) ∧ Sat w' (fsHp fb mb (newF most room b kb) * R)) ∧ Ran w w' := by
  have hmk1 : ∀ W : World, (Instr.makeMap 113 none).run Tryz.prog W = .ok (.map (some W.heap.size)) (W.alloc (.map #[] 0)) := fun W => rfl
  have hmk2 : ∀ W : World, (Instr.makeMap 116 none).run Tryz.prog W = .ok (.map (some W.heap.size)) (W.alloc (.map #[] 0)) := fun W => rfl
  have S1 := pmap_made h
  have S2 := K.smap_made S1
  rw [World.size_alloc] at S2
  have S3 := S2.alloc (ndO (rootN (w.heap.size + 1 + 1) (w.heap.size + 1)))
  rw [World.size_alloc, World.size_alloc] at S3
  have S4 := S3.perm (show _ = pmap w.heap.size (fun _ => none) 0 0 * (pts (w.heap.size + 1 + 1) (ndO (rootN (w.heap.size + 1 + 1) (w.heap.size + 1))) * (K.smap (w.heap.size + 1) (fun _ => none) 0 0 * R)) by ac_rfl)
  obtain ⟨w3, hrun, S5, R5⟩ := pmap_put Tryz.underlying113 S4 (by unfold maxLen; omega) 1 (by unfold I64; omega) rfl (w.heap.size + 1 + 1)
  have S6 := Lib.hid ((S5.alloc (fsO (newF most room (w.heap.size + 1 + 1) (w.heap.size + 1)) w.heap.size)).perm (show _ = fsHp w3.heap.size w.heap.size (newF most room (w.heap.size + 1 + 1) (w.heap.size + 1)) * R by
    unfold fsHp
    rw [show blk (newF most room (w.heap.size + 1 + 1) (w.heap.size + 1)).L = putP (fun _ => none) 1 (w.heap.size + 1 + 1) by
      unfold newF; dsimp only; rw [blk_cons]; rfl]
    show _ = pts w3.heap.size (fsO (newF most room (w.heap.size + 1 + 1) (w.heap.size + 1)) w.heap.size) * (pmap w.heap.size (putP (fun _ => none) 1 (w.heap.size + 1 + 1)) (0 + 1) (0 + 1) * ((pts (w.heap.size + 1 + 1) (ndO (rootN (w.heap.size + 1 + 1) (w.heap.size + 1))) * K.smap (w.heap.size + 1) (fun _ => none) 0 0) * emp)) * R
    rw [sep_emp]
    ac_rfl))
  have R6 := Lib.hid (Ran.new (Below.trans (Ran.new (Ran.new (Ran.new (Below.refl 0 w) (.map #[] 0)) (.map #[] 0)) (ndO (rootN (w.heap.size + 1 + 1) (w.heap.size + 1)))) R5) (fsO (newF most room (w.heap.size + 1 + 1) (w.heap.size + 1)) w.heap.size))
  unfold ndO rootN kv at hrun
  dsimp only at hrun
  clear h S1 S2 S3 S4 S5 R5
  go_enter Tryz.func30, Tryz.ntmps30
  go_wp2_with fail
  go_ret2
  exact ⟨⟨w3.heap.size, w.heap.size, w.heap.size + 1 + 1, w.heap.size + 1, rfl, S6.out⟩, R6.out⟩
set_option maxRecDepth 100000 in
set_option maxHeartbeats 4000000 in
theorem HNew_calls (fb pb : Nat) (w : World) (R : Hp) (h : Sat w R) :
    Calls Tryz.prog 34 #[pp fb, pp pb] w fun e w' => (∃ tb hm, e = .returned (.tuple #[pp tb, .int .i64 0]) ∧ Sat w' (tabHp tb fb pb hm [] 0 * R)) ∧ Ran w w' := by
  have hmk1 : ∀ W : World, (Instr.makeMap 101 none).run Tryz.prog W = .ok (.map (some W.heap.size)) (W.alloc (.map #[] 0)) := fun W => rfl
  have S1 := pmap_made h
  have S2 := S1.alloc (tbO fb pb w.heap.size)
  rw [World.size_alloc] at S2
  have S3 := Lib.hid (S2.perm (show _ = tabHp (w.heap.size + 1) fb pb w.heap.size [] 0 * R by
    unfold tabHp
    show _ = pts (w.heap.size + 1) (tbO fb pb w.heap.size) * (pmap w.heap.size (fun _ => none) 0 0 * emp) * R
    rw [sep_emp]
    ac_rfl))
  have R3 := Lib.hid (Ran.new (Ran.new (Below.refl 0 w) (.map #[] 0)) (tbO fb pb w.heap.size))
  clear h S1 S2
  go_enter Tryz.func34, Tryz.ntmps34
  go_wp2_with fail
  go_ret2
  exact ⟨⟨w.heap.size + 1, w.heap.size, rfl, S3.out⟩, R3.out⟩
end Go.Proofs.YteienbdbhnikbaaGreatDoor.Hd

namespace Go.Proofs.YteienbdbhnikbaaGreatDoor.Pr
open Go.RowKit Go.Maps Go.Proofs.YteienbdbhnikbaaGreatDoor Go.Proofs.YteienbdbhnikbaaGreatDoor.Hp Go.Proofs.YteienbdbhnikbaaGreatDoor.Hd
set_option linter.unusedVariables false

abbrev n1 (c : UInt8) : ByteArray := ⟨#[c]⟩
def Sm (c : UInt8) : Prop := c = 97 ∨ c = 100 ∨ c = 108 ∨ c = 102 ∨ c = 103
theorem sm_facts {c : UInt8} (h : Sm c) : cutN (n1 c) = 0 ∧ partB (n1 c) = n1 c ∧ (wholeB (n1 c)).size = 1 ∧ rightB (n1 c) = true ∧ n1 c ≠ dotB ∧ n1 c ≠ dotsB ∧ (n1 c).data.toList.head? ≠ some 47 ∧ Lib.cut (Lib.trimLeftB (n1 c).data.toList 47) [47] = ([c], [], false) := by
  rcases h with rfl | rfl | rfl | rfl | rfl
  all_goals exact ⟨by decide, by decide, by decide, by decide, by decide, by decide, by decide, by decide⟩
section
variable {F : Fs} {c : UInt8} {r : Nd} {kd : Kd}
theorem begin_sm (h : Sm c) (d : Int) : beginP d (n1 c) = (d, 0) := by
  obtain ⟨-, -, -, -, -, -, h7, -⟩ := sm_facts h
  unfold beginP
  rw [if_neg (by show ¬ 1 = 0; decide), if_neg (by show ¬ 256 < 1; decide), if_neg h7]
theorem isK_root (hr : Hd.find F.L 1 = some r) (hk : r.kind = 1) : isK F 1 1 = true := by
  unfold isK
  rw [hr]
  simp [hk]
theorem last_sm (h : Sm c) (hr : Hd.find F.L 1 = some r) (hk : r.kind = 1) : lastP F 1 (n1 c) = (1, n1 c, false, 0) := by
  obtain ⟨h1, h2, h3, -, -, -, -, -⟩ := sm_facts h
  unfold lastP
  rw [isK_root hr hk, if_neg (by decide), begin_sm h, if_neg (by decide), if_pos h1, h2, h3]
  rfl
theorem step_sm (h : Sm c) (hr : Hd.find F.L 1 = some r) (hk : r.kind = 1) (hkd : r.kids = some kd) : stepP F 1 (n1 c) = tellP ((kd.M (n1 c)).getD 0) := by
  obtain ⟨-, -, -, h4, h5, h6, -, -⟩ := sm_facts h
  unfold stepP
  rw [hr]
  dsimp only
  rw [if_pos hk, if_neg h5, if_neg h6, h4, if_neg (by decide)]
  unfold kidP
  rw [hkd]
theorem place_sm (h : Sm c) (hr : Hd.find F.L 1 = some r) (hk : r.kind = 1) (hkd : r.kids = some kd) (hM : kd.M (n1 c) = none) (k : Int) : placeP F 1 (n1 c) k = (1, n1 c, 0) := by
  obtain ⟨-, -, -, h4, h5, h6, -, -⟩ := sm_facts h
  unfold placeP
  rw [last_sm h hr hk]
  dsimp only
  unfold placeQ
  rw [step_sm h hr hk hkd, hM, if_neg (by decide), if_neg (fun e => e.1 rfl), if_neg (fun e => e.elim (fun e => absurd e (by show ¬ 1 = 0; decide)) fun e => e.elim h5 h6)]
  rw [if_neg (by decide), if_neg (by decide), if_neg (fun e => by cases e.1)]
theorem walk_no (h : Sm c) (hr : Hd.find F.L 1 = some r) (hk : r.kind = 1) (hkd : r.kids = some kd) (hM : kd.M (n1 c) = none) : WalkP F 1 (n1 c) true = (0, 10) := by
  obtain ⟨-, -, -, -, -, -, -, h8⟩ := sm_facts h
  have hs := step_sm h hr hk hkd
  rw [hM] at hs
  unfold WalkP
  rw [isK_root hr hk, if_neg (by decide)]
  unfold walkR
  rw [begin_sm h, if_neg (by decide)]
  show (loopP F (4999 + 1) 0 1 (n1 c).data.toList true).1 = (0, 10)
  rw [loop_bad h8 (by simp) (by show (stepP F 1 (n1 c)).2 ≠ 0; rw [hs]; decide)]
  show ((0 : Int), (stepP F 1 (n1 c)).2) = (0, 10)
  rw [hs]
  rfl
theorem walk_yes (h : Sm c) (hr : Hd.find F.L 1 = some r) (hk : r.kind = 1) (hkd : r.kids = some kd) {k : Int} (hM : kd.M (n1 c) = some k) (h0 : k ≠ 0) (h3 : isK F k 3 = false) : WalkP F 1 (n1 c) true = (k, 0) := by
  obtain ⟨-, -, -, -, -, -, -, h8⟩ := sm_facts h
  have hs := step_sm h hr hk hkd
  rw [hM] at hs
  have hs : stepP F 1 (n1 c) = (k, 0) := hs.trans (if_neg h0)
  have e1 : (stepP F 1 (⟨[c].toArray⟩ : ByteArray)) = (k, 0) := hs
  unfold WalkP
  rw [isK_root hr hk, if_neg (by decide)]
  unfold walkR
  rw [begin_sm h, if_neg (by decide)]
  show (loopP F (4999 + 1) 0 1 (n1 c).data.toList true).1 = (k, 0)
  rw [loop_plain h8 (by simp) (by rw [e1]) (by rw [e1]; dsimp only; rw [h3]; rfl), e1]
  rfl
end
/-- A tree of which the nodes are 1 to g - 1; what the root's names are. -/
structure BegT (N g u : Nat) (M : K.SM) (F : Fs) : Prop where
  tree : TreeG N F
  most : F.most = 12
  room : F.room = 100
  used : F.used = (u : Int)
  full : ∀ j : Int, (Hd.find F.L j).isSome = true ↔ 1 ≤ j ∧ j < (g : Int)
  len : F.L.length + 1 = g
  root : ∃ r kd, Hd.find F.L 1 = some r ∧ r.kind = 1 ∧ r.kids = some kd ∧ kd.M = M
section
variable {N g u : Nat} {M : K.SM} {F : Fs}
theorem BegT.pos (h : BegT N g u M F) : 2 ≤ g := by
  obtain ⟨r, kd, hr, -⟩ := h.root
  have := (h.full 1).1 (by rw [hr]; rfl)
  omega
theorem BegT.free (h : BegT N g u M F) : FreeN F.L g where
  pos := by have := h.pos; omega
  le := by have := h.len; omega
  none := by
    cases hf : Hd.find F.L (g : Int) with
    | none => rfl
    | some z => have := (h.full (g : Int)).1 (by rw [hf]; rfl); omega
  least := fun j h1 h2 => (h.full (j : Int)).2 (by omega)
theorem BegT.make (h : BegT N g u M F) (hN : N ≤ 900000) {c : UInt8} (hM : M (n1 c) = none) {r : Nd} {kd : Kd} (hr : Hd.find F.L 1 = some r) (hk : r.kind = 1) (hkd : r.kids = some kd) {y : Nd} (hy : NewN 1 y) (hu : u + y.text.size ≤ 100) :
    BegT (N + 1) (g + 1) (u + y.text.size) (K.putM M (n1 c) (g : Int)) (madeG F 1 r kd (n1 c) g y) := by
  obtain ⟨r2, kd2, h1, h2, h3, h4⟩ := h.root
  rw [hr] at h1; injection h1 with h1; subst h1
  rw [hkd] at h3; injection h3 with h3; subst h3
  have hf := find_madeG hr kd (n1 c) g y
  have hp := h.pos
  refine { tree := h.tree.make hN hr hk hkd (.inl rfl) (by rw [h4]; exact hM) h.free hy (by rw [h.used, h.room]; omega), most := h.most, room := h.room, used := ?_, full := fun j => ?_, len := ?_, root := ?_ }
  · show F.used + (y.text.size : Int) = _
    rw [h.used]; omega
  · rw [hf]
    by_cases e : j = (g : Int)
    · rw [if_pos e, e]; simp; omega
    · rw [if_neg e]
      by_cases e1 : j = 1
      · rw [if_pos e1, e1]; simp; omega
      · rw [if_neg e1, h.full j]; omega
  · show (((g : Int), y) :: upd F.L 1 _).length + 1 = g + 1
    rw [List.length_cons, upd_len, h.len]
  · refine ⟨{ r with kids := some { kd with M := K.putM kd.M (n1 c) (g : Int), sz := kd.sz + 1, n := kd.n + 1 } }, { kd with M := K.putM kd.M (n1 c) (g : Int), sz := kd.sz + 1, n := kd.n + 1 }, by rw [hf, if_neg (by omega), if_pos rfl], hk, rfl, ?_⟩
    show K.putM kd.M (n1 c) (g : Int) = _
    rw [h4]
theorem begT_new (b kb : Nat) : BegT 1 2 0 (fun _ => none) (newF 12 100 b kb) where
  tree := {
    nd := by show [(1 : Int)].Nodup; simp
    rng := fun k x hx => by
      have hx : (if (1 : Int) = k then some (rootN b kb) else none) = some x := hx
      split at hx
      · omega
      · cases hx
    root := ⟨rootN b kb, rfl, rfl, rfl⟩
    kinds := fun k x hx => by
      have hx : (if (1 : Int) = k then some (rootN b kb) else none) = some x := hx
      split at hx
      · injection hx with hx; subst hx; exact .inl ⟨rfl, _, rfl⟩
      · cases hx
    kid := fun k s v hr => by
      obtain ⟨x, kd, hx, hk, hv⟩ := hr
      have hx : (if (1 : Int) = k then some (rootN b kb) else none) = some x := hx
      split at hx
      · injection hx with hx; subst hx; injection hk with hk; subst hk; cases hv
      · cases hx
    uniq := fun j k s t v hr => by
      obtain ⟨x, kd, hx, hk, hv⟩ := hr
      have hx : (if (1 : Int) = j then some (rootN b kb) else none) = some x := hx
      split at hx
      · injection hx with hx; subst hx; injection hk with hk; subst hk; cases hv
      · cases hx
    par := fun k x hx hk => by
      have hx : (if (1 : Int) = k then some (rootN b kb) else none) = some x := hx
      split at hx
      · omega
      · cases hx
    names := fun k x hx => by
      have hx : (if (1 : Int) = k then some (rootN b kb) else none) = some x := hx
      split at hx
      · injection hx with hx; subst hx; exact .inl rfl
      · cases hx
    bare := fun k x s v hx hk => by
      have hx : (if (1 : Int) = k then some (rootN b kb) else none) = some x := hx
      split at hx
      · omega
      · cases hx
    each := fun k x hx => by
      have hx : (if (1 : Int) = k then some (rootN b kb) else none) = some x := hx
      split at hx
      · injection hx with hx; subst hx
        refine ⟨Nat.zero_le _, Int.le_refl _, by show (0 : Int) ≤ _; decide, fun kd hkd => ?_⟩
        injection hkd with hkd; subst hkd
        exact ⟨Nat.zero_le _, Nat.zero_le _⟩
      · cases hx
    n := ⟨Nat.le_refl _, Nat.le_refl _⟩
    used := rfl
    room := ⟨by show (0 : Int) ≤ 100; decide, by show (100 : Int) ≤ 1000000; decide⟩ }
  most := rfl
  room := rfl
  used := rfl
  full j := by
    show (if (1 : Int) = j then some (rootN b kb) else none).isSome = true ↔ _
    by_cases e : (1 : Int) = j
    · rw [if_pos e]; subst e; simp
    · rw [if_neg e]; simp; omega
  len := rfl
  root := ⟨rootN b kb, ⟨kb, fun _ => none, 0, 0⟩, rfl, rfl, rfl, rfl⟩
/-- What Make of a name that is not there does to such a tree. -/
def MadeB (N g u : Nat) (M : K.SM) (F : Fs) (c : UInt8) (k : Int) (t : ByteArray) (F' : Fs) : Prop :=
  BegT (N + 1) (g + 1) (u + t.size) (K.putM M (n1 c) (g : Int)) F' ∧ (∃ y, Hd.find F'.L (g : Int) = some y ∧ y.kind = k ∧ y.text = t ∧ y.names = 1 ∧ y.holds = 0) ∧ (∀ j, j ≠ (g : Int) → j ≠ 1 → Hd.find F'.L j = Hd.find F.L j) ∧ (∀ j, hf F' j = hf F j)
theorem make_beg (fb mb : Nat) (h : BegT N g u M F) (hN : N ≤ 900000) {c : UInt8} (hc : Sm c) (hM : M (n1 c) = none) (hg : g ≤ 12) {k : Int} (hk : k = 2 ∨ k = 3) {t : ByteArray} (hu : u + t.size ≤ 100) (w : World) (R : Hp) (hG : Glob R) (hS : Sat w (fsHp fb mb F * R)) :
    Calls Tryz.prog 33 #[pp fb, .int .i64 1, .string (n1 c), .int .i64 k, .string t] w fun e w' => e = .returned (.tuple #[.int .i64 (g : Int), .int .i64 0]) ∧ (∃ F', MadeB N g u M F c k t F' ∧ Sat w' (fsHp fb mb F' * R)) ∧ Ran w w' := by
  obtain ⟨r, kd, hr, hrk, hkd, hkM⟩ := h.root
  have hM' : kd.M (n1 c) = none := by rw [hkM]; exact hM
  have HP := placeN_calls fb mb N F h.tree (by omega) 1 (n1 c) k w R i64_1 (by show 1 ≤ 1000000; omega) hG hS
  rw [place_sm hc hr hrk hkd hM'] at HP
  have hes := (h.tree.each 1 r hr).2.2.2 kd hkd
  have hn := h.tree.n
  have hlen := h.len
  have h12 := h.most
  have h100 := h.room
  have hus := h.used
  refine (MakeG_calls fb mb F 1 (n1 c) 1 r kd (n1 c) g t k i64_1 (by show 1 ≤ 1000000; omega) hk ⟨hr, hrk, hkd, hM', by omega, h.free, by omega, by omega, by omega, by omega, ⟨by omega, by omega⟩, ⟨by omega, by omega⟩⟩ w R HP).mono ?_
  rintro e w' ⟨⟨rfl, nb, S⟩, hR⟩
  have hy : NewN 1 ⟨nb, k, t, none, 0, 1, 0⟩ := ⟨.inr ⟨hk, rfl⟩, fun kd h => (by cases h), .inl rfl, rfl, rfl, by show t.size ≤ 4096; omega⟩
  refine ⟨rfl, ⟨_, ⟨h.make hN hM hr hrk hkd hy hu, ⟨_, by rw [find_madeG hr, if_pos rfl], rfl, rfl, rfl, rfl⟩, fun j h1 h2 => ?_, hf_made hr h.free.none rfl⟩, S⟩, hR⟩
  rw [find_madeG hr, if_neg h1, if_neg h2]
theorem makeD_beg (fb mb : Nat) (h : BegT N g u M F) (hN : N ≤ 900000) {c : UInt8} (hc : Sm c) (hM : M (n1 c) = none) (hg : g ≤ 12) (hu : u ≤ 100) (w : World) (R : Hp) (hG : Glob R) (hS : Sat w (fsHp fb mb F * R)) :
    Calls Tryz.prog 33 #[pp fb, .int .i64 1, .string (n1 c), .int .i64 1, .string ⟨#[]⟩] w fun e w' => e = .returned (.tuple #[.int .i64 (g : Int), .int .i64 0]) ∧ (∃ F', MadeB N g u M F c 1 ⟨#[]⟩ F' ∧ Sat w' (fsHp fb mb F' * R)) ∧ Ran w w' := by
  obtain ⟨r, kd, hr, hrk, hkd, hkM⟩ := h.root
  have hM' : kd.M (n1 c) = none := by rw [hkM]; exact hM
  have HP := placeN_calls fb mb N F h.tree (by omega) 1 (n1 c) 1 w R i64_1 (by show 1 ≤ 1000000; omega) hG hS
  rw [place_sm hc hr hrk hkd hM'] at HP
  have hes := (h.tree.each 1 r hr).2.2.2 kd hkd
  have hn := h.tree.n
  have hlen := h.len
  have h12 := h.most
  have h100 := h.room
  have hus := h.used
  have e0 : (((⟨#[]⟩ : ByteArray).size : Nat) : Int) = 0 := rfl
  refine (MakeGD_calls fb mb F 1 (n1 c) 1 r kd (n1 c) g i64_1 (by show 1 ≤ 1000000; omega) ⟨hr, hrk, hkd, hM', by omega, h.free, by omega, by omega, Nat.zero_le _, by omega, ⟨by omega, by omega⟩, ⟨by omega, by omega⟩⟩ w R HP).mono ?_
  rintro e w' ⟨⟨rfl, nb, kb, S⟩, hR⟩
  have hy : NewN 1 ⟨nb, 1, ⟨#[]⟩, some ⟨kb, fun _ => none, 0, 0⟩, 1, 1, 0⟩ := ⟨.inl ⟨rfl, _, rfl⟩, fun kd h => (by injection h with h; subst h; exact ⟨fun _ => rfl, rfl, rfl⟩), .inr rfl, rfl, rfl, Nat.zero_le _⟩
  refine ⟨rfl, ⟨_, ⟨h.make hN hM hr hrk hkd hy hu, ⟨_, by rw [find_madeG hr, if_pos rfl], rfl, rfl, rfl, rfl⟩, fun j h1 h2 => ?_, hf_made hr h.free.none rfl⟩, S⟩, hR⟩
  rw [find_madeG hr, if_neg h1, if_neg h2]
end
end Go.Proofs.YteienbdbhnikbaaGreatDoor.Pr

namespace Go.Proofs.YteienbdbhnikbaaGreatDoor.Pr
open Go.RowKit Go.Maps Go.Proofs.YteienbdbhnikbaaGreatDoor Go.Proofs.YteienbdbhnikbaaGreatDoor.Hp Go.Proofs.YteienbdbhnikbaaGreatDoor.Hd
set_option linter.unusedVariables false
attribute [local go_sem] Oper.semAt_some

abbrev woP (a b c d e : Value) : Obj := .cells #[a, b, c, d, e] 31 (0, 0)
theorem woP_cells {w : World} {b : Nat} {x y z u v : Value} {S : Hp} (h : Sat w (pts b (woP x y z u v) * S)) : w.cell? ⟨b, 0, none⟩ = some x ∧ w.cell? ⟨b, 1, none⟩ = some y ∧ w.cell? ⟨b, 2, none⟩ = some z ∧ w.cell? ⟨b, 3, none⟩ = some u ∧ w.cell? ⟨b, 4, none⟩ = some v := by
  have hb := h.get
  refine ⟨?_, ?_, ?_, ?_, ?_⟩ <;> rw [cell_at hb] <;> rfl
abbrev xyzB : ByteArray := ⟨#[120, 121, 122]⟩
abbrev dbB : ByteArray := ⟨#[100, 47, 98]⟩
abbrev helloB : ByteArray := ⟨#[104, 101, 108, 108, 111]⟩
/-- The refs that the handles of the beginning have of their own. -/
def b0 (k : Int) : Int := if 1 ≤ k ∧ k ≤ 4 then 1 else 0
theorem base0 : Base b0 := fun k => by
  unfold b0
  refine ⟨by split <;> decide, fun h1 h2 => ?_⟩
  rw [if_pos ⟨h1, h2⟩]
  exact Int.le_refl _
/-- The tree at the beginning. -/
structure Beg0 (F : Fs) : Prop where
  root : ∃ r kd, Hd.find F.L 1 = some r ∧ r.kind = 1 ∧ r.kids = some kd ∧ kd.M (n1 102) = none ∧ kd.M (n1 103) = none
  most : F.most = 12
  room : F.room = 100
  used : F.used = 6
  len : F.L.length = 4
abbrev L0 (h1 x1 h2 x2 h3 x3 h4 x4 bb eb : Nat) : HL := [((4 : Nat), ⟨h4, 1, x4, .writer bb eb⟩), ((3 : Nat), ⟨h3, 1, x3, .reader bb eb⟩), ((2 : Nat), ⟨h2, 1, x2, .sink none none 0 [] 50⟩), ((1 : Nat), ⟨h1, 1, x1, .text helloB 0⟩)]
theorem find_L0 (h1 x1 h2 x2 h3 x3 h4 x4 bb eb : Nat) (k : Int) : findA (L0 h1 x1 h2 x2 h3 x3 h4 x4 bb eb) k = if k = 4 then some ⟨h4, 1, x4, .writer bb eb⟩ else if k = 3 then some ⟨h3, 1, x3, .reader bb eb⟩ else if k = 2 then some ⟨h2, 1, x2, .sink none none 0 [] 50⟩ else if k = 1 then some ⟨h1, 1, x1, .text helloB 0⟩ else none := by
  rw [findA_cons, findA_cons, findA_cons, findA_cons]
  rfl
theorem inv_beg {F : Fs} (h : TreeG 5 F) (hh : ∀ k, hf F k = if k = 1 then 1 else 0) (h1 x1 h2 x2 h3 x3 h4 x4 bb eb : Nat) :
    InvT 20 ⟨F, L0 h1 x1 h2 x2 h3 x3 h4 x4 bb eb, 4, ⟨bb, eb, 0, []⟩, 0⟩ ∧ (∀ k, rf (L0 h1 x1 h2 x2 h3 x3 h4 x4 bb eb) k = b0 k) ∧ (∀ k, xt ⟨F, L0 h1 x1 h2 x2 h3 x3 h4 x4 bb eb, 4, ⟨bb, eb, 0, []⟩, 0⟩ k = if k = 1 then 1 else 0) := by
  have hfd := find_L0 h1 x1 h2 x2 h3 x3 h4 x4 bb eb
  have cas : ∀ k x, findA (L0 h1 x1 h2 x2 h3 x3 h4 x4 bb eb) k = some x → (k = 4 ∧ x = ⟨h4, 1, x4, .writer bb eb⟩) ∨ (k = 3 ∧ x = ⟨h3, 1, x3, .reader bb eb⟩) ∨ (k = 2 ∧ x = ⟨h2, 1, x2, .sink none none 0 [] 50⟩) ∨ (k = 1 ∧ x = ⟨h1, 1, x1, .text helloB 0⟩) := fun k x hx => by
    rw [hfd] at hx
    split at hx
    · injection hx with hx; exact .inl ⟨‹_›, hx.symm⟩
    · split at hx
      · injection hx with hx; exact .inr (.inl ⟨‹_›, hx.symm⟩)
      · split at hx
        · injection hx with hx; exact .inr (.inr (.inl ⟨‹_›, hx.symm⟩))
        · split at hx
          · injection hx with hx; exact .inr (.inr (.inr ⟨‹_›, hx.symm⟩))
          · cases hx
  have hx0 : ∀ k, xt ⟨F, L0 h1 x1 h2 x2 h3 x3 h4 x4 bb eb, 4, ⟨bb, eb, 0, []⟩, 0⟩ k = if k = 1 then 1 else 0 := fun k => by
    unfold xt
    have : sumA (cF k) (L0 h1 x1 h2 x2 h3 x3 h4 x4 bb eb) = 0 := rfl
    rw [this, hh]
    split <;> rfl
  refine ⟨{ tree := h.more (by omega), nd := ?_, ids := fun k x hx => ?_, refs := fun k x hx => ?_, th := fun k x hx => ?_, cls := fun k x hx => ?_, pos := fun k => by rw [hx0]; split <;> decide, len := ⟨by show 4 ≤ 20; decide, by show 4 ≤ 20; decide⟩, pipe := ⟨Nat.le_refl _, by show 0 ≤ 40; decide, Nat.zero_le _⟩ }, fun k => ?_, hx0⟩
  · show [(4 : Int), 3, 2, 1].Nodup
    decide
  · rcases cas k x hx with ⟨e, -⟩ | ⟨e, -⟩ | ⟨e, -⟩ | ⟨e, -⟩ <;> omega
  · rcases cas k x hx with ⟨-, e⟩ | ⟨-, e⟩ | ⟨-, e⟩ | ⟨-, e⟩ <;> rw [e] <;> exact ⟨Int.le_refl _, by show (1 : Int) ≤ 20; decide⟩
  · rcases cas k x hx with ⟨-, e⟩ | ⟨-, e⟩ | ⟨-, e⟩ | ⟨-, e⟩ <;> rw [e]
    · exact ⟨rfl, rfl⟩
    · exact ⟨rfl, rfl⟩
    · exact ⟨.inl rfl, Nat.zero_le _, by decide⟩
    · exact ⟨Nat.zero_le _, by decide⟩
  · rcases cas k x hx with ⟨e, e2⟩ | ⟨e, e2⟩ | ⟨e, e2⟩ | ⟨e, e2⟩ <;> rw [e, e2] <;> exact ⟨fun h => absurd h (by decide), fun h => (by cases h)⟩
  · unfold rf
    rw [hfd]
    unfold b0
    by_cases e4 : k = 4
    · rw [if_pos e4, if_pos (by omega)]
    rw [if_neg e4]
    by_cases e3 : k = 3
    · rw [if_pos e3, if_pos (by omega)]
    rw [if_neg e3]
    by_cases e2 : k = 2
    · rw [if_pos e2, if_pos (by omega)]
    rw [if_neg e2]
    by_cases e1 : k = 1
    · rw [if_pos e1, if_pos (by omega)]
    rw [if_neg e1, if_neg (by omega)]
theorem free1 : Free [] 1 := ⟨Nat.le_refl _, Nat.le_refl _, rfl, fun j h1 h2 => by omega⟩
theorem free2 (x : Hn) : Free [((1 : Nat), x)] 2 := ⟨by omega, Nat.le_refl _, rfl, fun j h1 h2 => by
  have : j = 1 := by omega
  subst this; rfl⟩
theorem free3 (x y : Hn) : Free [((2 : Nat), y), ((1 : Nat), x)] 3 := ⟨by omega, Nat.le_refl _, rfl, fun j h1 h2 => by
  have : j = 1 ∨ j = 2 := by omega
  rcases this with rfl | rfl <;> rfl⟩
theorem free4 (x y z : Hn) : Free [((3 : Nat), z), ((2 : Nat), y), ((1 : Nat), x)] 4 := ⟨by omega, Nat.le_refl _, rfl, fun j h1 h2 => by
  have : j = 1 ∨ j = 2 ∨ j = 3 := by omega
  rcases this with rfl | rfl | rfl <;> rfl⟩
abbrev M1 : K.SM := K.putM (fun _ => none) (n1 100) ((2 : Nat) : Int)
abbrev M2 : K.SM := K.putM M1 (n1 97) ((3 : Nat) : Int)
abbrev M3 : K.SM := K.putM M2 (n1 108) ((4 : Nat) : Int)
theorem m_facts : M1 (n1 97) = none ∧ M2 (n1 108) = none ∧ M3 (n1 102) = none ∧ M3 (n1 103) = none :=
  ⟨if_neg (by decide), (if_neg (by decide)).trans (if_neg (by decide)), (if_neg (by decide)).trans ((if_neg (by decide)).trans (if_neg (by decide))), (if_neg (by decide)).trans ((if_neg (by decide)).trans (if_neg (by decide)))⟩
/-- What begun leaves. -/
def BegunP (most : Int) (R : Hp) (e : Ending) (w' : World) : Prop :=
  ∃ (c : Pls) (p : Pc), e = .returned (.tuple #[.agg #[pp c.fb, pp c.bp, pp c.tb, pp p.lb, pp p.pb], .bool true]) ∧ Link c p ∧ p.fds = List.replicate 16 ⟨0, 0⟩ ∧ p.dir = ⟨1, 0⟩ ∧ p.mask = ⟨18, 0⟩ ∧ Sat w' (PHP c 20 b0 most p [] [] (fun s => Beg0 s.F) * R)
/-- What there is when the process has been made. -/
theorem begun_end {fb mb tb hm bp lb : Nat} {F : Fs} (hB : BegT 4 5 6 M3 F) (hh : ∀ k, hf F k = 0) (h1 x1 h2 x2 h3 x3 h4 x4 bb eb : Nat) {p : Pc} {most : Int} (hfb : p.fb = fb) (htb : p.tb = tb) (hlb : p.lb = lb) (h16 : p.fds = List.replicate 16 ⟨0, 0⟩) (hd : p.dir = ⟨1, 0⟩) {w : World} {R : Hp}
    (h : Sat w (pcHp p * (fsHp fb mb (holdP F 1) * (tabHp tb fb bp hm (L0 h1 x1 h2 x2 h3 x3 h4 x4 bb eb) 4 * (bufHp none 0 [] * (Spill.poolX bp 40 3 4 0 0 1 0 * (Spill.bufX bb bp 3 4 0 [] * (pts eb (ebO 2) * (Undo.logHp lb most 4 [] [] * R))))))))) :
    Sat w (PHP ⟨fb, mb, tb, hm, bp⟩ 20 b0 most p [] [] (fun s => Beg0 s.F) * R) := by
  obtain ⟨r, kd, hr, hrk, hkd, hM⟩ := hB.root
  have hT := hB.tree.hold 1
  obtain ⟨hI, hrf, hxt⟩ := inv_beg (F := holdP F 1) hT (fun k => by rw [hf_hold hr, hh]; split <;> rfl) h1 x1 h2 x2 h3 x3 h4 x4 bb eb
  have hP : holdP F 1 = F.put 1 { r with holds := r.holds + 1 } := by unfold holdP; rw [hr]
  have hb : Beg0 (holdP F 1) := by
    rw [hP]
    refine ⟨⟨{ r with holds := r.holds + 1 }, kd, by rw [find_put' F 1 1 _ (by rw [hr]; rfl), if_pos rfl], hrk, hkd, by rw [hM]; exact m_facts.2.2.1, by rw [hM]; exact m_facts.2.2.2⟩, hB.most, hB.room, hB.used, ?_⟩
    show (upd F.L 1 _).length = 4
    rw [upd_len]
    have := hB.len
    omega
  have hF : ∀ k, b0 k = fOf b0 p [] k := fun k => by
    unfold fOf
    rw [h16]
    have : ∀ n, nF (List.replicate n ⟨0, 0⟩) k = 0 := fun n => by
      induction n with
      | zero => rfl
      | succ n ih =>
        show dl 0 k + nF (List.replicate n ⟨0, 0⟩) k = 0
        rw [ih]
        unfold dl
        rw [if_neg (fun e => absurd e.2 (by decide))]
        rfl
    rw [this]
    show b0 k = b0 k + 0 + 0
    omega
  have hG : ∀ k, (if k = 1 then (1 : Int) else 0) = gOf p [] k := fun k => by
    unfold gOf
    rw [hd]
    show _ = (if k = 1 then 1 else 0) + 0
    omega
  refine ph_in (s := ⟨holdP F 1, L0 h1 x1 h2 x2 h3 x3 h4 x4 bb eb, 4, ⟨bb, eb, 0, []⟩, 0⟩) hI (fun k => (hrf k).trans (hF k)) (fun k => (hxt k).trans (hG k)) hb ?_
  refine h.perm ?_
  have e1 : snksHp (L0 h1 x1 h2 x2 h3 x3 h4 x4 bb eb) = bufHp none 0 [] := by
    show emp * (emp * (bufHp none 0 [] * (emp * emp))) = _
    rw [emp_sep, emp_sep, sep_emp, sep_emp]
  have e2 : poolHp ⟨fb, mb, tb, hm, bp⟩ ⟨bb, eb, 0, []⟩ 0 = Spill.poolX bp 40 3 4 0 0 1 0 := by
    unfold poolHp Pp.use
    show Spill.poolX bp 40 3 4 0 (Spill.cl 3 4 (0 + 0) - Spill.gn 3 4 0) 1 0 = _
    rw [show Spill.cl 3 4 (0 + 0) - Spill.gn 3 4 0 = 0 by decide]
  have e3 : pipeHp bp ⟨bb, eb, 0, []⟩ = Spill.bufX bb bp 3 4 0 [] * pts eb (ebO 2) := rfl
  have e4 : LG p most [] [] = Undo.logHp lb most 4 [] [] := by unfold LG; rw [hlb]; rfl
  have e5 : notesHp p [] = emp := rfl
  unfold SgHp
  dsimp only
  rw [e1, e2, e3, e4, e5, emp_sep]
  ac_rfl
set_option maxRecDepth 100000 in
set_option maxHeartbeats 4000000 in
theorem begun_calls (most : Int) (hm0 : 0 ≤ most) (hm1 : most ≤ 1000) (w : World) (R : Hp) (hG : Glob R) (h : Sat w R) :
    Calls Tryz.prog 9 #[.int .i64 most] w fun e w' => BegunP most R e w' ∧ Ran w w' := by
  have S0 := h.alloc (woP (.pointer none) (.pointer none) (.pointer none) (.pointer none) (.pointer none))
  have HN := Lib.hid (Hd.New_calls 12 100 (by omega) (by omega) (by omega) (by omega) _ _ S0)
  have R0 := Lib.hid (Ran.new (Below.refl 0 w) (woP (.pointer none) (.pointer none) (.pointer none) (.pointer none) (.pointer none)))
  have hG := Lib.hid hG
  clear h S0
  go_enter Tryz.func9, Tryz.ntmps9
  go_wp2_with fail
  refine HN.out.mono ?_
  rintro e w1 ⟨⟨fb, mb, b, kb, rfl, S1⟩, R1⟩
  have R1 := Lib.hid (Below.trans R0.out R1)
  have HP := Lib.hid (Spill.xnew 40 3 4 w1 _ S1 (by omega) (by omega) (by omega) (by omega))
  clear S1 R0 HN
  go_wp2_with fail
  refine HP.out.mono ?_
  rintro e w2 ⟨bp, rfl, S2, R2⟩
  have R2 := Lib.hid (Below.trans R1.out R2)
  have HU := Lib.hid (Undo.new_calls most 4 hm0 (by omega) (by omega) (by omega) w2 _ S2)
  clear S2 R1 HP
  go_wp2_with fail
  refine HU.out.mono ?_
  rintro e w3 ⟨rfl, S3, R3⟩
  obtain ⟨lb, hlb⟩ : ∃ lb, lb = w2.heap.size := ⟨_, rfl⟩
  rw [← hlb] at S3 ⊢
  have S3 := Undo.log_in S3
  have R3 := Lib.hid (Below.trans R2.out R3)
  have HM := Lib.hid (makeD_beg fb mb (begT_new b kb) (by omega) (c := 100) (.inr (.inl rfl)) rfl (by omega) (by omega) w3 _ hG.out.more.more.more (S3.perm (show _ = fsHp fb mb (newF 12 100 b kb) * (Undo.logHp lb most 4 [] [] * (Spill.poolX bp 40 3 4 0 0 0 0 * (pts w.heap.size (woP (.pointer none) (.pointer none) (.pointer none) (.pointer none) (.pointer none)) * R))) by ac_rfl)))
  clear S3 R2 HU hlb
  go_wp2_with fail
  refine HM.out.mono ?_
  rintro e w4 ⟨rfl, ⟨F1, hF1, S4⟩, R4⟩
  have R4 := Lib.hid (Below.trans R3.out R4)
  have HM2 := Lib.hid (make_beg fb mb hF1.1 (by omega) (c := 97) (.inl rfl) m_facts.1 (by omega) (k := 2) (.inl rfl) (t := xyzB) (by decide) w4 _ hG.out.more.more.more S4)
  have hF1 := Lib.hid hF1
  clear S4 R3 HM
  go_wp2_with fail
  refine HM2.out.mono ?_
  rintro e w5 ⟨rfl, ⟨F2, hF2, S5⟩, R5⟩
  have R5 := Lib.hid (Below.trans R4.out R5)
  have HM3 := Lib.hid (make_beg fb mb hF2.1 (by omega) (c := 108) (.inr (.inr (.inl rfl))) m_facts.2.1 (by omega) (k := 3) (.inr rfl) (t := dbB) (by decide) w5 _ hG.out.more.more.more S5)
  have hF2 := Lib.hid hF2
  clear S5 R4 HM2
  go_wp2_with fail
  refine HM3.out.mono ?_
  rintro e w6 ⟨rfl, ⟨F3, hF3, S6⟩, R6⟩
  have R6 := Lib.hid (Below.trans R5.out R6)
  have HH := Lib.hid (HNew_calls fb bp w6 _ S6)
  have hF3 := Lib.hid hF3
  clear S6 R5 HM3
  go_wp2_with fail
  refine HH.out.mono ?_
  rintro e w7 ⟨⟨tb, hm, rfl, S7⟩, R7⟩
  have R7 := Lib.hid (Below.trans R6.out R7)
  have HT := Lib.hid (Text_calls tb fb bp hm 0 [] helloB 1 (by decide) free1 (by omega) w7 _ S7)
  clear S7 R6 HH
  go_wp2_with fail
  refine HT.out.mono ?_
  rintro e w8 ⟨⟨rfl, h1, x1, S8⟩, R8⟩
  have R8 := Lib.hid (Below.trans R7.out R8)
  have HK := Lib.hid (Sink_calls tb fb bp hm (0 + 1) _ 50 2 (by omega) (free2 _) (by omega) w8 _ S8)
  clear S8 R7 HT
  go_wp2_with fail
  refine HK.out.mono ?_
  rintro e w9 ⟨⟨rfl, h2, x2, S9⟩, R9⟩
  have R9 := Lib.hid (Below.trans R8.out R9)
  have HPi := Lib.hid (Pipe_calls tb fb bp hm (0 + 1 + 1) 0 0 0 0 _ 3 4 (free3 _ _) (fun x => free4 _ _ x) (by omega) (by omega) w9 _ (S9.perm (show _ = tabHp tb fb bp hm _ (0 + 1 + 1) * (Spill.poolX bp 40 3 4 0 0 0 0 * (bufHp none 0 [] * (fsHp fb mb F3 * (Undo.logHp lb most 4 [] [] * (pts w.heap.size (woP (.pointer none) (.pointer none) (.pointer none) (.pointer none) (.pointer none)) * R))))) by ac_rfl)))
  clear S9 R8 HK
  go_wp2_with fail
  refine HPi.out.mono ?_
  rintro e w10 ⟨⟨rfl, bb, eb, h3, x3, h4, x4, S10⟩, R10⟩
  have R10 := Lib.hid (Below.trans R9.out R10)
  have hok : FsOk F3 := hF3.out.1.tree.ok (by omega)
  have HNw := Lib.hid (New_calls fb tb lb (fsHp fb mb F3) (fsHp fb mb (holdP F3 1)) w10 _ (fun W S hW => (Hold_calls fb mb F3 1 i64_1 hok W S hW).mono fun e w' ⟨⟨he, hs⟩, hr⟩ => ⟨⟨_, he, hs⟩, hr⟩) (S10.perm (show _ = fsHp fb mb F3 * (tabHp tb fb bp hm _ (0 + 1 + 1 + 2) * (bufHp none 0 [] * (Spill.poolX bp 40 3 4 0 0 (0 + 1) 0 * (Spill.bufX bb bp 3 4 0 [] * (pts eb (ebO 2) * (Undo.logHp lb most 4 [] [] * (pts w.heap.size (woP (.pointer none) (.pointer none) (.pointer none) (.pointer none) (.pointer none)) * R))))))) by ac_rfl)))
  clear S10 R9 HPi hok
  go_wp2_with fail
  refine HNw.out.mono ?_
  rintro e w11 ⟨⟨p, rfl, hfb, htb, hlb2, hfds, hdir, hmask, S11⟩, R11⟩
  have R11 := Lib.hid (Below.trans R10.out R11)
  have hh3 : ∀ k, hf F3 k = 0 := fun k => by
    rw [hF3.out.2.2.2 k, hF2.out.2.2.2 k, hF1.out.2.2.2 k]
    show (match (if (1 : Int) = k then some (rootN b kb) else none) with | none => (0 : Int) | some x => x.holds) = 0
    split
    · rfl
    · rename_i e
      split at e
      · injection e with e; rw [← e]; rfl
      · cases e
  have S12 := S11.perm (show _ = pts w.heap.size (woP (.pointer none) (.pointer none) (.pointer none) (.pointer none) (.pointer none)) * (pcHp p * (fsHp fb mb (holdP F3 1) * (tabHp tb fb bp hm (L0 h1 x1 h2 x2 h3 x3 h4 x4 bb eb) 4 * (bufHp none 0 [] * (Spill.poolX bp 40 3 4 0 0 1 0 * (Spill.bufX bb bp 3 4 0 [] * (pts eb (ebO 2) * (Undo.logHp lb most 4 [] [] * R)))))))) by ac_rfl)
  obtain ⟨z0, z1, z2, z3, z4⟩ := woP_cells S12
  have f0 : ∀ i, w11.frozen? ⟨w.heap.size, i, none⟩ = false := fun i => free_at S12.get i
  have S13 := ((((S12.set (i := 0) (pp fb)).set (i := 1) (pp bp)).set (i := 2) (pp tb)).set (i := 3) (pp lb)).set (i := 4) (pp p.pb)
  obtain ⟨r0, r1, r2, r3, r4⟩ := woP_cells (x := pp fb) (y := pp bp) (z := pp tb) (u := pp lb) (v := pp p.pb) S13
  have hE := Lib.hid (begun_end hF3.out.1 hh3 h1 x1 h2 x2 h3 x3 h4 x4 bb eb hfb htb hlb2 hfds hdir S13.right)
  have HL := Lib.hid (And.intro hfb (And.intro htb (And.intro hlb2 (And.intro hfds (And.intro hdir hmask)))))
  clear S11 S12 S13 HNw R10 hfb htb hlb2 hfds hdir hmask hh3
  go_wp2_with fail
  refine bodyPost_ret (v := .tuple #[.agg #[pp fb, pp bp, pp tb, pp lb, pp p.pb], .bool true]) (by simp [results, Tryz.results9, go_sem, r0, r1, r2, r3, r4]) rfl ?_
  exact ⟨⟨⟨fb, mb, tb, hm, bp⟩, p, by rw [HL.out.2.2.1], ⟨HL.out.1, HL.out.2.1, by rw [HL.out.2.2.2.1]; rfl⟩, HL.out.2.2.2.1, HL.out.2.2.2.2.1, HL.out.2.2.2.2.2, hE.out⟩, Ran.set (Ran.set (Ran.set (Ran.set (Ran.set R11.out _ _) _ _) _ _) _ _) _ _⟩
end Go.Proofs.YteienbdbhnikbaaGreatDoor.Pr

