/- Write of a table walked, at a file. -/
import Derived.Test.YtljlpkeddbfpaaaGreatDoorHdMe
namespace Go.Proofs.YtljlpkeddbfpaaaGreatDoor.Hd
open Go.RowKit Go.Maps Go.Proofs.YtljlpkeddbfpaaaGreatDoor Go.Proofs.YtljlpkeddbfpaaaGreatDoor.Hp
set_option linter.unusedVariables false
attribute [local go_sem] Oper.semAt_some

def atN (F : Fs) (k : Int) (x : Nd) (a : Nat) (m : Md) (d : ByteArray) : Nat := if (writeP F k x (atW x a m) d).1 = 0 then atW x a m + d.size else atW x a m
set_option maxRecDepth 100000 in
set_option maxHeartbeats 4000000 in
theorem TWrite_file (tb fb mb pb hm n : Nat) (F : Fs) (L : HL) (id k : Int) (y : Hn) (a : Nat) (m : Md) (x : Nd) (d : ByteArray) (hid : I64 id) (hy : findA L id = some y) (hyt : y.t = .file k a m) (hmw : m.w = true) (hk : I64 k) (ha : a ≤ 10000000) (hd : d.size ≤ 10000000) (hs : FsOk F) (hx : find F.L k = some x) (h2 : x.kind = 2) (hkid : x.kids = none) (hu : 0 ≤ F.used ∧ F.used ≤ 1000000000) (hr : 0 ≤ F.room ∧ F.room ≤ 1000000000) (w : World) (R : Hp)
    (h : Sat w (fsHp fb mb F * (tabHp tb fb pb hm L n * R))) :
    Calls Tryz.prog 11 #[pp tb, .int .i64 id, .string d] w fun e w' => (e = .returned (.int .i64 (writeP F k x (atW x a m) d).1) ∧
      Sat w' (fsHp fb mb (writeP F k x (atW x a m) d).2 * (tabHp tb fb pb hm (updA L id { y with t := .file k (atN F k x a m d) m }) n * R))) ∧ Ran w w' := by
  have HGt := get_calls tb fb pb hm n L id hid w _ (h.perm (show _ = tabHp tb fb pb hm L n * (fsHp fb mb F * R) by ac_rfl))
  unfold getE at HGt
  rw [show hblk L id = some y.b by unfold hblk; rw [hy]; rfl, hy] at HGt
  unfold pv at HGt
  have HGt := Lib.hid HGt
  obtain ⟨X, S1, back⟩ := tab_node (h.perm (show _ = tabHp tb fb pb hm L n * (fsHp fb mb F * R) by ac_rfl)) hy
  obtain ⟨d0, d1⟩ := hn_cells S1
  rw [hyt] at S1 d1
  unfold thT at d1
  unfold thO at S1
  have Hs := Lib.hid hs
  have hmi := meth_file_info y.xb
  have hmw2 := meth_file_write y.xb
  have S2 := S1.perm (show _ = pts y.xb (flO fb k a m) * (X * (fsHp fb mb F * R) * pts y.b (hnO y)) by ac_rfl)
  have HIn := Lib.hid (finfo_calls y.xb fb k a m w _ S2)
  have S2 := Lib.hid (S2.perm (show _ = fsHp fb mb F * (pts y.xb (flO fb k a m) * (X * R * pts y.b (hnO y))) by ac_rfl))
  obtain ⟨en, hen⟩ : ∃ en, en = (writeP F k x (atW x a m) d).1 := ⟨_, rfl⟩
  obtain ⟨F', hF'⟩ : ∃ F', F' = (writeP F k x (atW x a m) d).2 := ⟨_, rfl⟩
  obtain ⟨a2, ha2⟩ : ∃ a2, a2 = atN F k x a m d := ⟨_, rfl⟩
  have ha3 : (if (writeP F k x (atW x a m) d).1 = 0 then ((atW x a m : Nat) : Int) + (d.size : Int) else ((atW x a m : Nat) : Int)) = (a2 : Int) := by
    rw [ha2]; unfold atN; split <;> simp
  have HFW := Lib.hid (fun W hW => fwrite_calls y.xb fb mb F k a m x d hk ha hd hs hx h2 hkid hu hr W (X * R * pts y.b (hnO y)) hW)
  rw [← hen, ← hF', ← ha2]
  have Hen := Lib.hid (And.intro hen (And.intro hF' ha3))
  have Back := Lib.hid back
  have Hyt := Lib.hid hyt
  obtain ⟨mr, mw, mm⟩ := m
  dsimp only at hmw
  subst hmw
  clear h S1 back hen hF' ha2 ha3 hyt hy hs hx
  have hf1 := field_mode 1 0 a k mr true mm
  have hf2 := field_w mr true mm
  go_enter Tryz.func11, Tryz.ntmps11
  go_wp2_with fail
  refine HGt.out.mono ?_
  rintro e w1 ⟨rfl, rfl⟩
  go_wp2_with fail
  refine HIn.out.mono ?_
  rintro e w1 ⟨rfl, hB⟩
  have S3 := S2.out.below hB
  have R3 := Lib.hid (below_ran hB)
  obtain ⟨e0, e1⟩ := hn_cells (S3.perm (show _ = pts y.b (hnO y) * (fsHp fb mb F * (pts y.xb (flO fb k a ⟨mr, true, mm⟩) * (X * R))) by ac_rfl))
  rw [Hyt.out] at e1
  unfold thT at e1
  have HW := HFW.out _ S3
  rw [Hen.out.2.2, ← Hen.out.1, ← Hen.out.2.1] at HW
  have HW := Lib.hid HW
  clear hB HIn HFW HGt d0 d1 S3 S2
  go_wp2_with fail
  refine HW.out.mono ?_
  rintro e w2 ⟨⟨rfl, S4⟩, R4⟩
  have R4 := Lib.hid (Below.trans R3.out R4)
  have S5 := Lib.hid (Back.out w2 { y with t := .file k a2 ⟨mr, true, mm⟩ } (fsHp fb mb F' * R) rfl (S4.perm (show _ = pts y.b (hnO { y with t := .file k a2 ⟨mr, true, mm⟩ }) * (pts y.xb (flO fb k a2 ⟨mr, true, mm⟩) * (X * (fsHp fb mb F' * R))) by
    rw [show hnO { y with t := .file k a2 ⟨mr, true, mm⟩ } = hnO y by unfold hnO; rw [Hyt.out]; rfl]
    ac_rfl)))
  clear S4 HW
  go_wp2_with fail
  go_ret
  exact ⟨⟨rfl, S5.out.perm (by ac_rfl)⟩, R4.out⟩
end Go.Proofs.YtljlpkeddbfpaaaGreatDoor.Hd
