/- Read of a table at a text walked. -/
import Derived.Test.YtljlpkeddbfpaaaGreatDoorHdTr
import Derived.Test.YtljlpkeddbfpaaaGreatDoorHdU
namespace Go.Proofs.YtljlpkeddbfpaaaGreatDoor.Hd
open Go.RowKit Go.Maps Go.Proofs.YtljlpkeddbfpaaaGreatDoor Go.Proofs.YtljlpkeddbfpaaaGreatDoor.Hp
set_option linter.unusedVariables false
attribute [local go_sem] Oper.semAt_some

set_option maxRecDepth 100000 in
set_option maxHeartbeats 4000000 in
theorem TRead_text (tb fb pb hm n : Nat) (L : HL) (id : Int) (y : Hn) (s : ByteArray) (a q : Nat) (hid : I64 id) (hy : findA L id = some y) (hyt : y.t = .text s a) (ha : a ≤ s.size) (hs : s.size ≤ 1048576) (hq : q ≤ 9223372036854775807) (w : World) (R : Hp)
    (h : Sat w (tabHp tb fb pb hm L n * R)) :
    Calls Tryz.prog 19 #[pp tb, .int .i64 id, .int .i64 q] w fun e w' => (e = .returned (.tuple #[.string (readB s a q), .int .i64 0]) ∧
      Sat w' (tabHp tb fb pb hm (updA L id { y with t := .text s (a + (readB s a q).size) }) n * R)) ∧ Ran w w' := by
  have HGt := get_calls tb fb pb hm n L id hid w _ h
  unfold getE at HGt
  rw [show hblk L id = some y.b by unfold hblk; rw [hy]; rfl, hy] at HGt
  unfold pv at HGt
  have HGt := Lib.hid HGt
  obtain ⟨X, S1, back⟩ := tab_node h hy
  obtain ⟨d0, d1⟩ := hn_cells S1
  rw [hyt] at S1 d1
  unfold thT at d1
  unfold thO at S1
  have hmi := meth_text_info y.xb
  have hmw2 := meth_text_read y.xb
  have S2 := S1.perm (show _ = pts y.xb (txO s a) * (X * R * pts y.b (hnO y)) by ac_rfl)
  have HIn := Lib.hid (tinfo_calls y.xb s a w _ S2)
  have S2 := Lib.hid S2
  have HFR := Lib.hid (fun W hW => tread_calls y.xb s a q ha hs hq W (X * R * pts y.b (hnO y)) hW)
  obtain ⟨r, hr⟩ : ∃ r, r = readB s a q := ⟨_, rfl⟩
  rw [← hr] at HFR ⊢
  have Back := Lib.hid back
  have Hyt := Lib.hid hyt
  have hf1 := field_mode 2 0 a 0 true false false
  have hf2 := field_r true false false
  have hq0 : (0 : Int) ≤ (q : Int) := by omega
  clear h S1 back hyt hy hr
  go_enter Tryz.func19, Tryz.ntmps19
  go_wp2_with fail
  refine HGt.out.mono ?_
  rintro e w1 ⟨rfl, rfl⟩
  go_wp2_with fail
  refine HIn.out.mono ?_
  rintro e w1 ⟨rfl, hB⟩
  have S3 := S2.out.below hB
  have R3 := Lib.hid (below_ran hB)
  obtain ⟨e0, e1⟩ := hn_cells (S3.perm (show _ = pts y.b (hnO y) * (pts y.xb (txO s a) * (X * R)) by ac_rfl))
  rw [Hyt.out] at e1
  unfold thT at e1
  have HW := Lib.hid (HFR.out _ S3)
  clear hB HIn HFR HGt d0 d1 S3 S2
  go_wp2_with fail
  refine HW.out.mono ?_
  rintro e w2 ⟨⟨rfl, S4⟩, R4⟩
  have R4 := Lib.hid (Below.trans R3.out R4)
  have S5 := Lib.hid (Back.out w2 { y with t := .text s (a + r.size) } R rfl (S4.perm (show _ = pts y.b (hnO { y with t := .text s (a + r.size) }) * (pts y.xb (txO s ((a + r.size : Nat) : Int)) * (X * R)) by
    rw [show hnO { y with t := .text s (a + r.size) } = hnO y by unfold hnO; rw [Hyt.out]; rfl]
    ac_rfl)))
  clear S4 HW
  go_wp2_with fail
  go_ret2
  exact ⟨⟨rfl, S5.out⟩, R4.out⟩
end Go.Proofs.YtljlpkeddbfpaaaGreatDoor.Hd
