/- HandlesPlays, part 14 of 29: the texts SvJ SvK, joined by a program. -/
import Derived.Test.YtlmjidandjemjaaGreatDoorSp13
import Derived.Test.YtlmjidandjemjaaGreatDoorSp11
namespace Go.Proofs.YtlmjidandjemjaaGreatDoor.State
open Go.RowKit Go.Proofs.YtlmjidandjemjaaGreatDoor Go.Proofs.YtlmjidandjemjaaGreatDoor.Hp Go.Proofs.YtlmjidandjemjaaGreatDoor.Undo
set_option linter.unusedVariables false
attribute [local go_sem] Oper.semAt_some

theorem rfield_fix (n v : ByteArray) (x y z : Bool) (w : World) : (Instr.field 125 (.agg #[.string n, .string v, .bool x, .bool y, .bool z]) 4).run Tryz.prog w = .ok (.bool z) w := by kernel_rfl
set_option maxRecDepth 100000 in
set_option maxHeartbeats 4000000 in
theorem rset_calls (b : Nat) (s : Sr) (p : Pst) (q : Int) (c : Nat) (A F : Hp) (k v : ByteArray) (w : World) (hk : k.size ≤ 100000) (hvz : v.size ≤ 100000) (ho : p.o.size ≤ 100000) (hc : c ≤ 80000) (hG : SrG A p q c s) (h : Sat w (pts b (srO s) * (A * F))) :
    Calls Tryz.prog 73 #[pp b, .string k, .string v] w (OutS b A F w (dSet p k v).1 (dSet p k v).2 q (c + 1)) := by
  have HN := Lib.hid (rname_calls k w (by omega))
  by_cases c1 : isName k = false
  · rw [c1] at HN
    have e : dSet p k v = (16, p) := by unfold dSet; rw [if_pos c1]
    rw [e]
    have HE := Lib.hid (OutS.same (en := 16) hG hc h (Below.refl 0 w))
    clear hG h e c1
    go_enter Tryz.func73, Tryz.ntmps73
    go_wp2_with fail
    refine HN.out.mono ?_
    rintro e w1 ⟨rfl, rfl⟩
    go_wp2_with fail
    go_ret
    exact HE.out
  have c1t : isName k = true := by simpa using c1
  rw [c1t] at HN
  by_cases c2 : 4096 < v.size
  · have e : dSet p k v = (21, p) := by unfold dSet; rw [if_neg c1, if_pos c2]
    rw [e]
    have HE := Lib.hid (OutS.same (en := 21) hG hc h (Below.refl 0 w))
    have c2I : (4096 : Int) < (v.size : Int) := by omega
    clear hG h e c1 c2
    go_enter Tryz.func73, Tryz.ntmps73
    go_wp2_with fail
    refine HN.out.mono ?_
    rintro e w1 ⟨rfl, rfl⟩
    go_wp2_with fail
    go_ret
    exact HE.out
  have c2I : ¬ (4096 : Int) < (v.size : Int) := by omega
  have hs := hG.sm
  have HV := rvar_calls b s p.V k w (A * F) (by have := hs.V; have := hs.top; omega) (pairs_bag hG.is.V) ((hG.ok.V.more (S := F)).perm (by ac_rfl)) h
  obtain ⟨x, hx⟩ : ∃ x, x = vrG p.V k := ⟨_, rfl⟩
  have hx2 : x.2 = p.var k := by rw [hx]; exact vrG_var p k
  rw [← hx] at HV
  clear hs hx
  have hxf : x.2.fix = (p.var k).fix := by rw [hx2]
  by_cases c3 : (p.var k).fix = true
  · have e : dSet p k v = (26, p) := by unfold dSet; rw [if_neg c1, if_neg c2, if_pos c3]
    rw [e]
    rw [c3] at hxf
    have HE := Lib.hid (fun (W : World) (hW : Sat W (pts b (srO s) * (A * F))) (hr : Ran w W) => OutS.same (en := 26) hG hc hW hr)
    have HS := Lib.hid h
    have HV := Lib.hid HV
    obtain ⟨xn, xv, x2, x3, x4⟩ := x
    dsimp only at hxf
    subst hxf
    clear hG h e c1 c2 c3 hx2 c1t
    go_enter Tryz.func73, Tryz.ntmps73
    go_wp2_with fail
    refine HN.out.mono ?_
    rintro e w1 ⟨rfl, rfl⟩
    go_wp2_with fail
    refine HV.out.mono ?_
    rintro e w1 ⟨rfl, hB⟩
    rw [show vrV (xn, (⟨xv, x2, x3, true⟩ : VM.T)) = .agg #[.string xn, .string xv, .bool x2, .bool x3, .bool true] from rfl]
    have S1 := (HS.out.below hB).alloc (vrO (xn, (⟨xv, x2, x3, true⟩ : VM.T)))
    have R1 := Ran.new (hB.mono (Nat.zero_le _)) (vrO (xn, (⟨xv, x2, x3, true⟩ : VM.T)))
    obtain ⟨w2, hw2⟩ : ∃ w2, w2 = w1.alloc (vrO (xn, (⟨xv, x2, x3, true⟩ : VM.T))) := ⟨_, rfl⟩
    obtain ⟨xb, hxb⟩ : ∃ b, b = w1.heap.size := ⟨_, rfl⟩
    rw [← hw2, ← hxb] at S1
    rw [← hw2] at R1
    obtain ⟨e0, e1, e2, e3, e4⟩ := vrO_cells S1
    dsimp only at e0 e1 e2 e3 e4
    have S1 := Lib.hid S1
    have R1 := Lib.hid R1
    clear HS HV hB
    go_upto_region 6 with fail
    rw [← hw2, ← hxb]
    clear hw2 hxb
    go_wp2_with fail
    go_ret
    exact HE.out _ S1.out.right R1.out
  have c3f : (p.var k).fix = false := by simpa using c3
  rw [c3f] at hxf
  have e : dSet p k v = (0, dPut p k ⟨v, true, x.2.exp || p.option 97, false⟩) := by unfold dSet; rw [if_neg c1, if_neg c2, if_neg c3, hx2]
  rw [e]
  have HO := Lib.hid (fun (W : World) (X : Hp) (hW : Sat W (pts b (srO s) * X)) => (by
    have := roption_calls b s 97 W X (by rw [hG.is.o]; omega) hW
    rw [hG.is.o] at this
    exact this : Calls Tryz.prog 118 #[pp b, .int .u8 97] W fun e w' => e = .returned (.bool (p.option 97)) ∧ W = w'))
  have HP := Lib.hid (fun (W : World) (Y : Hp) (t : Bool) (hW : Sat W (pts b (srO s) * (A * (Y * F)))) => (by
    exact rput2_calls b s p q c A (Y * F) k ⟨v, true, t, false⟩ W (fun h => by cases h) hc hG hW : Calls Tryz.prog 116 #[pp b, .agg #[.string k, .string v, .bool true, .bool t, .bool false]] W fun e w' => e = .returned (.tuple #[]) ∧ PutS b A (Y * F) W (dPut p k ⟨v, true, t, false⟩) q (c + 1) w'))
  have HS := Lib.hid h
  have HV := Lib.hid HV
  obtain ⟨o97, ho97⟩ : ∃ t, t = p.option 97 := ⟨_, rfl⟩
  rw [← ho97] at HO ⊢
  obtain ⟨xn, xv, x2, x3, x4⟩ := x
  dsimp only at hxf ⊢
  subst hxf
  clear hG h e c1 c2 c3 c3f hx2 c1t ho97 ho
  go_enter Tryz.func73, Tryz.ntmps73
  go_wp2_with fail
  refine HN.out.mono ?_
  rintro e w1 ⟨rfl, rfl⟩
  go_wp2_with fail
  refine HV.out.mono ?_
  rintro e w1 ⟨rfl, hB⟩
  rw [show vrV (xn, (⟨xv, x2, x3, false⟩ : VM.T)) = .agg #[.string xn, .string xv, .bool x2, .bool x3, .bool false] from rfl]
  have S1 := (HS.out.below hB).alloc (vrO (xn, (⟨xv, x2, x3, false⟩ : VM.T)))
  have R1 := Ran.new (hB.mono (Nat.zero_le _)) (vrO (xn, (⟨xv, x2, x3, false⟩ : VM.T)))
  obtain ⟨w2, hw2⟩ : ∃ w2, w2 = w1.alloc (vrO (xn, (⟨xv, x2, x3, false⟩ : VM.T))) := ⟨_, rfl⟩
  obtain ⟨xb, hxb⟩ : ∃ b, b = w1.heap.size := ⟨_, rfl⟩
  rw [← hw2, ← hxb] at S1
  rw [← hw2] at R1
  obtain ⟨e0, e1, e2, e3, e4⟩ := vrO_cells S1
  dsimp only at e0 e1 e2 e3 e4
  have HOW := Lib.hid (HO.out w2 _ (S1.perm (show _ = pts b (srO s) * (pts xb (vrO (xn, (⟨xv, x2, x3, false⟩ : VM.T))) * (A * F)) by ac_rfl)))
  have HPW := Lib.hid (fun t => HP.out w2 _ t (S1.perm (show _ = pts b (srO s) * (A * (pts xb (vrO (xn, (⟨xv, x2, x3, false⟩ : VM.T))) * F)) by ac_rfl)))
  have R1 := Lib.hid R1
  clear HS HV hB S1 HO HP
  go_upto_region 6 with fail
  rw [← hw2, ← hxb]
  clear hw2 hxb
  cases x3 with
  | true =>
    go_wp2_with fail
    refine (HPW.out true).mono ?_
    rintro e w3 ⟨rfl, hP⟩
    have hP := Lib.hid hP
    go_wp2_with fail
    go_ret
    exact (hP.out.drop.trans R1.out).out
  | false =>
    go_wp2_with fail
    refine HOW.out.mono ?_
    rintro e w3 ⟨rfl, rfl⟩
    go_wp2_with fail
    refine (HPW.out o97).mono ?_
    rintro e w3 ⟨rfl, hP⟩
    have hP := Lib.hid hP
    go_wp2_with fail
    go_ret
    exact (hP.out.drop.trans R1.out).out
set_option maxRecDepth 100000 in
set_option maxHeartbeats 4000000 in
theorem runset_calls (b : Nat) (s : Sr) (p : Pst) (q : Int) (c : Nat) (A F : Hp) (k : ByteArray) (w : World) (hk : k.size ≤ 100000) (hc : c ≤ 80000) (hG : SrG A p q c s) (h : Sat w (pts b (srO s) * (A * F))) :
    Calls Tryz.prog 74 #[pp b, .string k] w (OutS b A F w (dUnset p k).1 (dUnset p k).2 q (c + 1)) := by
  have HN := Lib.hid (rname_calls k w (by omega))
  by_cases c1 : isName k = false
  · rw [c1] at HN
    have e : dUnset p k = (16, p) := by unfold dUnset; rw [if_pos c1]
    rw [e]
    have HE := Lib.hid (OutS.same (en := 16) hG hc h (Below.refl 0 w))
    clear hG h e c1
    go_enter Tryz.func74, Tryz.ntmps74
    go_wp2_with fail
    refine HN.out.mono ?_
    rintro e w1 ⟨rfl, rfl⟩
    go_wp2_with fail
    go_ret
    exact HE.out
  have c1t : isName k = true := by simpa using c1
  rw [c1t] at HN
  have hs := hG.sm
  have HV := rvar_calls b s p.V k w (A * F) (by have := hs.V; have := hs.top; omega) (pairs_bag hG.is.V) ((hG.ok.V.more (S := F)).perm (by ac_rfl)) h
  obtain ⟨x, hx⟩ : ∃ x, x = vrG p.V k := ⟨_, rfl⟩
  have hx2 : x.2 = p.var k := by rw [hx]; exact vrG_var p k
  rw [← hx] at HV
  clear hs hx
  have hxf : x.2.fix = (p.var k).fix := by rw [hx2]
  by_cases c3 : (p.var k).fix = true
  · have e : dUnset p k = (26, p) := by unfold dUnset; rw [if_neg c1, if_pos c3]
    rw [e]
    rw [c3] at hxf
    have HE := Lib.hid (fun (W : World) (hW : Sat W (pts b (srO s) * (A * F))) (hr : Ran w W) => OutS.same (en := 26) hG hc hW hr)
    have HS := Lib.hid h
    have HV := Lib.hid HV
    obtain ⟨xn, xv, x2, x3, x4⟩ := x
    dsimp only at hxf
    subst hxf
    clear hG h e c1 c3 hx2 c1t
    go_enter Tryz.func74, Tryz.ntmps74
    go_wp2_with fail
    refine HN.out.mono ?_
    rintro e w1 ⟨rfl, rfl⟩
    go_wp2_with fail
    refine HV.out.mono ?_
    rintro e w1 ⟨rfl, hB⟩
    have hf := rfield_fix xn xv x2 x3 true
    rw [show vrV (xn, (⟨xv, x2, x3, true⟩ : VM.T)) = .agg #[.string xn, .string xv, .bool x2, .bool x3, .bool true] from rfl]
    go_wp2_with fail
    go_ret
    exact HE.out _ (HS.out.below hB) (hB.mono (Nat.zero_le _))
  have c3f : (p.var k).fix = false := by simpa using c3
  rw [c3f] at hxf
  have e : dUnset p k = (0, dPut p k ⟨⟨#[]⟩, false, false, false⟩) := by unfold dUnset; rw [if_neg c1, if_neg c3]
  rw [e]
  have HP := Lib.hid (fun (W : World) (hW : Sat W (pts b (srO s) * (A * F))) => (by
    exact rput2_calls b s p q c A F k ⟨⟨#[]⟩, false, false, false⟩ W (fun h => rfl) hc hG hW : Calls Tryz.prog 116 #[pp b, .agg #[.string k, .string ⟨#[]⟩, .bool false, .bool false, .bool false]] W fun e w' => e = .returned (.tuple #[]) ∧ PutS b A F W (dPut p k ⟨⟨#[]⟩, false, false, false⟩) q (c + 1) w'))
  have HS := Lib.hid h
  have HV := Lib.hid HV
  obtain ⟨xn, xv, x2, x3, x4⟩ := x
  dsimp only at hxf ⊢
  subst hxf
  clear hG h e c1 c3 c3f hx2 c1t
  go_enter Tryz.func74, Tryz.ntmps74
  go_wp2_with fail
  refine HN.out.mono ?_
  rintro e w1 ⟨rfl, rfl⟩
  go_wp2_with fail
  refine HV.out.mono ?_
  rintro e w1 ⟨rfl, hB⟩
  have hf := rfield_fix xn xv x2 x3 false
  rw [show vrV (xn, (⟨xv, x2, x3, false⟩ : VM.T)) = .agg #[.string xn, .string xv, .bool x2, .bool x3, .bool false] from rfl]
  have HPW := Lib.hid (HP.out w1 (HS.out.below hB))
  have R1 := Lib.hid (hB.mono (Nat.zero_le _) : Ran w w1)
  clear HS HV hB HP
  go_wp2_with fail
  refine HPW.out.mono ?_
  rintro e w3 ⟨rfl, hP⟩
  have hP := Lib.hid hP
  go_wp2_with fail
  go_ret
  exact (hP.out.trans R1.out).out
set_option maxRecDepth 100000 in
set_option maxHeartbeats 4000000 in
theorem rmark_calls (b : Nat) (s : Sr) (p : Pst) (q : Int) (c : Nat) (A F : Hp) (k : ByteArray) (ex fx : Bool) (w : World) (hk : k.size ≤ 100000) (hc : c ≤ 80000) (hG : SrG A p q c s) (h : Sat w (pts b (srO s) * (A * F))) :
    Calls Tryz.prog 75 #[pp b, .string k, .bool ex, .bool fx] w (OutS b A F w (dMark p k ex fx).1 (dMark p k ex fx).2 q (c + 1)) := by
  have HN := Lib.hid (rname_calls k w (by omega))
  by_cases c1 : isName k = false
  · rw [c1] at HN
    have e : dMark p k ex fx = (16, p) := by unfold dMark; rw [if_pos c1]
    rw [e]
    have HE := Lib.hid (OutS.same (en := 16) hG hc h (Below.refl 0 w))
    clear hG h e c1
    go_enter Tryz.func75, Tryz.ntmps75
    go_wp2_with fail
    refine HN.out.mono ?_
    rintro e w1 ⟨rfl, rfl⟩
    go_wp2_with fail
    go_ret
    exact HE.out
  have c1t : isName k = true := by simpa using c1
  rw [c1t] at HN
  have hs := hG.sm
  have HV := rvar_calls b s p.V k w (A * F) (by have := hs.V; have := hs.top; omega) (pairs_bag hG.is.V) ((hG.ok.V.more (S := F)).perm (by ac_rfl)) h
  obtain ⟨x, hx⟩ : ∃ x, x = vrG p.V k := ⟨_, rfl⟩
  have hx2 : x.2 = p.var k := by rw [hx]; exact vrG_var p k
  rw [← hx] at HV
  clear hs hx
  have hxo : VarOk x.2 := by rw [hx2]; exact var_ok hG.is k
  have e : dMark p k ex fx = (0, dPut p k ⟨x.2.val, x.2.set, x.2.exp || ex, x.2.fix || fx⟩) := by unfold dMark; rw [if_neg c1, hx2]
  rw [e]
  obtain ⟨xn, xv, x2, x3, x4⟩ := x
  dsimp only at hxo ⊢
  obtain ⟨z3, hz3⟩ : ∃ z, z = (x3 || ex) := ⟨_, rfl⟩
  obtain ⟨z4, hz4⟩ : ∃ z, z = (x4 || fx) := ⟨_, rfl⟩
  rw [← hz3, ← hz4]
  have HP := Lib.hid (fun (W : World) (Y : Hp) (hW : Sat W (pts b (srO s) * (A * (Y * F)))) => (by
    exact rput2_calls b s p q c A (Y * F) k ⟨xv, x2, z3, z4⟩ W hxo hc hG hW : Calls Tryz.prog 116 #[pp b, .agg #[.string k, .string xv, .bool x2, .bool z3, .bool z4]] W fun e w' => e = .returned (.tuple #[]) ∧ PutS b A (Y * F) W (dPut p k ⟨xv, x2, z3, z4⟩) q (c + 1) w'))
  have HS := Lib.hid h
  have HV := Lib.hid HV
  clear hG h e c1 hx2 c1t hxo
  go_enter Tryz.func75, Tryz.ntmps75
  go_wp2_with fail
  refine HN.out.mono ?_
  rintro e w1 ⟨rfl, rfl⟩
  go_wp2_with fail
  refine HV.out.mono ?_
  rintro e w1 ⟨rfl, hB⟩
  rw [show vrV (xn, (⟨xv, x2, x3, x4⟩ : VM.T)) = .agg #[.string xn, .string xv, .bool x2, .bool x3, .bool x4] from rfl]
  have S1 := (HS.out.below hB).alloc (vrO (k, (⟨xv, x2, z3, z4⟩ : VM.T)))
  have R1 := Ran.new (hB.mono (Nat.zero_le _)) (vrO (k, (⟨xv, x2, z3, z4⟩ : VM.T)))
  obtain ⟨w2, hw2⟩ : ∃ w2, w2 = w1.alloc (vrO (k, (⟨xv, x2, z3, z4⟩ : VM.T))) := ⟨_, rfl⟩
  obtain ⟨xb, hxb⟩ : ∃ b, b = w1.heap.size := ⟨_, rfl⟩
  rw [← hw2, ← hxb] at S1
  rw [← hw2] at R1
  obtain ⟨e0, e1, e2, e3, e4⟩ := vrO_cells S1
  dsimp only at e0 e1 e2 e3 e4
  have HPW := Lib.hid (HP.out w2 _ (S1.perm (show _ = pts b (srO s) * (A * (pts xb (vrO (k, (⟨xv, x2, z3, z4⟩ : VM.T))) * F)) by ac_rfl)))
  have R1 := Lib.hid R1
  clear HS HV hB HP S1
  cases x3
  all_goals cases x4
  all_goals
    simp only [Bool.true_or, Bool.false_or] at hz3 hz4
    subst hz3 hz4
    go_upto_region 7 with fail
    rw [← hw2, ← hxb]
    clear hw2 hxb
    go_wp2_with fail
    refine HPW.out.mono ?_
    rintro e w3 ⟨rfl, hP⟩
    have hP := Lib.hid hP
    go_wp2_with fail
    go_ret
    exact (hP.out.drop.trans R1.out).out
set_option maxRecDepth 100000 in
set_option maxHeartbeats 4000000 in
theorem rputv_calls (b : Nat) (s : Sr) (p : Pst) (q : Int) (c : Nat) (A F : Hp) (k vn : ByteArray) (v : VM.T) (w : World) (hk : k.size ≤ 100000) (hc : c ≤ 80000) (hG : SrG A p q c s) (h : Sat w (pts b (srO s) * (A * F))) :
    Calls Tryz.prog 72 #[pp b, .string k, .agg #[.string vn, .string v.val, .bool v.set, .bool v.exp, .bool v.fix]] w (OutS b A F w (dPutV p k v).1 (dPutV p k v).2 q (c + 1)) := by
  have HN := Lib.hid (rname_calls k (w.alloc (vrO (vn, v))) (by omega))
  by_cases c1 : isName k = false
  · rw [c1] at HN
    have e : dPutV p k v = (16, p) := by unfold dPutV; rw [if_pos c1]
    rw [e]
    have HE := Lib.hid (OutS.same (en := 16) hG hc (h.old (vrO (vn, v))) (Ran.new (Below.refl 0 w) (vrO (vn, v))))
    clear hG h e c1
    go_enter Tryz.func72, Tryz.ntmps72
    go_wp2_with fail
    refine HN.out.mono ?_
    rintro e w1 ⟨rfl, rfl⟩
    go_wp2_with fail
    go_ret
    exact HE.out
  have c1t : isName k = true := by simpa using c1
  rw [c1t] at HN
  have e : dPutV p k v = (0, dPut p k (dVar v)) := by unfold dPutV; rw [if_neg c1]
  rw [e]
  have hdo : VarOk (dVar v) := by
    unfold VarOk dVar
    intro hh
    split at hh
    · rename_i hs; rw [hs] at hh; cases hh
    · rename_i hs; rw [if_neg hs]
  obtain ⟨d, hd⟩ : ∃ d, d = dVar v := ⟨_, rfl⟩
  rw [← hd] at hdo ⊢
  have HP := Lib.hid (fun (W : World) (Y : Hp) (hW : Sat W (pts b (srO s) * (A * (Y * F)))) => (by
    exact rput2_calls b s p q c A (Y * F) k d W hdo hc hG hW : Calls Tryz.prog 116 #[pp b, .agg #[.string k, .string d.val, .bool d.set, .bool d.exp, .bool d.fix]] W fun e w' => e = .returned (.tuple #[]) ∧ PutS b A (Y * F) W (dPut p k d) q (c + 1) w'))
  have S1 := h.alloc (vrO (k, d))
  have R1 := Ran.new (Below.refl 0 w) (vrO (k, d))
  obtain ⟨w2, hw2⟩ : ∃ w2, w2 = w.alloc (vrO (k, d)) := ⟨_, rfl⟩
  obtain ⟨xb, hxb⟩ : ∃ b, b = w.heap.size := ⟨_, rfl⟩
  rw [← hw2, ← hxb] at S1
  rw [← hw2] at R1
  obtain ⟨e0, e1, e2, e3, e4⟩ := vrO_cells S1
  dsimp only at e0 e1 e2 e3 e4
  have HPW := Lib.hid (HP.out w2 _ (S1.perm (show _ = pts b (srO s) * (A * (pts xb (vrO (k, d)) * F)) by ac_rfl)))
  have R1 := Lib.hid R1
  clear hG h HP S1 e c1 c1t hdo
  obtain ⟨vv, v2, v3, v4⟩ := v
  cases v2
  all_goals
    change d = ⟨_, _, _, _⟩ at hd
    subst hd
    dsimp only at e0 e1 e2 e3 e4 hw2 HPW HN ⊢
    go_enter Tryz.func72, Tryz.ntmps72
    go_wp2_with fail
    refine HN.out.mono ?_
    rintro e w1 ⟨rfl, rfl⟩
    go_upto_region 6 with fail
    rw [← hw2, ← hxb]
    clear hw2 hxb
    go_wp2_with fail
    refine HPW.out.mono ?_
    rintro e w3 ⟨rfl, hP⟩
    have hP := Lib.hid hP
    go_wp2_with fail
    go_ret
    exact (hP.out.drop.trans R1.out).out
end Go.Proofs.YtlmjidandjemjaaGreatDoor.State

namespace Go.Proofs.YtlmjidandjemjaaGreatDoor.State
open Go.RowKit Go.Proofs.YtlmjidandjemjaaGreatDoor Go.Proofs.YtlmjidandjemjaaGreatDoor.Hp Go.Proofs.YtlmjidandjemjaaGreatDoor.Undo
set_option linter.unusedVariables false
attribute [local go_sem] Oper.semAt_some

theorem sr_free {w : World} {b : Nat} {s : Sr} {S : Hp} (h : Sat w (pts b (srO s) * S)) (i : Nat) : w.frozen? ⟨b, i, none⟩ = false := free_at h.get i
theorem OutS.of {b : Nat} {A F X : Hp} {w0 w : World} {p : Pst} {q : Int} {c : Nat} {en : Int} {s : Sr} (hG : SrG (X * A) p q c s) (h : Sat w (pts b (srO s) * (X * (A * F)))) (h0 : Ran w0 w) : OutS b A F w0 en p q c (.returned (.int .i64 en)) w := ⟨⟨rfl, X, s, hG, h⟩, h0⟩
theorem SrG.setA {A X : Hp} {p : Pst} {q : Int} {c : Nat} {s : Sr} (hG : SrG A p q c s) (hc : c ≤ 80000) {M : ByteArray → Option ByteArray} {L : List (Pa ByteArray)} {ap : Option Addr} {ac : Nat} (hL : PairsA M L) (hl : L.length ≤ c + 1) (hr : RdR prC 2 (X * A) ap ac L) : SrG (X * A) { p with A := M } q (c + 1) { s with ap := ap, ac := ac, A := L } :=
  ⟨⟨hG.is.V, hG.is.F, hL, hG.is.T, hG.is.o, hG.is.G, hG.is.at_, hG.is.in_, hG.is.q, hG.is.vo⟩, ⟨hG.ok.V.more, hG.ok.F.more, hr, hG.ok.T.more, hG.ok.G.more⟩, ⟨Nat.le_succ_of_le hG.sm.V, Nat.le_succ_of_le hG.sm.F, hl, Nat.le_succ_of_le hG.sm.T, by omega⟩⟩
theorem SrG.setT {A X : Hp} {p : Pst} {q : Int} {c : Nat} {s : Sr} (hG : SrG A p q c s) (hc : c ≤ 80000) {M : ByteArray → Option ByteArray} {L : List (Pa ByteArray)} {ap : Option Addr} {ac : Nat} (hL : PairsA M L) (hl : L.length ≤ c + 1) (hr : RdR prC 2 (X * A) ap ac L) : SrG (X * A) { p with T := M } q (c + 1) { s with tp := ap, tc := ac, T := L } :=
  ⟨⟨hG.is.V, hG.is.F, hG.is.A, hL, hG.is.o, hG.is.G, hG.is.at_, hG.is.in_, hG.is.q, hG.is.vo⟩, ⟨hG.ok.V.more, hG.ok.F.more, hG.ok.A.more, hr, hG.ok.G.more⟩, ⟨Nat.le_succ_of_le hG.sm.V, Nat.le_succ_of_le hG.sm.F, Nat.le_succ_of_le hG.sm.A, hl, by omega⟩⟩
theorem SrG.setF {A X : Hp} {p : Pst} {q : Int} {c : Nat} {s : Sr} (hG : SrG A p q c s) (hc : c ≤ 80000) {M : ByteArray → Option NM.T} {L : List (Pa NM.T)} {ap : Option Addr} {ac : Nat} (hL : BagOf M L) (hl : L.length ≤ c + 1) (hr : RdR fnC 10 (X * A) ap ac L) : SrG (X * A) { p with F := M } q (c + 1) { s with fp := ap, fc := ac, F := L } :=
  ⟨⟨hG.is.V, hL, hG.is.A, hG.is.T, hG.is.o, hG.is.G, hG.is.at_, hG.is.in_, hG.is.q, hG.is.vo⟩, ⟨hG.ok.V.more, hr, hG.ok.A.more, hG.ok.T.more, hG.ok.G.more⟩, ⟨Nat.le_succ_of_le hG.sm.V, hl, Nat.le_succ_of_le hG.sm.A, Nat.le_succ_of_le hG.sm.T, by omega⟩⟩
theorem SrG.setG {A X : Hp} {p : Pst} {q : Int} {c : Nat} {s : Sr} (hG : SrG A p q c s) (hc : c ≤ 80000) {l : List ByteArray} {gp : Option Addr} {gc : Nat} (at_ in_ : Int) (hr : RdR gC 1 (X * A) gp gc l) : SrG (X * A) { p with l := l, here := at_, within := in_ } q (c + 1) { s with gp := gp, gc := gc, G := l, at_ := at_, in_ := in_ } :=
  ⟨⟨hG.is.V, hG.is.F, hG.is.A, hG.is.T, hG.is.o, rfl, rfl, rfl, hG.is.q, hG.is.vo⟩, ⟨hG.ok.V.more, hG.ok.F.more, hG.ok.A.more, hG.ok.T.more, hr⟩, ⟨Nat.le_succ_of_le hG.sm.V, Nat.le_succ_of_le hG.sm.F, Nat.le_succ_of_le hG.sm.A, Nat.le_succ_of_le hG.sm.T, by omega⟩⟩
theorem SrG.setO {A : Hp} {p : Pst} {q : Int} {c : Nat} {s : Sr} (hG : SrG A p q c s) (hc : c ≤ 80000) (t : ByteArray) : SrG (Hp.emp * A) { p with o := t } q (c + 1) { s with o := t } :=
  ⟨⟨hG.is.V, hG.is.F, hG.is.A, hG.is.T, rfl, hG.is.G, hG.is.at_, hG.is.in_, hG.is.q, hG.is.vo⟩, ⟨hG.ok.V.more, hG.ok.F.more, hG.ok.A.more, hG.ok.T.more, hG.ok.G.more⟩, ⟨Nat.le_succ_of_le hG.sm.V, Nat.le_succ_of_le hG.sm.F, Nat.le_succ_of_le hG.sm.A, Nat.le_succ_of_le hG.sm.T, by omega⟩⟩
theorem SrG.setQ {A : Hp} {p : Pst} {q : Int} {c : Nat} {s : Sr} (hG : SrG A p q c s) (hc : c ≤ 80000) (q2 : Int) : SrG (Hp.emp * A) p q2 (c + 1) { s with q := q2 } :=
  ⟨hG.is.status, ⟨hG.ok.V.more, hG.ok.F.more, hG.ok.A.more, hG.ok.T.more, hG.ok.G.more⟩, ⟨Nat.le_succ_of_le hG.sm.V, Nat.le_succ_of_le hG.sm.F, Nat.le_succ_of_le hG.sm.A, Nat.le_succ_of_le hG.sm.T, by omega⟩⟩
set_option maxRecDepth 100000 in
set_option maxHeartbeats 4000000 in
theorem rseta_calls (b : Nat) (s : Sr) (p : Pst) (q : Int) (c : Nat) (A F : Hp) (k v : ByteArray) (w : World) (hk : k.size ≤ 100000) (hvz : v.size ≤ 100000) (hc : c ≤ 80000) (hG : SrG A p q c s) (h : Sat w (pts b (srO s) * (A * F))) :
    Calls Tryz.prog 78 #[pp b, .string k, .string v] w (OutS b A F w (dSetA p k v).1 (dSetA p k v).2 q (c + 1)) := by
  have HN := Lib.hid (raliased_calls k w (by omega))
  by_cases c1 : isAlias k = false
  · have e : dSetA p k v = (16, p) := by unfold dSetA; rw [if_pos c1]
    rw [e]
    have HE := Lib.hid (OutS.same (en := 16) hG hc h (Below.refl 0 w))
    rw [c1] at HN
    clear hG h e c1
    go_enter Tryz.func78, Tryz.ntmps78
    go_wp2_with fail
    refine HN.out.mono ?_
    rintro e w1 ⟨rfl, rfl⟩
    go_wp2_with fail
    go_ret
    exact HE.out
  have c1t : isAlias k = true := by simpa using c1
  rw [c1t] at HN
  by_cases c2 : 4096 < v.size
  · have e : dSetA p k v = (21, p) := by unfold dSetA; rw [if_neg c1, if_pos c2]
    rw [e]
    have HE := Lib.hid (OutS.same (en := 21) hG hc h (Below.refl 0 w))
    have c2I : (4096 : Int) < (v.size : Int) := by omega
    clear hG h e c1 c2
    go_enter Tryz.func78, Tryz.ntmps78
    go_wp2_with fail
    refine HN.out.mono ?_
    rintro e w1 ⟨rfl, rfl⟩
    go_wp2_with fail
    go_ret
    exact HE.out

  have c2I : ¬ (4096 : Int) < (v.size : Int) := by omega
  have e : dSetA p k v = (0, { p with A := putM p.A k v }) := by unfold dSetA; rw [if_neg c1, if_neg c2]
  rw [e]
  have hs := hG.sm.A
  have hpp := ins_pairs hG.is.A k v
  have hll := ins_len k v (without k s.A)
  have hl2 := without_len k s.A
  have HW := Lib.hid (rwith_calls s.ap s.ac s.A k v (by omega) ((hG.ok.A.more (S := pts b (srO s) * F)).perm (by ac_rfl)) h)
  obtain ⟨-, -, s2, -⟩ := sr_cells h
  obtain ⟨L2, hL2⟩ : ∃ L, L = insP k v (without k s.A) := ⟨_, rfl⟩
  rw [← hL2] at HW hpp hll
  have HE := Lib.hid (fun (q2 : Option Addr) (qc2 : Nat) (W : World) (hW : Sat W (prA q2 qc2 L2 * (pts b (srO s) * (A * F)))) (hR : Ran w W) =>
    (OutS.of (en := 0) (hG.setA (X := prA q2 qc2 L2) hc hpp (by omega) (RdR.of_arr2 prC_len (by omega) hW)) ((hW.perm (show _ = pts b (srO s) * (prA q2 qc2 L2 * (A * F)) by ac_rfl)).set (i := 2) (.slice q2 L2.length qc2)) (Ran.set hR ⟨b, 2, none⟩ (.slice q2 L2.length qc2))))
  clear hG h e c1 c2 c1t hs hpp hll hl2 hL2
  go_enter Tryz.func78, Tryz.ntmps78
  go_wp2_with fail
  refine HN.out.mono ?_
  rintro e w1 ⟨rfl, rfl⟩
  go_wp2_with fail
  refine HW.out.mono ?_
  rintro e w2 ⟨⟨q2, qc2, rfl, S2⟩, R2⟩
  obtain ⟨-, -, t2, -⟩ := sr_cells (S2.perm (show _ = pts b (srO s) * (prA q2 qc2 L2 * (A * F)) by ac_rfl))
  have f2 := sr_free (S2.perm (show _ = pts b (srO s) * (prA q2 qc2 L2 * (A * F)) by ac_rfl)) 2
  have HE2 := Lib.hid (HE.out q2 qc2 w2 S2 R2)
  clear HW HN s2 S2 R2 HE
  go_wp2_with fail
  go_ret
  exact HE2.out
set_option maxRecDepth 100000 in
set_option maxHeartbeats 4000000 in
theorem rsett_calls (b : Nat) (s : Sr) (p : Pst) (q : Int) (c : Nat) (A F : Hp) (k v : ByteArray) (w : World) (hvz : v.size ≤ 100000) (hc : c ≤ 80000) (hG : SrG A p q c s) (h : Sat w (pts b (srO s) * (A * F))) :
    Calls Tryz.prog 80 #[pp b, .string k, .string v] w (OutS b A F w (dSetT p k v).1 (dSetT p k v).2 q (c + 1)) := by
  have HN := Lib.hid (rsignal_calls k w)
  by_cases c1 : isSignal k = false
  · have e : dSetT p k v = (16, p) := by unfold dSetT; rw [if_pos c1]
    rw [e]
    have HE := Lib.hid (OutS.same (en := 16) hG hc h (Below.refl 0 w))
    rw [c1] at HN
    clear hG h e c1
    go_enter Tryz.func80, Tryz.ntmps80
    go_wp2_with fail
    refine HN.out.mono ?_
    rintro e w1 ⟨rfl, rfl⟩
    go_wp2_with fail
    go_ret
    exact HE.out
  have c1t : isSignal k = true := by simpa using c1
  rw [c1t] at HN
  by_cases c2 : 4096 < v.size
  · have e : dSetT p k v = (21, p) := by unfold dSetT; rw [if_neg c1, if_pos c2]
    rw [e]
    have HE := Lib.hid (OutS.same (en := 21) hG hc h (Below.refl 0 w))
    have c2I : (4096 : Int) < (v.size : Int) := by omega
    clear hG h e c1 c2
    go_enter Tryz.func80, Tryz.ntmps80
    go_wp2_with fail
    refine HN.out.mono ?_
    rintro e w1 ⟨rfl, rfl⟩
    go_wp2_with fail
    go_ret
    exact HE.out

  have c2I : ¬ (4096 : Int) < (v.size : Int) := by omega
  have e : dSetT p k v = (0, { p with T := putM p.T k v }) := by unfold dSetT; rw [if_neg c1, if_neg c2]
  rw [e]
  have hs := hG.sm.T
  have hpp := ins_pairs hG.is.T k v
  have hll := ins_len k v (without k s.T)
  have hl2 := without_len k s.T
  have HW := Lib.hid (rwith_calls s.tp s.tc s.T k v (by omega) ((hG.ok.T.more (S := pts b (srO s) * F)).perm (by ac_rfl)) h)
  obtain ⟨-, -, -, s2, -⟩ := sr_cells h
  obtain ⟨L2, hL2⟩ : ∃ L, L = insP k v (without k s.T) := ⟨_, rfl⟩
  rw [← hL2] at HW hpp hll
  have HE := Lib.hid (fun (q2 : Option Addr) (qc2 : Nat) (W : World) (hW : Sat W (prA q2 qc2 L2 * (pts b (srO s) * (A * F)))) (hR : Ran w W) =>
    (OutS.of (en := 0) (hG.setT (X := prA q2 qc2 L2) hc hpp (by omega) (RdR.of_arr2 prC_len (by omega) hW)) ((hW.perm (show _ = pts b (srO s) * (prA q2 qc2 L2 * (A * F)) by ac_rfl)).set (i := 3) (.slice q2 L2.length qc2)) (Ran.set hR ⟨b, 3, none⟩ (.slice q2 L2.length qc2))))
  clear hG h e c1 c2 c1t hs hpp hll hl2 hL2
  go_enter Tryz.func80, Tryz.ntmps80
  go_wp2_with fail
  refine HN.out.mono ?_
  rintro e w1 ⟨rfl, rfl⟩
  go_wp2_with fail
  refine HW.out.mono ?_
  rintro e w2 ⟨⟨q2, qc2, rfl, S2⟩, R2⟩
  obtain ⟨-, -, -, t2, -⟩ := sr_cells (S2.perm (show _ = pts b (srO s) * (prA q2 qc2 L2 * (A * F)) by ac_rfl))
  have f2 := sr_free (S2.perm (show _ = pts b (srO s) * (prA q2 qc2 L2 * (A * F)) by ac_rfl)) 3
  have HE2 := Lib.hid (HE.out q2 qc2 w2 S2 R2)
  clear HW HN s2 S2 R2 HE
  go_wp2_with fail
  go_ret
  exact HE2.out
set_option maxRecDepth 100000 in
set_option maxHeartbeats 4000000 in
theorem runa_calls (b : Nat) (s : Sr) (p : Pst) (q : Int) (c : Nat) (A F : Hp) (k : ByteArray) (w : World)  (hc : c ≤ 80000) (hG : SrG A p q c s) (h : Sat w (pts b (srO s) * (A * F))) :
    Calls Tryz.prog 79 #[pp b, .string k] w (OutS b A F w (dUnA p k).1 (dUnA p k).2 q (c + 1)) := by
  have hs0 := hG.sm.A
  have hst0 := hG.sm.top
  have HN := Lib.hid (ralias_calls b s p.A k w (A * F) (by omega) (pairs_bag hG.is.A) ((hG.ok.A.more (S := F)).perm (by ac_rfl)) h)
  clear hs0 hst0
  obtain ⟨t, ht⟩ : ∃ t, t = (p.A k).getD ⟨#[]⟩ := ⟨_, rfl⟩
  rw [← ht] at HN
  clear ht
  by_cases c1 : (p.A k).isSome = false
  · have e : dUnA p k = (10, p) := by unfold dUnA; rw [if_pos c1]
    rw [e]
    have HE := Lib.hid (OutS.same (en := 10) hG hc h (Below.refl 0 w))
    rw [c1] at HN
    clear hG h e c1
    go_enter Tryz.func79, Tryz.ntmps79
    go_wp2_with fail
    refine HN.out.mono ?_
    rintro e w1 ⟨rfl, rfl⟩
    go_wp2_with fail
    go_ret
    exact HE.out

  have c1t : (p.A k).isSome = true := by
    cases hx : (p.A k).isSome with
    | true => rfl
    | false => exact absurd hx c1
  rw [c1t] at HN
  have e : dUnA p k = (0, { p with A := delM p.A k }) := by unfold dUnA; rw [if_neg c1]
  rw [e]
  have hs := hG.sm.A
  have hst := hG.sm.top
  have hpp := without_pairs hG.is.A k
  have hl2 := without_len k s.A
  have HW := Lib.hid (rwithout_calls s.ap s.ac s.A k (by omega) ((hG.ok.A.more (S := pts b (srO s) * F)).perm (by ac_rfl)) h)
  obtain ⟨-, -, s2, -⟩ := sr_cells h
  obtain ⟨L2, hL2⟩ : ∃ L, L = without k s.A := ⟨_, rfl⟩
  rw [← hL2] at HW hpp hl2
  have HE := Lib.hid (fun (q2 : Option Addr) (qc2 : Nat) (W : World) (hW : Sat W (prA q2 qc2 L2 * (pts b (srO s) * (A * F)))) (hR : Ran w W) =>
    (OutS.of (en := 0) (hG.setA (X := prA q2 qc2 L2) hc hpp (by omega) (RdR.of_arr2 prC_len (by omega) hW)) ((hW.perm (show _ = pts b (srO s) * (prA q2 qc2 L2 * (A * F)) by ac_rfl)).set (i := 2) (.slice q2 L2.length qc2)) (Ran.set hR ⟨b, 2, none⟩ (.slice q2 L2.length qc2))))
  clear hG h e c1 c1t hs hpp hl2 hL2 hst
  go_enter Tryz.func79, Tryz.ntmps79
  go_wp2_with fail
  refine HN.out.mono ?_
  rintro e w1 ⟨rfl, rfl⟩
  go_wp2_with fail
  refine HW.out.mono ?_
  rintro e w2 ⟨⟨q2, qc2, rfl, S2⟩, R2⟩
  obtain ⟨-, -, t2, -⟩ := sr_cells (S2.perm (show _ = pts b (srO s) * (prA q2 qc2 L2 * (A * F)) by ac_rfl))
  have f2 := sr_free (S2.perm (show _ = pts b (srO s) * (prA q2 qc2 L2 * (A * F)) by ac_rfl)) 2
  have HE2 := Lib.hid (HE.out q2 qc2 w2 S2 R2)
  clear HW HN s2 S2 R2 HE
  go_wp2_with fail
  go_ret
  exact HE2.out
set_option maxRecDepth 100000 in
set_option maxHeartbeats 4000000 in
theorem runt_calls (b : Nat) (s : Sr) (p : Pst) (q : Int) (c : Nat) (A F : Hp) (k : ByteArray) (w : World)  (hc : c ≤ 80000) (hG : SrG A p q c s) (h : Sat w (pts b (srO s) * (A * F))) :
    Calls Tryz.prog 81 #[pp b, .string k] w (OutS b A F w (dUnT p k).1 (dUnT p k).2 q (c + 1)) := by
  have HN := Lib.hid (rsignal_calls k w)
  by_cases c1 : isSignal k = false
  · have e : dUnT p k = (16, p) := by unfold dUnT; rw [if_pos c1]
    rw [e]
    have HE := Lib.hid (OutS.same (en := 16) hG hc h (Below.refl 0 w))
    rw [c1] at HN
    clear hG h e c1
    go_enter Tryz.func81, Tryz.ntmps81
    go_wp2_with fail
    refine HN.out.mono ?_
    rintro e w1 ⟨rfl, rfl⟩
    go_wp2_with fail
    go_ret
    exact HE.out

  have c1t : isSignal k = true := by simpa using c1
  rw [c1t] at HN
  have e : dUnT p k = (0, { p with T := delM p.T k }) := by unfold dUnT; rw [if_neg c1]
  rw [e]
  have hs := hG.sm.T
  have hst := hG.sm.top
  have hpp := without_pairs hG.is.T k
  have hl2 := without_len k s.T
  have HW := Lib.hid (rwithout_calls s.tp s.tc s.T k (by omega) ((hG.ok.T.more (S := pts b (srO s) * F)).perm (by ac_rfl)) h)
  obtain ⟨-, -, -, s2, -⟩ := sr_cells h
  obtain ⟨L2, hL2⟩ : ∃ L, L = without k s.T := ⟨_, rfl⟩
  rw [← hL2] at HW hpp hl2
  have HE := Lib.hid (fun (q2 : Option Addr) (qc2 : Nat) (W : World) (hW : Sat W (prA q2 qc2 L2 * (pts b (srO s) * (A * F)))) (hR : Ran w W) =>
    (OutS.of (en := 0) (hG.setT (X := prA q2 qc2 L2) hc hpp (by omega) (RdR.of_arr2 prC_len (by omega) hW)) ((hW.perm (show _ = pts b (srO s) * (prA q2 qc2 L2 * (A * F)) by ac_rfl)).set (i := 3) (.slice q2 L2.length qc2)) (Ran.set hR ⟨b, 3, none⟩ (.slice q2 L2.length qc2))))
  clear hG h e c1 c1t hs hpp hl2 hL2 hst
  go_enter Tryz.func81, Tryz.ntmps81
  go_wp2_with fail
  refine HN.out.mono ?_
  rintro e w1 ⟨rfl, rfl⟩
  go_wp2_with fail
  refine HW.out.mono ?_
  rintro e w2 ⟨⟨q2, qc2, rfl, S2⟩, R2⟩
  obtain ⟨-, -, -, t2, -⟩ := sr_cells (S2.perm (show _ = pts b (srO s) * (prA q2 qc2 L2 * (A * F)) by ac_rfl))
  have f2 := sr_free (S2.perm (show _ = pts b (srO s) * (prA q2 qc2 L2 * (A * F)) by ac_rfl)) 3
  have HE2 := Lib.hid (HE.out q2 qc2 w2 S2 R2)
  clear HW HN s2 S2 R2 HE
  go_wp2_with fail
  go_ret
  exact HE2.out
set_option maxRecDepth 100000 in
set_option maxHeartbeats 4000000 in
theorem rcursor_calls (b : Nat) (s : Sr) (p : Pst) (q : Int) (c : Nat) (A F : Hp) (a i : Int) (w : World)  (hc : c ≤ 80000) (hG : SrG A p q c s) (h : Sat w (pts b (srO s) * (A * F))) :
    Calls Tryz.prog 86 #[pp b, .int .i64 a, .int .i64 i] w (OutS b A F w (dSetC p a i).1 (dSetC p a i).2 q (c + 1)) := by
  by_cases c1 : a < 0
  · have e : dSetC p a i = (1, p) := by unfold dSetC; rw [if_pos (.inl c1)]
    rw [e]
    have HE := Lib.hid (OutS.same (en := 1) hG hc h (Below.refl 0 w))
    clear hG h e
    go_enter Tryz.func86, Tryz.ntmps86
    go_wp2_with fail
    go_ret
    exact HE.out
  by_cases c2 : i < 0
  · have e : dSetC p a i = (1, p) := by unfold dSetC; rw [if_pos (.inr c2)]
    rw [e]
    have HE := Lib.hid (OutS.same (en := 1) hG hc h (Below.refl 0 w))
    clear hG h e
    go_enter Tryz.func86, Tryz.ntmps86
    go_wp2_with fail
    go_ret
    exact HE.out
  have e : dSetC p a i = (0, { p with here := a, within := i }) := by unfold dSetC; rw [if_neg (by omega)]
  rw [e]
  have hr := hG.ok.G.more (S := Hp.emp)
  have hgi := hG.is.G
  have HE := Lib.hid (OutS.of (w0 := w) (b := b) (F := F) (en := 0) (hG.setG (X := Hp.emp) hc a i hr) (by rw [emp_sep]; exact ((h.set (i := 6) (.int .i64 a)).set (i := 7) (.int .i64 i))) (Ran.set (Ran.set (Below.refl 0 w) ⟨b, 6, none⟩ (.int .i64 a)) ⟨b, 7, none⟩ (.int .i64 i)))
  rw [hgi] at HE
  obtain ⟨-, -, -, -, -, -, s6, s7, -⟩ := sr_cells h
  have f6 := sr_free h 6
  have f7 := sr_free (s := { s with at_ := a }) (h.set (i := 6) (.int .i64 a)) 7
  obtain ⟨-, -, -, -, -, -, -, t7, -⟩ := sr_cells (s := { s with at_ := a }) (h.set (i := 6) (.int .i64 a))
  clear hG h e hr hgi
  go_enter Tryz.func86, Tryz.ntmps86
  go_wp2_with fail
  go_ret
  exact HE.out
set_option maxRecDepth 100000 in
theorem rstatus_calls (b : Nat) (s : Sr) (p : Pst) (q : Int) (c : Nat) (A F : Hp) (n : Int) (w : World) (hn : I64 n) (hc : c ≤ 80000) (hG : SrG A p q c s) (h : Sat w (pts b (srO s) * (A * F))) :
    Calls Tryz.prog 87 #[pp b, .int .i64 n] w fun e w' => e = .returned (.tuple #[]) ∧ PutS b A F w p (n % 256) (c + 1) w' := by
  have hr : -256 < n.tmod 256 ∧ n.tmod 256 < 256 := by
    have h1 := Int.tmod_lt_of_pos n (show (0 : Int) < 256 by decide)
    have h2 := Int.tmod_lt_of_pos (-n) (show (0 : Int) < 256 by decide)
    rw [Int.neg_tmod] at h2; omega
  have hv : (n.tmod 256 + 256).tmod 256 = n % 256 := by
    rw [Int.tmod_eq_emod_of_nonneg (by omega), Int.add_emod_right]
    rw [Int.tmod_def]
    have h1 := Int.tmod_add_mul_tdiv n 256
    rw [Int.sub_emod, Int.mul_emod_right]
    simp
  have wr1 : IntKind.i64.wrap (n.tmod 256) = n.tmod 256 := IntWalk.i64_in _ (by omega)
  have wr2 : IntKind.i64.wrap (n.tmod 256 + 256) = n.tmod 256 + 256 := IntWalk.i64_in _ (by omega)
  have wr3 : IntKind.i64.wrap (n % 256) = n % 256 := IntWalk.i64_in _ (by omega)
  have HE := Lib.hid (show PutS b A F w p (n % 256) (c + 1) (w.setCell ⟨b, 8, none⟩ (.int .i64 (n % 256))) from ⟨⟨Hp.emp, _, hG.setQ hc (n % 256), by rw [emp_sep]; exact h.set (i := 8) (.int .i64 (n % 256))⟩, Ran.set (Below.refl 0 w) ⟨b, 8, none⟩ (.int .i64 (n % 256))⟩)
  obtain ⟨-, -, -, -, -, -, -, -, s8⟩ := sr_cells h
  have f8 := sr_free h 8
  clear hG h hr
  go_enter Tryz.func87, Tryz.ntmps87
  go_wp2_with fail
  go_end0
  exact ⟨rfl, HE.out⟩
end Go.Proofs.YtlmjidandjemjaaGreatDoor.State

