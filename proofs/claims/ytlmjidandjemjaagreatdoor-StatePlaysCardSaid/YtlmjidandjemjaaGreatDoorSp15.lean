/- HandlesPlays, part 15 of 29: the texts SvL StTg StTh, joined by a program. -/
import Derived.Test.YtlmjidandjemjaaGreatDoorSp14
import Derived.Test.YtlmjidandjemjaaGreatDoorSp12
namespace Go.Proofs.YtlmjidandjemjaaGreatDoor.State
open Go.RowKit Go.Proofs.YtlmjidandjemjaaGreatDoor Go.Proofs.YtlmjidandjemjaaGreatDoor.Hp Go.Proofs.YtlmjidandjemjaaGreatDoor.Undo
set_option linter.unusedVariables false
attribute [local go_sem] Oper.semAt_some

set_option maxRecDepth 100000 in
set_option maxHeartbeats 4000000 in
theorem rsetf_calls (b : Nat) (s : Sr) (p : Pst) (q : Int) (c : Nat) (A F : Hp) (k : ByteArray) (f : NM.T) (w : World) (hk : k.size ≤ 100000) (hc : c ≤ 80000) (hG : SrG A p q c s) (h : Sat w (pts b (srO s) * (A * F))) :
    Calls Tryz.prog 76 #[pp b, .string k, .agg #[.int .i64 f.kind, .bool false, .string f.name, .bool false, .slice none 0 0, .slice none 0 0, .slice none 0 0, .slice none 0 0, .slice none 0 0]] w (OutS b A F w (dSetF p k f).1 (dSetF p k f).2 q (c + 1)) := by
  have HN := Lib.hid (rname_calls k (w.alloc (noO f.kind f.name)) (by omega))
  by_cases c1 : isName k = false
  · have e : dSetF p k f = (16, p) := by unfold dSetF; rw [if_pos c1]
    rw [e]
    rw [c1] at HN
    have HE := Lib.hid (OutS.same (en := 16) hG hc (h.old (noO f.kind f.name)) (Ran.new (Below.refl 0 w) (noO f.kind f.name)))
    clear hG h e c1
    go_enter Tryz.func76, Tryz.ntmps76
    go_wp2_with fail
    refine HN.out.mono ?_
    rintro e w1 ⟨rfl, rfl⟩
    go_wp2_with fail
    go_ret
    exact HE.out
  have c1t : isName k = true := by simpa using c1
  rw [c1t] at HN
  have e : dSetF p k f = (0, { p with F := putM p.F k f }) := by unfold dSetF; rw [if_neg c1]
  rw [e]
  obtain ⟨nb, hnb⟩ : ∃ nb, nb = w.heap.size := ⟨_, rfl⟩
  have S1 := h.alloc (noO f.kind f.name)
  have R1 := Ran.new (Below.refl 0 w) (noO f.kind f.name)
  obtain ⟨w1, hw1⟩ : ∃ w1, w1 = w.alloc (noO f.kind f.name) := ⟨_, rfl⟩
  rw [← hnb, ← hw1] at S1
  rw [← hw1] at R1 HN
  have hs := hG.sm.F
  have hst := hG.sm.top
  have hcl := hG.ok.F.len
  have hct := hG.ok.F.top
  have hcI : (s.fc : Int) ≤ 9223372036854775807 := by unfold maxLen at hct; omega
  have hclI : (s.F.length : Int) ≤ (s.fc : Int) := by omega
  have hFI : (s.F.length : Int) ≤ 90000 := by omega
  obtain ⟨p1, cap1, L, hp1, hcap1, hL⟩ : ∃ p cap L, p = s.fp ∧ cap = s.fc ∧ L = s.F := ⟨_, _, _, rfl, rfl, rfl⟩
  have HM := Lib.hid (fun (W : World) (X : Hp) (hX : Sat W (X * (pts nb (noO f.kind f.name) * (pts b (srO s) * (A * F))))) => (by
    obtain ⟨-, s1, -⟩ := sr_cells (hX.perm (show _ = pts b (srO s) * (X * (pts nb (noO f.kind f.name) * (A * F))) by ac_rfl))
    rw [← hp1, ← hcap1, ← hL] at s1
    have hR : RdR fnC 10 A p1 cap1 L := by rw [hp1, hcap1, hL]; exact hG.ok.F
    exact ⟨s1, fun i hi => rd_fn hR (hX.perm (show _ = (X * (pts nb (noO f.kind f.name) * (pts b (srO s) * F))) * A by ac_rfl)) i hi⟩ : W.cell? ⟨b, 1, none⟩ = some (.slice p1 L.length cap1) ∧ ∀ i (hi : i < L.length), _))

  have HE := Lib.hid (fun (q2 : Option Addr) (qc2 : Nat) (W : World) (hW : Sat W (fnA q2 qc2 (without k L ++ [(k, f)]) * (pts nb (noO f.kind f.name) * (pts b (srO s) * (A * F))))) (hR : Ran w W) =>
    (OutS.of (w0 := w) (b := b) (F := F) (en := 0) (hG.setF (X := fnA q2 qc2 (without k L ++ [(k, f)])) hc (by rw [hL]; exact bag_put hG.is.F k f) (by rw [List.length_append]; have := without_len k L; rw [hL] at this ⊢; simp; omega) (RdR.of_arr2 fnC_len (by omega) hW)) (((hW.perm (show _ = pts nb (noO f.kind f.name) * (pts b (srO s) * (fnA q2 qc2 (without k L ++ [(k, f)]) * (A * F))) by ac_rfl)).right).set (i := 1) (.slice q2 (without k L ++ [(k, f)]).length qc2)) (Ran.set hR ⟨b, 1, none⟩ (.slice q2 (without k L ++ [(k, f)]).length qc2))))
  rw [← hL] at hclI hFI
  rw [← hcap1] at hcI hclI
  have hwl := without_len k L
  have hLn : L.length ≤ 90000 := by omega
  have S1 := Lib.hid S1
  have R1 := Lib.hid R1
  clear hG h e c1 c1t hs hst hcl hct hp1 hcap1 hL
  go_enter Tryz.func76, Tryz.ntmps76
  go_upto_region 1 with fail
  rw [← hw1, ← hnb]
  clear hw1 hnb
  go_wp2_with fail
  refine HN.out.mono ?_
  rintro e w2 ⟨rfl, rfl⟩
  clear HN
  go_wp2_with fail
  go_loopg [7, 8] (L.length) (fun (g : Nat) (ov iv : Value) (wr : World) => ∃ (i : Nat) (q : Option Addr) (qc : Nat), i + g = L.length ∧ iv = .int .i64 (i : Int) ∧ ov = .slice q (without k (L.take i)).length qc ∧ Sat wr (fnA q qc (without k (L.take i)) * (pts nb (noO f.kind f.name) * (pts b (srO s) * (A * F)))) ∧ Ran w wr)
  case atStart => exact ⟨0, none, 0, by omega, rfl, rfl, S1.out.nil_arr _ _, R1.out⟩
  case round =>
    clear S1 R1
    obtain ⟨i, q1, qc1, hik, rfl, rfl, HS, HR⟩ := hrel
    have hi0 : (0 : Int) ≤ i := by omega
    obtain ⟨s1, hrec⟩ := HM.out wr _ HS
    by_cases hi : i < L.length
    · obtain ⟨b2, o2, rfl, p0, p1, p2, p3, p4, p5, p6, p7, p8, p9⟩ := hrec i hi
      have hlt : (i : Int) < L.length := by omega
      have htk : L.take (i + 1) = L.take i ++ [L[i]] := List.take_succ_eq_append_getElem hi
      have hsn := without_snoc k (L.take i) L[i]
      rw [← htk] at hsn
      have hln := without_len k (L.take i)
      rw [List.length_take] at hln
      have hln2 : (without k (L.take i)).length ≤ 1000000 := by omega
      obtain ⟨z, hz⟩ : ∃ z, z = L[i] := ⟨_, rfl⟩
      rw [← hz] at p0 p1 p3 hsn
      obtain ⟨zn, zk, zm⟩ := z
      dsimp only at p0 p1 p3 hsn
      obtain ⟨out, hout⟩ : ∃ out, out = without k (L.take i) := ⟨_, rfl⟩
      rw [← hout] at HS hsn hln2
      rw [← hout]
      have Hik := Lib.hid hik
      clear hrec
      by_cases heq : (zn.toList == k.toList) = true
      · rw [if_pos heq, List.append_nil] at hsn
        have hzk : zn = k := (toListS_iff _ _).1 heq
        subst hzk
        have Hs := Lib.hid (And.intro hsn (And.intro HS HR))
        clear hik hz hsn htk hln HS HR heq hout p1 p2 p3 p4 p5 p6 p7 p8 p9
        go_wp2_with fail
        go_roundg (gk - 1)
        case measure => have := Hik.out; omega
        case rel => exact ⟨i + 1, q1, qc1, by have := Hik.out; omega, rfl, by rw [Hs.out.1], by rw [Hs.out.1]; exact Hs.out.2.1, Hs.out.2.2⟩
      · have hne : (zn.toList == k.toList) = false := by simpa using heq
        rw [if_neg heq] at hsn
        have HA := Lib.hid (HS.old (fnO (zn, ⟨zk, zm⟩)))
        have HX := Lib.hid (heap_alloc_new wr (fnO (zn, ⟨zk, zm⟩)))
        have RA := Lib.hid (Ran.new HR (fnO (zn, ⟨zk, zm⟩)))
        have Hs := Lib.hid hsn
        clear hik hz hsn htk hln HS HR heq hout
        go_wp2_with (at_builtin; go_loud (refine appFn rfl _ _ rfl q1 out.length qc1 out (zn, ⟨zk, zm⟩) rfl rfl _ rfl HX.out HA.out hln2 ?_; intro q2 qc2 w6 T6 R6; clear HA HX p0 p1 p2 p3 p4 p5 p6 p7 p8 p9))
        have T6 := Lib.hid (And.intro T6 (Below.trans RA.out R6))
        clear RA R6
        go_roundg (gk - 1)
        case measure => have := Hik.out; omega
        case rel => exact ⟨i + 1, q2, qc2, by have := Hik.out; omega, rfl, by rw [Hs.out, List.length_append]; rfl, by rw [Hs.out]; exact T6.out.1, T6.out.2⟩
    · have hge : ¬ ((i : Int) < L.length) := by omega
      have htl : L.take i = L := List.take_of_length_le (by omega)
      rw [htl] at HS
      rw [htl]
      clear hik htl hi hrec
      obtain ⟨out, hout⟩ : ∃ out, out = without k L := ⟨_, rfl⟩
      rw [← hout] at HS HE
      rw [← hout]
      obtain ⟨n0, n1, n2, n3, n4, n5, n6, n7, n8⟩ := noO_cells (HS.perm (show _ = pts nb (noO f.kind f.name) * (fnA q1 qc1 out * (pts b (srO s) * (A * F))) by ac_rfl))
      have HA := Lib.hid (HS.old (fnO (k, f)))
      have HX := Lib.hid (heap_alloc_new wr (fnO (k, f)))
      have RA := Lib.hid (Ran.new HR (fnO (k, f)))
      have hol : out.length ≤ 1000000 := by rw [hout]; omega
      clear HS HR hout hwl
      go_wp2_with (at_builtin; go_loud (refine appFn rfl _ _ rfl q1 out.length qc1 out (k, f) rfl rfl _ rfl HX.out HA.out hol ?_; intro q2 qc2 w6 T6 R6; obtain ⟨t1, -⟩ := HM.out w6 _ T6; have f1 := sr_free (T6.perm (show _ = pts b (srO s) * (fnA q2 qc2 (out ++ [(k, f)]) * (pts nb (noO f.kind f.name) * (A * F))) by ac_rfl)) 1; have HE2 := Lib.hid (HE.out q2 qc2 w6 T6 (Below.trans RA.out R6)); clear HA HX T6 R6 HE HM n0 n1 n2 n3 n4 n5 n6 n7 n8 s1))
      go_ret
      have := HE2.out
      rw [List.length_append] at this
      exact this
set_option maxRecDepth 100000 in
set_option maxHeartbeats 4000000 in
theorem runsetf_calls (b : Nat) (s : Sr) (p : Pst) (q : Int) (c : Nat) (A F : Hp) (k : ByteArray) (w : World) (hk : k.size ≤ 100000) (hc : c ≤ 80000) (hG : SrG A p q c s) (h : Sat w (pts b (srO s) * (A * F))) :
    Calls Tryz.prog 77 #[pp b, .string k] w (OutS b A F w (dUnsetF p k).1 (dUnsetF p k).2 q (c + 1)) := by
  have HN := Lib.hid (rname_calls k w (by omega))
  by_cases c1 : isName k = false
  · have e : dUnsetF p k = (16, p) := by unfold dUnsetF; rw [if_pos c1]
    rw [e]
    rw [c1] at HN
    have HE := Lib.hid (OutS.same (en := 16) hG hc h (Below.refl 0 w))
    clear hG h e c1
    go_enter Tryz.func77, Tryz.ntmps77
    go_wp2_with fail
    refine HN.out.mono ?_
    rintro e w1 ⟨rfl, rfl⟩
    go_wp2_with fail
    go_ret
    exact HE.out
  have c1t : isName k = true := by simpa using c1
  rw [c1t] at HN
  have HV := rfunc_calls b s p.F k w (A * F) (by have := hG.sm.F; have := hG.sm.top; omega) hG.is.F ((hG.ok.F.more (S := F)).perm (by ac_rfl)) h
  obtain ⟨f, hf⟩ : ∃ f, f = (p.F k).getD NM.zt := ⟨_, rfl⟩
  rw [← hf] at HV
  have HV := Lib.hid HV
  by_cases c2 : (p.F k).isSome = false
  · have e : dUnsetF p k = (10, p) := by unfold dUnsetF; rw [if_neg c1, if_pos c2]
    rw [e]
    rw [c2] at HV
    have HE := Lib.hid (fun (W : World) (hW : Sat W (pts b (srO s) * (A * F))) (hR : Ran w W) => OutS.same (en := 10) hG hc hW hR)
    have HS := Lib.hid h
    clear hG h e c1 c2 c1t hf
    go_enter Tryz.func77, Tryz.ntmps77
    go_wp2_with fail
    refine HN.out.mono ?_
    rintro e w1 ⟨rfl, rfl⟩
    go_wp2_with fail
    refine HV.out.mono ?_
    rintro e w1 ⟨rfl, hB⟩
    rw [show noV f.kind f.name = .agg #[.int .i64 f.kind, .bool false, .string f.name, .bool false, .slice none 0 0, .slice none 0 0, .slice none 0 0, .slice none 0 0, .slice none 0 0] from rfl]
    have S1 := (HS.out.below hB).alloc (noO f.kind f.name)
    have R1 := Ran.new (hB.mono (Nat.zero_le _)) (noO f.kind f.name)
    have HE2 := Lib.hid (HE.out _ S1.right R1)
    clear HE S1 R1 HS HV HN hB
    go_wp2_with fail
    go_ret
    exact HE2.out
  have c2t : (p.F k).isSome = true := by
    cases hx : (p.F k).isSome with
    | true => rfl
    | false => exact absurd hx c2
  rw [c2t] at HV
  have e : dUnsetF p k = (0, { p with F := delM p.F k }) := by unfold dUnsetF; rw [if_neg c1, if_neg c2]
  rw [e]
  have HS := Lib.hid h
  have hs := hG.sm.F
  have hst := hG.sm.top
  have hcl := hG.ok.F.len
  have hct := hG.ok.F.top
  have hcI : (s.fc : Int) ≤ 9223372036854775807 := by unfold maxLen at hct; omega
  have hclI : (s.F.length : Int) ≤ (s.fc : Int) := by omega
  have hFI : (s.F.length : Int) ≤ 90000 := by omega
  obtain ⟨p1, cap1, L, hp1, hcap1, hL⟩ : ∃ p cap L, p = s.fp ∧ cap = s.fc ∧ L = s.F := ⟨_, _, _, rfl, rfl, rfl⟩
  have HMN := Lib.hid (fun (nb : Nat) (W : World) (X : Hp) (hX : Sat W (X * (pts nb (noO f.kind f.name) * (pts b (srO s) * (A * F))))) => (by
    obtain ⟨-, s1, -⟩ := sr_cells (hX.perm (show _ = pts b (srO s) * (X * (pts nb (noO f.kind f.name) * (A * F))) by ac_rfl))
    rw [← hp1, ← hcap1, ← hL] at s1
    have hR : RdR fnC 10 A p1 cap1 L := by rw [hp1, hcap1, hL]; exact hG.ok.F
    exact ⟨s1, fun i hi => rd_fn hR (hX.perm (show _ = (X * (pts nb (noO f.kind f.name) * (pts b (srO s) * F))) * A by ac_rfl)) i hi⟩ : W.cell? ⟨b, 1, none⟩ = some (.slice p1 L.length cap1) ∧ ∀ i (hi : i < L.length), _))
  have HEN := Lib.hid (fun (nb : Nat) (q2 : Option Addr) (qc2 : Nat) (W : World) (hW : Sat W (fnA q2 qc2 (without k L) * (pts nb (noO f.kind f.name) * (pts b (srO s) * (A * F))))) (hR : Ran w W) =>
    (OutS.of (w0 := w) (b := b) (F := F) (en := 0) (hG.setF (X := fnA q2 qc2 (without k L)) hc (by rw [hL]; exact bag_del hG.is.F k) (by have := without_len k L; rw [hL] at this ⊢; omega) (RdR.of_arr2 fnC_len (by omega) hW)) (((hW.perm (show _ = pts nb (noO f.kind f.name) * (pts b (srO s) * (fnA q2 qc2 (without k L) * (A * F))) by ac_rfl)).right).set (i := 1) (.slice q2 (without k L).length qc2)) (Ran.set hR ⟨b, 1, none⟩ (.slice q2 (without k L).length qc2))))
  rw [← hL] at hclI hFI
  rw [← hcap1] at hcI hclI
  have hwl := without_len k L
  have hLn : L.length ≤ 90000 := by omega
  clear hG h e c1 c2 c1t c2t hf hs hst hcl hct hp1 hcap1 hL
  go_enter Tryz.func77, Tryz.ntmps77
  go_wp2_with fail
  refine HN.out.mono ?_
  rintro e w1 ⟨rfl, rfl⟩
  go_wp2_with fail
  refine HV.out.mono ?_
  rintro e w1 ⟨rfl, hB⟩
  rw [show noV f.kind f.name = .agg #[.int .i64 f.kind, .bool false, .string f.name, .bool false, .slice none 0 0, .slice none 0 0, .slice none 0 0, .slice none 0 0, .slice none 0 0] from rfl]
  have S1 := (HS.out.below hB).alloc (noO f.kind f.name)
  have R1 := Ran.new (hB.mono (Nat.zero_le _)) (noO f.kind f.name)
  obtain ⟨w2, hw2⟩ : ∃ w2, w2 = w1.alloc (noO f.kind f.name) := ⟨_, rfl⟩
  obtain ⟨nb, hnb⟩ : ∃ nb, nb = w1.heap.size := ⟨_, rfl⟩
  rw [← hw2, ← hnb] at S1
  rw [← hw2] at R1
  have HM := Lib.hid (HMN.out nb)
  have HE := Lib.hid (HEN.out nb)
  have S1 := Lib.hid S1
  have R1 := Lib.hid R1
  clear HN HV HS hB HMN HEN
  go_upto_region 4 with fail
  rw [← hw2, ← hnb]
  clear hw2 hnb
  go_wp2_with fail
  go_loopg [7, 8] (L.length) (fun (g : Nat) (ov iv : Value) (wr : World) => ∃ (i : Nat) (q : Option Addr) (qc : Nat), i + g = L.length ∧ iv = .int .i64 (i : Int) ∧ ov = .slice q (without k (L.take i)).length qc ∧ Sat wr (fnA q qc (without k (L.take i)) * (pts nb (noO f.kind f.name) * (pts b (srO s) * (A * F)))) ∧ Ran w wr)
  case atStart => exact ⟨0, none, 0, by omega, rfl, rfl, S1.out.nil_arr _ _, R1.out⟩
  case round =>
    clear S1 R1
    obtain ⟨i, q1, qc1, hik, rfl, rfl, HS, HR⟩ := hrel
    have hi0 : (0 : Int) ≤ i := by omega
    obtain ⟨s1, hrec⟩ := HM.out wr _ HS
    by_cases hi : i < L.length
    · obtain ⟨b2, o2, rfl, p0, p1, p2, p3, p4, p5, p6, p7, p8, p9⟩ := hrec i hi
      have hlt : (i : Int) < L.length := by omega
      have htk : L.take (i + 1) = L.take i ++ [L[i]] := List.take_succ_eq_append_getElem hi
      have hsn := without_snoc k (L.take i) L[i]
      rw [← htk] at hsn
      have hln := without_len k (L.take i)
      rw [List.length_take] at hln
      have hln2 : (without k (L.take i)).length ≤ 1000000 := by omega
      obtain ⟨z, hz⟩ : ∃ z, z = L[i] := ⟨_, rfl⟩
      rw [← hz] at p0 p1 p3 hsn
      obtain ⟨zn, zk, zm⟩ := z
      dsimp only at p0 p1 p3 hsn
      obtain ⟨out, hout⟩ : ∃ out, out = without k (L.take i) := ⟨_, rfl⟩
      rw [← hout] at HS hsn hln2
      rw [← hout]
      have Hik := Lib.hid hik
      clear hrec
      by_cases heq : (zn.toList == k.toList) = true
      · rw [if_pos heq, List.append_nil] at hsn
        have hzk : zn = k := (toListS_iff _ _).1 heq
        subst hzk
        have Hs := Lib.hid (And.intro hsn (And.intro HS HR))
        clear hik hz hsn htk hln HS HR heq hout p1 p2 p3 p4 p5 p6 p7 p8 p9
        go_wp2_with fail
        go_roundg (gk - 1)
        case measure => have := Hik.out; omega
        case rel => exact ⟨i + 1, q1, qc1, by have := Hik.out; omega, rfl, by rw [Hs.out.1], by rw [Hs.out.1]; exact Hs.out.2.1, Hs.out.2.2⟩
      · have hne : (zn.toList == k.toList) = false := by simpa using heq
        rw [if_neg heq] at hsn
        have HA := Lib.hid (HS.old (fnO (zn, ⟨zk, zm⟩)))
        have HX := Lib.hid (heap_alloc_new wr (fnO (zn, ⟨zk, zm⟩)))
        have RA := Lib.hid (Ran.new HR (fnO (zn, ⟨zk, zm⟩)))
        have Hs := Lib.hid hsn
        clear hik hz hsn htk hln HS HR heq hout
        go_wp2_with (at_builtin; go_loud (refine appFn rfl _ _ rfl q1 out.length qc1 out (zn, ⟨zk, zm⟩) rfl rfl _ rfl HX.out HA.out hln2 ?_; intro q2 qc2 w6 T6 R6; clear HA HX p0 p1 p2 p3 p4 p5 p6 p7 p8 p9))
        have T6 := Lib.hid (And.intro T6 (Below.trans RA.out R6))
        clear RA R6
        go_roundg (gk - 1)
        case measure => have := Hik.out; omega
        case rel => exact ⟨i + 1, q2, qc2, by have := Hik.out; omega, rfl, by rw [Hs.out, List.length_append]; rfl, by rw [Hs.out]; exact T6.out.1, T6.out.2⟩
    · have hge : ¬ ((i : Int) < L.length) := by omega
      have htl : L.take i = L := List.take_of_length_le (by omega)
      rw [htl] at HS
      rw [htl]
      clear hik htl hi hrec
      obtain ⟨out, hout⟩ : ∃ out, out = without k L := ⟨_, rfl⟩
      rw [← hout] at HS HE
      rw [← hout]
      have f1 := sr_free (HS.perm (show _ = pts b (srO s) * (fnA q1 qc1 out * (pts nb (noO f.kind f.name) * (A * F))) by ac_rfl)) 1
      have HE2 := Lib.hid (HE.out q1 qc1 wr HS HR)
      clear HE HM HS HR hout hwl
      go_wp2_with fail
      go_ret
      exact HE2.out
/-- The traps of no action alone, as a row. -/
def idleP (L : List (Pa ByteArray)) : List (Pa ByteArray) := L.filter fun x => decide (x.2.size = 0)
theorem idle_snoc (L : List (Pa ByteArray)) (x : Pa ByteArray) : idleP (L ++ [x]) = idleP L ++ (if x.2.size = 0 then [x] else []) := by
  unfold idleP
  rw [List.filter_append]
  congr 1
  rw [List.filter_cons, List.filter_nil]
  by_cases h : x.2.size = 0
  · rw [if_pos h, if_pos (decide_eq_true h)]
  · rw [if_neg h, if_neg (by rw [decide_eq_false h]; decide)]
theorem idle_pairs {M : ByteArray → Option ByteArray} {L : List (Pa ByteArray)} (h : PairsA M L) : PairsA (idleM M) (idleP L) := by
  have hsub : ((idleP L).map Prod.fst).Sublist (L.map Prod.fst) := List.Sublist.map _ List.filter_sublist
  have hm : ∀ x ∈ L, x.2.size = 0 → idleM M x.1 = some x.2 := fun x hx h0 => by
    unfold idleM
    rw [h.2 x hx]
    exact if_pos h0
  refine ⟨⟨List.Pairwise.sublist hsub h.1.1, fun s => ?_⟩, fun x hx => ?_⟩
  · constructor
    · intro hs
      obtain ⟨x, hx, rfl⟩ := List.mem_map.1 hs
      unfold idleP at hx
      rw [List.mem_filter] at hx
      rw [hm x hx.1 (by simpa using hx.2)]
      rfl
    · intro hs
      unfold idleM at hs
      by_cases c : ((M s).getD ⟨#[]⟩).size = 0
      · rw [if_pos c] at hs
        obtain ⟨x, hx, rfl⟩ := List.mem_map.1 ((h.1.2 s).2 hs)
        refine List.mem_map.2 ⟨x, ?_, rfl⟩
        unfold idleP
        rw [List.mem_filter]
        refine ⟨hx, ?_⟩
        rw [h.2 x hx] at c
        exact decide_eq_true c
      · rw [if_neg c] at hs; cases hs
  · unfold idleP at hx
    rw [List.mem_filter] at hx
    exact hm x hx.1 (by simpa using hx.2)
theorem idle_len (L : List (Pa ByteArray)) : (idleP L).length ≤ L.length := List.length_filter_le ..
set_option maxRecDepth 100000 in
set_option maxHeartbeats 4000000 in
theorem renter_calls (b : Nat) (s : Sr) (p : Pst) (q : Int) (c : Nat) (A F : Hp) (w : World) (hc : c ≤ 80000) (hG : SrG A p q c s) (h : Sat w (pts b (srO s) * (A * F))) :
    Calls Tryz.prog 82 #[pp b] w fun e w' => e = .returned (.tuple #[]) ∧ PutS b A F w (dEnter p) q (c + 1) w' := by
  have hs := hG.sm.T
  have hst := hG.sm.top
  have hcl := hG.ok.T.len
  have hct := hG.ok.T.top
  have hcI : (s.tc : Int) ≤ 9223372036854775807 := by unfold maxLen at hct; omega
  have hclI : (s.T.length : Int) ≤ (s.tc : Int) := by omega
  have hFI : (s.T.length : Int) ≤ 90000 := by omega
  obtain ⟨p1, cap1, L, hp1, hcap1, hL⟩ : ∃ p cap L, p = s.tp ∧ cap = s.tc ∧ L = s.T := ⟨_, _, _, rfl, rfl, rfl⟩
  have HM := Lib.hid (fun (W : World) (X : Hp) (hX : Sat W (X * (pts b (srO s) * (A * F)))) => (by
    obtain ⟨-, -, -, s1, -⟩ := sr_cells (hX.perm (show _ = pts b (srO s) * (X * (A * F)) by ac_rfl))
    rw [← hp1, ← hcap1, ← hL] at s1
    have hR : RdR prC 2 A p1 cap1 L := by rw [hp1, hcap1, hL]; exact hG.ok.T
    exact ⟨s1, fun i hi => rd_pr hR (hX.perm (show _ = (X * (pts b (srO s) * F)) * A by ac_rfl)) i hi⟩ : W.cell? ⟨b, 3, none⟩ = some (.slice p1 L.length cap1) ∧ ∀ i (hi : i < L.length), _))
  have HE := Lib.hid (fun (q2 : Option Addr) (qc2 : Nat) (W : World) (hW : Sat W (prA q2 qc2 (idleP L) * (pts b (srO s) * (A * F)))) (hR : Ran w W) =>
    (⟨⟨prA q2 qc2 (idleP L), _, hG.setT (X := prA q2 qc2 (idleP L)) hc (by rw [hL]; exact idle_pairs hG.is.T) (by have := idle_len L; rw [hL] at this ⊢; omega) (RdR.of_arr2 prC_len (by omega) hW), (hW.perm (show _ = pts b (srO s) * (prA q2 qc2 (idleP L) * (A * F)) by ac_rfl)).set (i := 3) (.slice q2 (idleP L).length qc2)⟩, Ran.set hR ⟨b, 3, none⟩ (.slice q2 (idleP L).length qc2)⟩ : PutS b A F w (dEnter p) q (c + 1) (W.setCell ⟨b, 3, none⟩ (.slice q2 (idleP L).length qc2))))
  rw [← hL] at hclI hFI
  rw [← hcap1] at hcI hclI
  have hLn : L.length ≤ 90000 := by omega
  have S1 := Lib.hid h
  clear hG h hs hst hcl hct hp1 hcap1 hL
  go_enter Tryz.func82, Tryz.ntmps82
  go_wp2_with fail
  go_loopg [2, 3] (L.length) (fun (g : Nat) (ov iv : Value) (wr : World) => ∃ (i : Nat) (q : Option Addr) (qc : Nat), i + g = L.length ∧ iv = .int .i64 (i : Int) ∧ ov = .slice q (idleP (L.take i)).length qc ∧ Sat wr (prA q qc (idleP (L.take i)) * (pts b (srO s) * (A * F))) ∧ Ran w wr)
  case atStart => exact ⟨0, none, 0, by omega, rfl, rfl, S1.out.nil_arr _ _, Below.refl 0 w⟩
  case round =>
    clear S1
    obtain ⟨i, q1, qc1, hik, rfl, rfl, HS, HR⟩ := hrel
    have hi0 : (0 : Int) ≤ i := by omega
    obtain ⟨s1, hrec⟩ := HM.out wr _ HS
    by_cases hi : i < L.length
    · obtain ⟨b2, o2, rfl, p0, p1⟩ := hrec i hi
      have hlt : (i : Int) < L.length := by omega
      have htk : L.take (i + 1) = L.take i ++ [L[i]] := List.take_succ_eq_append_getElem hi
      have hsn := idle_snoc (L.take i) L[i]
      rw [← htk] at hsn
      have hln := idle_len (L.take i)
      rw [List.length_take] at hln
      have hln2 : (idleP (L.take i)).length ≤ 1000000 := by omega
      obtain ⟨z, hz⟩ : ∃ z, z = L[i] := ⟨_, rfl⟩
      rw [← hz] at p0 p1 hsn
      obtain ⟨zn, zt⟩ := z
      dsimp only at p0 p1 hsn
      obtain ⟨out, hout⟩ : ∃ out, out = idleP (L.take i) := ⟨_, rfl⟩
      rw [← hout] at HS hsn hln2
      rw [← hout]
      have Hik := Lib.hid hik
      have hnil := beq_nil zt
      clear hrec
      by_cases hz0 : zt.size = 0
      · rw [if_pos hz0] at hsn
        rw [show decide (zt.size = 0) = true from decide_eq_true hz0] at hnil
        have HA := Lib.hid (HS.old (prO (zn, zt)))
        have HX := Lib.hid (heap_alloc_new wr (prO (zn, zt)))
        have RA := Lib.hid (Ran.new HR (prO (zn, zt)))
        have Hs := Lib.hid hsn
        clear hik hz hsn htk hln HS HR hz0 hout
        go_wp2_with (at_builtin; go_loud (refine appPr rfl _ _ rfl q1 out.length qc1 out (zn, zt) rfl rfl _ rfl HX.out HA.out hln2 ?_; intro q2 qc2 w6 T6 R6; clear HA HX p0 p1))
        have T6 := Lib.hid (And.intro T6 (Below.trans RA.out R6))
        clear RA R6
        go_roundg (gk - 1)
        case measure => have := Hik.out; omega
        case rel => exact ⟨i + 1, q2, qc2, by have := Hik.out; omega, rfl, by rw [Hs.out, List.length_append]; rfl, by rw [Hs.out]; exact T6.out.1, T6.out.2⟩
      · rw [if_neg hz0, List.append_nil] at hsn
        rw [show decide (zt.size = 0) = false from decide_eq_false hz0] at hnil
        have Hs := Lib.hid (And.intro hsn (And.intro HS HR))
        clear hik hz hsn htk hln HS HR hz0 hout p0
        go_wp2_with fail
        go_roundg (gk - 1)
        case measure => have := Hik.out; omega
        case rel => exact ⟨i + 1, q1, qc1, by have := Hik.out; omega, rfl, by rw [Hs.out.1], by rw [Hs.out.1]; exact Hs.out.2.1, Hs.out.2.2⟩
    · have hge : ¬ ((i : Int) < L.length) := by omega
      have htl : L.take i = L := List.take_of_length_le (by omega)
      rw [htl] at HS
      rw [htl]
      clear hik htl hi hrec
      obtain ⟨out, hout⟩ : ∃ out, out = idleP L := ⟨_, rfl⟩
      rw [← hout] at HS HE
      rw [← hout]
      have f1 := sr_free (HS.perm (show _ = pts b (srO s) * (prA q1 qc1 out * (A * F)) by ac_rfl)) 3
      have HE2 := Lib.hid (HE.out q1 qc1 wr HS HR)
      clear HE HM HS HR hout
      go_wp2_with fail
      go_end0
      exact ⟨rfl, HE2.out⟩
end Go.Proofs.YtlmjidandjemjaaGreatDoor.State

namespace Go.Proofs.YtlmjidandjemjaaGreatDoor.State
open Go.RowKit Go.Proofs.YtlmjidandjemjaaGreatDoor Go.Proofs.YtlmjidandjemjaaGreatDoor.Hp Go.Proofs.YtlmjidandjemjaaGreatDoor.Undo
set_option linter.unusedVariables false
attribute [local go_sem] Oper.semAt_some

/-- Texts that can be read where a slice points. -/
def StrsAt (w : World) (p : Option Addr) (l : List ByteArray) : Prop := l = [] ∨ ∃ b o, p = some ⟨b, o, none⟩ ∧ ∀ j (h : j < l.length), w.cell? ⟨b, o + j, none⟩ = some (.string l[j])
theorem StrsAt.below {w w' : World} {p : Option Addr} {l : List ByteArray} (h : StrsAt w p l) (hb : Below w.heap.size w w') : StrsAt w' p l := by
  rcases h with h | ⟨b, o, hp, h⟩
  · exact .inl h
  · refine .inr ⟨b, o, hp, fun j hj => ?_⟩
    have hc := h j hj
    rw [← hc]
    exact World.cell?_of_block (w := w) (hb.block b (World.block_lt_of_cell? _ _ hc))
theorem StrsAt.arr {w : World} {S : Hp} {p : Option Addr} {cap : Nat} {l : List ByteArray} (h : Sat w (arr 9 1 p l.length cap (l.map sv) * S)) : StrsAt w p l := by
  cases l with
  | nil => exact .inl rfl
  | cons x t =>
    have hl := h.arr_len
    obtain ⟨b, o, rfl⟩ := h.arr_addr (by simp at hl; omega)
    refine .inr ⟨b, o, rfl, fun j hj => ?_⟩
    have := h.arr_cell j (by rw [List.length_map]; exact hj)
    rw [this, List.getElem_map]
theorem SGt.reads {K : Ctx} {w : World} {n : Now} {g : GC.Giv} {rws : List Row1} {R : Hp} (h : SGt K w n g rws R) : StrsAt w g.p g.l := by
  obtain ⟨⟨h1, h2, h3⟩, _⟩ := h.facts
  rcases h3 with h3 | ⟨x, hx, b, o, k, hp, hq, hl⟩
  · exact .inl h3
  · obtain ⟨X, hX, _⟩ := h.frame
    obtain ⟨i, hi, hix⟩ := List.getElem_of_mem hx
    have hA := hX.perm (show _ = row1 x * (all row1 (rws.take i) * all row1 (rws.drop (i + 1)) * (X * R)) by rw [all_split row1 rws i hi, hix]; ac_rfl)
    have hS := StrsAt.arr hA
    rcases hS with hS | ⟨b', o', hp', hS⟩
    · left; rw [hl, hS]; simp
    · rw [hp] at hp'
      injection hp' with hp'
      injection hp' with e1 e2
      subst e1 e2
      refine .inr ⟨b, o + k, hq, fun j hj => ?_⟩
      have hj2 : k + j < x.l.length := by rw [hl, List.length_drop] at hj; omega
      have := hS (k + j) hj2
      rw [← Nat.add_assoc] at this
      rw [this]
      simp only [hl, List.getElem_drop]
theorem clone_calls (l : List ByteArray) (p : Option Addr) (cap : Nat) (w : World) (hr : StrsAt w p l) (hl : l.length ≤ 1000000) :
    Calls Tryz.prog 43 #[.slice p l.length cap] w fun e w' => (∃ p' cap', e = .returned (.slice p' l.length cap') ∧ ∀ S, Sat w S → Sat w' (arr 9 1 p' l.length cap' (l.map sv) * S)) ∧ Below w.heap.size w w' := by
  rcases hr with rfl | ⟨b, o, rfl, h⟩
  · cases p with
    | none =>
      refine (Tryz.slices_Clone_string_nil 0 cap w).mono ?_
      rintro e w' ⟨rfl, rfl⟩
      exact ⟨⟨none, 0, rfl, fun S hS => hS.nil_arr _ _⟩, Below.refl _ _⟩
    | some a =>
      refine (Tryz.slices_Clone_string_zero a cap w).mono ?_
      rintro e w' ⟨v, rfl, hrow, -, hb⟩
      refine ⟨?_, hb⟩
      obtain ⟨p', c', rfl, _⟩ := own_arr (Sat.start w) hb (Nat.le_refl _) hrow
      refine ⟨p', c', rfl, fun S hS => ?_⟩
      obtain ⟨p2, c2, e2, hA⟩ := own_arr hS hb (Nat.le_refl _) hrow
      injection e2 with e3 e4 e5
      subst e3 e5
      exact hA
  · refine (Tryz.slices_Clone_string b o l.length cap l w (Nat.le_refl _) (by omega) (fun j hj => by rw [h j hj, List.getD_eq_getElem?_getD, List.getElem?_eq_getElem hj]; rfl)).mono ?_
    rintro e w' ⟨v, rfl, hrow, -, hb⟩
    rw [List.take_length] at hrow
    refine ⟨?_, hb⟩
    obtain ⟨p', c', rfl, _⟩ := own_arr (Sat.start w) hb (Nat.le_refl _) hrow
    refine ⟨p', c', rfl, fun S hS => ?_⟩
    obtain ⟨p2, c2, e2, hA⟩ := own_arr hS hb (Nat.le_refl _) hrow
    injection e2 with e3 e4 e5
    subst e3 e5
    exact hA
theorem big_calls (x : ByteArray) (w : World) :
    Calls Tryz.prog 41 #[.string x] w fun e w' => e = .returned (.bool (decide (4096 < x.size))) ∧ w = w' := by
  have h : decide (4096 < x.size) = decide ((4096 : Int) < x.size) := by rw [decide_eq_decide]; omega
  rw [h]
  clear h
  go_enter Tryz.func41, Tryz.ntmps41
  go_wp2_with fail
  go_ret
  exact ⟨rfl, rfl⟩
end Go.Proofs.YtlmjidandjemjaaGreatDoor.State

namespace Go.Proofs.YtlmjidandjemjaaGreatDoor.State
open Go.RowKit Go.Proofs.YtlmjidandjemjaaGreatDoor Go.Proofs.YtlmjidandjemjaaGreatDoor.Hp Go.Proofs.YtlmjidandjemjaaGreatDoor.Undo
set_option linter.unusedVariables false
attribute [local go_sem] Oper.semAt_some

abbrev bigV : Value := .func (.func 41) #[] #[]
def bigB (l : List ByteArray) : Bool := l.any fun x => decide (4096 < x.size)
def IxRel (l : List ByteArray) (w : World) (g : Nat) (v5 v8 : Value) (wr : World) : Prop :=
  ∃ i : Nat, v8 = .int .i64 (i : Int) ∧ i + g = l.length ∧ bigB (l.drop i) = bigB l ∧ w = wr
set_option maxRecDepth 100000 in
set_option maxHeartbeats 4000000 in
theorem indexf_calls (l : List ByteArray) (p : Option Addr) (cap : Nat) (w : World) (hr : StrsAt w p l) (hl : l.length ≤ 1000000) :
    Calls Tryz.prog 103 #[.slice p l.length cap, bigV] w fun e w' => (∃ ix : Int, e = .returned (.int .i64 ix) ∧ decide (0 ≤ ix) = bigB l) ∧ w = w' := by
  obtain ⟨r, hrr⟩ : ∃ r, r = bigB l := ⟨_, rfl⟩
  rw [← hrr]
  have HR := Lib.hid hrr
  have Hl := Lib.hid hl
  have HA := Lib.hid hr
  clear hrr hl hr
  go_enter Tryz.func103, Tryz.ntmps103
  go_wp2_with fail
  go_loopg [5, 8] (l.length) (IxRel l w)
  case atStart => exact ⟨0, rfl, by omega, by rw [List.drop_zero], rfl⟩
  case round =>
    obtain ⟨i, rfl, hg, hall, rfl⟩ := hrel
    rw [← HR.out] at hall
    have hlI := Hl.out
    by_cases hlt : i < l.length
    · have hltI : (i : Int) < l.length := by omega
      have hi0 : (0 : Int) ≤ i := by omega
      rcases HA.out with he | ⟨b, o, rfl, hc⟩
      · rw [he] at hlt; exact absurd hlt (Nat.not_lt_zero _)
      have c := hc i hlt
      rw [List.drop_eq_getElem_cons hlt] at hall
      have hb : (decide (4096 < l[i].size) || bigB (l.drop (i + 1))) = r := hall
      obtain ⟨x, hx⟩ : ∃ x, x = l[i] := ⟨_, rfl⟩
      rw [← hx] at c hb
      have HX := Lib.hid (fun w => big_calls x w)
      cases hbx : decide (4096 < x.size) with
      | true =>
        rw [hbx] at HX hb
        rw [Bool.true_or] at hb
        subst hb
        clear hbx hx hall hc HR
        go_wp2_with fail
        refine (HX.out _).mono ?_
        rintro e w1 ⟨rfl, rfl⟩
        go_wp2_with fail
        go_ret
        exact ⟨⟨_, rfl, decide_eq_true hi0⟩, rfl⟩
      | false =>
        rw [hbx] at HX hb
        rw [Bool.false_or] at hb
        have Hb := Lib.hid hb
        clear hbx hx hall hc hb
        go_wp2_with fail
        refine (HX.out _).mono ?_
        rintro e w1 ⟨rfl, rfl⟩
        go_wp2_with fail
        go_roundg (gk - 1)
        case rel => exact ⟨i + 1, by simp, by omega, by rw [Hb.out, HR.out], rfl⟩
        case measure => omega
    · have hge : i = l.length := by omega
      subst hge
      rw [List.drop_length] at hall
      have hr : r = false := hall.symm
      subst hr
      clear hall HR
      go_wp2_with fail
      go_ret
      exact ⟨⟨_, rfl, rfl⟩, rfl⟩
theorem contains_calls (l : List ByteArray) (p : Option Addr) (cap : Nat) (w : World) (hr : StrsAt w p l) (hl : l.length ≤ 1000000) :
    Calls Tryz.prog 40 #[.slice p l.length cap, bigV] w fun e w' => e = .returned (.bool (bigB l)) ∧ w = w' := by
  have HI := Lib.hid (indexf_calls l p cap w hr hl)
  clear hr hl
  go_enter Tryz.func40, Tryz.ntmps40
  go_wp2_with fail
  refine HI.out.mono ?_
  rintro e w1 ⟨⟨ix, rfl, hix⟩, rfl⟩
  have Hix := Lib.hid hix
  clear hix
  go_wp2_with fail
  go_ret
  exact ⟨by rw [← Hix.out]; rfl, rfl⟩
set_option maxRecDepth 100000 in
set_option maxHeartbeats 4000000 in
theorem given_calls (K : Ctx) (n : Now) (g : GC.Giv) (rws : List Row1) (w : World) (R : Hp) (h : SGt K w n g rws R) :
    Calls Tryz.prog 44 #[pp K.sb] w fun e w' => e = .returned (.agg #[.slice g.p g.n g.cap, .int .i64 g.here, .int .i64 g.within]) ∧ Below w.heap.size w w' := by
  have H1 := h.alloc (GC.gO ⟨none, 0, 0, 0, 0, []⟩)
  obtain ⟨c0, c1, c2, c3, c4, c5, c6, cz⟩ := H1.shut.cells
  have HG := Lib.hid H1.cget
  have H1 := Lib.hid H1
  clear h
  go_enter Tryz.func44, Tryz.ntmps44
  go_wp2_with fail
  refine HG.out.mono ?_
  rintro e w1 ⟨rfl, hB⟩
  have HZ := (H1.out.below hB).shut.rest
  have hB2 := below_new hB
  have hg := HZ.get
  have f0 : ∀ i, w1.frozen? ⟨w.heap.size, i, none⟩ = false := fun i => free_at hg i
  obtain ⟨z0, z1, z2⟩ := GC.g_cells HZ
  have HZ2 := ((HZ.set (i := 0) (.slice g.p g.n g.cap)).set (i := 1) (.int .i64 g.here)).set (i := 2) (.int .i64 g.within)
  have hB3 := ((hB2.setCell (Nat.le_refl _) (p := ⟨w.heap.size, 0, none⟩) (.slice g.p g.n g.cap)).setCell (Nat.le_refl _) (p := ⟨w.heap.size, 1, none⟩) (.int .i64 g.here)).setCell (Nat.le_refl _) (p := ⟨w.heap.size, 2, none⟩) (.int .i64 g.within)
  obtain ⟨r0, r1, r2⟩ := GC.g_cells (x := g) HZ2
  have HB3 := Lib.hid hB3
  clear hg HZ HG H1 HZ2 hB hB2 hB3 c0 c1 c2 c3 c4 c5 c6 cz
  go_wp2_with fail
  refine bodyPost_ret (v := .agg #[.slice g.p g.n g.cap, .int .i64 g.here, .int .i64 g.within]) (by simp [results, Tryz.results44, go_sem, r0, r1, r2]) rfl ⟨rfl, HB3.out⟩
theorem field_l (a : Value) (b c : Int) (W : World) : (Instr.field 83 (.agg #[a, .int .i64 b, .int .i64 c]) 0).run Tryz.prog W = .ok a W := by kernel_rfl
def ArgsSays (K : Ctx) (n : Now) (R : Hp) (e : Ending) (w' : World) : Prop := ∃ p cap, e = .returned (.slice p n.s.l.length cap) ∧ SAt K w' n (arr 9 1 p n.s.l.length cap (n.s.l.map sv) * R)
set_option maxRecDepth 100000 in
set_option maxHeartbeats 4000000 in
theorem Args_calls (K : Ctx) (n : Now) (w : World) (R : Hp) (hl : n.s.l.length ≤ 1000000) (h : SAt K w n R) :
    Calls Tryz.prog 11 #[pp K.sb] w fun e w' => ArgsSays K n R e w' ∧ Below w.heap.size w w' := by
  obtain ⟨g, rws, hG⟩ := h.args
  have HV := Lib.hid (given_calls K n g rws w R hG)
  obtain ⟨⟨hn, hcap, _⟩, hgl, _⟩ := hG.facts
  have Hgl := Lib.hid hgl
  have H0 := Lib.hid hG
  have hfd := field_l
  have hcl : ∀ W : World, Below w.heap.size w W → Calls Tryz.prog 43 #[.slice g.p g.n g.cap] W fun e w' => (∃ p' cap', e = .returned (.slice p' g.l.length cap') ∧ ∀ S, Sat W S → Sat w' (arr 9 1 p' g.l.length cap' (g.l.map sv) * S)) ∧ Below W.heap.size W w' := fun W hW => by
    rw [hn]
    exact clone_calls g.l g.p g.cap W ((hG.below hW).reads) (by rw [hgl]; exact hl)
  have HC := Lib.hid hcl
  clear h hG hn hcap hgl hcl hl
  go_enter Tryz.func11, Tryz.ntmps11
  go_wp2_with fail
  refine HV.out.mono ?_
  rintro e w1 ⟨rfl, hB⟩
  have HC1 := Lib.hid (HC.out w1 hB)
  have S1 := Lib.hid (H0.out.below hB).shut
  have HB1 := Lib.hid hB
  clear hB HC H0 HV
  go_wp2_with fail
  refine HC1.out.mono ?_
  rintro e w2 ⟨⟨p', cap', rfl, hA⟩, hB2⟩
  have S2 : SAt K w2 n (arr 9 1 p' g.l.length cap' (g.l.map sv) * R) := by
    obtain ⟨X, hX1, hX2⟩ := S1.out.frame
    exact hX2 _ _ ((hA _ hX1).perm (by ac_rfl))
  have S2 := Lib.hid S2
  have HB2 := Lib.hid (HB1.out.trans (hB2.mono HB1.out.size))
  clear hA hB2 HC1 S1
  go_wp2_with fail
  go_ret
  refine ⟨⟨p', cap', ?_, ?_⟩, HB2.out⟩
  · rw [← Hgl.out]; rfl
  · rw [← Hgl.out]; exact S2.out
theorem SGt.cloned {K : Ctx} {w w' : World} {n : Now} {g : GC.Giv} {rws : List Row1} {R : Hp} {p' : Option Addr} {cap' : Nat} {l : List ByteArray} (h : SGt K w n g rws R) (hA : ∀ S, Sat w S → Sat w' (arr 9 1 p' l.length cap' (l.map sv) * S)) :
    SGt K w' n g (rws ++ [⟨p', cap', l⟩]) R ∧ GOk (rws ++ [⟨p', cap', l⟩]) ⟨p', l.length, cap', 1, 0, l⟩ := by
  obtain ⟨X, hX1, hX2⟩ := h.frame
  have h1 := hA _ hX1
  refine ⟨SGt.row (hX2 _ _ (h1.perm (show _ = X * (all row1 rws * (row1 ⟨p', cap', l⟩ * R)) by unfold row1; ac_rfl))), rfl, h1.arr_len.2.1, ?_⟩
  cases l with
  | nil => exact .inl rfl
  | cons x t =>
    have hl := h1.arr_len
    obtain ⟨b, o, rfl⟩ := h1.arr_addr (by simp at hl; omega)
    exact .inr ⟨⟨some ⟨b, o, none⟩, cap', x :: t⟩, by simp, b, o, 0, rfl, rfl, rfl⟩
set_option maxRecDepth 100000 in
set_option maxHeartbeats 8000000 in
theorem SetArgs_calls (K : Ctx) (n : Now) (l : List ByteArray) (p : Option Addr) (cap : Nat) (w : World) (R : Hp) (hl : l.length ≤ 1000000) (hp : StrsAt w p l) (hN : n.N ≤ 1000000) (hms : n.ms.length ≤ 1000000) (h : SAt K w n R) :
    Calls Tryz.prog 10 #[pp K.sb, .slice p l.length cap] w (Lays K w R (n.setG K.most l)) := by
  obtain ⟨r, hr⟩ : ∃ r, r = n.setG K.most l := ⟨_, rfl⟩
  rw [← hr]
  unfold Now.setG at hr
  obtain ⟨c0, c1, c2, c3, c4, c5, c6, cz⟩ := h.cells
  have H0 := Lib.hid h
  by_cases hl1 : 1000 < l.length
  · rw [if_pos hl1] at hr
    subst hr
    have hlI : (1000 : Int) < l.length := by omega
    clear h hl hp hl1 hN hms
    go_enter Tryz.func10, Tryz.ntmps10
    go_wp2_with fail
    go_ret
    exact Lays.same H0.out (Below.refl 0 w)
  · rw [if_neg hl1] at hr
    have hlI : (l.length : Int) ≤ 1000 := by omega
    have HCo := contains_calls l p cap w hp hl
    cases hb : bigB l with
    | true =>
      rw [if_pos (show (l.any fun x => decide (4096 < x.size)) = true from hb)] at hr
      subst hr
      rw [hb] at HCo
      have HCo := Lib.hid HCo
      clear h hl hp hl1 hb hN hms
      go_enter Tryz.func10, Tryz.ntmps10
      go_wp2_with fail
      refine HCo.out.mono ?_
      rintro e w1 ⟨rfl, rfl⟩
      go_wp2_with fail
      go_ret
      exact Lays.same H0.out (Below.refl 0 w)
    | false =>
      rw [if_neg (show ¬ (l.any fun x => decide (4096 < x.size)) = true by rw [show (l.any fun x => decide (4096 < x.size)) = false from hb]; decide)] at hr
      subst hr
      rw [hb] at HCo
      have HCo := Lib.hid HCo
      have hpd : StrsAt w.drew p l := hp
      have HCl := Lib.hid (clone_calls l p cap w.drew hpd hl)
      obtain ⟨g, rws, hG⟩ := h.drew.args
      have HG := Lib.hid hG
      have HF := Lib.hid (And.intro hN hms)
      clear h hl hp hl1 hb hpd hG hN hms H0
      go_enter Tryz.func10, Tryz.ntmps10
      go_wp2_with fail
      refine HCo.out.mono ?_
      rintro e w1 ⟨rfl, rfl⟩
      go_wp2_with fail
      refine region_plan (S := (fun w' => w'.cell? ⟨K.sb, 5, none⟩ = some (pp K.P.gb))) [(0, true), (1, true), (2, true), (3, true), (4, true), (5, false), (6, true), (7, false), (8, true)] (by kernel_rfl) (by kernel_rfl) (by kernel_rfl) ?_ ?_
      · ((try dsimp only); (first | done | (first | exact c5 | exact hz5 | exact hy5)))
      simp only [planOps, List.map_cons, List.map_nil, List.getElem?_toArray, List.getElem?_cons_zero, List.getElem?_cons_succ]
      repeat (first
        | ((refine plan_yes (v := ?_) (by rfl) ?_ ?_); rotate_left; (focus (intro w hSw; (try dsimp only at hSw); go_simp; try (with_reducible rfl))); (try simp only [Act.put, List.setIfInBounds_toArray, List.set_cons_zero, List.set_cons_succ]))
        | ((refine plan_no (by rfl) ?_); (try simp only [Act.put, List.setIfInBounds_toArray, List.set_cons_zero, List.set_cons_succ]))
        | ((refine plan_step (fun K hK => ?_)); (first | (go_simp; (first | (go_at_call 43; refine HCl.out.mono ?_; rintro e w2 ⟨⟨p', cap', rfl, hA⟩, hB2⟩; obtain ⟨hS2, hok⟩ := HG.out.cloned hA; obtain ⟨-, -, -, -, -, hz5, -, -⟩ := hS2.shut.cells; have HSt := Lib.hid (SGt.cset _ w2 n g _ R ⟨p', l.length, cap', 1, 0, l⟩ hok HF.out.1 HF.out.2 hS2); have HB2 := Lib.hid hB2; clear hA hB2 hS2 hok) | (go_at_call 42; refine HSt.out.mono ?_; rintro e w4 ⟨⟨rfl, hS⟩, hR⟩; obtain ⟨-, -, -, -, -, hy5, -, -⟩ := hS.cells; have HS := Lib.hid hS; have HRn := Lib.hid hR; clear hS hR)); (try go_wp2_with fail)) | go_simp); (refine hK.out _ _ ?_ (fun hHeld => ?_)); (focus ((try dsimp only); (first | done | (first | exact c5 | exact hz5 | exact hy5)))); clear hK K; (try simp only [Act.put, List.setIfInBounds_toArray, List.set_cons_zero, List.set_cons_succ])))
      refine plan_done ?_
      go_wp2_with fail
      go_ret
      exact ⟨⟨rfl, HS.out⟩, Below.trans (Below.trans (Below.drew (Below.refl 0 w)) (HB2.out.mono (Nat.zero_le _))) HRn.out⟩
end Go.Proofs.YtlmjidandjemjaaGreatDoor.State

