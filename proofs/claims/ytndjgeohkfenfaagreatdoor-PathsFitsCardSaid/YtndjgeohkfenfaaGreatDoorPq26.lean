/- PathsFits: which parts a text has, and which paths it fits: the law returns true, for all marked texts and paths. -/
import Derived.Test.YtndjgeohkfenfaaGreatDoorPq25
import Derived.Test.YtndjgeohkfenfaaGreatDoorTie
import Derived.Test.YtndjgeohkfenfaaGreatDoorCards
import Derived.SevenTiedAt
import Derived.Stop.Joined
import Derived.ChangeMaps5
namespace Go.Proofs.YtndjgeohkfenfaaGreatDoor.pathsFits
open Go.ChangeShapes Go.WideShapes Go.ChangeAt Go.RowKit Go.Proofs.YtndjgeohkfenfaaGreatDoor Go.Proofs.YtndjgeohkfenfaaGreatDoor.Hp Go.Proofs.YtndjgeohkfenfaaGreatDoor.Globs Go.ChangeMaps
open Go.Proofs.YtndjgeohkfenfaaGreatDoor.Hd (Glob)
set_option linter.unusedVariables false
attribute [local go_sem] Oper.semAt_some

theorem partsA_ne : ∀ (t now : List Ch), ∀ u ∈ partsA now t, u ≠ [] ∧ u.length ≤ now.length + t.length
  | [], now, u, hu => by
    by_cases hn : now = []
    · have e : partsA now [] = [] := by unfold partsA; rw [if_pos hn]
      rw [e] at hu; cases hu
    · have e : partsA now [] = [now] := by unfold partsA; rw [if_neg hn]
      rw [e] at hu
      obtain rfl := List.mem_singleton.1 hu
      exact ⟨hn, by simp⟩
  | c :: t, now, u, hu => by
    have hu : u ∈ (if (c.b == 47) = true then (if now = [] then partsA [] t else now :: partsA [] t) else partsA (now ++ [c]) t) := hu
    rw [List.length_cons]
    by_cases hc : (c.b == 47) = true
    · rw [if_pos hc] at hu
      by_cases hn : now = []
      · rw [if_pos hn] at hu
        have := partsA_ne t [] u hu
        exact ⟨this.1, by have := this.2; simp at this; omega⟩
      · rw [if_neg hn] at hu
        rcases List.mem_cons.1 hu with rfl | hu
        · exact ⟨hn, by omega⟩
        · have := partsA_ne t [] u hu
          exact ⟨this.1, by have := this.2; simp at this; omega⟩
    · rw [if_neg hc] at hu
      have := partsA_ne t (now ++ [c]) u hu
      exact ⟨this.1, by have := this.2; simp at this; omega⟩
theorem partsA_len : ∀ (t now : List Ch), (partsA now t).length ≤ t.length + 1
  | [], now => by
    show (if now = [] then ([] : List (List Ch)) else [now]).length ≤ _
    split <;> simp
  | c :: t, now => by
    show (if (c.b == 47) = true then (if now = [] then partsA [] t else now :: partsA [] t) else partsA (now ++ [c]) t).length ≤ t.length + 1 + 1
    have h1 := partsA_len t []
    have h2 := partsA_len t (now ++ [c])
    split
    · split
      · omega
      · rw [List.length_cons]; omega
    · omega
theorem row_open {w : World} {lo : Option Addr} {rs : List Rw} {L : List (List Ch)} (h : RowsAt w lo rs) (hL : rs.map Rw.L = L) (i : Nat) (u : List Ch) (hu : L[i]? = some u) :
    ∃ b o p c, lo = some ⟨b, o, none⟩ ∧ w.cell? ⟨b, o + i, none⟩ = some (.slice p u.length c) ∧ CharsAt w p c u := by
  subst hL
  rw [List.getElem?_map] at hu
  have hi : i < rs.length := by
    rcases Nat.lt_or_ge i rs.length with h | h
    · exact h
    · rw [List.getElem?_eq_none h] at hu; cases hu
  rw [List.getElem?_eq_getElem hi] at hu
  obtain rfl : rs[i].L = u := by simpa using hu
  obtain ⟨b, o, e, h1, h2⟩ := h i hi
  exact ⟨b, o, rs[i].p, rs[i].cap, e, h1, h2⟩
theorem fin_true {W w1 w2 : World} (h1 : Below W.heap.size W w1) (hs : Sat w2 (keep W)) (h2 : Ran w1 w2) : Below W.heap.size W w2 := Ran.whole' (Below.trans (h1.mono (Nat.zero_le _)) h2) hs
set_option maxRecDepth 100000 in
set_option maxHeartbeats 16000000 in
theorem walk (ao : Option Addr) (cap : Nat) (t : List Ch) (path : ByteArray) (W : World) (ht : CharsAt W ao cap t) (hps : (path.size : Int) ≤ 9223372036854775807) (hg : Glob (keep W)) :
    Calls Tryz.prog 3 #[.slice ao t.length cap, .string path] W fun e w' => e = .returned (.bool true) ∧ Below W.heap.size W w' := by
  have HA := Lib.hid (fun w (b : Below W.heap.size W w) => awake_calls w (keep W) hg ((Sat.start W).below b))
  have hlm : (t.length : Int) ≤ 9223372036854775807 := by have := ht.1; have := ht.2.1; omega
  by_cases hs : t.length ≤ 100 ∧ path.size ≤ 100
  case neg =>
    by_cases h1 : t.length ≤ 100
    · have h1I : ¬ ((t.length : Int) > 100) := by omega
      have h2I : (path.size : Int) > 100 := by omega
      have hA := Lib.hid (HA.out W (Below.refl _ _))
      clear hg HA hs h1 ht
      go_enter Tryz.func3, Tryz.ntmps3
      go_wp2_with fail
      refine hA.out.mono ?_
      rintro e w9 ⟨⟨rfl, h2⟩, h3⟩
      have h2 := Lib.hid h2
      have h3 := Lib.hid h3
      clear hA
      go_wp2_with fail
      go_ret
      exact ⟨rfl, fin_true (Below.refl _ W) h2.out h3.out⟩
    · have h1I : (t.length : Int) > 100 := by omega
      have hA := Lib.hid (HA.out W (Below.refl _ _))
      clear hg HA hs h1 ht
      go_enter Tryz.func3, Tryz.ntmps3
      go_wp2_with fail
      refine hA.out.mono ?_
      rintro e w9 ⟨⟨rfl, h2⟩, h3⟩
      have h2 := Lib.hid h2
      have h3 := Lib.hid h3
      clear hA
      go_wp2_with fail
      go_ret
      exact ⟨rfl, fin_true (Below.refl _ W) h2.out h3.out⟩
  obtain ⟨hs1, hs2⟩ := hs
  have h1I : ¬ ((t.length : Int) > 100) := by omega
  have h2I : ¬ ((path.size : Int) > 100) := by omega
  have hPn := Lib.hid (partsA_ne t [])
  have hPl : (partsL t).length ≤ 101 := by have := partsA_len t []; unfold partsL; omega
  have HP := Lib.hid (parts_calls t ao cap W (keep W) (fun W' S' h => ht.keep (kept_of (S := S') (h.perm (sep_comm _ _)))) (Sat.start W) (by omega))
  obtain ⟨L, hL⟩ : ∃ L, L = partsL t := ⟨_, rfl⟩
  have HT := Lib.hid (fun w (k : Kept W w) => text_calls t ao cap w (ht.keep k) (by omega))
  have HF := Lib.hid (fun w (k : Kept W w) => Fits_calls t path ao cap w (ht.keep k) (by omega) (by omega))
  have HR := Lib.hid (fun w p c (h : CharsAt w p c t) => rparts_calls t p c w h (by omega))
  have HG := Lib.hid (fun w p c (h : CharsAt w p c t) => rFits_calls t path p c w h (by omega) (by omega))
  obtain ⟨fv, hfv⟩ : ∃ fv, fv = fitsP t (bs path) := ⟨_, rfl⟩
  rw [← hfv] at HF HG
  rw [← hL] at hPl
  have hPn := Lib.hid (show ∀ u ∈ L, u ≠ [] ∧ u.length ≤ 100 from fun u hu => by have := hPn.out u (by rw [hL] at hu; exact hu); exact ⟨this.1, by have := this.2; simp at this; omega⟩)
  have HL := Lib.hid hL
  clear hg hfv hL
  go_enter Tryz.func3, Tryz.ntmps3
  go_wp2_with fail
  refine HP.out.mono ?_
  rintro e w1 ⟨⟨pa, ca, ra, rfl, hra, hS1⟩, R1⟩
  rw [← HL.out] at hra
  have hla : ra.length = L.length := by rw [← hra, List.length_map]
  rw [hla]
  have B1 := Lib.hid (R1.whole hS1)
  have A1 := Lib.hid (rows_of hS1)
  have Hra := Lib.hid hra
  clear HP hS1 R1 ht hra hla
  have hT := Lib.hid (HT.out w1 (Kept.below B1.out))
  go_wp2_with fail
  refine hT.out.mono ?_
  rintro e w2 ⟨p2, c2, rfl, hC2, hB2⟩
  have B2 := Lib.hid (bt2 B1.out hB2)
  have A2 := Lib.hid (A1.out.keep (Kept.below hB2))
  have hR := Lib.hid (HR.out w2 p2 c2 hC2)
  clear hT hC2 hB2 A1 B1 HR
  go_wp2_with fail
  refine hR.out.mono ?_
  rintro e w3 ⟨⟨pb, cb, rb, rfl, hrb, hS3⟩, R3⟩
  rw [← HL.out] at hrb
  have hlb : rb.length = L.length := by rw [← hrb, List.length_map]
  rw [hlb]
  have hB3 := R3.whole hS3
  have B3 := Lib.hid (bt2 B2.out hB3)
  have A3 := Lib.hid (A2.out.keep (Kept.below hB3))
  have C3 := Lib.hid (rows_ofR hS3)
  clear hR hB3 hS3 R3 A2 B2
  have Hrb := Lib.hid hrb
  clear hrb hlb
  have hLI : (L.length : Int) ≤ 101 := by omega
  go_wp2_with fail
  go_loopg [7] (L.length) (fun (g : Nat) (v7 : Value) (wr : World) => ∃ i : Nat, v7 = .int .i64 (i : Int) ∧ i + g = L.length ∧ Below w3.heap.size w3 wr)
  case atStart => exact ⟨0, rfl, by omega, Below.refl _ _⟩
  case round =>
    obtain ⟨i, rfl, hgk, hBr⟩ := hrel
    have hi0 : (0 : Int) ≤ i := by omega
    by_cases hlt : i < L.length
    · have hltI : (i : Int) < L.length := by omega
      obtain ⟨u, hu⟩ : ∃ u, u = L[i] := ⟨_, rfl⟩
      have hu1 : L[i]? = some u := by rw [hu, List.getElem?_eq_getElem hlt]
      obtain ⟨hun, hul⟩ := hPn.out u (by rw [hu]; exact List.getElem_mem hlt)
      have hun0 : ¬ ((u.length : Int) = 0) := by
        have : u.length ≠ 0 := fun h => hun (List.length_eq_zero_iff.1 h)
        omega
      have hunB : (((u.length : Int)) == 0) = false := by simpa using hun0
      obtain ⟨ab, ao', p, c, rfl, a1, a2⟩ := row_open A3.out Hra.out i u hu1
      obtain ⟨bb, bo, q, d, rfl, b1, b2⟩ := row_open C3.out Hrb.out i u hu1
      have K0 : Kept w3 wr.drew := kept_drew (Kept.below hBr)
      have hFx : ∀ w' : World, Kept w3 w' → w'.cell? ⟨ab, ao' + i, none⟩ = some (.slice p u.length c) ∧ w'.cell? ⟨bb, bo + i, none⟩ = some (.slice q u.length d) := fun w' k => ⟨(k.cell (World.block_lt_of_cell? _ _ a1) _).trans a1, (k.cell (World.block_lt_of_cell? _ _ b1) _).trans b1⟩
      have HTu := Lib.hid (fun w (k : Kept w3 w) => text_calls u p c w (a2.keep k) (by omega))
      have HSu := Lib.hid (fun w p' c' (h : CharsAt w p' c' u) (k : Kept w3 w) => same_calls u p' q c' d w h (b2.keep k))
      have F0 := hFx _ K0
      have HFx := Lib.hid hFx
      have K0 := Lib.hid K0
      have hBr := Lib.hid hBr
      have hgk := Lib.hid hgk
      clear hu hu1 hun hun0 a1 a2 b1 b2 hFx hlt
      go_wp2_with fail
      refine region_plan (S := (fun w' => w'.cell? ⟨ab, ao' + i, none⟩ = some (.slice p u.length c) ∧ w'.cell? ⟨bb, bo + i, none⟩ = some (.slice q u.length d))) [(0, true), (1, true), (2, true), (3, true), (5, true), (6, true), (7, true), (8, true), (4, false), (9, false), (10, true), (11, true), (12, true), (13, true), (14, true), (15, true), (16, true), (17, true), (18, true)] (by kernel_rfl) (by kernel_rfl) (by kernel_rfl) ?_ ?_
      · ((try dsimp only); (first | done | (first | exact F0 | exact F4 | exact F5)))
      simp only [planOps, List.map_cons, List.map_nil, List.getElem?_toArray, List.getElem?_cons_zero, List.getElem?_cons_succ]
      repeat (first
        | ((refine plan_yes (v := ?_) (by rfl) ?_ ?_); rotate_left; (focus (intro w hSw; (try dsimp only at hSw); go_simp; try (with_reducible rfl))); (try simp only [Act.put, List.setIfInBounds_toArray, List.set_cons_zero, List.set_cons_succ]))
        | ((refine plan_no (by rfl) ?_); (try simp only [Act.put, List.setIfInBounds_toArray, List.set_cons_zero, List.set_cons_succ]))
        | ((refine plan_step (fun K hK => ?_)); (first | (go_simp; (first | (go_at_call 10; refine (HTu.out _ K0.out).mono ?_; rintro e w4 ⟨p4, c4, rfl, hC4, hB4⟩; have K4 := K0.out.trans (Kept.below hB4); have F4 := HFx.out _ K4) | (go_at_call 11; refine (HSu.out _ _ _ hC4 K4).mono ?_; rintro e w5 ⟨rfl, hB5⟩; have K5 := K4.trans (Kept.below hB5); have F5 := HFx.out _ K5)); (try go_wp2_with fail)) | go_simp); (refine hK.out _ _ ?_ (fun hHeld => ?_)); (focus ((try dsimp only); (first | done | (first | exact F0 | exact F4 | exact F5)))); clear hK K; (try simp only [Act.put, List.setIfInBounds_toArray, List.set_cons_zero, List.set_cons_succ])))
      refine plan_done ?_
      have B5 := Lib.hid (bt2 (bt2 hBr.out.drew hB4) hB5)
      clear K4 K5 F4 F5 hB4 hB5 hC4 HTu HSu F0 K0
      go_wp2_with fail
      go_roundg (gk - 1)
      case rel => exact ⟨i + 1, by simp, by have := hgk.out; omega, B5.out⟩
      case measure => have := hgk.out; omega
    · have hge : ¬ ((i : Int) < L.length) := by omega
      have B4 := Lib.hid (bt2 B3.out hBr)
      have hF := Lib.hid (HF.out wr (Kept.below B4.out))
      clear hBr hgk hlt
      cases fv <;>
      · go_wp2_with fail
        refine hF.out.mono ?_
        rintro e w5 ⟨rfl, hB5⟩
        have B5 := Lib.hid (bt2 B4.out hB5)
        have hT := Lib.hid (HT.out w5 (Kept.below B5.out))
        clear hB5 hF
        go_wp2_with fail
        refine hT.out.mono ?_
        rintro e w6 ⟨p6, c6, rfl, hC6, hB6⟩
        have B6 := Lib.hid (bt2 B5.out hB6)
        have hG := Lib.hid (HG.out w6 p6 c6 hC6)
        clear hB6 hT hC6
        go_wp2_with fail
        refine hG.out.mono ?_
        rintro e w7 ⟨rfl, hB7⟩
        have B7 := Lib.hid (bt2 B6.out hB7)
        have hA := Lib.hid (HA.out w7 B7.out)
        clear hB7 hG
        go_wp2_with fail
        refine hA.out.mono ?_
        rintro e w9 ⟨⟨rfl, h2⟩, h3⟩
        have h2 := Lib.hid h2
        have h3 := Lib.hid h3
        clear hA
        go_wp2_with fail
        go_ret
        exact ⟨rfl, fin_true B7.out h2.out h3.out⟩

set_option maxRecDepth 100000 in
theorem lifted (os : Os) (started : os.Started) (H : Type) (enc : TypeId × Value → H) :
    ReturnsInHanded {} Tryz.checked os 3 .any (fun w args => (Rows.pathsFitsSpec.pre enc Tryz.prog Tryz.f3 Rows.pathsFitsRow.domain false w args ∧ laidMetH Tryz.prog Rows.pathsFitsRow.laid w) ∧ sizedMet enc Tryz.prog Tryz.f3 (OpenSpec.ofChange Rows.pathsFitsSpec) false w args) (Rows.pathsFitsSpec.post enc Tryz.prog Tryz.f3 false true false false) := by
  refine handed_shaped (C := Tryz.checked) (X := fun w _ => laidMetH Tryz.prog Rows.pathsFitsRow.laid w) (fun _ _ _ hh h => h.of_heap hh) own started (by kernel_rfl) Tryz.func3
    (ChangeSpec.witness_shaped (enc := enc) (C := Tryz.checked) (os := os) (X := fun w _ => laidMetH Tryz.prog Rows.pathsFitsRow.laid w) false (World.laidAll Tryz.prog os Rows.pathsFitsRow.laid) #[.slice none 0 0, .string ⟨#[]⟩] 8 (World.laidAll_os _ _ _)
      (World.shaped_of_ZipB (by kernel_rfl) (by kernel_rfl)) (by kernel_rfl) (by kernel_rfl) (by kernel_rfl)
      (by rw [MakeChecks.laidMetH_plain _ _ _ (by kernel_rfl)]; exact laidMet_laidAll _ (by kernel_rfl) (by kernel_rfl))) ?_
  intro W base args ds gs before hval0 hW hcnd _ hL hsh
  have hval : ∀ (j : Nat) t v, Tryz.f3.params[j]? = some t → args[j]? = some v → Value.okWide Tryz.prog W .any base t v := hval0
  have hW' := hW
  obtain ⟨p, q, hA0, hV, rfl, hfz, hnd⟩ := hW
  have hA : DataW.TrodAll enc Tryz.prog W 0 (fun _ => true) true Tryz.f3.params.toList args.toList ds p := hA0
  rw [Tryz.params3] at hA hval
  obtain ⟨v0, vs0, d0, ds0, p0, q0, hargs, rfl, rfl, h0, r0⟩ := trodAll_cons hA
  obtain ⟨v1, vs1, d1, ds1, p1, q1, rfl, rfl, rfl, h1, r1⟩ := trodAll_cons r0
  obtain ⟨rfl, rfl, rfl⟩ := trodAll_nil r1
  obtain rfl : args = #[v0, v1] := by cases args; simp_all
  obtain ⟨rfl, rfl⟩ := trodVars_none hV
  have k0 := h0
  have lt0 : ∀ x ∈ p0, x.block < W.heap.size := by obtain ⟨m, hm⟩ := k0; exact DataW.trod_lt m _ _ _ hm
  obtain ⟨ao0, l0, cap0, rfl, w0⟩ := chars_open (hval 0 22 v0 rfl rfl) h0
  obtain ⟨s1, rfl, rfl, rfl, w1⟩ := open_string Tryz.underlying9 (hval 1 9 v1 rfl rfl) h1
  clear hA0 hval0
  refine (walk ao0 cap0 l0 s1 W w0 (by unfold maxLen at w1; omega) (glob_keep hsh)).mono fun e W' ⟨he, bel⟩ => ?_
  subst he
  exact ⟨_, rfl, _, _, _, [], _, [], hW', trodAll_mk1 (shut_bool Tryz.underlying4 _), (trodAll_cons_mk (Below.trod laidOut (by kernel_rfl) (of_decide_eq_true (by kernel_rfl)) k0 bel lt0) (trodAll_cons_mk (shut_string Tryz.underlying9 w1) trodAll_mk0)), rfl, bel.frame _, fun h => by cases h⟩

theorem over : Rows.pathsFitsRow.holds Tryz.pinned (OpenSpec.ofChange Rows.pathsFitsSpec) :=
  OpenClaim.holds_of_wide 3 Tryz.f3 rfl rfl rfl rfl rfl rfl rfl ⟨rfl, rfl, rfl, rfl, rfl⟩ rfl rfl rfl rfl rfl (by kernel_rfl) Tryz.func3 (by kernel_rfl)
    (of_decide_eq_true (by kernel_rfl)) (by unfold Func.isWrapper; first | (rw [if_pos (by decide +kernel)]; kernel_rfl) | (rw [if_neg (by decide +kernel)]; exact ⟨rfl, rfl⟩))
    (fun os started H enc _ => lifted os started H enc)

theorem proved : Rows.PathsFitsCardSaid :=
  Claim7.holds_tied_plain_at .later [] [.data, .pinned] true (true, "b7fc3f95e90346590b13ddd83b9abf67f775a1aea89b3207ea44bc988b5e284c") false over (fun _ h => by cases h) (by kernel_rfl) (fun _ h => by cases h) pathsFits_row_tie rfl ⟨rfl, rfl⟩ (by kernel_rfl) rfl
    (fun f fn hf hfn => by
      obtain rfl : f = 3 := Option.some.inj ((show Tryz.prog.funcNamed "whelk/whelklaw17.PathsFits" = some 3 by kernel_rfl).symm.trans hf) |>.symm
      obtain rfl : fn = Tryz.f3 := (Option.some.inj (Tryz.func3.symm.trans hfn)).symm
      exact ⟨by kernel_rfl, fun j t ht => by
        rw [Tryz.params3] at ht
        have hm : t ∈ [22, 9] := by simpa using Array.mem_of_getElem? ht
        have hall : ([22, 9].all fun u => !Tryz.prog.wantsStandIn u) = true := by kernel_rfl
        exact (show Tryz.prog.wantsStandIn t = false by simpa using List.all_eq_true.1 hall t hm)⟩)
    (by kernel_rfl)
#print axioms proved
end Go.Proofs.YtndjgeohkfenfaaGreatDoor.pathsFits

