/- MarksParts: where a bare byte stands, what stands between such bytes, what is left without some at the ends, and what is quoted: the law returns true, for all marked texts, bytes and sets. -/
import Derived.Test.YtlpfcnpdecoblaaDoorMkR
import Derived.Test.YtlpfcnpdecoblaaDoorMkS
import Derived.Test.YtlpfcnpdecoblaaDoorTie
import Derived.Test.YtlpfcnpdecoblaaDoorCards
import Derived.ChangeMaps5
import Derived.LaidMore
import Derived.Lay
import Derived.SevenTiedAt
import Derived.Stop.Joined
namespace Go.Proofs.YtlpfcnpdecoblaaDoor.marksParts
open Go.ChangeMaps (open_string shut_string)
open Go.ChangeShapes Go.WideShapes Go.ChangeAt Go.RowKit Go.Proofs.YtlpfcnpdecoblaaDoor Go.Proofs.YtlpfcnpdecoblaaDoor.Hp Go.Proofs.YtlpfcnpdecoblaaDoor.Marks
set_option linter.unusedVariables false
attribute [local go_sem] Oper.semAt_some

def TxPost (l : List Ch) (n : Nat) (w : World) (e : Ending) (w' : World) : Prop := ∃ p cap, e = .returned (.slice p n cap) ∧ CharsAt w' p cap l ∧ Below w.heap.size w w'
def PPost (ls : List (List Ch)) (n : Nat) (w : World) (e : Ending) (w' : World) : Prop := ∃ p cap rs, e = .returned (.slice p n cap) ∧ rs.map Rw.L = ls ∧ rs.length = n ∧ RowsAt w' p rs ∧ Below w.heap.size w w'
theorem ppost {ls : List (List Ch)} {n : Nat} {w w' : World} {e : Ending} (hn : n = ls.length) (h : PartsPost ls w e w') : PPost ls n w e w' := by
  obtain ⟨p, cap, rs, h1, h2, h3, h4⟩ := h
  have hl : rs.length = n := by rw [hn, ← h2, List.length_map]
  rw [hl] at h1
  exact ⟨p, cap, rs, h1, h2, hl, h3, h4⟩
theorem txpost {l : List Ch} {n : Nat} {w w' : World} {e : Ending} (hn : n = l.length) (h : CharsPost l w e w') : TxPost l n w e w' := by
  obtain ⟨p, cap, h1, h2, h3⟩ := h
  rw [← hn] at h1
  exact ⟨p, cap, h1, h2, h3⟩
set_option maxRecDepth 100000 in
set_option maxHeartbeats 8000000 in
theorem walk (ao : Option Addr) (ca : Nat) (t : List Ch) (b : UInt8) (s : ByteArray) (W : World) (ht : CharsAt W ao ca t) (hs63 : (s.size : Int) ≤ 9223372036854775807) :
    Calls Tryd.prog 6 #[.slice ao t.length ca, .int .u8 b.toNat, .string s] W (FPost true W) := by
  by_cases h1 : t.length ≤ 2000
  · have h1' : (t.length : Int) ≤ 2000 := by omega
    by_cases h2 : s.size ≤ 300
    · have h2' : (s.size : Int) ≤ 300 := by omega
      have Ht := Lib.hid ht
      have htx := Lib.hid (text_calls t ao ca W ht (by omega))
      obtain ⟨n, hn⟩ : ∃ n, n = (partL b t).length := ⟨_, rfl⟩
      have hnb : n ≤ 2001 := by rw [hn]; have := part_total b t; omega
      have hnbI : (n : Int) ≤ 2001 := by omega
      have hpt := Lib.hid (fun w (k : Kept W w) => (part_below t ao ca b w (Ht.out.keep k) (by omega)).mono (fun e w' => ppost hn))
      have hrp := Lib.hid (fun w p c (h : CharsAt w p c t) => (rpart_calls t p c b w h (by omega)).mono (fun e w' => ppost hn))
      have Hn := Lib.hid hn
      have hfi := Lib.hid (fun w (k : Kept W w) => find_calls t ao ca b w (Ht.out.keep k) (by omega))
      have hrf := Lib.hid (fun w p c (h : CharsAt w p c t) => rfind_calls t p c b w h (by omega))
      have hha := Lib.hid (fun w (k : Kept W w) => hard_calls t ao ca w (Ht.out.keep k) (by omega))
      have hrh := Lib.hid (fun w p c (h : CharsAt w p c t) => rhard_calls t p c w h (by omega))
      have hstl := strip_len (goC s) t
      obtain ⟨u, hu⟩ : ∃ u, u = stripL (goC s) t := ⟨_, rfl⟩
      obtain ⟨m, hm⟩ : ∃ m, m = u.length := ⟨_, rfl⟩
      have hst := fun w (k : Kept W w) => strip_calls t ao ca s w (Ht.out.keep k) (by omega)
      have hrs := fun w p c (h : CharsAt w p c t) => rstrip_calls t p c s w h (by omega) (by omega)
      rw [← hu] at hst hrs hstl
      have hst := Lib.hid (fun w k => (hst w k).mono (fun e w' => txpost hm))
      have hrs := Lib.hid (fun w p c h => (hrs w p c h).mono (fun e w' => txpost hm))
      have Htx := fun (w : World) p c (h : CharsAt w p c u) => (text_calls u p c w h (by omega)).mono (fun e w' => txpost hm)
      rw [← hm] at Htx
      have Htx := Lib.hid Htx
      have Hsm := fun (w : World) p q c d (h : CharsAt w p c u) (k : CharsAt w q d u) => same_calls u p q c d w h k
      rw [← hm] at Hsm
      have Hsm := Lib.hid Hsm
      clear ht hn hu hm hstl
      go_enter Tryd.func6, Tryd.ntmps6
      go_wp2_with fail
      refine htx.out.mono ?_
      rintro e w1 ⟨p1, c1, rfl, hC1, b1⟩
      have C1 := Lib.hid hC1
      have B1 := Lib.hid b1
      clear hC1 b1 htx
      go_wp2_with fail
      refine (hpt.out w1 (Kept.below B1.out)).mono ?_
      rintro e w2 ⟨p2, c2, rs2, rfl, hL2, hl2, hR2, b2⟩
      have R2 := Lib.hid hR2
      have B2 := Lib.hid (bt B1.out b2)
      have C2 := Lib.hid (C1.out.keep (Kept.below b2))
      have L2 := Lib.hid hL2
      have Hl2 := Lib.hid hl2
      clear hR2 b2 hpt C1 hL2 hl2
      go_wp2_with fail
      refine (hrp.out w2 p1 c1 C2.out).mono ?_
      rintro e w3 ⟨p3, c3, rs3, rfl, hL3, hl3, hR3, b3⟩
      have R3 := Lib.hid hR3
      have R2 := Lib.hid (R2.out.keep (Kept.below b3))
      have B3 := Lib.hid (bt B2.out b3)
      have C3 := Lib.hid (C2.out.keep (Kept.below b3))
      have L3 := Lib.hid hL3
      have Hl3 := Lib.hid hl3
      clear hR3 b3 hrp C2 hL3 hl3
      go_wp2_with fail
      go_loopg [10] n (SmRel n w3)
      case atStart => exact ⟨0, by omega, rfl, Below.refl _ _⟩
      case round =>
        obtain ⟨i, hig, rfl, hbel⟩ := hrel
        have hi0 : (0 : Int) ≤ i := by omega
        have Hig := Lib.hid hig
        have Hbel := Lib.hid hbel
        by_cases hi : i < n
        · have hil : (i : Int) < n := by omega
          obtain ⟨ab, ao2, e2, cx, hx⟩ := R2.out i (by rw [Hl2.out]; exact hi)
          obtain ⟨bb, bo, e3, cy, hy⟩ := R3.out i (by rw [Hl3.out]; exact hi)
          have hLL : (rs2[i]'(by rw [Hl2.out]; exact hi)).L = (rs3[i]'(by rw [Hl3.out]; exact hi)).L := by
            have h5 := L2.out.trans L3.out.symm
            have h6 : (rs2.map Rw.L)[i]? = (rs3.map Rw.L)[i]? := by rw [h5]
            rw [List.getElem?_map, List.getElem?_map, List.getElem?_eq_getElem (by rw [Hl2.out]; exact hi), List.getElem?_eq_getElem (by rw [Hl3.out]; exact hi)] at h6
            simpa using h6
          have hmem : (rs2[i]'(by rw [Hl2.out]; exact hi)).L.length ≤ 2000 := by
            have h7 : (rs2[i]'(by rw [Hl2.out]; exact hi)).L ∈ partL b t := by rw [← L2.out]; exact List.mem_map_of_mem (List.getElem_mem _)
            exact Nat.le_trans (part_each b t _ h7) h1
          obtain ⟨r2, hr2⟩ : ∃ r, r = rs2[i]'(by rw [Hl2.out]; exact hi) := ⟨_, rfl⟩
          obtain ⟨r3, hr3⟩ : ∃ r, r = rs3[i]'(by rw [Hl3.out]; exact hi) := ⟨_, rfl⟩
          rw [← hr2] at cx hx hLL hmem
          rw [← hr3] at cy hy hLL
          obtain ⟨q2, d2, v⟩ := r2
          obtain ⟨q3, d3, v3⟩ := r3
          dsimp only [rwV] at cx cy hx hy hLL hmem
          subst hLL
          have lx := World.block_lt_of_cell? w3 _ cx
          have ly := World.block_lt_of_cell? w3 _ cy
          obtain ⟨k, hk⟩ : ∃ k, k = v.length := ⟨_, rfl⟩
          have hTx := fun (w' : World) (kk : Kept w3 w') => (text_calls v q2 d2 w' (hx.keep kk) (by omega)).mono (fun e w' => txpost hk)
          have hSm := fun (w' : World) p c (h : CharsAt w' p c v) (kk : Kept w3 w') => same_calls v p q3 c d3 w' h (hy.keep kk)
          rw [← hk] at cx cy hTx hSm
          have hTx := Lib.hid hTx
          have hSm := Lib.hid hSm
          have HK := Lib.hid (fun (w' : World) (kk : Kept w3 w') => And.intro ((kk.cell lx _).trans cx) ((kk.cell ly _).trans cy))
          have hK0 := Lib.hid (Kept.below hbel)
          have cx := (hK0.out.cell lx _).trans cx
          have cy := (hK0.out.cell ly _).trans cy
          subst e2 e3
          clear hx hy hmem hr2 hr3 hbel hig lx ly hk
          go_wp2_with fail
          refine Go.Proofs.YtlpfcnpdecoblaaDoor.region_plan (S := (fun w' => w'.cell? ⟨ab, ao2 + i, none⟩ = some (.slice q2 k d2) ∧ w'.cell? ⟨bb, bo + i, none⟩ = some (.slice q3 k d3))) [(0, true), (1, true), (2, true), (3, true), (5, true), (6, true), (7, true), (8, true), (4, false), (9, false), (10, true)] (by kernel_rfl) (by kernel_rfl) (by kernel_rfl) ?_ ?_
          · ((try dsimp only); (first | done | (first | exact HK.out _ K5.out | exact HK.out _ K4.out | exact HK.out _ hK0.out)))
          simp only [Go.Proofs.YtlpfcnpdecoblaaDoor.planOps, List.map_cons, List.map_nil, List.getElem?_toArray, List.getElem?_cons_zero, List.getElem?_cons_succ]
          repeat (first
            | ((refine Go.Proofs.YtlpfcnpdecoblaaDoor.plan_yes (v := ?_) (by rfl) ?_ ?_); rotate_left; (focus (intro w hSw; (try dsimp only at hSw); go_simp; try (with_reducible rfl))); (try simp only [Act.put, List.setIfInBounds_toArray, List.set_cons_zero, List.set_cons_succ]))
            | ((refine Go.Proofs.YtlpfcnpdecoblaaDoor.plan_no (by rfl) ?_); (try simp only [Act.put, List.setIfInBounds_toArray, List.set_cons_zero, List.set_cons_succ]))
            | ((refine Go.Proofs.YtlpfcnpdecoblaaDoor.plan_step (fun K hK => ?_)); (first | (first | (go_at_call 14; refine (hTx.out _ (by exact kept_drew hK0.out)).mono ?_; rintro e w4 ⟨p4, c4, rfl, hC4, b4⟩; have K4 := Lib.hid ((kept_drew hK0.out).trans (Kept.below b4)); have B4 := Lib.hid (bt Hbel.out.drew b4); have C4 := Lib.hid hC4; clear hC4 b4) | (go_at_call 15; refine (hSm.out _ p4 c4 (by exact C4.out) (by exact K4.out)).mono ?_; rintro e w5 ⟨rfl, b5⟩; have K5 := Lib.hid (K4.out.trans (Kept.below b5)); have B5 := Lib.hid (bt B4.out b5); clear b5)) | (go_simp; (first | (go_at_call 14; refine (hTx.out _ (by exact kept_drew hK0.out)).mono ?_; rintro e w4 ⟨p4, c4, rfl, hC4, b4⟩; have K4 := Lib.hid ((kept_drew hK0.out).trans (Kept.below b4)); have B4 := Lib.hid (bt Hbel.out.drew b4); have C4 := Lib.hid hC4; clear hC4 b4) | (go_at_call 15; refine (hSm.out _ p4 c4 (by exact C4.out) (by exact K4.out)).mono ?_; rintro e w5 ⟨rfl, b5⟩; have K5 := Lib.hid (K4.out.trans (Kept.below b5)); have B5 := Lib.hid (bt B4.out b5); clear b5)); (try go_wp2_with fail)) | go_simp); (refine hK.out _ _ ?_ (fun hHeld => ?_)); (focus ((try dsimp only); (first | done | (first | exact HK.out _ K5.out | exact HK.out _ K4.out | exact HK.out _ hK0.out)))); clear hK K; (try simp only [Act.put, List.setIfInBounds_toArray, List.set_cons_zero, List.set_cons_succ])))
          refine Go.Proofs.YtlpfcnpdecoblaaDoor.plan_done ?_
          go_wp2_with fail
          go_roundg (gk - 1)
          case measure => have := Hig.out; omega
          case rel => exact ⟨i + 1, by have := Hig.out; omega, by go_num, B5.out⟩
        · have hge : ¬ ((i : Int) < n) := by omega
          have B4 := Lib.hid (bt B3.out hbel)
          have C4 := Lib.hid (C3.out.keep (Kept.below hbel))
          clear R2 R3 L2 L3 Hl2 Hl3 B3 C3 hbel hig Hbel Hig
          obtain ⟨at', hat⟩ : ∃ b, b = t.any (·.q) := ⟨_, rfl⟩
          obtain ⟨lt, hlt⟩ : ∃ b, b = t.all (·.q) := ⟨_, rfl⟩
          obtain ⟨fi, hfi2⟩ : ∃ z, z = idxI (⟨b, false⟩ == ·) t := ⟨_, rfl⟩
          unfold HardPost at hha hrh
          rw [← hat, ← hlt] at hha hrh
          rw [← hfi2] at hfi hrf
          clear hat hlt hfi2
          cases at' <;> cases lt <;>
            (go_wp2_with fail
             refine (hha.out wr (Kept.below B4.out)).mono ?_
             rintro e w5 ⟨rfl, b5⟩
             have B5 := Lib.hid (bt B4.out b5)
             have C5 := Lib.hid (C4.out.keep (Kept.below b5))
             clear b5
             go_wp2_with fail
             refine (hrh.out w5 p1 c1 C5.out).mono ?_
             rintro e w6 ⟨rfl, b6⟩
             have B6 := Lib.hid (bt B5.out b6)
             have C6 := Lib.hid (C5.out.keep (Kept.below b6))
             clear b6
             go_wp2_with fail
             refine (hfi.out w6 (Kept.below B6.out)).mono ?_
             rintro e w7 ⟨rfl, b7⟩
             have B7 := Lib.hid (bt B6.out b7)
             have C7 := Lib.hid (C6.out.keep (Kept.below b7))
             clear b7
             go_wp2_with fail
             refine (hrf.out w7 p1 c1 C7.out).mono ?_
             rintro e w8 ⟨rfl, b8⟩
             have B8 := Lib.hid (bt B7.out b8)
             have C8 := Lib.hid (C7.out.keep (Kept.below b8))
             clear b8
             go_wp2_with fail
             refine (hst.out w8 (Kept.below B8.out)).mono ?_
             rintro e w9 ⟨p9, c9, rfl, hC9, b9⟩
             have B9 := Lib.hid (bt B8.out b9)
             have C9 := Lib.hid (C8.out.keep (Kept.below b9))
             have Hx9 := Lib.hid (Htx.out w9 p9 c9 hC9)
             clear b9 hC9
             go_wp2_with fail
             refine Hx9.out.mono ?_
             rintro e w10 ⟨p10, c10, rfl, hC10, b10⟩
             have B10 := Lib.hid (bt B9.out b10)
             have C10 := Lib.hid (C9.out.keep (Kept.below b10))
             have D10 := Lib.hid hC10
             clear b10 hC10 Hx9
             go_wp2_with fail
             refine (hrs.out w10 p1 c1 C10.out).mono ?_
             rintro e w11 ⟨p11, c11, rfl, hC11, b11⟩
             have B11 := Lib.hid (bt B10.out b11)
             have Hs11 := Lib.hid (Hsm.out w11 p10 p11 c10 c11 (D10.out.keep (Kept.below b11)) hC11)
             clear b11 hC11
             go_wp2_with fail
             refine Hs11.out.mono ?_
             rintro e w12 ⟨rfl, b12⟩
             have B12 := Lib.hid (bt B11.out b12)
             clear b12 Hs11
             go_wp2_with fail
             refine (awake_calls w12).mono ?_
             rintro e w13 ⟨rfl, b13⟩
             go_wp2_with fail
             go_ret
             exact ⟨rfl, bt B12.out b13⟩)
    · have h2' : (300 : Int) < (s.size : Int) := by omega
      clear ht
      go_enter Tryd.func6, Tryd.ntmps6
      go_wp2_with fail
      refine (awake_calls W).mono ?_
      rintro e w9 ⟨rfl, b9⟩
      go_wp2_with fail
      go_ret
      exact ⟨rfl, b9⟩
  · have h1' : (2000 : Int) < (t.length : Int) := by omega
    clear ht
    go_enter Tryd.func6, Tryd.ntmps6
    go_wp2_with fail
    refine (awake_calls W).mono ?_
    rintro e w9 ⟨rfl, b9⟩
    go_wp2_with fail
    go_ret
    exact ⟨rfl, b9⟩

set_option maxRecDepth 100000 in
theorem lifted (os : Os) (started : os.Started) (H : Type) (enc : TypeId × Value → H) :
    ReturnsInHanded {} Tryd.checked os 6 .any (fun w args => (Rows.marksPartsSpec.pre enc Tryd.prog Tryd.f6 Rows.marksPartsRow.domain false w args ∧ laidMetH Tryd.prog Rows.marksPartsRow.laid w) ∧ sizedMet enc Tryd.prog Tryd.f6 (OpenSpec.ofChange Rows.marksPartsSpec) false w args) (Rows.marksPartsSpec.post enc Tryd.prog Tryd.f6 false true false false) := by
  refine returnsInHanded_of_change_and (C := Tryd.checked) (X := fun w _ => laidMetH Tryd.prog Rows.marksPartsRow.laid w) (fun _ _ _ hh h => h.of_heap hh) own started (by kernel_rfl) Tryd.func6
    (ChangeSpec.witness_shaped (enc := enc) (C := Tryd.checked) (os := os) (X := fun w _ => laidMetH Tryd.prog Rows.marksPartsRow.laid w) false (World.laidAll Tryd.prog os Rows.marksPartsRow.laid) #[.slice none 0 0, .int .u8 0, .string ⟨#[]⟩] 8 (World.laidAll_os _ _ _)
      (World.shaped_of_ZipB (by kernel_rfl) (by kernel_rfl)) (by kernel_rfl) (by kernel_rfl) (by kernel_rfl)
      (by rw [MakeChecks.laidMetH_plain _ _ _ (by kernel_rfl)]; exact laidMet_laidAll _ (by kernel_rfl) (by kernel_rfl))) ?_
  intro W base args ds gs before hval0 hW hcnd _ hL _
  have hval : ∀ (j : Nat) t v, Tryd.f6.params[j]? = some t → args[j]? = some v → Value.okWide Tryd.prog W .any base t v := hval0
  have hW' := hW
  obtain ⟨p, q, hA0, hV, rfl, hfz, hnd⟩ := hW
  have hA : DataW.TrodAll enc Tryd.prog W 0 (fun _ => true) true Tryd.f6.params.toList args.toList ds p := hA0
  rw [Tryd.params6] at hA hval
  obtain ⟨v0, vs0, d0, ds0, p0, q0, hargs, rfl, rfl, h0, r0⟩ := trodAll_cons hA
  obtain ⟨v1, vs1, d1, ds1, p1, q1, rfl, rfl, rfl, h1, r1⟩ := trodAll_cons r0
  obtain ⟨v2, vs2, d2, ds2, p2, q2, rfl, rfl, rfl, h2, r2⟩ := trodAll_cons r1
  obtain ⟨rfl, rfl, rfl⟩ := trodAll_nil r2
  obtain rfl : args = #[v0, v1, v2] := by cases args; simp_all
  obtain ⟨rfl, rfl⟩ := trodVars_none hV
  have k0 := h0
  have lt0 : ∀ x ∈ p0, x.block < W.heap.size := by obtain ⟨m, hm⟩ := k0; exact DataW.trod_lt m _ _ _ hm
  obtain ⟨ao0, l0, cap0, rfl, w0⟩ := chars_open (hval 0 22 v0 rfl rfl) h0
  obtain ⟨a1, rfl, rfl, rfl, w1⟩ := open_int Tryd.underlying5 (hval 1 5 v1 rfl rfl) h1
  obtain ⟨c1, rfl⟩ := u8_of w1
  obtain ⟨s2, rfl, rfl, rfl, w2⟩ := open_string Tryd.underlying9 (hval 2 9 v2 rfl rfl) h2
  clear hA0 hval0
  refine (walk ao0 cap0 l0 c1 s2 W w0  (by unfold maxLen at w2; omega)).mono fun e W' ⟨he, bel⟩ => ?_
  subst he
  exact ⟨_, rfl, _, _, _, [], _, [], hW', trodAll_mk1 (shut_bool Tryd.underlying4 _), (trodAll_cons_mk (Below.trod laidOut (by kernel_rfl) (of_decide_eq_true (by kernel_rfl)) k0 bel lt0) (trodAll_cons_mk (shut_int Tryd.underlying5 w1) (trodAll_cons_mk (shut_string Tryd.underlying9 w2) trodAll_mk0))), rfl, bel.frame _, fun h => by cases h⟩

theorem over : Rows.marksPartsRow.holds Tryd.pinned (OpenSpec.ofChange Rows.marksPartsSpec) :=
  OpenClaim.holds_of_wide 6 Tryd.f6 rfl rfl rfl rfl rfl rfl rfl ⟨rfl, rfl, rfl, rfl, rfl⟩ rfl rfl rfl rfl rfl (by kernel_rfl) Tryd.func6 (by kernel_rfl)
    (of_decide_eq_true (by kernel_rfl)) (by unfold Func.isWrapper; first | (rw [if_pos (by decide +kernel)]; kernel_rfl) | (rw [if_neg (by decide +kernel)]; exact ⟨rfl, rfl⟩))
    (fun os started H enc _ => lifted os started H enc)

theorem proved : Rows.MarksPartsCardSaid :=
  Claim7.holds_tied_plain_at .later [] [.data, .pinned] true (true, "f482e89116bc99bf43e4e1caee790152a011ea106b481086dbda4c4ef674d186") false over (fun _ h => by cases h) (by kernel_rfl) (fun _ h => by cases h) marksParts_row_tie rfl ⟨rfl, rfl⟩ (by kernel_rfl) rfl
    (fun f fn hf hfn => by
      obtain rfl : f = 6 := Option.some.inj ((show Tryd.prog.funcNamed "whelk/whelklaw01.MarksParts" = some 6 by kernel_rfl).symm.trans hf) |>.symm
      obtain rfl : fn = Tryd.f6 := (Option.some.inj (Tryd.func6.symm.trans hfn)).symm
      exact ⟨by kernel_rfl, fun j t ht => by
        rw [Tryd.params6] at ht
        have hm : t ∈ [22, 5, 9] := by simpa using Array.mem_of_getElem? ht
        have hall : ([22, 5, 9].all fun u => !Tryd.prog.wantsStandIn u) = true := by kernel_rfl
        exact (show Tryd.prog.wantsStandIn t = false by simpa using List.all_eq_true.1 hall t hm)⟩)
    (by kernel_rfl)
#print axioms proved
end Go.Proofs.YtlpfcnpdecoblaaDoor.marksParts
