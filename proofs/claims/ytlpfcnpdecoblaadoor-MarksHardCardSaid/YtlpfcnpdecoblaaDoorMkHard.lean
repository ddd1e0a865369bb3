/- MarksHard: what is told of two texts, one behind the other, is what is told of both: the law returns true, for all marked texts. -/
import Derived.Test.YtlpfcnpdecoblaaDoorMkK
import Derived.Test.YtlpfcnpdecoblaaDoorTie
import Derived.Test.YtlpfcnpdecoblaaDoorCards
import Derived.Laws.Concat
import Derived.LaidMore
import Derived.Lay
import Derived.SevenTiedAt
import Derived.Stop.Joined
namespace Go.Proofs.YtlpfcnpdecoblaaDoor.marksHard
open Go.ChangeShapes Go.WideShapes Go.ChangeAt Go.RowKit Go.Proofs.YtlpfcnpdecoblaaDoor Go.Proofs.YtlpfcnpdecoblaaDoor.Hp Go.Proofs.YtlpfcnpdecoblaaDoor.Marks
set_option linter.unusedVariables false
attribute [local go_sem] Oper.semAt_some

def JPost (t : List Ch) (n : Nat) (w : World) (e : Ending) (w' : World) : Prop := ∃ p cap, e = .returned (.slice p n cap) ∧ CharsAt w' p cap t ∧ Below w.heap.size w w'
theorem join2 (t u : List Ch) (ao bo : Option Addr) (ca cb : Nat) (w : World) (ht : CharsAt w ao ca t) (hu : CharsAt w bo cb u) (h1 : t.length ≤ 1000) (h2 : u.length ≤ 1000) :
    Calls Tryd.prog 20 #[.slice (some ⟨w.heap.size, 0, none⟩) 2 2] (w.alloc (.cells #[.slice ao t.length ca, .slice bo u.length cb] 22 (0, 0))) (JPost (t ++ u) (t ++ u).length (w.alloc (.cells #[.slice ao t.length ca, .slice bo u.length cb] 22 (0, 0)))) := by
  have kn := kept_alloc w (.cells #[.slice ao t.length ca, .slice bo u.length cb] 22 (0, 0))
  have hbk := heap_alloc_new w (.cells #[.slice ao t.length ca, .slice bo u.length cb] 22 (0, 0))
  have hR : RowsAt (w.alloc (.cells #[.slice ao t.length ca, .slice bo u.length cb] 22 (0, 0))) (some ⟨w.heap.size, 0, none⟩) [⟨ao, ca, t⟩, ⟨bo, cb, u⟩] := by
    intro i hi
    refine ⟨w.heap.size, 0, rfl, ?_, ?_⟩
    · rw [cell_at hbk, Nat.zero_add]
      match i, hi with
      | 0, _ => rfl
      | 1, _ => rfl
    · match i, hi with
      | 0, _ => exact ht.keep kn
      | 1, _ => exact hu.keep kn
  refine (join_lit _ _ 2 2 _ (t ++ u) (t ++ u).length hR rfl (by show (2 : Nat) ≤ 1000000; decide) (by show t.length + (u.length + 0) ≤ 1000000; omega) (by show t ++ (u ++ []) = _; rw [List.append_nil]) rfl).mono ?_
  rintro e w' ⟨p, cap, rfl, h3, h4⟩
  exact ⟨p, cap, rfl, h3, h4⟩
theorem str_app (x y : List UInt8) : (⟨x.toArray⟩ : ByteArray) ++ ⟨y.toArray⟩ = ⟨(x ++ y).toArray⟩ := by
  apply bs_ext
  show (_ : ByteArray).data.toList = _
  simp [bs]
set_option maxRecDepth 100000 in
set_option maxHeartbeats 8000000 in
theorem walk (ao : Option Addr) (ca : Nat) (t : List Ch) (bo : Option Addr) (cb : Nat) (u : List Ch) (W : World) (ht : CharsAt W ao ca t) (hu : CharsAt W bo cb u) :
    Calls Tryd.prog 5 #[.slice ao t.length ca, .slice bo u.length cb] W (FPost true W) := by
  by_cases h1 : t.length ≤ 1000
  · have h1' : (t.length : Int) ≤ 1000 := by omega
    by_cases h2 : u.length ≤ 1000
    · have h2' : (u.length : Int) ≤ 1000 := by omega
      have Ht := Lib.hid ht
      have Hu := Lib.hid hu
      clear ht hu
      go_enter Tryd.func5, Tryd.ntmps5
      go_wp2_with fail
      refine (hard_calls t ao ca W Ht.out (by omega)).mono ?_
      rintro e w1 ⟨rfl, b1⟩
      have Hc := Lib.hid (hard_calls u bo cb w1 (Hu.out.keep (Kept.below b1)) (by omega))
      go_wp2_with fail
      refine Hc.out.mono ?_
      rintro e w2 ⟨rfl, b2⟩
      have B2 := Lib.hid (bt b1 b2)
      have K2 := Lib.hid (Kept.below (bt b1 b2))
      have Hj := Lib.hid (join2 t u ao bo ca cb w2 (Ht.out.keep K2.out) (Hu.out.keep K2.out) h1 h2)
      clear Hc b1 b2
      go_wp2_with fail
      refine Hj.out.mono ?_
      rintro e w3 ⟨p3, c3, rfl, hC3, b3⟩
      have B3 := Lib.hid (bt (B2.out.alloc B2.out.size _) b3)
      have Hh := hard_calls (t ++ u) p3 c3 w3 hC3 (by rw [List.length_append]; omega)
      unfold HardPost at Hh
      rw [List.any_append, List.all_append] at Hh
      have Hh := Lib.hid Hh
      obtain ⟨n, hn⟩ : ∃ n, n = (t ++ u).length := ⟨_, rfl⟩
      rw [← hn] at Hh
      rw [← hn]
      have Hn := Lib.hid hn
      clear b3 Hj hC3 hn
      go_wp2_with fail
      refine Hh.out.mono ?_
      rintro e w4 ⟨rfl, b4⟩
      have B4 := Lib.hid (bt B3.out b4)
      have K4 := Lib.hid (Kept.below B4.out)
      have Hj := join2 t u ao bo ca cb w4 (Ht.out.keep K4.out) (Hu.out.keep K4.out) h1 h2
      rw [← Hn.out] at Hj
      have Hj := Lib.hid Hj
      have hadd : ∀ w9, (Op.stringOp .add (⟨(t.map (·.b)).toArray⟩ : ByteArray) ⟨(u.map (·.b)).toArray⟩).run Tryd.prog w9 = .ok (.string ⟨((t ++ u).map (·.b)).toArray⟩) w9 := fun w9 => by
        rw [run_string_add_sum (P := Tryd.prog) w9 _ _ (by simp [ByteArray.size]; omega), str_app, List.map_append]
      have Hadd := Lib.hid hadd
      have Hpj := Lib.hid (fun (w9 : World) (p : Option Addr) (c : Nat) (h9 : CharsAt w9 p c (t ++ u)) => plain_lit (t ++ u) n p c w9 _ h9 Hn.out.symm (by rw [List.length_append]; omega) rfl)
      obtain ⟨at', hat⟩ : ∃ b, b = t.any (·.q) := ⟨_, rfl⟩
      obtain ⟨au, hau⟩ : ∃ b, b = u.any (·.q) := ⟨_, rfl⟩
      obtain ⟨lt, hlt⟩ : ∃ b, b = t.all (·.q) := ⟨_, rfl⟩
      obtain ⟨lu, hlu⟩ : ∃ b, b = u.all (·.q) := ⟨_, rfl⟩
      rw [← hat, ← hau, ← hlt, ← hlu]
      have hpt := Lib.hid (fun (w9 : World) (k : Kept W w9) => plain_calls t ao ca w9 (Ht.out.keep k) (by omega))
      have hpu := Lib.hid (fun (w9 : World) (k : Kept W w9) => plain_calls u bo cb w9 (Hu.out.keep k) (by omega))
      obtain ⟨st, hst⟩ : ∃ s, s = (⟨(t.map (·.b)).toArray⟩ : ByteArray) := ⟨_, rfl⟩
      obtain ⟨su, hsu⟩ : ∃ s, s = (⟨(u.map (·.b)).toArray⟩ : ByteArray) := ⟨_, rfl⟩
      obtain ⟨sj, hsj⟩ : ∃ s, s = (⟨((t ++ u).map (·.b)).toArray⟩ : ByteArray) := ⟨_, rfl⟩
      unfold PlainPost at hpt hpu
      rw [← hst] at hpt hadd
      rw [← hsu] at hpu hadd
      rw [← hsj] at Hpj hadd
      clear hat hau hlt hlu hst hsu hsj b4 Hh Hadd
      cases at' <;> cases lt <;>
        (go_wp2_with fail
         refine Hj.out.mono ?_
         rintro e w5 ⟨p5, c5, rfl, hC5, b5⟩
         have B5 := Lib.hid (bt (B4.out.alloc B4.out.size _) b5)
         have Hp5 := Lib.hid (Hpj.out w5 p5 c5 hC5)
         clear b5 hC5
         go_wp2_with fail
         refine Hp5.out.mono ?_
         rintro e w6 ⟨rfl, b6⟩
         have B6 := Lib.hid (bt B5.out b6)
         clear b6 Hp5
         go_wp2_with fail
         refine (hpt.out w6 (Kept.below B6.out)).mono ?_
         rintro e w7 ⟨rfl, b7⟩
         have B7 := Lib.hid (bt B6.out b7)
         clear b7
         go_wp2_with fail
         refine (hpu.out w7 (Kept.below B7.out)).mono ?_
         rintro e w8 ⟨rfl, b8⟩
         have B8 := Lib.hid (bt B7.out b8)
         clear b8
         go_wp2_with fail
         refine (awake_calls w8).mono ?_
         rintro e w9 ⟨rfl, b9⟩
         go_wp2_with fail
         go_ret
         exact ⟨rfl, bt B8.out b9⟩)
    · have h2' : (1000 : Int) < (u.length : Int) := by omega
      clear ht hu
      go_enter Tryd.func5, Tryd.ntmps5
      go_wp2_with fail
      refine (awake_calls W).mono ?_
      rintro e w9 ⟨rfl, b9⟩
      go_wp2_with fail
      go_ret
      exact ⟨rfl, b9⟩
  · have h1' : (1000 : Int) < (t.length : Int) := by omega
    clear ht hu
    go_enter Tryd.func5, Tryd.ntmps5
    go_wp2_with fail
    refine (awake_calls W).mono ?_
    rintro e w9 ⟨rfl, b9⟩
    go_wp2_with fail
    go_ret
    exact ⟨rfl, b9⟩

set_option maxRecDepth 100000 in
theorem lifted (os : Os) (started : os.Started) (H : Type) (enc : TypeId × Value → H) :
    ReturnsInHanded {} Tryd.checked os 5 .any (fun w args => (Rows.marksHardSpec.pre enc Tryd.prog Tryd.f5 Rows.marksHardRow.domain false w args ∧ laidMetH Tryd.prog Rows.marksHardRow.laid w) ∧ sizedMet enc Tryd.prog Tryd.f5 (OpenSpec.ofChange Rows.marksHardSpec) false w args) (Rows.marksHardSpec.post enc Tryd.prog Tryd.f5 false true false false) := by
  refine returnsInHanded_of_change_and (C := Tryd.checked) (X := fun w _ => laidMetH Tryd.prog Rows.marksHardRow.laid w) (fun _ _ _ hh h => h.of_heap hh) own started (by kernel_rfl) Tryd.func5
    (ChangeSpec.witness_shaped (enc := enc) (C := Tryd.checked) (os := os) (X := fun w _ => laidMetH Tryd.prog Rows.marksHardRow.laid w) false (World.laidAll Tryd.prog os Rows.marksHardRow.laid) #[.slice none 0 0, .slice none 0 0] 8 (World.laidAll_os _ _ _)
      (World.shaped_of_ZipB (by kernel_rfl) (by kernel_rfl)) (by kernel_rfl) (by kernel_rfl) (by kernel_rfl)
      (by rw [MakeChecks.laidMetH_plain _ _ _ (by kernel_rfl)]; exact laidMet_laidAll _ (by kernel_rfl) (by kernel_rfl))) ?_
  intro W base args ds gs before hval0 hW hcnd _ hL _
  have hval : ∀ (j : Nat) t v, Tryd.f5.params[j]? = some t → args[j]? = some v → Value.okWide Tryd.prog W .any base t v := hval0
  have hW' := hW
  obtain ⟨p, q, hA0, hV, rfl, hfz, hnd⟩ := hW
  have hA : DataW.TrodAll enc Tryd.prog W 0 (fun _ => true) true Tryd.f5.params.toList args.toList ds p := hA0
  rw [Tryd.params5] at hA hval
  obtain ⟨v0, vs0, d0, ds0, p0, q0, hargs, rfl, rfl, h0, r0⟩ := trodAll_cons hA
  obtain ⟨v1, vs1, d1, ds1, p1, q1, rfl, rfl, rfl, h1, r1⟩ := trodAll_cons r0
  obtain ⟨rfl, rfl, rfl⟩ := trodAll_nil r1
  obtain rfl : args = #[v0, v1] := by cases args; simp_all
  obtain ⟨rfl, rfl⟩ := trodVars_none hV
  have k0 := h0
  have lt0 : ∀ x ∈ p0, x.block < W.heap.size := by obtain ⟨m, hm⟩ := k0; exact DataW.trod_lt m _ _ _ hm
  obtain ⟨ao0, l0, cap0, rfl, w0⟩ := chars_open (hval 0 22 v0 rfl rfl) h0
  have k1 := h1
  have lt1 : ∀ x ∈ p1, x.block < W.heap.size := by obtain ⟨m, hm⟩ := k1; exact DataW.trod_lt m _ _ _ hm
  obtain ⟨ao1, l1, cap1, rfl, w1⟩ := chars_open (hval 1 22 v1 rfl rfl) h1
  clear hA0 hval0
  refine (walk ao0 cap0 l0 ao1 cap1 l1 W w0 w1).mono fun e W' ⟨he, bel⟩ => ?_
  subst he
  exact ⟨_, rfl, _, _, _, [], _, [], hW', trodAll_mk1 (shut_bool Tryd.underlying4 _), (trodAll_cons_mk (Below.trod laidOut (by kernel_rfl) (of_decide_eq_true (by kernel_rfl)) k0 bel lt0) (trodAll_cons_mk (Below.trod laidOut (by kernel_rfl) (of_decide_eq_true (by kernel_rfl)) k1 bel lt1) trodAll_mk0)), rfl, bel.frame _, fun h => by cases h⟩

theorem over : Rows.marksHardRow.holds Tryd.pinned (OpenSpec.ofChange Rows.marksHardSpec) :=
  OpenClaim.holds_of_wide 5 Tryd.f5 rfl rfl rfl rfl rfl rfl rfl ⟨rfl, rfl, rfl, rfl, rfl⟩ rfl rfl rfl rfl rfl (by kernel_rfl) Tryd.func5 (by kernel_rfl)
    (of_decide_eq_true (by kernel_rfl)) (by unfold Func.isWrapper; first | (rw [if_pos (by decide +kernel)]; kernel_rfl) | (rw [if_neg (by decide +kernel)]; exact ⟨rfl, rfl⟩))
    (fun os started H enc _ => lifted os started H enc)

theorem proved : Rows.MarksHardCardSaid :=
  Claim7.holds_tied_plain_at .later [] [.data, .pinned] true (true, "f482e89116bc99bf43e4e1caee790152a011ea106b481086dbda4c4ef674d186") false over (fun _ h => by cases h) (by kernel_rfl) (fun _ h => by cases h) marksHard_row_tie rfl ⟨rfl, rfl⟩ (by kernel_rfl) rfl
    (fun f fn hf hfn => by
      obtain rfl : f = 5 := Option.some.inj ((show Tryd.prog.funcNamed "whelk/whelklaw01.MarksHard" = some 5 by kernel_rfl).symm.trans hf) |>.symm
      obtain rfl : fn = Tryd.f5 := (Option.some.inj (Tryd.func5.symm.trans hfn)).symm
      exact ⟨by kernel_rfl, fun j t ht => by
        rw [Tryd.params5] at ht
        have hm : t ∈ [22, 22] := by simpa using Array.mem_of_getElem? ht
        have hall : ([22, 22].all fun u => !Tryd.prog.wantsStandIn u) = true := by kernel_rfl
        exact (show Tryd.prog.wantsStandIn t = false by simpa using List.all_eq_true.1 hall t hm)⟩)
    (by kernel_rfl)
#print axioms proved
end Go.Proofs.YtlpfcnpdecoblaaDoor.marksHard
