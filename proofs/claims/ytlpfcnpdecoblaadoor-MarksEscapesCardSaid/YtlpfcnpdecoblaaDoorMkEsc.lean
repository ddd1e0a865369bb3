/- MarksEscapes: how a marked text is told as one, and what a text says: the law returns true, for all marked texts and all texts. -/
import Derived.Test.YtlpfcnpdecoblaaDoorMkN
import Derived.Test.YtlpfcnpdecoblaaDoorTie
import Derived.Test.YtlpfcnpdecoblaaDoorCards
import Derived.LaidMore
import Derived.Lay
import Derived.SevenTiedAt
import Derived.Stop.Joined
namespace Go.Proofs.YtlpfcnpdecoblaaDoor.marksEscapes
open Go.ChangeMaps (open_string shut_string)
open Go.ChangeShapes Go.WideShapes Go.ChangeAt Go.RowKit Go.Proofs.YtlpfcnpdecoblaaDoor Go.Proofs.YtlpfcnpdecoblaaDoor.Hp Go.Proofs.YtlpfcnpdecoblaaDoor.Marks
set_option linter.unusedVariables false
attribute [local go_sem] Oper.semAt_some

def RdPost (l : List Ch) (n : Nat) (r : Int) (w : World) (e : Ending) (w' : World) : Prop := ∃ p cap, e = .returned (.tuple #[.slice p n cap, .int .i64 r]) ∧ CharsAt w' p cap l ∧ Below w.heap.size w w'
def TxPost (l : List Ch) (n : Nat) (w : World) (e : Ending) (w' : World) : Prop := ∃ p cap, e = .returned (.slice p n cap) ∧ CharsAt w' p cap l ∧ Below w.heap.size w w'
theorem rdL_len (s : ByteArray) (hm : s.size ≤ 2000) : ∀ w : World, (rdL (readP false (bs s))).length ≤ 2000 := by
  intro w
  have key : ∀ (l : List UInt8) (q : Bool), (rdL (readP q l)).length ≤ l.length := by
    have hl : ∀ (r : Option (List Ch)) (f : List Ch → List Ch) (n : Nat), (∀ x, (f x).length = x.length + 1) → (rdL r).length ≤ n → (rdL (r.map f)).length ≤ n + 1 := by
      intro r f n hf h
      cases r with
      | none => simp [rdL]
      | some x => simp only [rdL, Option.map_some, Option.getD_some] at h ⊢; rw [hf]; omega
    have main : ∀ (n : Nat) (l : List UInt8) (q : Bool), l.length ≤ n → (rdL (readP q l)).length ≤ l.length := by
      intro n
      induction n with
      | zero =>
        intro l q h
        have : l = [] := List.eq_nil_of_length_eq_zero (by omega)
        subst this
        cases q <;> simp [readP, rdL]
      | succ n ih =>
        intro l q h
        cases l with
        | nil => cases q <;> simp [readP, rdL]
        | cons c t =>
          have h1 := ih t false (by simp at h; omega)
          have h2 := ih t true (by simp at h; omega)
          cases q with
          | true =>
            rw [readP_true]
            split
            · simp only [List.length_cons]; omega
            · simp only [List.length_cons]; exact hl _ _ _ (fun x => rfl) h2
          | false =>
            by_cases c39 : (c == 39) = true
            · have : c = 39 := by simpa using c39
              rw [this, readP_quote]; simp only [List.length_cons]; omega
            · have e39 : (c == 39) = false := by simpa using c39
              by_cases c92 : (c == 92) = true
              · have : c = 92 := by simpa using c92
                rw [this]
                cases t with
                | nil => rw [readP_slash1]; simp [rdL]
                | cons d u =>
                  have h3 := ih u false (by simp at h; omega)
                  rw [readP_slash]
                  split
                  · simp only [List.length_cons]; omega
                  · simp only [List.length_cons]
                    have := hl (readP false u) (⟨d, true⟩ :: ·) _ (fun x => rfl) h3
                    omega
              · have e92 : (c == 92) = false := by simpa using c92
                rw [readP_other _ _ e39 e92]
                simp only [List.length_cons]
                exact hl _ _ _ (fun x => rfl) h1
    exact fun l q => main l.length l q (Nat.le_refl _)
  have := key (bs s) false
  rw [bs_length] at this
  omega
set_option maxRecDepth 100000 in
set_option maxHeartbeats 8000000 in
theorem walk (ao : Option Addr) (ca : Nat) (t : List Ch) (s : ByteArray) (W : World) (ht : CharsAt W ao ca t) (hs63 : (s.size : Int) ≤ 9223372036854775807) :
    Calls Tryd.prog 3 #[.slice ao t.length ca, .string s] W (FPost true W) := by
  by_cases h1 : t.length ≤ 2000
  · have h1' : (t.length : Int) ≤ 2000 := by omega
    by_cases h2 : s.size ≤ 2000
    · have h2' : (s.size : Int) ≤ 2000 := by omega
      have Ht := Lib.hid ht
      have hrl := rdL_len s h2 W
      obtain ⟨l, hl⟩ : ∃ l, l = rdL (readP false (bs s)) := ⟨_, rfl⟩
      obtain ⟨r, hr⟩ : ∃ r, r = rdE (readP false (bs s)) := ⟨_, rfl⟩
      obtain ⟨n, hn⟩ : ∃ n, n = l.length := ⟨_, rfl⟩
      have hrd := fun w => read_calls s w (by omega)
      have hrr := fun w => rread_calls s w (by omega)
      unfold ReadPost at hrd hrr
      rw [← hl] at hrl
      rw [← hn] at hrl
      have Hrd := Lib.hid (fun w => (hrd w).mono (fun e w' h => (show RdPost l n r w e w' from by obtain ⟨p, c, h1, h2, h3⟩ := h; rw [← hl, ← hr, ← hn] at h1; rw [← hl] at h2; exact ⟨p, c, h1, h2, h3⟩)))
      have Hrr := Lib.hid (fun w => (hrr w).mono (fun e w' h => (show RdPost l n r w e w' from by obtain ⟨p, c, h1, h2, h3⟩ := h; rw [← hl, ← hr, ← hn] at h1; rw [← hl] at h2; exact ⟨p, c, h1, h2, h3⟩)))
      have Htx := Lib.hid (fun (w : World) p c (h : CharsAt w p c l) => (text_calls l p c w h (by omega)).mono (fun e w' h => (show TxPost l n w e w' from by obtain ⟨p, c, h1, h2, h3⟩ := h; rw [← hn] at h1; exact ⟨p, c, h1, h2, h3⟩)))
      rw [hn] at Htx
      have Hsm := Lib.hid (fun (w : World) p q c d (h : CharsAt w p c l) (k : CharsAt w q d l) => same_calls l p q c d w h k)
      rw [← hn] at Htx Hsm
      have hch := Lib.hid (fun w => chomp_calls s w hs63)
      have hrc := Lib.hid (fun w => rchomp_calls s w hs63)
      obtain ⟨sc, hsc⟩ : ∃ x, x = (⟨(chompL (bs s)).toArray⟩ : ByteArray) := ⟨_, rfl⟩
      rw [← hsc] at hch hrc
      have hes := Lib.hid (fun (w : World) (k : Kept W w) => escape_calls t ao ca w (Ht.out.keep k) (by omega))
      have hre := Lib.hid (fun (w : World) p c (h : CharsAt w p c t) => rescape_calls t p c w h (by omega))
      unfold EscPost at hes hre
      obtain ⟨se, hse⟩ : ∃ x, x = (⟨(escL t).toArray⟩ : ByteArray) := ⟨_, rfl⟩
      rw [← hse] at hes hre
      have htt := Lib.hid (fun (w : World) (k : Kept W w) => text_calls t ao ca w (Ht.out.keep k) (by omega))
      clear ht hrd hrr hl hr hn hsc hse
      go_enter Tryd.func3, Tryd.ntmps3
      go_wp2_with fail
      refine (Hrd.out W).mono ?_
      rintro e w1 ⟨p1, c1, rfl, hC1, b1⟩
      have C1 := Lib.hid hC1
      have B1 := Lib.hid b1
      clear hC1 b1 Hrd
      go_wp2_with fail
      refine (Hrr.out w1).mono ?_
      rintro e w2 ⟨p2, c2, rfl, hC2, b2⟩
      have C1 := Lib.hid (C1.out.keep (Kept.below b2))
      have C2 := Lib.hid hC2
      have B2 := Lib.hid (bt B1.out b2)
      clear hC2 b2 Hrr
      go_wp2_with fail
      refine (hes.out w2 (Kept.below B2.out)).mono ?_
      rintro e w3 ⟨rfl, b3⟩
      have B3 := Lib.hid (bt B2.out b3)
      have K3 := Lib.hid (Kept.below b3)
      clear b3 hes
      go_wp2_with fail
      refine (htt.out w3 (Kept.below B3.out)).mono ?_
      rintro e w4 ⟨p4, c4, rfl, hC4, b4⟩
      have B4 := Lib.hid (bt B3.out b4)
      have K4 := Lib.hid (K3.out.trans (Kept.below b4))
      have hre4 := Lib.hid (hre.out w4 p4 c4 hC4)
      clear hC4 b4 hre htt
      go_wp2_with fail
      refine hre4.out.mono ?_
      rintro e w5 ⟨rfl, b5⟩
      have B5 := Lib.hid (bt B4.out b5)
      have K5 := Lib.hid (K4.out.trans (Kept.below b5))
      have Htx5 := Lib.hid (Htx.out w5 p1 c1 (C1.out.keep K5.out))
      clear b5 hre4 K3 K4
      go_wp2_with fail
      refine Htx5.out.mono ?_
      rintro e w6 ⟨p6, c6, rfl, hC6, b6⟩
      have B6 := Lib.hid (bt B5.out b6)
      have Hsm6 := Lib.hid (Hsm.out w6 p6 p2 c6 c2 hC6 (C2.out.keep (K5.out.trans (Kept.below b6))))
      clear b6 Htx5 hC6
      go_wp2_with fail
      refine Hsm6.out.mono ?_
      rintro e w7 ⟨rfl, b7⟩
      have B7 := Lib.hid (bt B6.out b7)
      clear b7 Hsm6
      go_wp2_with fail
      refine (hch.out w7).mono ?_
      rintro e w8 ⟨rfl, rfl⟩
      go_wp2_with fail
      refine (hrc.out w7).mono ?_
      rintro e w8 ⟨rfl, rfl⟩
      go_wp2_with fail
      refine (awake_calls w7).mono ?_
      rintro e w9 ⟨rfl, b9⟩
      go_wp2_with fail
      go_ret
      exact ⟨rfl, bt B7.out b9⟩
    · have h2' : (2000 : Int) < (s.size : Int) := by omega
      clear ht
      go_enter Tryd.func3, Tryd.ntmps3
      go_wp2_with fail
      refine (awake_calls W).mono ?_
      rintro e w9 ⟨rfl, b9⟩
      go_wp2_with fail
      go_ret
      exact ⟨rfl, b9⟩
  · have h1' : (2000 : Int) < (t.length : Int) := by omega
    clear ht
    go_enter Tryd.func3, Tryd.ntmps3
    go_wp2_with fail
    refine (awake_calls W).mono ?_
    rintro e w9 ⟨rfl, b9⟩
    go_wp2_with fail
    go_ret
    exact ⟨rfl, b9⟩

set_option maxRecDepth 100000 in
theorem lifted (os : Os) (started : os.Started) (H : Type) (enc : TypeId × Value → H) :
    ReturnsInHanded {} Tryd.checked os 3 .any (fun w args => (Rows.marksEscapesSpec.pre enc Tryd.prog Tryd.f3 Rows.marksEscapesRow.domain false w args ∧ laidMetH Tryd.prog Rows.marksEscapesRow.laid w) ∧ sizedMet enc Tryd.prog Tryd.f3 (OpenSpec.ofChange Rows.marksEscapesSpec) false w args) (Rows.marksEscapesSpec.post enc Tryd.prog Tryd.f3 false true false false) := by
  refine returnsInHanded_of_change_and (C := Tryd.checked) (X := fun w _ => laidMetH Tryd.prog Rows.marksEscapesRow.laid w) (fun _ _ _ hh h => h.of_heap hh) own started (by kernel_rfl) Tryd.func3
    (ChangeSpec.witness_shaped (enc := enc) (C := Tryd.checked) (os := os) (X := fun w _ => laidMetH Tryd.prog Rows.marksEscapesRow.laid w) false (World.laidAll Tryd.prog os Rows.marksEscapesRow.laid) #[.slice none 0 0, .string ⟨#[]⟩] 8 (World.laidAll_os _ _ _)
      (World.shaped_of_ZipB (by kernel_rfl) (by kernel_rfl)) (by kernel_rfl) (by kernel_rfl) (by kernel_rfl)
      (by rw [MakeChecks.laidMetH_plain _ _ _ (by kernel_rfl)]; exact laidMet_laidAll _ (by kernel_rfl) (by kernel_rfl))) ?_
  intro W base args ds gs before hval0 hW hcnd _ hL _
  have hval : ∀ (j : Nat) t v, Tryd.f3.params[j]? = some t → args[j]? = some v → Value.okWide Tryd.prog W .any base t v := hval0
  have hW' := hW
  obtain ⟨p, q, hA0, hV, rfl, hfz, hnd⟩ := hW
  have hA : DataW.TrodAll enc Tryd.prog W 0 (fun _ => true) true Tryd.f3.params.toList args.toList ds p := hA0
  rw [Tryd.params3] at hA hval
  obtain ⟨v0, vs0, d0, ds0, p0, q0, hargs, rfl, rfl, h0, r0⟩ := trodAll_cons hA
  obtain ⟨v1, vs1, d1, ds1, p1, q1, rfl, rfl, rfl, h1, r1⟩ := trodAll_cons r0
  obtain ⟨rfl, rfl, rfl⟩ := trodAll_nil r1
  obtain rfl : args = #[v0, v1] := by cases args; simp_all
  obtain ⟨rfl, rfl⟩ := trodVars_none hV
  have k0 := h0
  have lt0 : ∀ x ∈ p0, x.block < W.heap.size := by obtain ⟨m, hm⟩ := k0; exact DataW.trod_lt m _ _ _ hm
  obtain ⟨ao0, l0, cap0, rfl, w0⟩ := chars_open (hval 0 22 v0 rfl rfl) h0
  obtain ⟨s1, rfl, rfl, rfl, w1⟩ := open_string Tryd.underlying9 (hval 1 9 v1 rfl rfl) h1
  clear hA0 hval0
  refine (walk ao0 cap0 l0 s1 W w0 (by unfold maxLen at w1; omega)).mono fun e W' ⟨he, bel⟩ => ?_
  subst he
  exact ⟨_, rfl, _, _, _, [], _, [], hW', trodAll_mk1 (shut_bool Tryd.underlying4 _), (trodAll_cons_mk (Below.trod laidOut (by kernel_rfl) (of_decide_eq_true (by kernel_rfl)) k0 bel lt0) (trodAll_cons_mk (shut_string Tryd.underlying9 w1) trodAll_mk0)), rfl, bel.frame _, fun h => by cases h⟩

theorem over : Rows.marksEscapesRow.holds Tryd.pinned (OpenSpec.ofChange Rows.marksEscapesSpec) :=
  OpenClaim.holds_of_wide 3 Tryd.f3 rfl rfl rfl rfl rfl rfl rfl ⟨rfl, rfl, rfl, rfl, rfl⟩ rfl rfl rfl rfl rfl (by kernel_rfl) Tryd.func3 (by kernel_rfl)
    (of_decide_eq_true (by kernel_rfl)) (by unfold Func.isWrapper; first | (rw [if_pos (by decide +kernel)]; kernel_rfl) | (rw [if_neg (by decide +kernel)]; exact ⟨rfl, rfl⟩))
    (fun os started H enc _ => lifted os started H enc)

theorem proved : Rows.MarksEscapesCardSaid :=
  Claim7.holds_tied_plain_at .later [] [.data, .pinned] true (true, "f482e89116bc99bf43e4e1caee790152a011ea106b481086dbda4c4ef674d186") false over (fun _ h => by cases h) (by kernel_rfl) (fun _ h => by cases h) marksEscapes_row_tie rfl ⟨rfl, rfl⟩ (by kernel_rfl) rfl
    (fun f fn hf hfn => by
      obtain rfl : f = 3 := Option.some.inj ((show Tryd.prog.funcNamed "whelk/whelklaw01.MarksEscapes" = some 3 by kernel_rfl).symm.trans hf) |>.symm
      obtain rfl : fn = Tryd.f3 := (Option.some.inj (Tryd.func3.symm.trans hfn)).symm
      exact ⟨by kernel_rfl, fun j t ht => by
        rw [Tryd.params3] at ht
        have hm : t ∈ [22, 9] := by simpa using Array.mem_of_getElem? ht
        have hall : ([22, 9].all fun u => !Tryd.prog.wantsStandIn u) = true := by kernel_rfl
        exact (show Tryd.prog.wantsStandIn t = false by simpa using List.all_eq_true.1 hall t hm)⟩)
    (by kernel_rfl)
#print axioms proved
end Go.Proofs.YtlpfcnpdecoblaaDoor.marksEscapes
