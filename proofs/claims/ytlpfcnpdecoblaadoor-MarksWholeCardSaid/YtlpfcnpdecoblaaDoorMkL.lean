/- The document's Same at equal texts; the law's Same. -/
import Derived.Test.YtlpfcnpdecoblaaDoorMkK
namespace Go.Proofs.YtlpfcnpdecoblaaDoor.Marks
open Go.RowKit Go.Proofs.YtlpfcnpdecoblaaDoor Go.Proofs.YtlpfcnpdecoblaaDoor.Hp
set_option linter.unusedVariables false
attribute [local go_sem] Oper.semAt_some

def SmRel (n : Nat) (w : World) (g : Nat) (iv : Value) (wr : World) : Prop := ∃ i : Nat, i + g = n ∧ iv = .int .i64 (i : Int) ∧ Below w.heap.size w wr
set_option maxRecDepth 100000 in
set_option maxHeartbeats 2000000 in
theorem same_calls (t : List Ch) (pa pb : Option Addr) (ca cb : Nat) (w : World) (h : CharsAt w pa ca t) (k : CharsAt w pb cb t) :
    Calls Tryd.prog 15 #[.slice pa t.length ca, .slice pb t.length cb] w (FPost true w) := by
  have hlm : (t.length : Int) ≤ 9223372036854775807 := by have := h.1; have := h.2.1; omega
  have H := Lib.hid h
  have K := Lib.hid k
  clear h k
  go_enter Tryd.func15, Tryd.ntmps15
  go_wp2_with fail
  go_loopg [5] (t.length) (SmRel t.length w)
  case atStart => exact ⟨0, by omega, rfl, Below.refl _ _⟩
  case round =>
    obtain ⟨i, hig, rfl, hbel⟩ := hrel
    have hi0 : (0 : Int) ≤ i := by omega
    by_cases hi : i < t.length
    · have hil : (i : Int) < t.length := by omega
      obtain ⟨ab, ao, rfl, hab, a0, a1⟩ := (H.out.keep (Kept.below hbel)).2.2 i hi
      obtain ⟨bb, bo, rfl, hbb, b0, b1⟩ := (K.out.keep (Kept.below hbel)).2.2 i hi
      obtain ⟨x, hx⟩ : ∃ x, x = t[i] := ⟨_, rfl⟩
      rw [← hx] at a0 a1 b0 b1
      obtain ⟨xb, xq⟩ := x
      dsimp only at a0 a1 b0 b1
      have Hig := Lib.hid hig
      clear hx hig
      go_wp2_with fail
      refine Go.Proofs.YtlpfcnpdecoblaaDoor.region_plan (S := (fun w' => (w'.cell? ⟨ab, ao + i * 2, none⟩ = some (.int .u8 xb.toNat) ∧ w'.cell? ⟨ab, ao + i * 2 + 1, none⟩ = some (.bool xq)) ∧ w'.cell? ⟨bb, bo + i * 2, none⟩ = some (.int .u8 xb.toNat) ∧ w'.cell? ⟨bb, bo + i * 2 + 1, none⟩ = some (.bool xq))) [(0, true), (1, true), (2, true), (3, true), (4, true), (5, true), (6, true), (7, true), (8, true)] (by kernel_rfl) (by kernel_rfl) (by kernel_rfl) ?_ ?_
      · ((try dsimp only); (first | done | (exact ⟨⟨a0, a1⟩, b0, b1⟩)))
      simp only [Go.Proofs.YtlpfcnpdecoblaaDoor.planOps, List.map_cons, List.map_nil, List.getElem?_toArray, List.getElem?_cons_zero, List.getElem?_cons_succ]
      repeat (first
        | ((refine Go.Proofs.YtlpfcnpdecoblaaDoor.plan_yes (v := ?_) (by rfl) ?_ ?_); rotate_left; (focus (intro w hSw; (try dsimp only at hSw); go_simp; try (with_reducible rfl))); (try simp only [Act.put, List.setIfInBounds_toArray, List.set_cons_zero, List.set_cons_succ]))
        | ((refine Go.Proofs.YtlpfcnpdecoblaaDoor.plan_no (by rfl) ?_); (try simp only [Act.put, List.setIfInBounds_toArray, List.set_cons_zero, List.set_cons_succ]))
        | ((refine Go.Proofs.YtlpfcnpdecoblaaDoor.plan_step (fun K hK => ?_)); (first | (fail) | (go_simp; (fail); (try go_wp2_with fail)) | go_simp); (refine hK.out _ _ ?_ (fun hHeld => ?_)); (focus ((try dsimp only); (first | done | (exact ⟨⟨a0, a1⟩, b0, b1⟩)))); clear hK K; (try simp only [Act.put, List.setIfInBounds_toArray, List.set_cons_zero, List.set_cons_succ])))
      refine Go.Proofs.YtlpfcnpdecoblaaDoor.plan_done ?_
      go_wp2_with fail
      go_roundg (gk - 1)
      case measure => have := Hig.out; omega
      case rel => exact ⟨i + 1, by have := Hig.out; omega, by go_num, hbel.drew⟩
    · have hge : ¬ ((i : Int) < t.length) := by omega
      go_wp2_with fail
      go_ret
      exact ⟨rfl, hbel⟩
set_option maxHeartbeats 1000000 in
theorem lsame_calls (t : List Ch) (pa pb : Option Addr) (ca cb : Nat) (w : World) (h : CharsAt w pa ca t) (k : CharsAt w pb cb t) (hm : t.length ≤ 100000) :
    Calls Tryd.prog 18 #[.slice pa t.length ca, .slice pb t.length cb] w (FPost true w) := by
  have h1 := Lib.hid (text_calls t pa ca w h hm)
  have h2 := Lib.hid (fun w1 (b : Below w.heap.size w w1) => text_calls t pb cb w1 (k.keep (Kept.below b)) hm)
  clear h k
  go_enter Tryd.func18, Tryd.ntmps18
  go_wp2_with fail
  refine h1.out.mono ?_
  rintro e w1 ⟨p1, c1, rfl, hC1, b1⟩
  have C1 := Lib.hid hC1
  have B1 := Lib.hid b1
  clear hC1 b1
  go_wp2_with fail
  refine (h2.out w1 B1.out).mono ?_
  rintro e w2 ⟨p2, c2, rfl, hC2, b2⟩
  have h3 := Lib.hid (same_calls t p1 p2 c1 c2 w2 (C1.out.keep (Kept.below b2)) hC2)
  have B2 := Lib.hid (bt B1.out b2)
  clear hC2 b2
  go_wp2_with fail
  refine h3.out.mono ?_
  rintro e w3 ⟨rfl, b3⟩
  go_wp2_with fail
  go_ret
  exact ⟨rfl, bt B2.out b3⟩
/-- What is escaped is read as it was. -/
theorem read_escape : ∀ t : List Ch, t.any badC = false → readP false (t.flatMap escB) = some t := by
  intro t
  induction t with
  | nil => intro _; rfl
  | cons c t ih =>
    intro h
    simp only [List.any_cons, Bool.or_eq_false_iff] at h
    obtain ⟨h1, h2⟩ := h
    have ih := ih h2
    rw [List.flatMap_cons]
    obtain ⟨b, q⟩ := c
    cases q with
    | false =>
      have e : escB ⟨b, false⟩ = [b] := by unfold escB; simp
      simp only [badC, Bool.not_false, Bool.true_and, Bool.or_eq_false_iff] at h1
      rw [e, List.singleton_append, readP_other _ _ h1.2 h1.1, ih]; rfl
    | true =>
      by_cases h10 : b = 10
      · subst h10
        have e : escB ⟨10, true⟩ = [39, 10, 39] := rfl
        rw [e]
        show readP false (39 :: ([10] ++ 39 :: t.flatMap escB)) = _
        rw [readP_quote, readP_in [10] _ (by decide), ih]; rfl
      · have e : escB ⟨b, true⟩ = [92, b] := by
          unfold escB
          have : (b == 10) = false := by simpa using h10
          simp [this]
        rw [e]
        show readP false (92 :: b :: t.flatMap escB) = _
        rw [readP_slash, if_neg (by simpa using h10), ih]; rfl
end Go.Proofs.YtlpfcnpdecoblaaDoor.Marks
