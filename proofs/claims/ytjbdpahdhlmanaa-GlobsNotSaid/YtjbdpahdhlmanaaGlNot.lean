/- GlobsNot: a group and the same one with the other Not fit each byte between them, none both: the law returns true, for all ranges and bytes. -/
import Derived.Test.YtjbdpahdhlmanaaGlL
import Derived.Test.YtjbdpahdhlmanaaGlO
namespace Go.Proofs.Ytjbdpahdhlmanaa.globsNot
open Go.ChangeShapes Go.WideShapes Go.ChangeAt Go.RowKit Go.Proofs.Ytjbdpahdhlmanaa Go.Proofs.Ytjbdpahdhlmanaa.Hp Go.Proofs.Ytjbdpahdhlmanaa.Globs
set_option linter.unusedVariables false

theorem match_group (neg : Bool) (rs : List Rg) (c : UInt8) : matchB [⟨4, 0, neg, rs⟩] [c] = (inR rs c != neg) := by
  show (fitsI ⟨4, 0, neg, rs⟩ c && may noHard ⟨4, 0, neg, rs⟩ 0 && true) = _
  have h1 : fitsI ⟨4, 0, neg, rs⟩ c = (inR rs c != neg) := rfl
  rw [h1]
  show ((inR rs c != neg) && true && true) = _
  cases (inR rs c != neg) <;> rfl
theorem items_one {w : World} {ra : Option Addr} {rc : Nat} {rs : List Rg} {neg : Bool} (h : RgAt w ra rs) {b : Nat} (hb : w.heap.size = b) :
    ItemsAt (w.alloc (.cells #[.int .i64 4, .int .u8 0, .bool neg, .slice ra rs.length rc] 42)) (some ⟨b, 0, none⟩) [⟨4, 0, neg, rs⟩] := by
  subst hb
  refine ⟨by simp, fun i hi => ?_⟩
  obtain rfl : i = 0 := by simp at hi; omega
  have hg := heap_alloc_new w (.cells #[.int .i64 4, .int .u8 0, .bool neg, .slice ra rs.length rc] 42)
  exact ⟨w.heap.size, 0, ra, rc, rfl, by simp, by rw [cell_at hg]; rfl, by rw [cell_at hg]; rfl, by rw [cell_at hg]; rfl, by rw [cell_at hg]; rfl, h.keep (kept_alloc _ _)⟩
set_option maxRecDepth 100000 in
set_option maxHeartbeats 1000000 in
theorem walk (ra : Option Addr) (rc : Nat) (rs : List Rg) (c : UInt8) (W : World) (h : RgAt W ra rs) :
    Calls Try.prog 8 #[.slice ra rs.length rc, .int .u8 c.toNat] W fun e w' => e = .returned (.bool true) ∧ Below W.heap.size W w' := by
  have hl := h.1
  by_cases h60 : rs.length ≤ 60
  · have h60' : (rs.length : Int) ≤ 60 := by omega
    have hcv : ∀ w : World, w.heap[W.heap.size]? = some (.cells #[.int .u8 c.toNat] 5 (0, 0)) → (convert 43 9 (.slice (some ⟨W.heap.size, 0, none⟩) 1 1)).run Try.prog w = .ok (.string ⟨#[c]⟩) w := fun w hw => by
      have := run_convert_bytes_back (P := Try.prog) w 43 9 5 ⟨W.heap.size, 0, none⟩ 1 [c] Try.underlying43 Try.underlying5 Try.underlying9 (fun j hj => by
        obtain rfl : j = 0 := by simp at hj; omega
        rw [Addr.add_lit, cell_at hw]; rfl)
      exact this
    have hcv1 := hcv (W.alloc (.cells #[.int .u8 c.toNat] 5)) (heap_alloc_new W _)
    have h1 := h.keep (kept_alloc W (.cells #[.int .u8 c.toNat] 5))
    have I1 := items_one (rc := rc) (neg := false) h1 (b := W.heap.size + 1) (by simp)
    have hb0 : Below W.heap.size W (W.alloc (.cells #[.int .u8 c.toNat] 5)) := (Below.refl _ _).alloc (Nat.le_refl _) _
    have hb1 : Below W.heap.size W ((W.alloc (.cells #[.int .u8 c.toNat] 5)).alloc (.cells #[.int .i64 4, .int .u8 0, .bool false, .slice ra rs.length rc] 42)) := hb0.alloc hb0.size _
    have hr1 := h1.keep (kept_alloc _ (.cells #[.int .i64 4, .int .u8 0, .bool false, .slice ra rs.length rc] 42))
    have HI1 := Lib.hid I1
    clear hcv h I1 hb0
    cases hin : inR rs c with
    | false =>
      go_enter Try.func8, Try.ntmps8
      go_wp2_with fail
      refine (match_lit [⟨4, 0, false, rs⟩] ⟨#[c]⟩ (some ⟨W.heap.size + 1, 0, none⟩) 1 1 _ false rfl ((match_group false rs c).trans (by rw [hin]; rfl)) (by exact HI1.out) (show (((1 : Nat) : Int) ≤ 9223372036854775806) by omega)).mono ?_
      rintro e w1 ⟨rfl, b1⟩
      have hr2 := hr1.keep (Kept.below b1)
      have hb2 := hb1.trans (b1.mono hb1.size)
      have HI2 := Lib.hid (items_one (rc := rc) (neg := true) hr2 rfl)
      have hb3 := hb2.alloc hb2.size (.cells #[.int .i64 4, .int .u8 0, .bool true, .slice ra rs.length rc] 42)
      clear hcv1 h1 hr1 hb1 b1 HI1 hb2
      go_wp2_with fail
      refine (match_lit [⟨4, 0, true, rs⟩] ⟨#[c]⟩ (some ⟨w1.heap.size, 0, none⟩) 1 1 _ true rfl ((match_group true rs c).trans (by rw [hin]; rfl)) (by exact HI2.out) (show (((1 : Nat) : Int) ≤ 9223372036854775806) by omega)).mono ?_
      rintro e w2 ⟨rfl, b2⟩
      have hb4 := hb3.trans (b2.mono hb3.size)
      clear HI2 hr2 b2 hb3
      go_wp2_with fail
      refine (awake_calls _).mono ?_
      rintro e w3 ⟨rfl, b3⟩
      go_wp2_with fail
      go_ret
      exact ⟨rfl, hb4.trans (b3.mono hb4.size)⟩
    | true =>
      go_enter Try.func8, Try.ntmps8
      go_wp2_with fail
      refine (match_lit [⟨4, 0, false, rs⟩] ⟨#[c]⟩ (some ⟨W.heap.size + 1, 0, none⟩) 1 1 _ true rfl ((match_group false rs c).trans (by rw [hin]; rfl)) (by exact HI1.out) (show (((1 : Nat) : Int) ≤ 9223372036854775806) by omega)).mono ?_
      rintro e w1 ⟨rfl, b1⟩
      have hr2 := hr1.keep (Kept.below b1)
      have hb2 := hb1.trans (b1.mono hb1.size)
      have HI2 := Lib.hid (items_one (rc := rc) (neg := true) hr2 rfl)
      have hb3 := hb2.alloc hb2.size (.cells #[.int .i64 4, .int .u8 0, .bool true, .slice ra rs.length rc] 42)
      clear hcv1 h1 hr1 hb1 b1 HI1 hb2
      go_wp2_with fail
      refine (match_lit [⟨4, 0, true, rs⟩] ⟨#[c]⟩ (some ⟨w1.heap.size, 0, none⟩) 1 1 _ false rfl ((match_group true rs c).trans (by rw [hin]; rfl)) (by exact HI2.out) (show (((1 : Nat) : Int) ≤ 9223372036854775806) by omega)).mono ?_
      rintro e w2 ⟨rfl, b2⟩
      have hb4 := hb3.trans (b2.mono hb3.size)
      clear HI2 hr2 b2 hb3
      go_wp2_with fail
      refine (awake_calls _).mono ?_
      rintro e w3 ⟨rfl, b3⟩
      go_wp2_with fail
      go_ret
      exact ⟨rfl, hb4.trans (b3.mono hb4.size)⟩
  · have h60' : ¬ ((rs.length : Int) ≤ 60) := by omega
    clear h
    go_enter Try.func8, Try.ntmps8
    go_wp2_with fail
    refine (awake_calls _).mono ?_
    rintro e w3 ⟨rfl, b3⟩
    go_wp2_with fail
    go_ret
    exact ⟨rfl, b3⟩

set_option maxRecDepth 100000 in
theorem lifted (os : Os) (started : os.Started) (H : Type) (enc : TypeId × Value → H) :
    ReturnsInHanded {} Try.checked os 8 .any (Rows.globsNotSpec.pre6 enc Try.prog Try.f8 Rows.globsNotRow.domain false) (Rows.globsNotSpec.post enc Try.prog Try.f8 false true false false) := by
  refine returnsInHanded_of_change (C := Try.checked) own started (by kernel_rfl) Try.func8
    (ChangeSpec.witness6 (enc := enc) (C := Try.checked) false ⟨#[], #[.slice none 0 0, .int .u8 0], []⟩ 8 (by kernel_rfl) (by kernel_rfl) (by kernel_rfl) (by kernel_rfl)) ?_
  intro W base args ds gs before hval0 hW hcnd _
  have hval : ∀ (j : Nat) t v, Try.f8.params[j]? = some t → args[j]? = some v → Value.okWide Try.prog W .any base t v := hval0
  have hW' := hW
  obtain ⟨p, q, hA0, hV, rfl, hfz, hnd⟩ := hW
  have hA : DataW.TrodAll enc Try.prog W 0 (fun _ => true) true Try.f8.params.toList args.toList ds p := hA0
  rw [Try.params8] at hA hval
  obtain ⟨v0, vs0, d0, ds0, p0, q0, hargs, rfl, rfl, h0, r0⟩ := trodAll_cons hA
  obtain ⟨v1, vs1, d1, ds1, p1, q1, rfl, rfl, rfl, h1, r1⟩ := trodAll_cons r0
  obtain ⟨rfl, rfl, rfl⟩ := trodAll_nil r1
  obtain rfl : args = #[v0, v1] := by cases args; simp_all
  obtain ⟨rfl, rfl⟩ := trodVars_none hV
  have k0 := h0
  have lt0 : ∀ x ∈ p0, x.block < W.heap.size := by obtain ⟨m, hm⟩ := k0; exact DataW.trod_lt m _ _ _ hm
  obtain ⟨ao0, l0, cap0, rfl, w0⟩ := rgs_open (hval 0 40 v0 rfl rfl) h0
  obtain ⟨a1, rfl, rfl, rfl, w1⟩ := open_int Try.underlying5 (hval 1 5 v1 rfl rfl) h1
  obtain ⟨c1, rfl⟩ := u8_of w1
  clear hA0 hval0
  refine (walk ao0 cap0 l0 c1 W w0 ).mono fun e W' ⟨he, bel⟩ => ?_
  subst he
  exact ⟨_, rfl, _, _, _, [], _, [], hW', trodAll_mk1 (shut_bool Try.underlying4 _), (trodAll_cons_mk (Below.trod laidOut (by kernel_rfl) (of_decide_eq_true (by kernel_rfl)) k0 bel lt0) (trodAll_cons_mk (shut_int Try.underlying5 w1) trodAll_mk0)), rfl, bel.frame _, fun h => by cases h⟩

theorem over : Rows.globsNotRow.holds Try.pinned (OpenSpec.ofChange Rows.globsNotSpec) :=
  OpenClaim.holds_of_wide 8 Try.f8 rfl rfl rfl rfl rfl rfl rfl ⟨rfl, rfl, rfl, rfl, rfl⟩ rfl rfl rfl rfl rfl (by kernel_rfl) Try.func8 (by kernel_rfl)
    (of_decide_eq_true (by kernel_rfl)) (by unfold Func.isWrapper; first | (rw [if_pos (by decide +kernel)]; kernel_rfl) | (rw [if_neg (by decide +kernel)]; exact ⟨rfl, rfl⟩))
    (fun os started H enc _ => lifted os started H enc)

theorem proved : Rows.GlobsNotSaid := over
#print axioms proved
end Go.Proofs.Ytjbdpahdhlmanaa.globsNot
