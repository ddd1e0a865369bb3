/- GlobsAll: which texts out of an alphabet a pattern fits: the law returns true, for all patterns, alphabets and lengths. -/
import Derived.Test.YtjbdpahdhlmanaaGlAp
import Derived.Test.YtjbdpahdhlmanaaGlU
import Derived.ChangeMaps5
namespace Go.Proofs.Ytjbdpahdhlmanaa.globsAll
open Go.ChangeShapes Go.WideShapes Go.ChangeAt Go.RowKit Go.Proofs.Ytjbdpahdhlmanaa Go.Proofs.Ytjbdpahdhlmanaa.Hp Go.Proofs.Ytjbdpahdhlmanaa.Globs
open Go.ChangeMaps (open_string shut_string)
set_option linter.unusedVariables false

def LRel (n : Nat) (w : World) (g : Nat) (iv : Value) (wr : World) : Prop := ∃ i : Nat, i + g = n ∧ iv = .int .i64 (i : Int) ∧ Below w.heap.size w wr
set_option maxRecDepth 100000 in
set_option maxHeartbeats 4000000 in
theorem walk (ap : Option Addr) (cp : Nat) (p : List Itm) (s : ByteArray) (most : Int) (W : World) (hp : ItemsAt W ap p) (hs : (s.size : Int) ≤ 9223372036854775807) (hmost : I64 most) :
    Calls Try.prog 10 #[.slice ap p.length cp, .string s, .int .i64 most] W fun e w' => e = .returned (.bool true) ∧ Below W.heap.size W w' := by
  have hpl := hp.1
  by_cases hfp : Few p
  · by_cases h20 : p.length ≤ 20
    · have e20 : (p.length : Int) ≤ 20 := by omega
      by_cases h300 : s.size ≤ 300
      · have e3 : (s.size : Int) ≤ 300 := by omega
        have HC := Lib.hid (all_calls p s most ap cp W hp h300 hmost)
        have HR : Hid (∀ ao cap w, ItemsAt w ao p → Calls Try.prog 31 #[.slice ao p.length cap, .string s, .int .i64 most] w (AllPost (allL p s most) (allE s most) w)) := Lib.hid fun ao cap w h => rall_calls p s most ao cap w h h300 hmost
        obtain ⟨l, hl⟩ : ∃ l, l = allL p s most := ⟨_, rfl⟩
        obtain ⟨er, her⟩ : ∃ x, x = allE s most := ⟨_, rfl⟩
        rw [← hl, ← her] at HC HR
        have hee : (er == er) = true := beq_self_eq_true _
        clear hl her hmost
        go_enter Try.func10, Try.ntmps10
        go_wp2_with fail
        refine (few_yes _ _ _ p (by exact hp) hfp).mono ?_
        rintro e w1 ⟨rfl, rfl⟩
        go_wp2_with fail
        refine HC.out.mono ?_
        rintro e w2 ⟨qa, ca, rfl, hA, b2⟩
        have B2 : Below W.heap.size W w2 := b2
        have I2 := hp.keep (Kept.below b2)
        clear b2 hp HC
        go_wp2_with fail
        refine (items_calls p ap cp _ I2 (by omega) (fun x hx => by have := hfp.2 x hx; omega)).mono ?_
        rintro e w3 ⟨a3, c3, rfl, J3, b3⟩
        have B3 := B2.trans (b3.mono B2.size)
        have A3 := hA.keep (Kept.below b3)
        clear B2 I2 b3 hA
        go_wp2_with fail
        refine (HR.out _ _ _ J3).mono ?_
        rintro e w4 ⟨qb, cb, rfl, hB, b4⟩
        have B4 := B3.trans (b4.mono B3.size)
        have A4 := A3.keep (Kept.below b4)
        have hll := A4.1
        clear B3 J3 b4 A3 HR
        go_wp2_with fail
        go_loopg [11] (l.length) (LRel l.length w4)
        case atStart => exact ⟨0, by omega, rfl, Below.refl _ _⟩
        case round =>
          obtain ⟨i, hig, rfl, hbel⟩ := hrel
          have hi0 : (0 : Int) ≤ i := by omega
          by_cases hi : i < l.length
          · have hi' : (i : Int) < l.length := by omega
            obtain ⟨ab, ao, rfl, hab, cx⟩ := (A4.keep (Kept.below hbel)).2 i hi
            obtain ⟨bb, bo, rfl, hbb, cy⟩ := (hB.keep (Kept.below hbel)).2 i hi
            obtain ⟨x, hx⟩ : ∃ x, x = l[i] := ⟨_, rfl⟩
            rw [← hx] at cx cy
            have hxx : (x.toList == x.toList) = true := beq_self_eq_true _
            have Hig := Lib.hid hig
            clear hx hig A4 hB
            go_wp2_with fail
            refine Go.Proofs.Ytjbdpahdhlmanaa.region_plan (S := (fun w' => w'.cell? ⟨ab, ao + i, none⟩ = some (.string x) ∧ w'.cell? ⟨bb, bo + i, none⟩ = some (.string x))) [(0, true), (1, true), (2, true), (3, true), (4, true), (5, true), (6, true), (7, true), (8, true)] (by kernel_rfl) (by kernel_rfl) (by kernel_rfl) ?_ ?_
            · ((try dsimp only); (first | done | (exact ⟨cx, cy⟩)))
            simp only [Go.Proofs.Ytjbdpahdhlmanaa.planOps, List.map_cons, List.map_nil, List.getElem?_toArray, List.getElem?_cons_zero, List.getElem?_cons_succ]
            repeat (first
              | ((refine Go.Proofs.Ytjbdpahdhlmanaa.plan_yes (v := ?_) (by rfl) ?_ ?_); rotate_left; (focus (intro w hSw; (try dsimp only at hSw); go_simp; try (with_reducible rfl))); (try simp only [Act.put, List.setIfInBounds_toArray, List.set_cons_zero, List.set_cons_succ]))
              | ((refine Go.Proofs.Ytjbdpahdhlmanaa.plan_no (by rfl) ?_); (try simp only [Act.put, List.setIfInBounds_toArray, List.set_cons_zero, List.set_cons_succ]))
              | ((refine Go.Proofs.Ytjbdpahdhlmanaa.plan_step (fun K hK => ?_)); (first | (fail) | (go_simp; (fail); (try go_wp2_with fail)) | go_simp); (refine hK.out _ _ ?_ (fun hHeld => ?_)); (focus ((try dsimp only); (first | done | (exact ⟨cx, cy⟩)))); clear hK K; (try simp only [Act.put, List.setIfInBounds_toArray, List.set_cons_zero, List.set_cons_succ])))
            refine Go.Proofs.Ytjbdpahdhlmanaa.plan_done ?_
            go_wp2_with fail
            go_roundg (gk - 1)
            case measure => have := Hig.out; omega
            case rel => exact ⟨i + 1, by have := Hig.out; omega, by go_num, hbel.drew⟩
          · have hge : ¬ ((i : Int) < l.length) := by omega
            clear A4 hB
            go_wp2_with fail
            refine (awake_calls _).mono ?_
            rintro e w7 ⟨rfl, b7⟩
            have B5 := B4.trans (hbel.mono B4.size)
            go_wp2_with fail
            go_ret
            exact ⟨rfl, B5.trans (b7.mono B5.size)⟩
      · have e3 : ¬ ((s.size : Int) ≤ 300) := by omega
        go_enter Try.func10, Try.ntmps10
        go_wp2_with fail
        refine (few_yes _ _ _ p (by exact hp) hfp).mono ?_
        rintro e w1 ⟨rfl, rfl⟩
        go_wp2_with fail
        refine (awake_calls _).mono ?_
        rintro e w7 ⟨rfl, b7⟩
        go_wp2_with fail
        go_ret
        exact ⟨rfl, b7⟩
    · have e20 : ¬ ((p.length : Int) ≤ 20) := by omega
      go_enter Try.func10, Try.ntmps10
      go_wp2_with fail
      refine (few_yes _ _ _ p (by exact hp) hfp).mono ?_
      rintro e w1 ⟨rfl, rfl⟩
      go_wp2_with fail
      refine (awake_calls _).mono ?_
      rintro e w7 ⟨rfl, b7⟩
      go_wp2_with fail
      go_ret
      exact ⟨rfl, b7⟩
  · go_enter Try.func10, Try.ntmps10
    go_wp2_with fail
    refine (few_no _ _ _ p (by exact hp) hfp).mono ?_
    rintro e w1 ⟨rfl, rfl⟩
    go_wp2_with fail
    refine (awake_calls _).mono ?_
    rintro e w7 ⟨rfl, b7⟩
    go_wp2_with fail
    go_ret
    exact ⟨rfl, b7⟩

set_option maxRecDepth 100000 in
theorem lifted (os : Os) (started : os.Started) (H : Type) (enc : TypeId × Value → H) :
    ReturnsInHanded {} Try.checked os 10 .any (Rows.globsAllSpec.pre6 enc Try.prog Try.f10 Rows.globsAllRow.domain false) (Rows.globsAllSpec.post enc Try.prog Try.f10 false true false false) := by
  refine returnsInHanded_of_change (C := Try.checked) own started (by kernel_rfl) Try.func10
    (ChangeSpec.witness6 (enc := enc) (C := Try.checked) false ⟨#[], #[.slice none 0 0, .string ⟨#[]⟩, .int .i64 0], []⟩ 8 (by kernel_rfl) (by kernel_rfl) (by kernel_rfl) (by kernel_rfl)) ?_
  intro W base args ds gs before hval0 hW hcnd _
  have hval : ∀ (j : Nat) t v, Try.f10.params[j]? = some t → args[j]? = some v → Value.okWide Try.prog W .any base t v := hval0
  have hW' := hW
  obtain ⟨p, q, hA0, hV, rfl, hfz, hnd⟩ := hW
  have hA : DataW.TrodAll enc Try.prog W 0 (fun _ => true) true Try.f10.params.toList args.toList ds p := hA0
  rw [Try.params10] at hA hval
  obtain ⟨v0, vs0, d0, ds0, p0, q0, hargs, rfl, rfl, h0, r0⟩ := trodAll_cons hA
  obtain ⟨v1, vs1, d1, ds1, p1, q1, rfl, rfl, rfl, h1, r1⟩ := trodAll_cons r0
  obtain ⟨v2, vs2, d2, ds2, p2, q2, rfl, rfl, rfl, h2, r2⟩ := trodAll_cons r1
  obtain ⟨rfl, rfl, rfl⟩ := trodAll_nil r2
  obtain rfl : args = #[v0, v1, v2] := by cases args; simp_all
  obtain ⟨rfl, rfl⟩ := trodVars_none hV
  have k0 := h0
  have lt0 : ∀ x ∈ p0, x.block < W.heap.size := by obtain ⟨m, hm⟩ := k0; exact DataW.trod_lt m _ _ _ hm
  obtain ⟨ao0, l0, cap0, rfl, w0⟩ := items_open (hval 0 24 v0 rfl rfl) h0
  obtain ⟨s1, rfl, rfl, rfl, w1⟩ := open_string Try.underlying9 (hval 1 9 v1 rfl rfl) h1
  obtain ⟨a2, rfl, rfl, rfl, w2⟩ := open_int Try.underlying3 (hval 2 3 v2 rfl rfl) h2
  clear hA0 hval0
  refine (walk ao0 cap0 l0 s1 a2 W w0.1 (by unfold maxLen at w1; omega) (i64_of w2)).mono fun e W' ⟨he, bel⟩ => ?_
  subst he
  exact ⟨_, rfl, _, _, _, [], _, [], hW', trodAll_mk1 (shut_bool Try.underlying4 _), (trodAll_cons_mk (Below.trod laidOut (by kernel_rfl) (of_decide_eq_true (by kernel_rfl)) k0 bel lt0) (trodAll_cons_mk (shut_string Try.underlying9 w1) (trodAll_cons_mk (shut_int Try.underlying3 w2) trodAll_mk0))), rfl, bel.frame _, fun h => by cases h⟩

theorem over : Rows.globsAllRow.holds Try.pinned (OpenSpec.ofChange Rows.globsAllSpec) :=
  OpenClaim.holds_of_wide 10 Try.f10 rfl rfl rfl rfl rfl rfl rfl ⟨rfl, rfl, rfl, rfl, rfl⟩ rfl rfl rfl rfl rfl (by kernel_rfl) Try.func10 (by kernel_rfl)
    (of_decide_eq_true (by kernel_rfl)) (by unfold Func.isWrapper; first | (rw [if_pos (by decide +kernel)]; kernel_rfl) | (rw [if_neg (by decide +kernel)]; exact ⟨rfl, rfl⟩))
    (fun os started H enc _ => lifted os started H enc)

theorem proved : Rows.GlobsAllSaid := over
#print axioms proved
end Go.Proofs.Ytjbdpahdhlmanaa.globsAll
