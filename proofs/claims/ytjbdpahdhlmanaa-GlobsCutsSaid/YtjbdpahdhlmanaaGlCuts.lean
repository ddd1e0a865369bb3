/- GlobsCuts: 'Head' and 'Tail' tell what is fitted: the law returns true, for all patterns, texts and both ways. -/
import Derived.Test.YtjbdpahdhlmanaaGlZ
import Derived.Test.YtjbdpahdhlmanaaGlAA
import Derived.ChangeMaps5
namespace Go.Proofs.Ytjbdpahdhlmanaa.globsCuts
open Go.ChangeShapes Go.WideShapes Go.ChangeAt Go.RowKit Go.Proofs.Ytjbdpahdhlmanaa Go.Proofs.Ytjbdpahdhlmanaa.Hp Go.Proofs.Ytjbdpahdhlmanaa.Globs
open Go.ChangeMaps (open_string shut_string)
set_option linter.unusedVariables false

def CRel (m : Nat) (w : World) (g : Nat) (nv av bv : Value) (wr : World) : Prop := ∃ n : Nat, n + g = m + 1 ∧ nv = .int .i64 (n : Int) ∧ Below w.heap.size w wr
/-- What a cut tells of one beginning. -/
def Told (a : Int) (lg v : Bool) (n : Nat) : Prop := (v = true → 0 ≤ a ∧ (lg = true → (n : Int) ≤ a) ∧ (lg = false → a ≤ n)) ∧ (v = false → (n : Int) ≠ a)
theorem told (f : Nat → Bool) (lg : Bool) {m n : Nat} (h : n < m) : Told (atL f lg m) lg (f n) n :=
  ⟨fun hv => atL_hit h hv, fun hv he => by have := atL_at (f := f) (lg := lg) (m := m) (n := n) he.symm; rw [this] at hv; cases hv⟩

set_option maxRecDepth 100000 in
set_option maxHeartbeats 16000000 in
theorem walk (ap : Option Addr) (cp : Nat) (p : List Itm) (s : ByteArray) (lg : Bool) (W : World) (hp : ItemsAt W ap p) (hs : (s.size : Int) ≤ 9223372036854775807) :
    Calls Try.prog 11 #[.slice ap p.length cp, .string s, .bool lg] W fun e w' => e = .returned (.bool true) ∧ Below W.heap.size W w' := by
  have hpl := hp.1
  by_cases hfp : Few p
  · by_cases h60 : s.size ≤ 60
    · have e3 : (s.size : Int) ≤ 60 := by omega
      have hm : s.size ≤ 100000 := by omega
      have hb1 := atL_bd (headF p s) lg (s.size + 1)
      have hb2 := atL_bd (tailF p s) lg (s.size + 1)
      have ht1 : ∀ n, n < s.size + 1 → Told (atL (headF p s) lg (s.size + 1)) lg (headF p s n) n := fun n h => told _ lg h
      have ht2 : ∀ n, n < s.size + 1 → Told (atL (tailF p s) lg (s.size + 1)) lg (tailF p s n) n := fun n h => told _ lg h
      have hc1 := head_calls p s lg ap cp
      have hc2 := tail_calls p s lg ap cp
      obtain ⟨a, ha⟩ : ∃ x, x = atL (headF p s) lg (s.size + 1) := ⟨_, rfl⟩
      obtain ⟨t, ht⟩ : ∃ x, x = atL (tailF p s) lg (s.size + 1) := ⟨_, rfl⟩
      rw [← ha] at hb1 ht1 hc1
      rw [← ht] at hb2 ht2 hc2
      have HC1 := Lib.hid hc1
      have HC2 := Lib.hid hc2
      have HT1 := Lib.hid ht1
      have HT2 := Lib.hid ht2
      have ea1 : -1 ≤ a := by omega
      have ea2 : a ≤ (s.size : Int) := by omega
      have et1 : -1 ≤ t := by omega
      have et2 : t ≤ (s.size : Int) := by omega
      clear ha ht hc1 hc2 ht1 ht2 hb1 hb2
      go_enter Try.func11, Try.ntmps11
      go_wp2_with fail
      refine (few_yes _ _ _ p (by exact hp) hfp).mono ?_
      rintro e w1 ⟨rfl, rfl⟩
      go_wp2_with fail
      refine (HC1.out _ hp hm).mono ?_
      rintro e w2 ⟨rfl, b2⟩
      have B2 : Below W.heap.size W w2 := b2
      have I2 := hp.keep (Kept.below b2)
      clear b2 hp
      go_wp2_with fail
      refine (HC2.out _ I2 hm).mono ?_
      rintro e w3 ⟨rfl, b3⟩
      have B3 := B2.trans (b3.mono B2.size)
      have I3 := I2.keep (Kept.below b3)
      clear b3 B2 I2
      have Ep := Lib.hid (⟨ea1, ea2, et1, et2⟩ : -1 ≤ a ∧ a ≤ (s.size : Int) ∧ -1 ≤ t ∧ t ≤ (s.size : Int))
      go_wp2_with fail
      clear ea1 ea2 et1 et2
      go_loopg [9, 10, 11] (s.size + 1) (CRel s.size w3)
      case atStart => exact ⟨0, by omega, rfl, Below.refl _ _⟩
      case round =>
        obtain ⟨n, hng, rfl, hbel⟩ := hrel
        have hn0 : (0 : Int) ≤ n := by omega
        have hI := I3.keep (Kept.below hbel)
        have hB := B3.trans (hbel.mono B3.size)
        clear I3 B3
        by_cases hn : n ≤ s.size
        · have hn' : (n : Int) ≤ s.size := by omega
          have hs1 : (0 : Int) ≤ (s.size : Int) - n := by omega
          have hs2 : (s.size : Int) - n ≤ s.size := by omega
          have hs3 : ((s.size : Int) - n).toNat = s.size - n := by omega
          have t1 := HT1.out n (by omega)
          have t2 := HT2.out n (by omega)
          have MP : ∀ W, ItemsAt W ap p → Calls Try.prog 21 #[.slice ap p.length cp, .string (s.extract 0 n)] W (FPost (headF p s n) W) := fun W hW => by
            have := match_calls p (s.extract 0 n) ap cp W hW (by have := extB_size s 0 n; omega)
            rwa [cutB_at] at this
          have MQ : ∀ W, ItemsAt W ap p → Calls Try.prog 21 #[.slice ap p.length cp, .string (s.extract (s.size - n) s.size)] W (FPost (tailF p s n) W) := fun W hW => by
            have := match_calls p (s.extract (s.size - n) s.size) ap cp W hW (by have := extB_size s (s.size - n) s.size; omega)
            rwa [cutB_from (by omega)] at this
          obtain ⟨v, hv⟩ : ∃ v, v = headF p s n := ⟨_, rfl⟩
          obtain ⟨u, hu⟩ : ∃ u, u = tailF p s n := ⟨_, rfl⟩
          rw [← hv] at MP t1
          rw [← hu] at MQ t2
          have Hng := Lib.hid hng
          have HMP := Lib.hid MP
          have HMQ := Lib.hid MQ
          clear hng MP MQ hv hu HT1 HT2 HC1 HC2
          cases v <;> cases u <;> cases lg
          · -- v=False u=False lg=False
            have fa1 : ((n : Int) == a) = false := beq_eq_false_iff_ne.2 (t1.2 rfl)
            have ft1 : ((n : Int) == t) = false := beq_eq_false_iff_ne.2 (t2.2 rfl)
            clear t1 t2
            go_wp2_with fail
            refine (HMP.out _ (by exact hI)).mono ?_
            rintro e w5 ⟨rfl, b5⟩
            have hb5 := hbel.trans (b5.mono hbel.size)
            have hI5 := hI.keep (Kept.below b5)
            clear hI b5 hB HMP hbel
            go_wp2_with fail
            refine (HMQ.out _ (by exact hI5)).mono ?_
            rintro e w6 ⟨rfl, b6⟩
            have hb6 := hb5.trans (b6.mono hb5.size)
            clear hI5 b6 HMQ hb5
            go_wp2_with fail
            go_roundg (gk - 1)
            case measure => have := Hng.out; omega
            case rel => exact ⟨n + 1, by have := Hng.out; omega, by go_num, hb6⟩
          · -- v=False u=False lg=True
            have fa1 : ((n : Int) == a) = false := beq_eq_false_iff_ne.2 (t1.2 rfl)
            have ft1 : ((n : Int) == t) = false := beq_eq_false_iff_ne.2 (t2.2 rfl)
            clear t1 t2
            go_wp2_with fail
            refine (HMP.out _ (by exact hI)).mono ?_
            rintro e w5 ⟨rfl, b5⟩
            have hb5 := hbel.trans (b5.mono hbel.size)
            have hI5 := hI.keep (Kept.below b5)
            clear hI b5 hB HMP hbel
            go_wp2_with fail
            refine (HMQ.out _ (by exact hI5)).mono ?_
            rintro e w6 ⟨rfl, b6⟩
            have hb6 := hb5.trans (b6.mono hb5.size)
            clear hI5 b6 HMQ hb5
            go_wp2_with fail
            go_roundg (gk - 1)
            case measure => have := Hng.out; omega
            case rel => exact ⟨n + 1, by have := Hng.out; omega, by go_num, hb6⟩
          · -- v=False u=True lg=False
            have fa1 : ((n : Int) == a) = false := beq_eq_false_iff_ne.2 (t1.2 rfl)
            have ft1 : 0 ≤ t := (t2.1 rfl).1
            have ft2 : t ≤ (n : Int) := (t2.1 rfl).2.2 rfl
            obtain ⟨qt, et⟩ : ∃ q, ((n : Int) == t) = q := ⟨_, rfl⟩
            cases qt
            all_goals
              clear t1 t2
              go_wp2_with fail
              refine (HMP.out _ (by exact hI)).mono ?_
              rintro e w5 ⟨rfl, b5⟩
              have hb5 := hbel.trans (b5.mono hbel.size)
              have hI5 := hI.keep (Kept.below b5)
              clear hI b5 hB HMP hbel
              go_wp2_with fail
              refine (HMQ.out _ (by exact hI5)).mono ?_
              rintro e w6 ⟨rfl, b6⟩
              have hb6 := hb5.trans (b6.mono hb5.size)
              clear hI5 b6 HMQ hb5
              go_wp2_with fail
              go_roundg (gk - 1)
              case measure => have := Hng.out; omega
              case rel => exact ⟨n + 1, by have := Hng.out; omega, by go_num, hb6⟩
          · -- v=False u=True lg=True
            have fa1 : ((n : Int) == a) = false := beq_eq_false_iff_ne.2 (t1.2 rfl)
            have ft1 : 0 ≤ t := (t2.1 rfl).1
            have ft2 : (n : Int) ≤ t := (t2.1 rfl).2.1 rfl
            obtain ⟨qt, et⟩ : ∃ q, ((n : Int) == t) = q := ⟨_, rfl⟩
            cases qt
            all_goals
              clear t1 t2
              go_wp2_with fail
              refine (HMP.out _ (by exact hI)).mono ?_
              rintro e w5 ⟨rfl, b5⟩
              have hb5 := hbel.trans (b5.mono hbel.size)
              have hI5 := hI.keep (Kept.below b5)
              clear hI b5 hB HMP hbel
              go_wp2_with fail
              refine (HMQ.out _ (by exact hI5)).mono ?_
              rintro e w6 ⟨rfl, b6⟩
              have hb6 := hb5.trans (b6.mono hb5.size)
              clear hI5 b6 HMQ hb5
              go_wp2_with fail
              go_roundg (gk - 1)
              case measure => have := Hng.out; omega
              case rel => exact ⟨n + 1, by have := Hng.out; omega, by go_num, hb6⟩
          · -- v=True u=False lg=False
            have fa1 : 0 ≤ a := (t1.1 rfl).1
            have fa2 : a ≤ (n : Int) := (t1.1 rfl).2.2 rfl
            have ft1 : ((n : Int) == t) = false := beq_eq_false_iff_ne.2 (t2.2 rfl)
            obtain ⟨qa, ea⟩ : ∃ q, ((n : Int) == a) = q := ⟨_, rfl⟩
            cases qa
            all_goals
              clear t1 t2
              go_wp2_with fail
              refine (HMP.out _ (by exact hI)).mono ?_
              rintro e w5 ⟨rfl, b5⟩
              have hb5 := hbel.trans (b5.mono hbel.size)
              have hI5 := hI.keep (Kept.below b5)
              clear hI b5 hB HMP hbel
              go_wp2_with fail
              refine (HMQ.out _ (by exact hI5)).mono ?_
              rintro e w6 ⟨rfl, b6⟩
              have hb6 := hb5.trans (b6.mono hb5.size)
              clear hI5 b6 HMQ hb5
              go_wp2_with fail
              go_roundg (gk - 1)
              case measure => have := Hng.out; omega
              case rel => exact ⟨n + 1, by have := Hng.out; omega, by go_num, hb6⟩
          · -- v=True u=False lg=True
            have fa1 : 0 ≤ a := (t1.1 rfl).1
            have fa2 : (n : Int) ≤ a := (t1.1 rfl).2.1 rfl
            have ft1 : ((n : Int) == t) = false := beq_eq_false_iff_ne.2 (t2.2 rfl)
            obtain ⟨qa, ea⟩ : ∃ q, ((n : Int) == a) = q := ⟨_, rfl⟩
            cases qa
            all_goals
              clear t1 t2
              go_wp2_with fail
              refine (HMP.out _ (by exact hI)).mono ?_
              rintro e w5 ⟨rfl, b5⟩
              have hb5 := hbel.trans (b5.mono hbel.size)
              have hI5 := hI.keep (Kept.below b5)
              clear hI b5 hB HMP hbel
              go_wp2_with fail
              refine (HMQ.out _ (by exact hI5)).mono ?_
              rintro e w6 ⟨rfl, b6⟩
              have hb6 := hb5.trans (b6.mono hb5.size)
              clear hI5 b6 HMQ hb5
              go_wp2_with fail
              go_roundg (gk - 1)
              case measure => have := Hng.out; omega
              case rel => exact ⟨n + 1, by have := Hng.out; omega, by go_num, hb6⟩
          · -- v=True u=True lg=False
            have fa1 : 0 ≤ a := (t1.1 rfl).1
            have fa2 : a ≤ (n : Int) := (t1.1 rfl).2.2 rfl
            have ft1 : 0 ≤ t := (t2.1 rfl).1
            have ft2 : t ≤ (n : Int) := (t2.1 rfl).2.2 rfl
            obtain ⟨qa, ea⟩ : ∃ q, ((n : Int) == a) = q := ⟨_, rfl⟩
            obtain ⟨qt, et⟩ : ∃ q, ((n : Int) == t) = q := ⟨_, rfl⟩
            cases qa <;> cases qt
            all_goals
              clear t1 t2
              go_wp2_with fail
              refine (HMP.out _ (by exact hI)).mono ?_
              rintro e w5 ⟨rfl, b5⟩
              have hb5 := hbel.trans (b5.mono hbel.size)
              have hI5 := hI.keep (Kept.below b5)
              clear hI b5 hB HMP hbel
              go_wp2_with fail
              refine (HMQ.out _ (by exact hI5)).mono ?_
              rintro e w6 ⟨rfl, b6⟩
              have hb6 := hb5.trans (b6.mono hb5.size)
              clear hI5 b6 HMQ hb5
              go_wp2_with fail
              go_roundg (gk - 1)
              case measure => have := Hng.out; omega
              case rel => exact ⟨n + 1, by have := Hng.out; omega, by go_num, hb6⟩
          · -- v=True u=True lg=True
            have fa1 : 0 ≤ a := (t1.1 rfl).1
            have fa2 : (n : Int) ≤ a := (t1.1 rfl).2.1 rfl
            have ft1 : 0 ≤ t := (t2.1 rfl).1
            have ft2 : (n : Int) ≤ t := (t2.1 rfl).2.1 rfl
            obtain ⟨qa, ea⟩ : ∃ q, ((n : Int) == a) = q := ⟨_, rfl⟩
            obtain ⟨qt, et⟩ : ∃ q, ((n : Int) == t) = q := ⟨_, rfl⟩
            cases qa <;> cases qt
            all_goals
              clear t1 t2
              go_wp2_with fail
              refine (HMP.out _ (by exact hI)).mono ?_
              rintro e w5 ⟨rfl, b5⟩
              have hb5 := hbel.trans (b5.mono hbel.size)
              have hI5 := hI.keep (Kept.below b5)
              clear hI b5 hB HMP hbel
              go_wp2_with fail
              refine (HMQ.out _ (by exact hI5)).mono ?_
              rintro e w6 ⟨rfl, b6⟩
              have hb6 := hb5.trans (b6.mono hb5.size)
              clear hI5 b6 HMQ hb5
              go_wp2_with fail
              go_roundg (gk - 1)
              case measure => have := Hng.out; omega
              case rel => exact ⟨n + 1, by have := Hng.out; omega, by go_num, hb6⟩
        · have hge : ¬ ((n : Int) ≤ s.size) := by omega
          go_wp2_with fail
          refine (all_aa _ _ _ _).mono ?_
          rintro e w5 ⟨rfl, b5⟩
          have hb5 := hB.trans (b5.mono hB.size)
          clear b5
          go_wp2_with fail
          refine (awake_calls _).mono ?_
          rintro e w6 ⟨rfl, b6⟩
          go_wp2_with fail
          go_ret
          exact ⟨rfl, hb5.trans (b6.mono hb5.size)⟩
    · have e3 : ¬ ((s.size : Int) ≤ 60) := by omega
      go_enter Try.func11, Try.ntmps11
      go_wp2_with fail
      refine (few_yes _ _ _ p (by exact hp) hfp).mono ?_
      rintro e w1 ⟨rfl, rfl⟩
      go_wp2_with fail
      refine (awake_calls _).mono ?_
      rintro e w7 ⟨rfl, b7⟩
      go_wp2_with fail
      go_ret
      exact ⟨rfl, b7⟩
  · go_enter Try.func11, Try.ntmps11
    go_wp2_with fail
    refine (few_no _ _ _ p (by exact hp) hfp).mono ?_
    rintro e w1 ⟨rfl, rfl⟩
    go_wp2_with fail
    refine (awake_calls _).mono ?_
    rintro e w7 ⟨rfl, b7⟩
    go_wp2_with fail
    go_ret
    exact ⟨rfl, b7⟩

set_option maxRecDepth 100000 in
theorem lifted (os : Os) (started : os.Started) (H : Type) (enc : TypeId × Value → H) :
    ReturnsInHanded {} Try.checked os 11 .any (Rows.globsCutsSpec.pre6 enc Try.prog Try.f11 Rows.globsCutsRow.domain false) (Rows.globsCutsSpec.post enc Try.prog Try.f11 false true false false) := by
  refine returnsInHanded_of_change (C := Try.checked) own started (by kernel_rfl) Try.func11
    (ChangeSpec.witness6 (enc := enc) (C := Try.checked) false ⟨#[], #[.slice none 0 0, .string ⟨#[]⟩, .bool false], []⟩ 8 (by kernel_rfl) (by kernel_rfl) (by kernel_rfl) (by kernel_rfl)) ?_
  intro W base args ds gs before hval0 hW hcnd _
  have hval : ∀ (j : Nat) t v, Try.f11.params[j]? = some t → args[j]? = some v → Value.okWide Try.prog W .any base t v := hval0
  have hW' := hW
  obtain ⟨p, q, hA0, hV, rfl, hfz, hnd⟩ := hW
  have hA : DataW.TrodAll enc Try.prog W 0 (fun _ => true) true Try.f11.params.toList args.toList ds p := hA0
  rw [Try.params11] at hA hval
  obtain ⟨v0, vs0, d0, ds0, p0, q0, hargs, rfl, rfl, h0, r0⟩ := trodAll_cons hA
  obtain ⟨v1, vs1, d1, ds1, p1, q1, rfl, rfl, rfl, h1, r1⟩ := trodAll_cons r0
  obtain ⟨v2, vs2, d2, ds2, p2, q2, rfl, rfl, rfl, h2, r2⟩ := trodAll_cons r1
  obtain ⟨rfl, rfl, rfl⟩ := trodAll_nil r2
  obtain rfl : args = #[v0, v1, v2] := by cases args; simp_all
  obtain ⟨rfl, rfl⟩ := trodVars_none hV
  have k0 := h0
  have lt0 : ∀ x ∈ p0, x.block < W.heap.size := by obtain ⟨m, hm⟩ := k0; exact DataW.trod_lt m _ _ _ hm
  obtain ⟨ao0, l0, cap0, rfl, w0⟩ := items_open (hval 0 24 v0 rfl rfl) h0
  obtain ⟨s1, rfl, rfl, rfl, w1⟩ := open_string Try.underlying9 (hval 1 9 v1 rfl rfl) h1
  obtain ⟨x2, rfl, rfl, rfl⟩ := open_bool Try.underlying4 (hval 2 4 v2 rfl rfl) h2
  clear hA0 hval0
  refine (walk ao0 cap0 l0 s1 x2 W w0.1 (by unfold maxLen at w1; omega) ).mono fun e W' ⟨he, bel⟩ => ?_
  subst he
  exact ⟨_, rfl, _, _, _, [], _, [], hW', trodAll_mk1 (shut_bool Try.underlying4 _), (trodAll_cons_mk (Below.trod laidOut (by kernel_rfl) (of_decide_eq_true (by kernel_rfl)) k0 bel lt0) (trodAll_cons_mk (shut_string Try.underlying9 w1) (trodAll_cons_mk (shut_bool Try.underlying4 x2) trodAll_mk0))), rfl, bel.frame _, fun h => by cases h⟩

theorem over : Rows.globsCutsRow.holds Try.pinned (OpenSpec.ofChange Rows.globsCutsSpec) :=
  OpenClaim.holds_of_wide 11 Try.f11 rfl rfl rfl rfl rfl rfl rfl ⟨rfl, rfl, rfl, rfl, rfl⟩ rfl rfl rfl rfl rfl (by kernel_rfl) Try.func11 (by kernel_rfl)
    (of_decide_eq_true (by kernel_rfl)) (by unfold Func.isWrapper; first | (rw [if_pos (by decide +kernel)]; kernel_rfl) | (rw [if_neg (by decide +kernel)]; exact ⟨rfl, rfl⟩))
    (fun os started H enc _ => lifted os started H enc)

theorem proved : Rows.GlobsCutsSaid := over
#print axioms proved
end Go.Proofs.Ytjbdpahdhlmanaa.globsCuts
