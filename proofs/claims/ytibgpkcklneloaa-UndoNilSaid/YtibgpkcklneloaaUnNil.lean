/- UndoNil: a nil log, map and cell have nothing, and a number that is not as great as itself is no key: the law returns true, for every text and number. -/
import Derived.Test.YtibgpkcklneloaaNiE
import Derived.Test.YtibgpkcklneloaaUnM
import Derived.Test.YtibgpkcklneloaaUnO
import Derived.Laws.Cover2
namespace Go.Proofs.Ytibgpkcklneloaa.undoNil
open Go.ChangeShapes Go.WideShapes Go.ChangeAt Go.RowKit Go.Proofs.Ytibgpkcklneloaa Go.Proofs.Ytibgpkcklneloaa.Hp Go.Proofs.Ytibgpkcklneloaa.Undo Go.ChangeMaps
set_option linter.unusedVariables false
attribute [local go_sem] Oper.semAt_some

set_option maxRecDepth 100000 in
set_option maxHeartbeats 8000000 in
theorem walk_long (k : ByteArray) (x : Nat) (W : World) (hk : 100 < (k.size : Int)) (hk2 : (k.size : Int) ≤ 9223372036854775807) :
    Calls Try.prog 7 #[.string k, fV x] W fun e w' => e = .returned (.bool true) ∧ Below W.heap.size W w' := by
  have H0 := Lib.hid (Sat.start W)
  go_enter Try.func7, Try.ntmps7
  go_wp2_with fail
  refine (awake_calls W (keep W) H0.out).mono ?_
  rintro e w3 ⟨⟨rfl, H⟩, b3⟩
  go_wp2_with fail
  go_ret
  exact ⟨rfl, Ran.whole' b3 H⟩
set_option maxRecDepth 100000 in
set_option maxHeartbeats 8000000 in
theorem walk_short (k : ByteArray) (x : Nat) (W : World) (hk : (k.size : Int) ≤ 100) :
    Calls Try.prog 7 #[.string k, fV x] W fun e w' => e = .returned (.bool true) ∧ Below W.heap.size W w' := by
  have hkm : k.size ≤ maxLen := by unfold maxLen; omega
  have Hkm := Lib.hid hkm
  clear hkm
  have H0 := Lib.hid (Sat.start W)
  go_enter Try.func7, Try.ntmps7
  go_wp2_with fail
  refine (nmark_calls W).mono ?_
  rintro e w9 ⟨rfl, rfl⟩
  go_wp2_with fail
  refine (nget_calls k W).mono ?_
  rintro e w9 ⟨rfl, rfl⟩
  go_wp2_with fail
  refine (newmap_calls none W _ H0.out).mono ?_
  rintro e w1 ⟨m, rfl, H1, R1⟩
  have H1 := Lib.hid H1
  go_wp2_with fail
  refine (newcell_calls none k w1 _ H1.out).mono ?_
  rintro e w2 ⟨c, rfl, H2, R2⟩
  have H2 := Lib.hid H2
  have R2 := Below.trans R1 R2
  clear R1 H1 H0
  go_wp2_with fail
  refine (nundo_calls w2).mono ?_
  rintro e w9 ⟨rfl, rfl⟩
  go_wp2_with fail
  refine (nnote_calls 27 _ w2).mono ?_
  rintro e w9 ⟨rfl, rfl⟩
  go_wp2_with fail
  refine (nmarks_calls w2).mono ?_
  rintro e w9 ⟨rfl, rfl⟩
  go_wp2_with fail
  refine (nlen_calls w2).mono ?_
  rintro e w9 ⟨rfl, rfl⟩
  go_wp2_with fail
  refine (nset_calls k 1 w2).mono ?_
  rintro e w9 ⟨rfl, rfl⟩
  go_wp2_with fail
  refine (ndel_calls k w2).mono ?_
  rintro e w9 ⟨rfl, rfl⟩
  go_wp2_with fail
  refine (nkeys_calls w2).mono ?_
  rintro e w9 ⟨rfl, rfl⟩
  go_wp2_with fail
  refine (ncset_calls k w2).mono ?_
  rintro e w3 ⟨rfl, hb3⟩
  have H3 := Lib.hid (H2.out.below hb3)
  have R3 := Ran.below R2 hb3
  clear H2 R2 hb3
  go_wp2_with fail
  refine (ncget_calls w3).mono ?_
  rintro e w9 ⟨rfl, rfl⟩
  go_wp2_with fail
  have H4 := H3.out.perm (show _ = MapAt m none 0 (fun _ => none) * (CellAt c none k * keep W) by ac_rfl)
  have H4 := Lib.hid H4
  clear H3
  refine (set0_calls m k 1 0 _ w3 _ Hkm.out H4.out).mono ?_
  rintro e w4 ⟨rfl, H5, R4⟩
  have H5 := Lib.hid H5
  have R5 := Below.trans R3 R4
  clear R3 R4 H4
  go_wp2_with fail
  refine (del0_calls m k 0 _ w4 _ H5.out).mono ?_
  rintro e w9 ⟨rfl, rfl⟩
  go_wp2_with fail
  refine (keys_calls m none 0 _ w4 _ (by omega) H5.out).mono ?_
  rintro e w5 ⟨⟨kp, kc, ks, rfl, hks, H6⟩, hb5⟩
  obtain rfl : ks = [] := List.eq_nil_iff_forall_not_mem.2 fun s hs => by have := (hks.2 s).1 hs; cases this
  have R6 := Ran.below R5 hb5
  have H6 := Lib.hid (pull1 H6.right)
  clear R5 H5 hks hb5
  simp only [List.length_nil]
  go_wp2_with fail
  refine (cset0_calls c k ⟨#[]⟩ w5 _ H6.out).mono ?_
  rintro e w6 ⟨rfl, H7, R7⟩
  have H7 := Lib.hid H7
  have R8 := Below.trans R6 R7
  clear R6 R7 H6
  go_wp2_with fail
  refine (cget_calls c none k w6 _ H7.out).mono ?_
  rintro e w7 ⟨rfl, rfl⟩
  go_wp2_with fail
  have H8 := Lib.hid H7.out.right.right
  clear H7
  refine (new_calls 5 5 (by decide) (by decide) (by decide) (by decide) w6 _ H8.out).mono ?_
  rintro e w8 ⟨rfl, HL, R9⟩
  obtain ⟨lb, hlb⟩ : ∃ b, b = w6.heap.size := ⟨_, rfl⟩
  rw [← hlb] at HL; rw [← hlb]
  obtain ⟨np, nc, qp, qc, HS⟩ := HL
  have HS0 := Lib.hid HS
  have R10 := Below.trans R8 R9
  clear HS hlb R8 R9 H8
  go_wp2_with fail
  refine (newfmap_calls (some ⟨lb, 0, none⟩) w8 _ HS0.out).mono ?_
  rintro e w9 ⟨fm, fb, rfl, HM, R11⟩
  have HL9 : LogAt w9 lb 5 5 [] [] (pts fm (mapF (some ⟨lb, 0, none⟩) fb) * (fMap fb none * keep W)) := ⟨np, nc, qp, qc, HM.perm (by ac_rfl)⟩
  have HL9 := Lib.hid HL9
  have R12 := Below.trans R10 R11
  clear HM HS0 R10 R11
  go_wp2_with fail
  have hall : Op.floatEq .f64 x x = false ∨ Op.floatEq .f64 x x = true := by cases Op.floatEq .f64 x x <;> simp
  rcases hall with hx | hx
  · have hne : (FloatKind.f64.format.order x x != some Ordering.eq) = true := congrArg (fun b : Bool => !b) hx
    have heq : (FloatKind.f64.format.order x x == some Ordering.eq) = false := hx
    have FS := fset_calls lb fm fb x w9 _ HL9.out
    rw [hx, if_neg (by decide)] at FS
    have FG := fun w lb h => fget_calls fm fb lb x w (keep W * h)
    rw [hx] at FG
    refine FS.mono ?_
    rintro e w10 ⟨rfl, HL10, R13⟩
    obtain ⟨np, nc, qp, qc, HS⟩ := HL10
    have HS1 := Lib.hid (HS.perm (show _ = pts fm (mapF (some ⟨lb, 0, none⟩) fb) * (fMap fb (keyF x) * (keep W * (pts lb (logO 5 5 np ([] : List Value).length nc qp ([] : List Nat).length qc) * (notes np ([] : List Value).length nc [] * marksA qp qc [])))) by ac_rfl))
    have R14 := Below.trans R12 R13
    have FG := Lib.hid (FG _ _ _ HS1.out)
    clear HL9 R12 R13 HS hx FS
    go_wp2_with fail
    refine FG.out.mono ?_
    rintro e w11 ⟨⟨v, rfl⟩, rfl⟩
    have FK := Lib.hid (fkeys_calls fb fm (some ⟨lb, 0, none⟩) (keyF x) w10 _ HS1.out)
    have hkl := fkeys_len (keyF x)
    have hkI : ((fKeys (keyF x)).length : Int) ≤ 1 := by omega
    obtain ⟨L, hL⟩ : ∃ L, L = (fKeys (keyF x)).length := ⟨_, rfl⟩
    rw [← hL] at FK hkI
    clear hL hkl HS1 FG
    go_wp2_with fail
    refine FK.out.mono ?_
    rintro e w12 ⟨⟨p, cap, rfl⟩, H9, R15⟩
    have H9 := Lib.hid H9.right.right.left
    have R16 := Below.trans R14 R15
    clear FK R14 R15
    go_wp2_with fail
    refine (awake_calls w12 (keep W) H9.out).mono ?_
    rintro e w13 ⟨⟨rfl, H⟩, b3⟩
    have H := Lib.hid (Ran.whole' (Below.trans R16 b3) H)
    clear H9 R16 b3
    go_wp2_with fail
    go_ret
    exact ⟨rfl, H.out⟩
  · have hne : (FloatKind.f64.format.order x x != some Ordering.eq) = false := congrArg (fun b : Bool => !b) hx
    have heq : (FloatKind.f64.format.order x x == some Ordering.eq) = true := hx
    have FS := fset_calls lb fm fb x w9 _ HL9.out
    rw [hx, if_pos rfl] at FS
    have FG := fun w lb h => fget_calls fm fb lb x w (keep W * h)
    rw [hx] at FG
    refine FS.mono ?_
    rintro e w10 ⟨rfl, HL10, R13⟩
    obtain ⟨np, nc, qp, qc, HS⟩ := HL10
    have HS1 := Lib.hid (HS.perm (show _ = pts fm (mapF (some ⟨lb, 0, none⟩) fb) * (fMap fb (keyF x) * (keep W * (pts lb (logO 5 5 np ([] : List Value).length nc qp ([] : List Nat).length qc) * (notes np ([] : List Value).length nc [] * marksA qp qc [])))) by ac_rfl))
    have R14 := Below.trans R12 R13
    have FG := Lib.hid (FG _ _ _ HS1.out)
    clear HL9 R12 R13 HS hx FS
    go_wp2_with fail
    refine FG.out.mono ?_
    rintro e w11 ⟨⟨v, rfl⟩, rfl⟩
    have FK := Lib.hid (fkeys_calls fb fm (some ⟨lb, 0, none⟩) (keyF x) w10 _ HS1.out)
    have hkl := fkeys_len (keyF x)
    have hkI : ((fKeys (keyF x)).length : Int) ≤ 1 := by omega
    obtain ⟨L, hL⟩ : ∃ L, L = (fKeys (keyF x)).length := ⟨_, rfl⟩
    rw [← hL] at FK hkI
    clear hL hkl HS1 FG
    go_wp2_with fail
    refine FK.out.mono ?_
    rintro e w12 ⟨⟨p, cap, rfl⟩, H9, R15⟩
    have H9 := Lib.hid H9.right.right.left
    have R16 := Below.trans R14 R15
    clear FK R14 R15
    go_wp2_with fail
    refine (awake_calls w12 (keep W) H9.out).mono ?_
    rintro e w13 ⟨⟨rfl, H⟩, b3⟩
    have H := Lib.hid (Ran.whole' (Below.trans R16 b3) H)
    clear H9 R16 b3
    go_wp2_with fail
    go_ret
    exact ⟨rfl, H.out⟩
theorem walk (k : ByteArray) (x : Nat) (W : World) (hk : (k.size : Int) ≤ 9223372036854775807) :
    Calls Try.prog 7 #[.string k, fV x] W fun e w' => e = .returned (.bool true) ∧ Below W.heap.size W w' := by
  by_cases h : 100 < (k.size : Int)
  · exact walk_long k x W h hk
  · exact walk_short k x W (by omega)

set_option maxRecDepth 100000 in
theorem lifted (os : Os) (started : os.Started) (H : Type) (enc : TypeId × Value → H) :
    ReturnsInHanded {} Try.checked os 7 .any (Rows.undoNilSpec.pre6 enc Try.prog Try.f7 Rows.undoNilRow.domain false) (Rows.undoNilSpec.post enc Try.prog Try.f7 false true false false) := by
  refine returnsInHanded_of_change (C := Try.checked) own started (by kernel_rfl) Try.func7
    (ChangeSpec.witness6 (enc := enc) (C := Try.checked) false ⟨#[], #[.string ⟨#[]⟩, .float .f64 0], []⟩ 8 (by kernel_rfl) (by kernel_rfl) (by kernel_rfl) (by kernel_rfl)) ?_
  intro W base args ds gs before hval0 hW hcnd _
  have hval : ∀ (j : Nat) t v, Try.f7.params[j]? = some t → args[j]? = some v → Value.okWide Try.prog W .any base t v := hval0
  have hW' := hW
  obtain ⟨p, q, hA0, hV, rfl, hfz, hnd⟩ := hW
  have hA : DataW.TrodAll enc Try.prog W 0 (fun _ => true) true Try.f7.params.toList args.toList ds p := hA0
  rw [Try.params7] at hA hval
  obtain ⟨v0, vs0, d0, ds0, p0, q0, hargs, rfl, rfl, h0, r0⟩ := trodAll_cons hA
  obtain ⟨v1, vs1, d1, ds1, p1, q1, rfl, rfl, rfl, h1, r1⟩ := trodAll_cons r0
  obtain ⟨rfl, rfl, rfl⟩ := trodAll_nil r1
  obtain rfl : args = #[v0, v1] := by cases args; simp_all
  obtain ⟨rfl, rfl⟩ := trodVars_none hV
  obtain ⟨s0, rfl, rfl, rfl, w0⟩ := open_string Try.underlying9 (hval 0 9 v0 rfl rfl) h0
  obtain ⟨x1, rfl, rfl, rfl, w1⟩ := open_float Try.underlying62 (hval 1 62 v1 rfl rfl) h1
  clear hA0 hval0
  refine (walk s0 x1 W (by unfold maxLen at w0; omega) ).mono fun e W' ⟨he, bel⟩ => ?_
  subst he
  exact ⟨_, rfl, _, _, _, [], _, [], hW', trodAll_mk1 (shut_bool Try.underlying4 _), (trodAll_cons_mk (shut_string Try.underlying9 w0) (trodAll_cons_mk (shut_float Try.underlying62 w1) trodAll_mk0)), rfl, bel.frame _, fun h => by cases h⟩

theorem over : Rows.undoNilRow.holds Try.pinned (OpenSpec.ofChange Rows.undoNilSpec) :=
  OpenClaim.holds_of_wide 7 Try.f7 rfl rfl rfl rfl rfl rfl rfl ⟨rfl, rfl, rfl, rfl, rfl⟩ rfl rfl rfl rfl rfl (by kernel_rfl) Try.func7 (by kernel_rfl)
    (of_decide_eq_true (by kernel_rfl)) (by unfold Func.isWrapper; first | (rw [if_pos (by decide +kernel)]; kernel_rfl) | (rw [if_neg (by decide +kernel)]; exact ⟨rfl, rfl⟩))
    (fun os started H enc _ => lifted os started H enc)

theorem proved : Rows.UndoNilSaid := over
#print axioms proved
end Go.Proofs.Ytibgpkcklneloaa.undoNil
