/- StateOwn: what is answered is the caller's, and what is handed in stays the caller's: the law returns true, for every list of texts. -/
import Derived.Test.YtlmjidandjemjaaGreatDoorStOx
import Derived.Test.YtlmjidandjemjaaGreatDoorTie
import Derived.Test.YtlmjidandjemjaaGreatDoorCards
import Derived.SevenTiedAt
import Derived.Stop.Joined
namespace Go.Proofs.YtlmjidandjemjaaGreatDoor.stateOwn
open Go.ChangeShapes Go.WideShapes Go.ChangeAt Go.RowKit Go.Proofs.YtlmjidandjemjaaGreatDoor Go.Proofs.YtlmjidandjemjaaGreatDoor.Hp Go.Proofs.YtlmjidandjemjaaGreatDoor.Undo Go.Proofs.YtlmjidandjemjaaGreatDoor.State Go.ChangeMaps
set_option linter.unusedVariables false
attribute [local go_sem] Oper.semAt_some

abbrev spoilt : ByteArray := ⟨#[115, 112, 111, 105, 108, 116]⟩
theorem fin_true {W w1 w2 : World} (h1 : Ran W w1) (hs : Sat w2 (keep W)) (h2 : Ran w1 w2) : Below W.heap.size W w2 := Ran.whole' (Below.trans h1 h2) hs
theorem keep_texts {W w : World} {p : Option Addr} {l : List ByteArray} (h : TextsAt W p l) {S : Hp} (hs : Sat w (S * keep W)) : StrsAt w p l := by
  have hk := hs.right.kept
  rcases h.strs with h0 | ⟨b, o, hp, hc⟩
  · exact .inl h0
  · refine .inr ⟨b, o, hp, fun j hj => ?_⟩
    rw [← hc j hj]
    exact World.cell?_of_block (w := W) (hk b (World.block_lt_of_cell? _ _ (hc j hj)))
def R1 (K : Ctx) (l : List ByteArray) (W : World) (g : Nat) (v6 v7 : Value) (wr : World) : Prop :=
  ∃ (i : Nat) (p : Option Addr) (cap : Nat), v7 = .int .i64 (i : Int) ∧ i + g = l.length ∧ v6 = .slice p i cap ∧ (∀ j (h : j < l.length), j < i → l[j].size ≤ 200) ∧
    SAt K wr n0 (arr 9 1 p i cap ((l.take i).map sv) * keep W) ∧ Ran W wr
def R2 (K : Ctx) (m : Now) (l : List ByteArray) (p : Option Addr) (cap : Nat) (W : World) (g : Nat) (v8 : Value) (wr : World) : Prop :=
  ∃ (i : Nat) (xs : List ByteArray), v8 = .int .i64 (i : Int) ∧ i + g = l.length ∧ xs.length = l.length ∧ (∀ j (h : j < l.length), i ≤ j → xs[j]? = some l[j]) ∧
    SAt K wr m (arr 9 1 p l.length cap (xs.map sv) * keep W) ∧ Ran W wr
def R3 (K : Ctx) (m : Now) (n : Nat) (p : Option Addr) (cap : Nat) (W : World) (g : Nat) (v10 : Value) (wr : World) : Prop :=
  ∃ (i : Nat) (xs : List ByteArray), v10 = .int .i64 (i : Int) ∧ i + g = n ∧ xs.length = n ∧
    SAt K wr m (arr 9 1 p n cap (xs.map sv) * keep W) ∧ Ran W wr
set_option maxRecDepth 100000 in
set_option maxHeartbeats 16000000 in
theorem walk (ao : Option Addr) (cap : Nat) (l : List ByteArray) (W : World) (hl : TextsAt W ao l) (hg : Glob (keep W)) :
    Calls Tryz.prog 3 #[.slice ao l.length cap] W fun e w' => e = .returned (.bool true) ∧ Below W.heap.size W w' := by
  have HB := Lib.hid (begun_calls 10 (by decide) (by decide) W (keep W) (Sat.start W))
  have HA := Lib.hid (fun w hw => awake_calls w (keep W) hg hw)
  have HL := Lib.hid hl
  clear hl hg
  go_enter Tryz.func3, Tryz.ntmps3
  go_wp2_with fail
  refine HB.out.mono ?_
  rintro e w1 ⟨⟨K, hm, -, rfl, S1⟩, Rn1⟩
  have HM := Lib.hid hm
  have S1 := Lib.hid S1
  have Rn1 := Lib.hid Rn1
  clear hm HB
  by_cases hbig : 20 < l.length
  · have hbI : (20 : Int) < l.length := by omega
    have hA := HA.out w1 S1.out.rest
    have hA := Lib.hid hA
    clear HA HL hbig
    go_wp2_with fail
    refine hA.out.mono ?_
    rintro e w2 ⟨⟨rfl, h2⟩, h3⟩
    have h2 := Lib.hid h2
    have h3 := Lib.hid h3
    clear hA
    go_wp2_with fail
    go_ret
    exact ⟨rfl, fin_true Rn1.out h2.out h3.out⟩
  · have hlI : (l.length : Int) ≤ 20 := by omega
    have hl20 : l.length ≤ 20 := by omega
    clear hbig
    go_wp2_with fail
    go_loopg [6, 7] (l.length) (R1 K l W)
    case atStart =>
      refine ⟨0, none, 0, rfl, by omega, rfl, fun j _ h => absurd h (Nat.not_lt_zero _), ?_, Rn1.out⟩
      obtain ⟨X, h1, h2⟩ := S1.out.frame
      exact h2 _ _ ((h1.nil_arr 9 1).perm (by show arr 9 1 none 0 0 [] * _ = X * (arr 9 1 none 0 0 [] * _); ac_rfl))
    case round =>
      obtain ⟨i, p, pc, rfl, hgk, rfl, hsm, HSi, HRi⟩ := hrel
      clear S1 Rn1
      by_cases hlt : i < l.length
      · have hltI : (i : Int) < l.length := by omega
        have hi0 : (0 : Int) ≤ i := by omega
        obtain ⟨x, hx⟩ : ∃ x, x = l[i] := ⟨_, rfl⟩
        have htk : l.take (i + 1) = l.take i ++ [x] := by rw [hx]; exact List.take_succ_eq_append_getElem hlt
        have hxm : x.size ≤ maxLen := by rw [hx]; exact (HL.out i hlt).1
        rcases keep_texts HL.out HSi.rest with he | ⟨b, o, rfl, hc⟩
        · rw [he] at hlt; exact absurd hlt (Nat.not_lt_zero _)
        have c := hc i hlt
        rw [← hx] at c
        have Hx := Lib.hid hx
        have Htk := Lib.hid htk
        have HS0 := Lib.hid HSi
        have HR0 := Lib.hid HRi
        have Hsm := Lib.hid hsm
        have hAw := Lib.hid (HA.out wr HSi.rest.right)
        have hxm2 : (x.size : Int) ≤ 9223372036854775807 := by unfold maxLen at hxm; omega
        clear hx htk HSi HRi hsm hc hxm
        by_cases hx2 : 200 < x.size
        · have hx2I : (200 : Int) < x.size := by omega
          clear hx2
          go_wp2_with fail
          refine hAw.out.mono ?_
          rintro e w2 ⟨⟨rfl, h2⟩, h3⟩
          have h2 := Lib.hid h2
          have h3 := Lib.hid h3
          go_wp2_with fail
          go_ret
          exact ⟨rfl, fin_true HR0.out h2.out h3.out⟩
        · have hx2I : (x.size : Int) ≤ 200 := by omega
          have HX2 := Lib.hid hx2
          obtain ⟨X, hX1, hX2⟩ := (HS0.out.old (.cells #[.string x] 9 (0, 0))).frame
          have HXA := hX1.perm (show _ = arr 9 1 p i pc ((l.take i).map sv) * (X * keep W) by ac_rfl)
          have HX3 := Lib.hid hX2
          have hi9 : i ≤ 1000000000 := by omega
          clear hx2 hAw hX1 hX2
          go_wp2_with (at_builtin; go_loud (refine appStr rfl _ _ rfl p i pc _ rfl _ rfl HXA _ (blk_new rfl) rfl hi9 ?_; intro p' cap' w6 HS7 HR7; clear HXA))
          have HS8 := Lib.hid (HX3.out w6 (arr 9 1 p' (i + 1) cap' ((l.take i).map sv ++ [sv x]) * keep W) (HS7.perm (by ac_rfl)))
          have R8 := Lib.hid (Below.trans (Ran.new HR0.out _) HR7)
          clear HS7 HR7 HX3
          go_wp2_with fail
          go_roundg (gk - 1)
          case rel =>
            refine ⟨i + 1, p', cap', by simp, by omega, rfl, fun j hj h => ?_, by rw [Htk.out, List.map_append]; exact HS8.out, R8.out⟩
            by_cases hji : j < i
            · exact Hsm.out j hj hji
            · have : j = i := by omega
              subst this
              rw [← Hx.out]; have := HX2.out; omega
          case measure => omega
      · have hge : i = l.length := by omega
        subst hge
        rw [List.take_length] at HSi
        have hsz : ∀ x ∈ l, x.size ≤ 200 := fun x hx => by
          obtain ⟨j, hj, rfl⟩ := List.getElem_of_mem hx
          exact hsm j hj hj
        have hany : (l.any fun x => decide (4096 < x.size)) = false := by
          rw [List.any_eq_false]
          intro x hx h
          have := hsz x hx
          have := of_decide_eq_true h
          omega
        have hset : n0.setG 10 l = n0.put 10 { n0.s with l := l, here := 1, within := 0 } := by
          unfold Now.setG
          rw [if_neg (by omega), if_neg (by rw [hany]; decide)]
        have HC := SetArgs_calls K n0 l p pc wr (arr 9 1 p l.length pc (l.map sv) * keep W) (by omega) (StrsAt.arr HSi.rest) (by decide) (by decide) HSi
        rw [HM.out, hset] at HC
        have HC := Lib.hid HC
        obtain ⟨m1, hm1⟩ : ∃ m1, m1 = (n0.put 10 { n0.s with l := l, here := 1, within := 0 }).2 := ⟨_, rfl⟩
        have hm1l : m1.s.l = l := by rw [hm1]; rfl
        have Hm1 := Lib.hid hm1
        have Hm1l := Lib.hid hm1l
        have Hsz := Lib.hid hsz
        have HRi := Lib.hid HRi
        clear hset hany HSi hsm hsz hm1 hm1l
        go_wp2_with fail
        refine HC.out.mono ?_
        rintro e w2 ⟨⟨rfl, S2⟩, Rn2⟩
        have S2 : Hid (SAt K w2 m1 (arr 9 1 p l.length pc (l.map sv) * keep W)) := Lib.hid (by rw [Hm1.out]; exact S2)
        have Rn2 := Lib.hid (Below.trans HRi.out Rn2)
        clear HC
        go_wp2_with fail
        go_loopg [8] (l.length) (R2 K m1 l p pc W)
        case atStart => exact ⟨0, l, rfl, by omega, rfl, fun j hj _ => List.getElem?_eq_getElem hj, S2.out, Rn2.out⟩
        case round =>
          obtain ⟨i, xs, rfl, hgk2, hxl, hxs, HSi, HRi2⟩ := hrel
          clear S2 Rn2
          by_cases hlt : i < l.length
          · have hltI : (i : Int) < l.length := by omega
            have hi0 : (0 : Int) ≤ i := by omega
            obtain ⟨x, hx⟩ : ∃ x, x = l[i] := ⟨_, rfl⟩
            have hxi : xs[i]? = some x := by rw [hxs i hlt (Nat.le_refl _), hx]
            have hxz : x.size ≤ 200 := Hsz.out x (by rw [hx]; exact List.getElem_mem hlt)
            obtain ⟨b, o, rfl⟩ := HSi.rest.arr_addr (by have := HSi.rest.arr_len; omega)
            have c : wr.cell? ⟨b, o + i, none⟩ = some (.string x) := by
              rw [HSi.rest.arr_cell i (by rw [List.length_map]; omega), List.getElem_map]
              rw [List.getElem?_eq_getElem (by omega)] at hxi
              injection hxi with hxi
              rw [hxi]
            have fz : wr.frozen? ⟨b, o + i, none⟩ = false := HSi.rest.arr_free _
            have hadd : ∀ V : World, (Op.stringOp .add x spoilt).run Tryz.prog V = .ok (.string (x ++ spoilt)) V := fun V => run_string_add_sum (P := Tryz.prog) V x spoilt (by show x.size + 6 ≤ _; omega)
            generalize hy : x ++ spoilt = y at hadd
            have HSn := Lib.hid (by
              obtain ⟨X, hX1, hX2⟩ := HSi.frame
              have h1 := (hX1.perm (show _ = arr 9 1 (some ⟨b, o, none⟩) l.length pc (xs.map sv) * (X * keep W) by ac_rfl)).arr_set i (sv y)
              rw [← List.map_set] at h1
              exact hX2 _ (arr 9 1 (some ⟨b, o, none⟩) l.length pc ((xs.set i y).map sv) * keep W) (h1.perm (by ac_rfl)))
            have HRn := Lib.hid (Ran.set HRi2 ⟨b, o + i, none⟩ (sv y))
            have Hxs := Lib.hid hxs
            have Hxl := Lib.hid hxl
            clear hx hxi hxz HSi HRi2 hxs hxl hy
            go_wp2_with fail
            go_roundg (gk - 1)
            case rel =>
              refine ⟨i + 1, xs.set i y, by simp, by omega, by rw [List.length_set]; exact Hxl.out, fun j hj h => ?_, HSn.out, HRn.out⟩
              rw [List.getElem?_set_ne (by omega)]
              exact Hxs.out j hj (by omega)
            case measure => omega
          · have hge : i = l.length := by omega
            subst hge
            have HAr := Lib.hid (Args_calls K m1 wr _ (by rw [Hm1l.out]; omega) HSi)
            have HRi3 := Lib.hid HRi2
            clear HSi HRi2 hxs hxl
            go_wp2_with fail
            refine HAr.out.mono ?_
            rintro e w3 ⟨⟨ap, ac, rfl, S3⟩, hB3⟩
            rw [Hm1l.out] at S3 ⊢
            have S3k : SAt K w3 m1 (arr 9 1 ap l.length ac (l.map sv) * keep W) := by
              obtain ⟨X, hX1, hX2⟩ := S3.frame
              exact hX2 _ _ (hX1.perm (show _ = arr 9 1 p l.length pc (xs.map sv) * (X * (arr 9 1 ap l.length ac (l.map sv) * keep W)) by ac_rfl)).right
            have R3n := Lib.hid (Below.trans HRi3.out (hB3.mono (Nat.zero_le _)))
            have HTx := texts_calls l l ap ao ac cap w3 (StrsAt.arr S3k.rest) (keep_texts HL.out S3k.rest) (by omega) (by omega)
            rw [decide_eq_true rfl] at HTx
            have HTx := Lib.hid HTx
            have S3k := Lib.hid S3k
            clear S3 hB3 HAr
            go_wp2_with fail
            refine HTx.out.mono ?_
            rintro e w4 ⟨rfl, hB4⟩
            have S4 := Lib.hid (S3k.out.below hB4)
            have R4 := Lib.hid (Below.trans R3n.out (hB4.mono (Nat.zero_le _)))
            clear hB4 S3k R3n HTx
            go_wp2_with fail
            go_loopg [10] (l.length) (R3 K m1 l.length ap ac W)
            case atStart => exact ⟨0, l, rfl, by omega, rfl, S4.out, R4.out⟩
            case round =>
              obtain ⟨i, ys, rfl, hgk3, hyl, HSi, HRi4⟩ := hrel
              clear S4 R4
              by_cases hlt : i < l.length
              · have hltI : (i : Int) < l.length := by omega
                have hi0 : (0 : Int) ≤ i := by omega
                obtain ⟨b, o, rfl⟩ := HSi.rest.arr_addr (by have := HSi.rest.arr_len; omega)
                have fz : wr.frozen? ⟨b, o + i, none⟩ = false := HSi.rest.arr_free _
                obtain ⟨y0, c⟩ : ∃ y0, wr.cell? ⟨b, o + i, none⟩ = some (.string y0) := ⟨ys[i]'(by omega), by
                  rw [HSi.rest.arr_cell i (by rw [List.length_map]; omega), List.getElem_map]⟩
                have HSn := Lib.hid (by
                  obtain ⟨X, hX1, hX2⟩ := HSi.frame
                  have h1 := (hX1.perm (show _ = arr 9 1 (some ⟨b, o, none⟩) l.length ac (ys.map sv) * (X * keep W) by ac_rfl)).arr_set i (sv spoilt)
                  rw [← List.map_set] at h1
                  exact hX2 _ (arr 9 1 (some ⟨b, o, none⟩) l.length ac ((ys.set i spoilt).map sv) * keep W) (h1.perm (by ac_rfl)))
                have HRn := Lib.hid (Ran.set HRi4 ⟨b, o + i, none⟩ (sv spoilt))
                have Hyl := Lib.hid hyl
                clear HSi HRi4 hyl
                go_wp2_with fail
                go_roundg (gk - 1)
                case rel => exact ⟨i + 1, ys.set i spoilt, by simp, by omega, by rw [List.length_set]; exact Hyl.out, HSn.out, HRn.out⟩
                case measure => omega
              · have hge : i = l.length := by omega
                subst hge
                have HAr := Lib.hid (Args_calls K m1 wr _ (by rw [Hm1l.out]; omega) HSi)
                have HRi5 := Lib.hid HRi4
                clear HSi HRi4 hyl
                go_wp2_with fail
                refine HAr.out.mono ?_
                rintro e w5 ⟨⟨bp, bc, rfl, S5⟩, hB5⟩
                rw [Hm1l.out] at S5 ⊢
                have R5 := Lib.hid (Below.trans HRi5.out (hB5.mono (Nat.zero_le _)))
                have HTx := texts_calls l l bp ao bc cap w5 (StrsAt.arr S5.rest) (keep_texts HL.out (S5.rest.perm (show _ = (arr 9 1 bp l.length bc (l.map sv) * arr 9 1 ap l.length ac (ys.map sv)) * keep W by ac_rfl))) (by omega) (by omega)
                rw [decide_eq_true rfl] at HTx
                have HTx := Lib.hid HTx
                have S5 := Lib.hid S5
                clear hB5 HAr
                go_wp2_with fail
                refine HTx.out.mono ?_
                rintro e w6 ⟨rfl, hB6⟩
                have R6 := Lib.hid (Below.trans R5.out (hB6.mono (Nat.zero_le _)))
                have hAw := Lib.hid (HA.out w6 (S5.out.below hB6).rest.right.right)
                clear hB6 S5 HTx
                go_wp2_with fail
                refine hAw.out.mono ?_
                rintro e w7 ⟨⟨rfl, h2⟩, h3⟩
                have h2 := Lib.hid h2
                have h3 := Lib.hid h3
                clear hAw
                go_wp2_with fail
                go_ret
                exact ⟨rfl, fin_true R6.out h2.out h3.out⟩
theorem own : ownKnob Tryz.prog.godebug = none := by kernel_rfl
theorem laidOut : laidOutB Tryz.prog = true := by kernel_rfl

set_option maxRecDepth 100000 in
theorem lifted (os : Os) (started : os.Started) (H : Type) (enc : TypeId × Value → H) :
    ReturnsInHanded {} Tryz.checked os 3 .any (fun w args => (Rows.stateOwnSpec.pre enc Tryz.prog Tryz.f3 Rows.stateOwnRow.domain false w args ∧ laidMetH Tryz.prog Rows.stateOwnRow.laid w) ∧ sizedMet enc Tryz.prog Tryz.f3 (OpenSpec.ofChange Rows.stateOwnSpec) false w args) (Rows.stateOwnSpec.post enc Tryz.prog Tryz.f3 false true false false) := by
  refine handed_shaped (C := Tryz.checked) (X := fun w _ => laidMetH Tryz.prog Rows.stateOwnRow.laid w) (fun _ _ _ hh h => h.of_heap hh) own started (by kernel_rfl) Tryz.func3
    (ChangeSpec.witness_shaped (enc := enc) (C := Tryz.checked) (os := os) (X := fun w _ => laidMetH Tryz.prog Rows.stateOwnRow.laid w) false (World.laidAll Tryz.prog os Rows.stateOwnRow.laid) #[.slice none 0 0] 8 (World.laidAll_os _ _ _)
      (World.shaped_of_ZipB (by kernel_rfl) (by kernel_rfl)) (by kernel_rfl) (by kernel_rfl) (by kernel_rfl)
      (by rw [MakeChecks.laidMetH_plain _ _ _ (by kernel_rfl)]; exact laidMet_laidAll _ (by kernel_rfl) (by kernel_rfl))) ?_
  intro W base args ds gs before hval0 hW hcnd _ hL hsh
  have hval : ∀ (j : Nat) t v, Tryz.f3.params[j]? = some t → args[j]? = some v → Value.okWide Tryz.prog W .any base t v := hval0
  have hW' := hW
  obtain ⟨p, q, hA0, hV, rfl, hfz, hnd⟩ := hW
  have hA : DataW.TrodAll enc Tryz.prog W 0 (fun _ => true) true Tryz.f3.params.toList args.toList ds p := hA0
  rw [Tryz.params3] at hA hval
  obtain ⟨v0, vs0, d0, ds0, p0, q0, hargs, rfl, rfl, h0, r0⟩ := trodAll_cons hA
  obtain ⟨rfl, rfl, rfl⟩ := trodAll_nil r0
  obtain rfl : args = #[v0] := by cases args; simp_all
  obtain ⟨rfl, rfl⟩ := trodVars_none hV
  have k0 := h0
  have lt0 : ∀ x ∈ p0, x.block < W.heap.size := by obtain ⟨m, hm⟩ := k0; exact DataW.trod_lt m _ _ _ hm
  obtain ⟨ao0, l0, cap0, rfl, w0⟩ := strs_open (hval 0 22 v0 rfl rfl) h0
  clear hA0 hval0
  refine (walk ao0 cap0 l0 W w0 (glob_keep hsh)).mono fun e W' ⟨he, bel⟩ => ?_
  subst he
  exact ⟨_, rfl, _, _, _, [], _, [], hW', trodAll_mk1 (shut_bool Tryz.underlying4 _), (trodAll_cons_mk (Below.trod laidOut (by kernel_rfl) (of_decide_eq_true (by kernel_rfl)) k0 bel lt0) trodAll_mk0), rfl, bel.frame _, fun h => by cases h⟩

theorem over : Rows.stateOwnRow.holds Tryz.pinned (OpenSpec.ofChange Rows.stateOwnSpec) :=
  OpenClaim.holds_of_wide 3 Tryz.f3 rfl rfl rfl rfl rfl rfl rfl ⟨rfl, rfl, rfl, rfl, rfl⟩ rfl rfl rfl rfl rfl (by kernel_rfl) Tryz.func3 (by kernel_rfl)
    (of_decide_eq_true (by kernel_rfl)) (by unfold Func.isWrapper; first | (rw [if_pos (by decide +kernel)]; kernel_rfl) | (rw [if_neg (by decide +kernel)]; exact ⟨rfl, rfl⟩))
    (fun os started H enc _ => lifted os started H enc)

theorem proved : Rows.StateOwnCardSaid :=
  Claim7.holds_tied_plain_at .later [] [.data, .pinned] true (true, "83f1ec9fe5598e44ca1373aaa29f11eda85e46993f0c38abd82652bee74b7ab8") false over (fun _ h => by cases h) (by kernel_rfl) (fun _ h => by cases h) stateOwn_row_tie rfl ⟨rfl, rfl⟩ (by kernel_rfl) rfl
    (fun f fn hf hfn => by
      obtain rfl : f = 3 := Option.some.inj ((show Tryz.prog.funcNamed "whelk/whelklaw10.StateOwn" = some 3 by kernel_rfl).symm.trans hf) |>.symm
      obtain rfl : fn = Tryz.f3 := (Option.some.inj (Tryz.func3.symm.trans hfn)).symm
      exact ⟨by kernel_rfl, fun j t ht => by
        rw [Tryz.params3] at ht
        have hm : t ∈ [22] := by simpa using Array.mem_of_getElem? ht
        have hall : ([22].all fun u => !Tryz.prog.wantsStandIn u) = true := by kernel_rfl
        exact (show Tryz.prog.wantsStandIn t = false by simpa using List.all_eq_true.1 hall t hm)⟩)
    (by kernel_rfl)
#print axioms proved
end Go.Proofs.YtlmjidandjemjaaGreatDoor.stateOwn
