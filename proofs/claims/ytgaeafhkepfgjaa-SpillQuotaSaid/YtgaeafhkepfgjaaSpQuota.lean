/- SpillQuota: no more is held than the quota, and what is refused changes nothing: the law returns true, for all rows of calls and any quota. -/
import Derived.Test.YtgaeafhkepfgjaaSpO
namespace Go.Proofs.Ytgaeafhkepfgjaa.spillQuota
open Go.ChangeShapes Go.WideShapes Go.ChangeAt Go.RowKit Go.Proofs.Ytgaeafhkepfgjaa Go.Proofs.Ytgaeafhkepfgjaa.Hp Go.Proofs.Ytgaeafhkepfgjaa.Spill
set_option linter.unusedVariables false

def PB (bp bb q m c held opn tot frm : Nat) (data : List UInt8) (R : Hp) (w : World) : Prop :=
  Sat w (poolX bp q m c held (0 + (cl m c (frm + data.length) - gn m c frm)) opn tot * (bufX bb bp m c frm data * R))

def QRel (bp bb q : Nat) (W : World) (l : List Opr) (k : Nat) (iv : Value) (wr : World) : Prop :=
  ∃ (i held tot frm : Nat) (data : List UInt8), i + k = l.length ∧ iv = .int .i64 (i : Int) ∧ data.length = held ∧ held ≤ q ∧ frm + data.length ≤ 300 * i ∧ tot ≤ 300 * i ∧ PB bp bb q 3 5 held 1 tot frm data (keep W) wr ∧ Ran W wr

/-- The optional Drain at a round's end. -/
def DPost (bp bb q tot bound : Nat) (W w : World) (e : Ending) (w' : World) : Prop :=
  ∃ (s : ByteArray) (x : Int) (held frm : Nat) (data : List UInt8), e = .returned (.tuple #[.string s, .int .i64 x]) ∧ data.length = held ∧ held ≤ q ∧ frm + data.length ≤ bound ∧ PB bp bb q 3 5 held 1 tot frm data (keep W) w' ∧ Ran w w'
theorem drain_any (bp bb q held tot frm bound : Nat) (data : List UInt8) (W w : World) (n : Int) (hn : n ≤ 9223372036854775807) (hd : data.length = held) (hq : held ≤ q) (hq2 : q ≤ 1048576) (hf : frm + data.length ≤ bound) (hb : bound ≤ 1000000) (ht : tot ≤ 1000000)
    (H : PB bp bb q 3 5 held 1 tot frm data (keep W) w) : Calls Try.prog 14 #[.pointer (some ⟨bb, 0, none⟩), .int .i64 n] w (DPost bp bb q tot bound W w) := by
  by_cases h : n < 0
  · refine (drain_neg n w bb (bufX_cells (H.perm (sep_comm _ _) |>.perm (sep_assoc _ _ _))).1 h).mono ?_
    rintro e w' ⟨rfl, rfl⟩
    exact ⟨_, _, held, frm, data, rfl, hd, hq, hf, H, Below.refl _ _⟩
  · obtain ⟨k, rfl⟩ : ∃ k : Nat, n = (k : Int) := ⟨n.toNat, by omega⟩
    refine (drain_calls bp bb q 3 5 held 0 1 tot frm (frm + data.length) k (min k data.length) data (keep W) w (by omega) (by omega) (by omega) (by omega) (by omega) (by omega) (by omega) (by omega) hn rfl rfl H).mono ?_
    rintro e w' ⟨rfl, h1, h2⟩
    refine ⟨_, _, held - min k data.length, frm + min k data.length, data.drop (min k data.length), rfl, by rw [List.length_drop]; omega, by omega, by rw [List.length_drop]; omega, ?_, h2⟩
    unfold PB
    rw [List.length_drop, show frm + min k data.length + (data.length - min k data.length) = frm + data.length by omega]
    exact h1

set_option maxRecDepth 100000 in
set_option maxHeartbeats 4000000 in
theorem walk (ao : Option Addr) (cap : Nat) (l : List Opr) (q : Int) (W : World) (hl : OpsAt W ao l) (_hq : I64 q) :
    Calls Try.prog 3 #[.slice ao l.length cap, .int .i64 q] W fun e w' => e = .returned (.bool true) ∧ Below W.heap.size W w' := by
  by_cases hf : Few l
  · by_cases hq : q < 0 ∨ 1048576 < q
    · have hb := new_bad q 3 5 W (by omega)
      have hB := Lib.hid hb
      clear hb
      by_cases hq1 : q < 0
      · clear hq
        go_enter Try.func3, Try.ntmps3
        go_wp2_with (first
          | (go_at_call 7; refine (few_yes _ _ _ _ hl hf).mono ?_; rintro e w' ⟨rfl, rfl⟩)
          | (go_at_call 9; refine hB.out.mono ?_; rintro e w' ⟨rfl, rfl⟩)
          | (go_at_call 8; refine (awake_calls W (keep W) (Sat.start W)).mono ?_; rintro e w' ⟨rfl, H, R⟩))
        go_ret
        exact ⟨rfl, Ran.whole' R H⟩
      · have hq2 : 1048576 < q := by omega
        clear hq
        go_enter Try.func3, Try.ntmps3
        go_wp2_with (first
          | (go_at_call 7; refine (few_yes _ _ _ _ hl hf).mono ?_; rintro e w' ⟨rfl, rfl⟩)
          | (go_at_call 9; refine hB.out.mono ?_; rintro e w' ⟨rfl, rfl⟩)
          | (go_at_call 8; refine (awake_calls W (keep W) (Sat.start W)).mono ?_; rintro e w' ⟨rfl, H, R⟩))
        go_ret
        exact ⟨rfl, Ran.whole' R H⟩
    · obtain ⟨qn, rfl⟩ : ∃ k : Nat, q = (k : Int) := ⟨q.toNat, by omega⟩
      have hq2 : qn ≤ 1048576 := by omega
      clear hq
      go_enter Try.func3, Try.ntmps3
      go_wp2_with (first
        | (go_at_call 7; refine (few_yes _ _ _ _ hl hf).mono ?_; rintro e w' ⟨rfl, rfl⟩)
        | (go_at_call 9; refine (xnew qn 3 5 W (keep W) (Sat.start W) hq2 (by omega) (by omega) (by omega)).mono ?_; rintro e w1 ⟨bp, rfl, H1, R1⟩)
        | (go_at_call 10; refine (xopen bp qn 3 5 0 0 0 0 (keep W) w1 (by omega) (by omega) (by omega) H1).mono ?_; rintro e w2 ⟨bb, rfl, H2, R2⟩))
      go_loopg [8] (l.length) (QRel bp bb qn W l)
      case atStart => exact ⟨0, 0, 0, 0, [], by omega, rfl, rfl, by omega, by simp, by omega, H2, R1.trans R2⟩
      case round =>
        clear H1 H2 R1 R2
        obtain ⟨i, held, tot, frm, data, hik, rfl, hdl, hhq, hfd, htt, HB, HR⟩ := hrel
        have hl40 := hf.1
        have HBX : Sat wr (bufX bb bp 3 5 frm data * (poolX bp qn 3 5 held (0 + (cl 3 5 (frm + data.length) - gn 3 5 frm)) 1 tot * keep W)) := HB.perm (by ac_rfl)
        have hkp := (HBX.right.right).kept
        by_cases hi : i < l.length
        · obtain ⟨ok, b, o, rfl, hb, g0, g1, g2, g3⟩ := hl i hi
          have hat : ∀ w' : World, (∀ k, k < W.heap.size → w'.heap[k]? = W.heap[k]?) → ∀ j, w'.cell? ⟨b, j, none⟩ = W.cell? ⟨b, j, none⟩ := fun w' hk j => World.cell?_of_block (w := W) (hk b hb)
          have h0 := (hat wr hkp _).trans g0
          have h2 := (hat wr hkp _).trans g2
          have h3 := (hat wr hkp _).trans g3
          have hdd := hf.2 l[i] (List.getElem_mem hi)
          have hdd2 : (l[i].data.length : Int) ≤ 300 := by omega
          have hlt : (i : Int) < l.length := by omega
          have hi0 : (0 : Int) ≤ i := by omega
          have hN : l[i].n ≤ 9223372036854775807 := ok.2.2.1.2
          generalize l[i].data = d at *
          generalize l[i].n = dn at *
          generalize l[i].ask = ask at *
          have Hat := Lib.hid hat
          have G0 := Lib.hid g0
          have G2 := Lib.hid g2
          have G3 := Lib.hid g3
          clear hat g0 g1 g2 g3
          have Hik := Lib.hid hik
          have Hdl := Lib.hid hdl
          have Hl := Lib.hid hl
          have Hf := Lib.hid hf
          obtain ⟨us, hus⟩ : ∃ us, us = 0 + (cl 3 5 (frm + data.length) - gn 3 5 frm) := ⟨_, rfl⟩
          have Hus := Lib.hid hus
          have HB1 : Sat wr (poolX bp qn 3 5 held us 1 tot * (bufX bb bp 3 5 frm data * keep W)) := by rw [hus]; exact HB
          have hhd : (held : Int) ≤ qn := by omega
          clear hik hdl hl hf ok HBX hus hkp
          by_cases hr : held + d.length ≤ qn
          · have hr1 : (held : Int) + d.length ≤ qn := by omega
            go_wp2_with fail
            refine (xheld bp qn 3 5 held us 1 tot _ _ HB1).mono ?_
            rintro e w' ⟨rfl, rfl⟩
            go_wp2_with fail
            refine (xchunks bp qn 3 5 held us 1 tot _ _ HB1).mono ?_
            rintro e w' ⟨rfl, rfl⟩
            go_wp2_with fail
            refine (append_loop bp bb qn 3 5 held 0 1 tot frm data d (keep W) _ (by omega) (by omega) (by omega) hq2 hr (by omega) (by omega) (by omega) HB).mono ?_
            rintro e w3 ⟨rfl, H3, R3⟩
            have j0 := (Hat.out w3 H3.right.right.kept _).trans G0.out
            have j2 := (Hat.out w3 H3.right.right.kept _).trans G2.out
            have j3 := (Hat.out w3 H3.right.right.kept _).trans G3.out
            go_wp2_with fail
            refine (xheld bp qn 3 5 (held + d.length) _ 1 _ _ _ H3).mono ?_
            rintro e w' ⟨rfl, rfl⟩
            have H3' : PB bp bb qn 3 5 (held + d.length) 1 (tot + d.length) frm (data ++ d) (keep W) w3 := H3
            have hal : (data ++ d).length = held + d.length := by rw [List.length_append, Hdl.out]
            have Hal := Lib.hid hal
            clear hal
            cases hask : (ask.tmod 2 == 0)
            · go_wp2_with fail
              go_roundg (gk - 1)
              case measure => have := Hik.out; omega
              case rel => exact ⟨i + 1, held + d.length, tot + d.length, frm, data ++ d, by have := Hik.out; omega, rfl, Hal.out, by omega, by have := Hal.out; have := Hdl.out; omega, by omega, H3', HR.trans R3⟩
            · go_wp2_with fail
              refine (drain_any bp bb qn (held + d.length) (tot + d.length) frm (300 * (i + 1)) (data ++ d) W w3 dn hN Hal.out hr hq2 (by have := Hal.out; have := Hdl.out; omega) (by omega) (by omega) H3').mono ?_
              rintro e w4 ⟨s4, x4, held4, frm4, data4, rfl, q1, q2, q3, q4, R4⟩
              have Q1 := Lib.hid q1
              clear q1
              go_wp2_with fail
              go_roundg (gk - 1)
              case measure => have := Hik.out; omega
              case rel => exact ⟨i + 1, held4, tot + d.length, frm4, data4, by have := Hik.out; omega, rfl, Q1.out, q2, q3, by omega, q4, (HR.trans R3).trans R4⟩
          · have hr1 : (qn : Int) < (held : Int) + d.length := by omega
            go_wp2_with fail
            refine (xheld bp qn 3 5 held us 1 tot _ _ HB1).mono ?_
            rintro e w' ⟨rfl, rfl⟩
            go_wp2_with fail
            refine (xchunks bp qn 3 5 held us 1 tot _ _ HB1).mono ?_
            rintro e w' ⟨rfl, rfl⟩
            go_wp2_with fail
            refine (append_full bp bb qn 3 5 held us 1 tot frm data ⟨d.toArray⟩ (keep W) _ hq2 (by simp [ByteArray.size]; omega) hhq HB1).mono ?_
            rintro e w3 ⟨rfl, nq, rfl⟩
            have H3 := HB1.drewN nq
            go_wp2_with fail
            refine (xheld bp qn 3 5 held us 1 tot _ _ H3).mono ?_
            rintro e w' ⟨rfl, rfl⟩
            have H3' : PB bp bb qn 3 5 held 1 tot frm data (keep W) (wr.drewN nq) := HB.drewN nq
            cases hask : (ask.tmod 2 == 0)
            · go_wp2_with (first | (go_at_call 12; refine (xchunks bp qn 3 5 held us 1 tot _ _ H3).mono ?_; rintro e w' ⟨rfl, rfl⟩))
              go_roundg (gk - 1)
              case measure => have := Hik.out; omega
              case rel => exact ⟨i + 1, held, tot, frm, data, by have := Hik.out; omega, rfl, Hdl.out, by omega, by omega, by omega, H3', Ran.drewN HR _⟩
            · go_wp2_with (first | (go_at_call 12; refine (xchunks bp qn 3 5 held us 1 tot _ _ H3).mono ?_; rintro e w' ⟨rfl, rfl⟩))
              refine (drain_any bp bb qn held tot frm (300 * (i + 1)) data W _ dn hN Hdl.out hhq hq2 (by omega) (by omega) (by omega) H3').mono ?_
              rintro e w4 ⟨s4, x4, held4, frm4, data4, rfl, q1, q2, q3, q4, R4⟩
              have Q1 := Lib.hid q1
              clear q1
              go_wp2_with fail
              go_roundg (gk - 1)
              case measure => have := Hik.out; omega
              case rel => exact ⟨i + 1, held4, tot, frm4, data4, by have := Hik.out; omega, rfl, Q1.out, q2, q3, by omega, q4, (Ran.drewN HR _).trans R4⟩
        · have hge : ¬ ((i : Int) < l.length) := by omega
          have HK := HBX.right.right
          clear hik hl hf hdl
          go_wp2_with (first
            | (go_at_call 8; refine (awake_calls wr (keep W) HK).mono ?_; rintro e w' ⟨rfl, H, R⟩))
          go_ret
          exact ⟨rfl, Ran.whole' (HR.trans R) H⟩
  · go_enter Try.func3, Try.ntmps3
    go_wp2_with (first
      | (go_at_call 7; refine (few_no _ _ _ _ hl hf).mono ?_; rintro e w' ⟨rfl, rfl⟩)
      | (go_at_call 8; refine (awake_calls W (keep W) (Sat.start W)).mono ?_; rintro e w' ⟨rfl, H, R⟩))
    go_ret
    exact ⟨rfl, Ran.whole' R H⟩

set_option maxRecDepth 100000 in
theorem lifted (os : Os) (started : os.Started) (H : Type) (enc : TypeId × Value → H) :
    ReturnsInHanded {} Try.checked os 3 .any (Rows.spillQuotaSpec.pre6 enc Try.prog Try.f3 Rows.spillQuotaRow.domain false) (Rows.spillQuotaSpec.post enc Try.prog Try.f3 false true false false) := by
  refine returnsInHanded_of_change (C := Try.checked) own started (by kernel_rfl) Try.func3
    (ChangeSpec.witness6 (enc := enc) (C := Try.checked) false ⟨#[], #[.slice none 0 0, .int .i64 0], []⟩ 8 (by kernel_rfl) (by kernel_rfl) (by kernel_rfl) (by kernel_rfl)) ?_
  intro W base args ds gs before hval0 hW hcnd _
  have hval : ∀ (j : Nat) t v, Try.f3.params[j]? = some t → args[j]? = some v → Value.okWide Try.prog W .any base t v := hval0
  have hW' := hW
  obtain ⟨p, q, hA0, hV, rfl, hfz, hnd⟩ := hW
  have hA : DataW.TrodAll enc Try.prog W 0 (fun _ => true) true Try.f3.params.toList args.toList ds p := hA0
  rw [Try.params3] at hA hval
  obtain ⟨v0, vs0, d0, ds0, p0, q0, hargs, rfl, rfl, h0, r0⟩ := trodAll_cons hA
  obtain ⟨v1, vs1, d1, ds1, p1, q1, rfl, rfl, rfl, h1, r1⟩ := trodAll_cons r0
  obtain ⟨rfl, rfl, rfl⟩ := trodAll_nil r1
  obtain rfl : args = #[v0, v1] := by cases args; simp_all
  obtain ⟨rfl, rfl⟩ := trodVars_none hV
  have k0 := h0
  have lt0 : ∀ x ∈ p0, x.block < W.heap.size := by obtain ⟨m, hm⟩ := k0; exact DataW.trod_lt m _ _ _ hm
  obtain ⟨ao0, l0, cap0, rfl, w0⟩ := ops_open (hval 0 22 v0 rfl rfl) h0
  obtain ⟨a1, rfl, rfl, rfl, w1⟩ := open_int Try.underlying3 (hval 1 3 v1 rfl rfl) h1
  clear hA0 hval0
  refine (walk ao0 cap0 l0 a1 W w0 (i64_of w1)).mono fun e W' ⟨he, bel⟩ => ?_
  subst he
  exact ⟨_, rfl, _, _, _, [], _, [], hW', trodAll_mk1 (shut_bool Try.underlying4 _), (trodAll_cons_mk (Below.trod laidOut (by kernel_rfl) (of_decide_eq_true (by kernel_rfl)) k0 bel lt0) (trodAll_cons_mk (shut_int Try.underlying3 w1) trodAll_mk0)), rfl, bel.frame _, fun h => by cases h⟩

theorem over : Rows.spillQuotaRow.holds Try.pinned (OpenSpec.ofChange Rows.spillQuotaSpec) :=
  OpenClaim.holds_of_wide 3 Try.f3 rfl rfl rfl rfl rfl rfl rfl ⟨rfl, rfl, rfl, rfl, rfl⟩ rfl rfl rfl rfl rfl (by kernel_rfl) Try.func3 (by kernel_rfl)
    (of_decide_eq_true (by kernel_rfl)) (by unfold Func.isWrapper; first | (rw [if_pos (by decide +kernel)]; kernel_rfl) | (rw [if_neg (by decide +kernel)]; exact ⟨rfl, rfl⟩))
    (fun os started H enc _ => lifted os started H enc)

theorem proved : Rows.SpillQuotaSaid := over
#print axioms proved
end Go.Proofs.Ytgaeafhkepfgjaa.spillQuota
