/- MarksBack: a marked text without a bare \ or ' is read again out of its Escape: the law returns true, for all marked texts. -/
import Derived.Test.YtlpfcnpdecoblaaDoorMkL
import Derived.Test.YtlpfcnpdecoblaaDoorTie
import Derived.Test.YtlpfcnpdecoblaaDoorCards
import Derived.LaidMore
import Derived.Lay
import Derived.SevenTiedAt
import Derived.Stop.Joined
namespace Go.Proofs.YtlpfcnpdecoblaaDoor.marksBack
open Go.ChangeShapes Go.WideShapes Go.ChangeAt Go.RowKit Go.Proofs.YtlpfcnpdecoblaaDoor Go.Proofs.YtlpfcnpdecoblaaDoor.Hp Go.Proofs.YtlpfcnpdecoblaaDoor.Marks
set_option linter.unusedVariables false
attribute [local go_sem] Oper.semAt_some

def BkRel (t : List Ch) (w : World) (g : Nat) (iv : Value) (wr : World) : Prop := ∃ i : Nat, i + g = t.length ∧ iv = .int .i64 (i : Int) ∧ (t.take i).any badC = false ∧ Below w.heap.size w wr
theorem read_t (s : ByteArray) (t : List Ch) (w : World) (h : readP false (bs s) = some t) (hm : s.size ≤ 100000) :
    Calls Tryd.prog 10 #[.string s] w fun e w' => ∃ p cap, e = .returned (.tuple #[.slice p t.length cap, .int .i64 0]) ∧ CharsAt w' p cap t ∧ Below w.heap.size w w' := by
  have := read_calls s w hm
  unfold ReadPost at this
  rw [h] at this
  exact this
set_option maxRecDepth 100000 in
set_option maxHeartbeats 8000000 in
theorem walk (ao : Option Addr) (ca : Nat) (t : List Ch) (W : World) (ht : CharsAt W ao ca t) :
    Calls Tryd.prog 4 #[.slice ao t.length ca] W (FPost true W) := by
  by_cases h1 : t.length ≤ 1000
  · have h1' : (t.length : Int) ≤ 1000 := by omega
    have Ht := Lib.hid ht
    clear ht
    go_enter Tryd.func4, Tryd.ntmps4
    go_wp2_with fail
    refine (escape_calls t ao ca W Ht.out (by omega)).mono ?_
    rintro e w1 ⟨rfl, b1⟩
    obtain ⟨s, hs⟩ : ∃ s, s = (⟨(escL t).toArray⟩ : ByteArray) := ⟨_, rfl⟩
    rw [← hs]
    have Hs := Lib.hid hs
    have B1 := Lib.hid b1
    clear hs b1
    go_wp2_with fail
    go_loopg [4] (t.length) (BkRel t W)
    case atStart => exact ⟨0, by omega, rfl, rfl, B1.out⟩
    case round =>
      obtain ⟨i, hig, rfl, hnb, hb⟩ := hrel
      have hi0 : (0 : Int) ≤ i := by omega
      by_cases hi : i < t.length
      · have hil : (i : Int) < t.length := by omega
        obtain ⟨tb, o, rfl, htb, x0, x1⟩ := (Ht.out.keep (Kept.below hb)).2.2 i hi
        have htk : t.take (i + 1) = t.take i ++ [t[i]] := List.take_succ_eq_append_getElem hi
        have hbad := Lib.hid (fun (h : badC t[i] = true) => (Hs.out.trans (by rw [esc_bad hi h]) : s = (⟨#[]⟩ : ByteArray)))
        obtain ⟨c, hc⟩ : ∃ c, c = t[i] := ⟨_, rfl⟩
        rw [← hc] at x0 x1 htk hbad
        have hnext := Lib.hid (fun (hg : badC c = false) => (show BkRel t W (gk - 1) (.int .i64 ((i : Int) + 1)) wr from ⟨i + 1, by omega, rfl, by rw [htk, List.any_append, hnb]; simp [hg], hb⟩))
        have Hm := Lib.hid (show gk - 1 < gk by omega)
        have Hb := Lib.hid hb
        clear hig htk hnb hc hi hb
        obtain ⟨cb, cq⟩ := c
        dsimp only at x0 x1
        have l92 := u8_lit cb 92 (by omega)
        have l39 := u8_lit cb 39 (by omega)
        rw [show ((92 : Nat) : Int) = 92 from rfl, show UInt8.ofNat 92 = 92 from rfl] at l92
        rw [show ((39 : Nat) : Int) = 39 from rfl, show UInt8.ofNat 39 = 39 from rfl] at l39
        cases cq with
        | true =>
          have Hrel := Lib.hid (hnext.out (by simp [badC]))
          clear hnext hbad
          go_wp2_with fail
          go_roundg (gk - 1)
          case measure => exact Hm.out
          case rel => exact Hrel.out
        | false =>
          by_cases n92 : cb = 92
          · have f92 : (cb == (92 : UInt8)) = true := by rw [n92]; rfl
            rw [f92] at l92
            have hse := hbad.out (by simp [badC, f92])
            clear hbad hnext n92 f92 l39
            subst hse
            go_wp2_with fail
            refine (awake_calls wr).mono ?_
            rintro e w9 ⟨rfl, b9⟩
            go_wp2_with fail
            go_ret
            exact ⟨rfl, bt Hb.out b9⟩
          · have f92 : (cb == (92 : UInt8)) = false := by simpa using n92
            rw [f92] at l92
            by_cases n39 : cb = 39
            · have f39 : (cb == (39 : UInt8)) = true := by rw [n39]; rfl
              rw [f39] at l39
              have hse := hbad.out (by simp [badC, f39])
              clear hbad hnext n92 f92 n39 f39
              subst hse
              go_wp2_with fail
              refine (awake_calls wr).mono ?_
              rintro e w9 ⟨rfl, b9⟩
              go_wp2_with fail
              go_ret
              exact ⟨rfl, bt Hb.out b9⟩
            · have f39 : (cb == (39 : UInt8)) = false := by simpa using n39
              rw [f39] at l39
              have Hrel := Lib.hid (hnext.out (by simp [badC, f92, f39]))
              clear hbad hnext n92 f92 n39 f39
              go_wp2_with fail
              go_roundg (gk - 1)
              case measure => exact Hm.out
              case rel => exact Hrel.out
      · have hge : ¬ ((i : Int) < t.length) := by omega
        have hta : t.take i = t := List.take_of_length_le (by omega)
        rw [hta] at hnb
        have hre : readP false (bs s) = some t := by
          rw [Hs.out]
          show readP false (escL t) = _
          unfold escL
          rw [hnb]
          exact read_escape t hnb
        have hsz : s.size ≤ 100000 := by
          rw [← bs_length, Hs.out]
          show (escL t).length ≤ _
          unfold escL
          rw [hnb]
          have := esc_len t
          show (t.flatMap escB).length ≤ _
          omega
        have hrc := Lib.hid (read_t s t wr hre hsz)
        have Hb := Lib.hid hb
        clear hre hsz hta hnb hig hi hb
        go_wp2_with fail
        refine hrc.out.mono ?_
        rintro e w2 ⟨p2, c2, rfl, hC2, b2⟩
        have B2 := Lib.hid (bt Hb.out b2)
        have hsm := Lib.hid (lsame_calls t ao p2 ca c2 w2 (Ht.out.keep (Kept.below B2.out)) hC2 (by omega))
        clear hC2 b2
        go_wp2_with fail
        refine hsm.out.mono ?_
        rintro e w3 ⟨rfl, b3⟩
        have B3 := Lib.hid (bt B2.out b3)
        go_wp2_with fail
        refine (awake_calls w3).mono ?_
        rintro e w9 ⟨rfl, b9⟩
        go_wp2_with fail
        go_ret
        exact ⟨rfl, bt B3.out b9⟩
  · have h1' : (1000 : Int) < (t.length : Int) := by omega
    clear ht
    go_enter Tryd.func4, Tryd.ntmps4
    go_wp2_with fail
    refine (awake_calls W).mono ?_
    rintro e w9 ⟨rfl, b9⟩
    go_wp2_with fail
    go_ret
    exact ⟨rfl, b9⟩

set_option maxRecDepth 100000 in
theorem lifted (os : Os) (started : os.Started) (H : Type) (enc : TypeId × Value → H) :
    ReturnsInHanded {} Tryd.checked os 4 .any (fun w args => (Rows.marksBackSpec.pre enc Tryd.prog Tryd.f4 Rows.marksBackRow.domain false w args ∧ laidMetH Tryd.prog Rows.marksBackRow.laid w) ∧ sizedMet enc Tryd.prog Tryd.f4 (OpenSpec.ofChange Rows.marksBackSpec) false w args) (Rows.marksBackSpec.post enc Tryd.prog Tryd.f4 false true false false) := by
  refine returnsInHanded_of_change_and (C := Tryd.checked) (X := fun w _ => laidMetH Tryd.prog Rows.marksBackRow.laid w) (fun _ _ _ hh h => h.of_heap hh) own started (by kernel_rfl) Tryd.func4
    (ChangeSpec.witness_shaped (enc := enc) (C := Tryd.checked) (os := os) (X := fun w _ => laidMetH Tryd.prog Rows.marksBackRow.laid w) false (World.laidAll Tryd.prog os Rows.marksBackRow.laid) #[.slice none 0 0] 8 (World.laidAll_os _ _ _)
      (World.shaped_of_ZipB (by kernel_rfl) (by kernel_rfl)) (by kernel_rfl) (by kernel_rfl) (by kernel_rfl)
      (by rw [MakeChecks.laidMetH_plain _ _ _ (by kernel_rfl)]; exact laidMet_laidAll _ (by kernel_rfl) (by kernel_rfl))) ?_
  intro W base args ds gs before hval0 hW hcnd _ hL _
  have hval : ∀ (j : Nat) t v, Tryd.f4.params[j]? = some t → args[j]? = some v → Value.okWide Tryd.prog W .any base t v := hval0
  have hW' := hW
  obtain ⟨p, q, hA0, hV, rfl, hfz, hnd⟩ := hW
  have hA : DataW.TrodAll enc Tryd.prog W 0 (fun _ => true) true Tryd.f4.params.toList args.toList ds p := hA0
  rw [Tryd.params4] at hA hval
  obtain ⟨v0, vs0, d0, ds0, p0, q0, hargs, rfl, rfl, h0, r0⟩ := trodAll_cons hA
  obtain ⟨rfl, rfl, rfl⟩ := trodAll_nil r0
  obtain rfl : args = #[v0] := by cases args; simp_all
  obtain ⟨rfl, rfl⟩ := trodVars_none hV
  have k0 := h0
  have lt0 : ∀ x ∈ p0, x.block < W.heap.size := by obtain ⟨m, hm⟩ := k0; exact DataW.trod_lt m _ _ _ hm
  obtain ⟨ao0, l0, cap0, rfl, w0⟩ := chars_open (hval 0 22 v0 rfl rfl) h0
  clear hA0 hval0
  refine (walk ao0 cap0 l0 W w0).mono fun e W' ⟨he, bel⟩ => ?_
  subst he
  exact ⟨_, rfl, _, _, _, [], _, [], hW', trodAll_mk1 (shut_bool Tryd.underlying4 _), (trodAll_cons_mk (Below.trod laidOut (by kernel_rfl) (of_decide_eq_true (by kernel_rfl)) k0 bel lt0) trodAll_mk0), rfl, bel.frame _, fun h => by cases h⟩

theorem over : Rows.marksBackRow.holds Tryd.pinned (OpenSpec.ofChange Rows.marksBackSpec) :=
  OpenClaim.holds_of_wide 4 Tryd.f4 rfl rfl rfl rfl rfl rfl rfl ⟨rfl, rfl, rfl, rfl, rfl⟩ rfl rfl rfl rfl rfl (by kernel_rfl) Tryd.func4 (by kernel_rfl)
    (of_decide_eq_true (by kernel_rfl)) (by unfold Func.isWrapper; first | (rw [if_pos (by decide +kernel)]; kernel_rfl) | (rw [if_neg (by decide +kernel)]; exact ⟨rfl, rfl⟩))
    (fun os started H enc _ => lifted os started H enc)

theorem proved : Rows.MarksBackCardSaid :=
  Claim7.holds_tied_plain_at .later [] [.data, .pinned] true (true, "f482e89116bc99bf43e4e1caee790152a011ea106b481086dbda4c4ef674d186") false over (fun _ h => by cases h) (by kernel_rfl) (fun _ h => by cases h) marksBack_row_tie rfl ⟨rfl, rfl⟩ (by kernel_rfl) rfl
    (fun f fn hf hfn => by
      obtain rfl : f = 4 := Option.some.inj ((show Tryd.prog.funcNamed "whelk/whelklaw01.MarksBack" = some 4 by kernel_rfl).symm.trans hf) |>.symm
      obtain rfl : fn = Tryd.f4 := (Option.some.inj (Tryd.func4.symm.trans hfn)).symm
      exact ⟨by kernel_rfl, fun j t ht => by
        rw [Tryd.params4] at ht
        have hm : t ∈ [22] := by simpa using Array.mem_of_getElem? ht
        have hall : ([22].all fun u => !Tryd.prog.wantsStandIn u) = true := by kernel_rfl
        exact (show Tryd.prog.wantsStandIn t = false by simpa using List.all_eq_true.1 hall t hm)⟩)
    (by kernel_rfl)
#print axioms proved
end Go.Proofs.YtlpfcnpdecoblaaDoor.marksBack
