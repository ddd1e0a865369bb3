/- whole, within walked; the four that call one another, joined. -/
import Derived.Test.YtlhkochpokhncaaDoorLxD
namespace Go.Proofs.YtlhkochpokhncaaDoor.Lexer
open Go.RowKit Go.Proofs.YtlhkochpokhncaaDoor Go.Proofs.YtlhkochpokhncaaDoor.Hp
set_option linter.unusedVariables false
attribute [local go_sem] Oper.semAt_some

theorem single_no (l : Bytes) (h : (39 : UInt8) ∉ l) : M [39] l = none := by
  induction l with
  | nil => exact M_frame_nil _ _
  | cons c l ih =>
    rw [M_single, if_neg (fun e => h (by rw [e]; exact List.mem_cons_self ..))]
    exact ih fun hm => h (List.mem_cons_of_mem _ hm)
theorem single_yes (a t : Bytes) (h : (39 : UInt8) ∉ a) : M [39] (a ++ 39 :: t) = some t := by
  induction a with
  | nil => rw [List.nil_append, M_single, if_pos rfl]
  | cons c a ih =>
    rw [List.cons_append, M_single, if_neg (fun e => h (by rw [e]; exact List.mem_cons_self ..))]
    exact ih fun hm => h (List.mem_cons_of_mem _ hm)
theorem single_ixb (l : Bytes) : (M [39] l = none ∧ Lib.indexByte l 39 = -1) ∨ ∃ n : Nat, Lib.indexByte l 39 = (n : Int) ∧ n < l.length ∧ M [39] l = some (l.drop (n + 1)) := by
  rcases ixb_cases l 39 with ⟨h1, h2⟩ | ⟨a, t, h1, h2, h3⟩
  · exact .inl ⟨single_no l h1, h2⟩
  · refine .inr ⟨a.length, h3, by rw [h1]; simp, ?_⟩
    rw [h1, single_yes a t h2]
    rw [List.drop_append, List.drop_eq_nil_of_le (by omega), List.nil_append]
    rw [show a.length + 1 - a.length = 1 by omega]; rfl
theorem esc_pl (s : ByteArray) (i : Nat) (hi : i < s.size) : pl s.size (match (bs s).drop (i + 1) with | [] => none | _ :: r => some r) = if (s.size : Int) < (i : Int) + 2 then -1 else (i : Int) + 2 := by
  by_cases h : (s.size : Int) < (i : Int) + 2
  · rw [if_pos h, drop_end s (i + 1) (by omega)]; rfl
  · rw [if_neg h, bs_drop s (i + 1) (by omega)]
    show (s.size : Int) - ((((bs s).drop (i + 1 + 1)).length : Nat) : Int) = _
    rw [List.length_drop, bs_length]; omega
set_option maxRecDepth 100000 in
set_option maxHeartbeats 8000000 in
theorem whole_of (s : ByteArray) (n : Nat) (hs : Small s) (HU : UntilC s n) (HH : HoleC s (n + 1)) : WholeC s (n + 1) := by
  intro i w hi hn
  have hsz : (s.size : Int) ≤ 1000000 := hs
  have hiI : (i : Int) < s.size := by omega
  have h0 : (0 : Int) ≤ i := by omega
  have hd := bs_drop s i hi
  obtain ⟨v, hv⟩ : ∃ v, v = whI s i := ⟨_, rfl⟩
  rw [← hv]
  unfold whI at hv
  rw [hd, wh_cons] at hv
  have Hu := Lib.hid (fun w => HU (i + 1) w (by omega) (by omega))
  have Hh := Lib.hid (fun w => HH i w (by omega) hn)
  obtain ⟨c, hc⟩ : ∃ c, c = s[i] := ⟨_, rfl⟩
  rw [← hc] at hv hd
  clear HU HH hn
  by_cases c92 : c = 92
  · rw [if_pos c92] at hv
    have hv2 := hv.trans (esc_pl s i hi)
    have b92 : (((s[i].toNat : Nat) : Int) == 92) = true := by rw [q92, ← hc, c92]; rfl
    have Hv := Lib.hid hv2
    clear hv hv2 hd hc c92 Hu Hh
    go_enter Tryd.func47, Tryd.ntmps47
    go_wp2_with fail
    refine (escaped_calls s i w h0 (by omega) (by omega)).mono ?_
    rintro e w1 ⟨rfl, hB⟩
    rw [← Hv.out]
    clear Hv
    go_wp2_with fail
    go_ret
    exact ⟨rfl, hB⟩
  · rw [if_neg c92] at hv
    have b92 : (((s[i].toNat : Nat) : Int) == 92) = false := by rw [q92, ← hc]; exact beq_eq_false_iff_ne.2 c92
    by_cases c39 : c = 39
    · rw [if_pos c39] at hv
      have b39 : (((s[i].toNat : Nat) : Int) == 39) = true := by rw [q39, ← hc, c39]; rfl
      obtain ⟨x, hx⟩ : ∃ x, s.extract (i + 1) s.size = x := ⟨_, rfl⟩
      have hxb : (bs s).drop (i + 1) = bs x := by rw [← hx, bs_tail]
      have hxl : (bs x).length = s.size - (i + 1) := by rw [← hxb, List.length_drop, bs_length]
      rw [hxb] at hv
      have HX := Lib.hid (fun w => six_calls x 39 w)
      rcases single_ixb (bs x) with ⟨h1, h2⟩ | ⟨m, h2, h3, h1⟩
      · rw [h1] at hv
        have hv2 : v = -1 := hv
        have HX2 := HX.out
        rw [show Lib.indexByte x.data.toList (39 : Int).toNat.toUInt8 = -1 from h2] at HX2
        have Hv := Lib.hid hv2
        have HX2 := Lib.hid HX2
        have hx2 : s.extract ((i : Int) + 1).toNat s.size = x := by rw [show ((i : Int) + 1).toNat = i + 1 by omega]; exact hx
        clear hv hv2 hd hc c92 Hu Hh HX h1 h2 hxb hxl c39
        go_enter Tryd.func47, Tryd.ntmps47
        go_wp2_with fail
        refine (HX2.out _).mono ?_
        rintro e w1 ⟨rfl, rfl⟩
        go_wp2_with fail
        go_ret
        exact ⟨by rw [Hv.out]; rfl, Below.refl _ _⟩
      · rw [h1] at hv
        have hv2 : v = (i : Int) + (m : Int) + 2 := by
          rw [hv]
          show (s.size : Int) - ((((bs x).drop (m + 1)).length : Nat) : Int) = _
          rw [List.length_drop]; omega
        have HX2 := HX.out
        rw [show Lib.indexByte x.data.toList (39 : Int).toNat.toUInt8 = (m : Int) from h2] at HX2
        have Hv := Lib.hid hv2
        have HX2 := Lib.hid HX2
        have hm0 : (0 : Int) ≤ m := by omega
        have hm1 : (m : Int) ≤ 1000000 := by omega
        have hx2 : s.extract ((i : Int) + 1).toNat s.size = x := by rw [show ((i : Int) + 1).toNat = i + 1 by omega]; exact hx
        clear hv hv2 hd hc c92 Hu Hh HX h1 h2 hxb hxl h3 c39
        go_enter Tryd.func47, Tryd.ntmps47
        go_wp2_with fail
        refine (HX2.out _).mono ?_
        rintro e w1 ⟨rfl, rfl⟩
        go_wp2_with fail
        go_ret
        exact ⟨by rw [Hv.out]; rfl, Below.refl _ _⟩
    · rw [if_neg c39] at hv
      have b39 : (((s[i].toNat : Nat) : Int) == 39) = false := by rw [q39, ← hc]; exact beq_eq_false_iff_ne.2 c39
      by_cases c34 : c = 34
      · rw [if_pos c34] at hv
        have b34 : (((s[i].toNat : Nat) : Int) == 34) = true := by rw [q34, ← hc, c34]; rfl
        have hu := Lib.hid (Hu.out w).1
        rw [show ((i + 1 : Nat) : Int) = (i : Int) + 1 by omega] at hu
        have hv2 : v = pl s.size (M [34] ((bs s).drop (i + 1))) := hv
        rw [← hv2] at hu
        clear hv hv2 hd hc c92 Hu Hh c39 c34
        go_enter Tryd.func47, Tryd.ntmps47
        go_wp2_with fail
        refine hu.out.mono ?_
        rintro e w1 ⟨rfl, hB⟩
        go_wp2_with fail
        go_ret
        exact ⟨rfl, hB⟩
      · rw [if_neg c34] at hv
        have b34 : (((s[i].toNat : Nat) : Int) == 34) = false := by rw [q34, ← hc]; exact beq_eq_false_iff_ne.2 c34
        have HB := Lib.hid (begins_calls s i w (by omega) (by omega))
        by_cases hh : hol (c :: (bs s).drop (i + 1)) = true
        · rw [if_pos hh, ← hd] at hv
          rw [← hd] at hh
          rw [hh] at HB
          have hv2 : v = pl s.size (holeL ((bs s).drop i)) := hv
          have hu := Lib.hid (fun w => Hh.out w hh)
          rw [← hv2] at hu
          clear hv hv2 hd hc c92 Hu Hh c39 c34 hh
          go_enter Tryd.func47, Tryd.ntmps47
          go_wp2_with fail
          refine HB.out.mono ?_
          rintro e w1 ⟨rfl, hB⟩
          go_wp2_with fail
          refine (hu.out w1).mono ?_
          rintro e w2 ⟨rfl, hB2⟩
          have hB3 := hB.trans (Below.mono (h := hB2) hB.size)
          clear hB hB2
          go_wp2_with fail
          go_ret
          exact ⟨rfl, hB3⟩
        · rw [if_neg hh] at hv
          rw [← hd] at hh
          have hh2 : hol ((bs s).drop i) = false := by simpa using hh
          rw [hh2] at HB
          have hv2 : v = (i : Int) := hv
          subst hv2
          clear hv hd hc c92 Hu Hh c39 c34 hh hh2
          go_enter Tryd.func47, Tryd.ntmps47
          go_wp2_with fail
          refine HB.out.mono ?_
          rintro e w1 ⟨rfl, hB⟩
          go_wp2_with fail
          go_ret
          exact ⟨rfl, hB⟩
end Go.Proofs.YtlhkochpokhncaaDoor.Lexer
