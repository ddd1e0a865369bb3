/- Functions, aliases, traps, keys, the status of a state walked. (printed by gen_sttd.py) -/
import Derived.Test.YtlmjidandjemjaaGreatDoorStTb
import Derived.Test.YtlmjidandjemjaaGreatDoorStKK
namespace Go.Proofs.YtlmjidandjemjaaGreatDoor.State
open Go.RowKit Go.Proofs.YtlmjidandjemjaaGreatDoor Go.Proofs.YtlmjidandjemjaaGreatDoor.Hp Go.Proofs.YtlmjidandjemjaaGreatDoor.Undo
set_option linter.unusedVariables false
attribute [local go_sem] Oper.semAt_some

theorem tol (k : ByteArray) (l : List UInt8) : (k.toList == l) = decide (k = ⟨l.toArray⟩) := by
  rw [ByteArray.toList_eq]
  by_cases h : k = ⟨l.toArray⟩
  · subst h; simp
  · rw [decide_eq_false h]
    exact beq_eq_false_iff_ne.2 fun e => h (bs_eq e)
set_option maxRecDepth 100000 in
set_option maxHeartbeats 8000000 in
theorem signal_calls (k : ByteArray) (w : World) :
    Calls Tryz.prog 98 #[.string k] w fun e w' => e = .returned (.bool (isSignal k)) ∧ w = w' := by
  have h1 := tol k [69, 88, 73, 84]
  have h2 := tol k [72, 85, 80]
  have h3 := tol k [73, 78, 84]
  have h4 := tol k [84, 69, 82, 77]
  have h5 := tol k [85, 83, 82, 49]
  have hs : isSignal k = (decide (k = ⟨#[69, 88, 73, 84]⟩) || decide (k = ⟨#[72, 85, 80]⟩) || decide (k = ⟨#[73, 78, 84]⟩) || decide (k = ⟨#[84, 69, 82, 77]⟩) || decide (k = ⟨#[85, 83, 82, 49]⟩)) := rfl
  rw [hs]
  clear hs
  rw [show ([69, 88, 73, 84] : List UInt8).toArray = #[69, 88, 73, 84] from rfl] at h1
  rw [show ([72, 85, 80] : List UInt8).toArray = #[72, 85, 80] from rfl] at h2
  rw [show ([73, 78, 84] : List UInt8).toArray = #[73, 78, 84] from rfl] at h3
  rw [show ([84, 69, 82, 77] : List UInt8).toArray = #[84, 69, 82, 77] from rfl] at h4
  rw [show ([85, 83, 82, 49] : List UInt8).toArray = #[85, 83, 82, 49] from rfl] at h5
  generalize decide (k = ⟨#[69, 88, 73, 84]⟩) = b1 at *
  generalize decide (k = ⟨#[72, 85, 80]⟩) = b2 at *
  generalize decide (k = ⟨#[73, 78, 84]⟩) = b3 at *
  generalize decide (k = ⟨#[84, 69, 82, 77]⟩) = b4 at *
  generalize decide (k = ⟨#[85, 83, 82, 49]⟩) = b5 at *
  cases b1
  · cases b2
    · cases b3
      · cases b4
        · cases b5
          all_goals
            go_enter Tryz.func98, Tryz.ntmps98
            go_wp2_with fail
            go_ret
            exact ⟨rfl, rfl⟩
        · go_enter Tryz.func98, Tryz.ntmps98
          go_wp2_with fail
          go_ret
          exact ⟨rfl, rfl⟩
      · go_enter Tryz.func98, Tryz.ntmps98
        go_wp2_with fail
        go_ret
        exact ⟨rfl, rfl⟩
    · go_enter Tryz.func98, Tryz.ntmps98
      go_wp2_with fail
      go_ret
      exact ⟨rfl, rfl⟩
  · go_enter Tryz.func98, Tryz.ntmps98
    go_wp2_with fail
    go_ret
    exact ⟨rfl, rfl⟩
theorem Alias_calls (K : Ctx) (n : Now) (k : ByteArray) (w : World) (R : Hp) (hk : k.size ≤ maxLen) (h : SAt K w n R) :
    Calls Tryz.prog 68 #[pp K.sb, .string k] w fun e w' => e = .returned (.tuple #[.string ((n.s.A k).getD ⟨#[]⟩), .bool (n.s.A k).isSome]) ∧ Below w.heap.size w w' := by
  obtain ⟨c0, c1, c2, c3, c4, c5, c6, cz⟩ := h.cells
  have HG := getA K w n R k hk h
  rw [show (n.s.A k).getD SM.zt = (n.s.A k).getD ⟨#[]⟩ from rfl] at HG
  obtain ⟨x, hx⟩ : ∃ x, x = (n.s.A k).getD ⟨#[]⟩ := ⟨_, rfl⟩
  obtain ⟨b, hb⟩ : ∃ b, b = (n.s.A k).isSome := ⟨_, rfl⟩
  rw [← hx, ← hb] at HG ⊢
  have HG := Lib.hid HG
  clear h hx hb
  go_enter Tryz.func68, Tryz.ntmps68
  go_wp2_with fail
  refine HG.out.mono ?_
  rintro e w1 ⟨rfl, hB⟩
  go_wp2_with fail
  go_ret2
  exact ⟨rfl, hB⟩
theorem Trap_calls (K : Ctx) (n : Now) (k : ByteArray) (w : World) (R : Hp) (hk : k.size ≤ maxLen) (h : SAt K w n R) :
    Calls Tryz.prog 39 #[pp K.sb, .string k] w fun e w' => e = .returned (.tuple #[.string ((n.s.T k).getD ⟨#[]⟩), .bool (n.s.T k).isSome]) ∧ Below w.heap.size w w' := by
  obtain ⟨c0, c1, c2, c3, c4, c5, c6, cz⟩ := h.cells
  have HG := getT K w n R k hk h
  rw [show (n.s.T k).getD SM.zt = (n.s.T k).getD ⟨#[]⟩ from rfl] at HG
  obtain ⟨x, hx⟩ : ∃ x, x = (n.s.T k).getD ⟨#[]⟩ := ⟨_, rfl⟩
  obtain ⟨b, hb⟩ : ∃ b, b = (n.s.T k).isSome := ⟨_, rfl⟩
  rw [← hx, ← hb] at HG ⊢
  have HG := Lib.hid HG
  clear h hx hb
  go_enter Tryz.func39, Tryz.ntmps39
  go_wp2_with fail
  refine HG.out.mono ?_
  rintro e w1 ⟨rfl, hB⟩
  go_wp2_with fail
  go_ret2
  exact ⟨rfl, hB⟩
set_option maxRecDepth 100000 in
set_option maxHeartbeats 8000000 in
theorem SetAlias_calls (K : Ctx) (n : Now) (k : ByteArray) (v : ByteArray) (hv : v.size ≤ maxLen) (w : World) (R : Hp) (hk : k.size ≤ maxLen) (hN : n.N ≤ 1000000) (hms : n.ms.length ≤ 1000000) (h : SAt K w n R) :
    Calls Tryz.prog 53 #[pp K.sb, .string k, .string v] w (Lays K w R (n.setA K.most k v)) := by
  obtain ⟨c0, c1, c2, c3, c4, c5, c6, cz⟩ := h.cells
  obtain ⟨r, hr⟩ : ∃ r, r = n.setA K.most k v := ⟨_, rfl⟩
  rw [← hr]
  unfold Now.setA at hr
  have HO := Lib.hid (fun w => of_calls k aliasB w (by unfold maxLen at hk; omega))
  rw [show ofB k aliasB = isAlias k from rfl] at HO
  have H0 := Lib.hid h
  have HS := Lib.hid (nsetA K w n R k v hk hN hms h)
  have Hr := Lib.hid hr
  clear h hr hN hms
  cases hn : isAlias k with
  | false =>
    have hr := Hr.out
    rw [if_pos hn] at hr
    rw [hn] at HO
    subst hr
    clear hn HS
    go_enter Tryz.func53, Tryz.ntmps53
    go_wp2_with fail
    refine (HO.out w).mono ?_
    rintro e w3 ⟨rfl, rfl⟩
    go_wp2_with fail
    go_ret
    exact Lays.same H0.out (Below.refl 0 w)
  | true =>
    have hr := Hr.out
    rw [if_neg (by rw [hn]; decide)] at hr
    rw [hn] at HO
    by_cases hv2 : 4096 < v.size
    · rw [if_pos hv2] at hr
      have hvI : (4096 : Int) < v.size := by omega
      subst hr
      clear hn HS hv2 Hr
      go_enter Tryz.func53, Tryz.ntmps53
      go_wp2_with fail
      refine (HO.out w).mono ?_
      rintro e w3 ⟨rfl, rfl⟩
      go_wp2_with fail
      go_ret
      exact Lays.same H0.out (Below.refl 0 w)
    · rw [if_neg hv2] at hr
      have hvI : (v.size : Int) ≤ 4096 := by omega
      subst hr
      clear hn hv2 Hr
      go_enter Tryz.func53, Tryz.ntmps53
      go_wp2_with fail
      refine (HO.out w).mono ?_
      rintro e w3 ⟨rfl, rfl⟩
      go_wp2_with fail
      refine HS.out.mono ?_
      rintro e w4 ⟨⟨rfl, S4⟩, R4⟩
      have S4 := Lib.hid S4
      go_wp2_with fail
      go_ret
      exact ⟨⟨rfl, S4.out⟩, R4⟩
set_option maxRecDepth 100000 in
set_option maxHeartbeats 8000000 in
theorem SetTrap_calls (K : Ctx) (n : Now) (k : ByteArray) (v : ByteArray) (hv : v.size ≤ maxLen) (w : World) (R : Hp) (hk : k.size ≤ maxLen) (hN : n.N ≤ 1000000) (hms : n.ms.length ≤ 1000000) (h : SAt K w n R) :
    Calls Tryz.prog 37 #[pp K.sb, .string k, .string v] w (Lays K w R (n.setT K.most k v)) := by
  obtain ⟨c0, c1, c2, c3, c4, c5, c6, cz⟩ := h.cells
  obtain ⟨r, hr⟩ : ∃ r, r = n.setT K.most k v := ⟨_, rfl⟩
  rw [← hr]
  unfold Now.setT at hr
  have HO := Lib.hid (fun w => signal_calls k w)
  have H0 := Lib.hid h
  have HS := Lib.hid (nsetT K w n R k v hk hN hms h)
  have Hr := Lib.hid hr
  clear h hr hN hms
  cases hn : isSignal k with
  | false =>
    have hr := Hr.out
    rw [if_pos hn] at hr
    rw [hn] at HO
    subst hr
    clear hn HS
    go_enter Tryz.func37, Tryz.ntmps37
    go_wp2_with fail
    refine (HO.out w).mono ?_
    rintro e w3 ⟨rfl, rfl⟩
    go_wp2_with fail
    go_ret
    exact Lays.same H0.out (Below.refl 0 w)
  | true =>
    have hr := Hr.out
    rw [if_neg (by rw [hn]; decide)] at hr
    rw [hn] at HO
    by_cases hv2 : 4096 < v.size
    · rw [if_pos hv2] at hr
      have hvI : (4096 : Int) < v.size := by omega
      subst hr
      clear hn HS hv2 Hr
      go_enter Tryz.func37, Tryz.ntmps37
      go_wp2_with fail
      refine (HO.out w).mono ?_
      rintro e w3 ⟨rfl, rfl⟩
      go_wp2_with fail
      go_ret
      exact Lays.same H0.out (Below.refl 0 w)
    · rw [if_neg hv2] at hr
      have hvI : (v.size : Int) ≤ 4096 := by omega
      subst hr
      clear hn hv2 Hr
      go_enter Tryz.func37, Tryz.ntmps37
      go_wp2_with fail
      refine (HO.out w).mono ?_
      rintro e w3 ⟨rfl, rfl⟩
      go_wp2_with fail
      refine HS.out.mono ?_
      rintro e w4 ⟨⟨rfl, S4⟩, R4⟩
      have S4 := Lib.hid S4
      go_wp2_with fail
      go_ret
      exact ⟨⟨rfl, S4.out⟩, R4⟩
set_option maxRecDepth 100000 in
set_option maxHeartbeats 8000000 in
theorem Untrap_calls (K : Ctx) (n : Now) (k : ByteArray) (w : World) (R : Hp) (hk : k.size ≤ maxLen) (hN : n.N ≤ 1000000) (hms : n.ms.length ≤ 1000000) (h : SAt K w n R) :
    Calls Tryz.prog 55 #[pp K.sb, .string k] w (Lays K w R (n.unT K.most k)) := by
  obtain ⟨c0, c1, c2, c3, c4, c5, c6, cz⟩ := h.cells
  obtain ⟨r, hr⟩ : ∃ r, r = n.unT K.most k := ⟨_, rfl⟩
  rw [← hr]
  unfold Now.unT at hr
  have HO := Lib.hid (fun w => signal_calls k w)
  have H0 := Lib.hid h
  have Hr := Lib.hid hr
  clear hr
  cases hn : isSignal k with
  | false =>
    have hr := Hr.out
    rw [if_pos hn] at hr
    rw [hn] at HO
    subst hr
    clear hn h hN hms
    go_enter Tryz.func55, Tryz.ntmps55
    go_wp2_with fail
    refine (HO.out w).mono ?_
    rintro e w3 ⟨rfl, rfl⟩
    go_wp2_with fail
    go_ret
    exact Lays.same H0.out (Below.refl 0 w)
  | true =>
    have hr := Hr.out
    rw [if_neg (by rw [hn]; decide)] at hr
    rw [hn] at HO
    unfold Now.delT at hr
    cases hs : (n.s.T k).isSome with
    | false =>
      rw [if_pos hs] at hr
      subst hr
      have HD := Lib.hid (idleT K w n R k hk hs h)
      clear hn Hr hs h hN hms
      go_enter Tryz.func55, Tryz.ntmps55
      go_wp2_with fail
      refine (HO.out w).mono ?_
      rintro e w3 ⟨rfl, rfl⟩
      go_wp2_with fail
      refine HD.out.mono ?_
      rintro e w4 ⟨rfl, hB4⟩
      have S4 := Lib.hid (H0.out.below hB4)
      have R4 := Lib.hid (hB4.mono (Nat.zero_le _))
      clear hB4
      go_wp2_with fail
      go_ret
      exact Lays.same S4.out R4.out
    | true =>
      rw [if_neg (by rw [hs]; decide)] at hr
      subst hr
      have HD := Lib.hid (ndelT K w n R k hk hN hms hs h)
      clear hn Hr hs h hN hms
      go_enter Tryz.func55, Tryz.ntmps55
      go_wp2_with fail
      refine (HO.out w).mono ?_
      rintro e w3 ⟨rfl, rfl⟩
      go_wp2_with fail
      refine HD.out.mono ?_
      rintro e w4 ⟨⟨rfl, S4⟩, R4⟩
      have S4 := Lib.hid S4
      go_wp2_with fail
      go_ret
      exact ⟨⟨rfl, S4.out⟩, R4⟩
set_option maxRecDepth 100000 in
set_option maxHeartbeats 8000000 in
theorem Unalias_calls (K : Ctx) (n : Now) (k : ByteArray) (w : World) (R : Hp) (hk : k.size ≤ maxLen) (hN : n.N ≤ 1000000) (hms : n.ms.length ≤ 1000000) (h : SAt K w n R) :
    Calls Tryz.prog 54 #[pp K.sb, .string k] w (Lays K w R (n.unA K.most k)) := by
  obtain ⟨c0, c1, c2, c3, c4, c5, c6, cz⟩ := h.cells
  obtain ⟨r, hr⟩ : ∃ r, r = n.unA K.most k := ⟨_, rfl⟩
  rw [← hr]
  unfold Now.unA at hr
  have HO := Lib.hid (Alias_calls K n k w R hk h)
  have H0 := Lib.hid h
  have Hr := Lib.hid hr
  clear hr
  obtain ⟨x, hx⟩ : ∃ x, x = (n.s.A k).getD ⟨#[]⟩ := ⟨_, rfl⟩
  rw [← hx] at HO
  cases hs : (n.s.A k).isSome with
  | false =>
    have hr := Hr.out
    rw [if_pos hs] at hr
    rw [hs] at HO
    subst hr
    clear hs h hN hms hx
    go_enter Tryz.func54, Tryz.ntmps54
    go_wp2_with fail
    refine HO.out.mono ?_
    rintro e w1 ⟨rfl, hB⟩
    have S1 := H0.out.below hB
    have R1 := Lib.hid (hB.mono (Nat.zero_le _) : Ran w w1)
    clear c0 c1 c2 c3 c4 c5 c6 cz
    obtain ⟨c0, c1, c2, c3, c4, c5, c6, cz⟩ := S1.cells
    have S1 := Lib.hid S1
    clear hB
    go_wp2_with fail
    go_ret
    exact Lays.same S1.out R1.out
  | true =>
    have hr := Hr.out
    rw [if_neg (by rw [hs]; decide)] at hr
    rw [hs] at HO
    subst hr
    clear h hx Hr
    go_enter Tryz.func54, Tryz.ntmps54
    go_wp2_with fail
    refine HO.out.mono ?_
    rintro e w1 ⟨rfl, hB⟩
    have S1 := H0.out.below hB
    have R1 := Lib.hid (hB.mono (Nat.zero_le _) : Ran w w1)
    clear c0 c1 c2 c3 c4 c5 c6 cz
    obtain ⟨c0, c1, c2, c3, c4, c5, c6, cz⟩ := S1.cells
    have HD := Lib.hid (ndelA K w1 n R k hk hN hms hs S1)
    clear hB S1 hs H0 HO hN hms
    go_wp2_with fail
    refine HD.out.mono ?_
    rintro e w4 ⟨⟨rfl, S4⟩, R4⟩
    have S4 := Lib.hid S4
    have R4 := Lib.hid (Below.trans R1.out R4)
    go_wp2_with fail
    go_ret
    exact ⟨⟨rfl, S4.out⟩, R4.out⟩
/-- What a call answers that gives a map's keys. -/
def NamesSays (K : Ctx) (n : Now) (R : Hp) (e : Ending) (w' : World) : Prop :=
  ∃ p cap ks, e = .returned (.slice p (List.length ks) cap) ∧ KeysOf n.s.V ks ∧ ks.length ≤ 1000000 ∧ SAt K w' n (arr 9 1 p ks.length cap (ks.map Value.string) * R)
theorem keysV (K : Ctx) (n : Now) (w : World) (R : Hp) (hN : n.N ≤ 1000000) (h : SAt K w n R) :
    Calls Tryz.prog 113 #[pp K.P.vb] w fun e w' => NamesSays K n R e w' ∧ Below w.heap.size w w' := by
  obtain ⟨B, X, hB, h1, h2⟩ := h.frameV
  refine (VM.keys_calls K.P.vb _ B n.s.V w _ (by omega) h1).mono ?_
  rintro e w' ⟨⟨p, cap, ks, rfl, hk, hkl, HA⟩, hb⟩
  exact ⟨⟨p, cap, ks, rfl, hk, by omega, h2 _ _ (HA.perm (by ac_rfl))⟩, hb⟩
set_option maxRecDepth 100000 in
theorem Names_calls (K : Ctx) (n : Now) (w : World) (R : Hp) (hN : n.N ≤ 1000000) (h : SAt K w n R) :
    Calls Tryz.prog 66 #[pp K.sb] w fun e w' => NamesSays K n R e w' ∧ Below w.heap.size w w' := by
  obtain ⟨c0, c1, c2, c3, c4, c5, c6, cz⟩ := h.cells
  have HK := Lib.hid (keysV K n w R hN h)
  clear h
  go_enter Tryz.func66, Tryz.ntmps66
  go_wp2_with fail
  refine HK.out.mono ?_
  rintro e w' ⟨⟨p, cap, ks, rfl, hk, hkl, HA⟩, hb⟩
  have HA := Lib.hid HA
  have Hk := Lib.hid (And.intro hk hkl)
  clear hk hkl HK
  go_wp2_with fail
  go_ret
  exact ⟨⟨p, cap, ks, rfl, Hk.out.1, Hk.out.2, HA.out⟩, hb⟩
/-- What a call answers that gives a map's keys. -/
def AliasesSays (K : Ctx) (n : Now) (R : Hp) (e : Ending) (w' : World) : Prop :=
  ∃ p cap ks, e = .returned (.slice p (List.length ks) cap) ∧ KeysOf n.s.A ks ∧ ks.length ≤ 1000000 ∧ SAt K w' n (arr 9 1 p ks.length cap (ks.map Value.string) * R)
theorem keysA (K : Ctx) (n : Now) (w : World) (R : Hp) (hN : n.N ≤ 1000000) (h : SAt K w n R) :
    Calls Tryz.prog 100 #[pp K.P.ab] w fun e w' => AliasesSays K n R e w' ∧ Below w.heap.size w w' := by
  obtain ⟨B, X, hB, h1, h2⟩ := h.frameA
  refine (SM.keys_calls K.P.ab _ B n.s.A w _ (by omega) h1).mono ?_
  rintro e w' ⟨⟨p, cap, ks, rfl, hk, hkl, HA⟩, hb⟩
  exact ⟨⟨p, cap, ks, rfl, hk, by omega, h2 _ _ (HA.perm (by ac_rfl))⟩, hb⟩
set_option maxRecDepth 100000 in
theorem Aliases_calls (K : Ctx) (n : Now) (w : World) (R : Hp) (hN : n.N ≤ 1000000) (h : SAt K w n R) :
    Calls Tryz.prog 67 #[pp K.sb] w fun e w' => AliasesSays K n R e w' ∧ Below w.heap.size w w' := by
  obtain ⟨c0, c1, c2, c3, c4, c5, c6, cz⟩ := h.cells
  have HK := Lib.hid (keysA K n w R hN h)
  clear h
  go_enter Tryz.func67, Tryz.ntmps67
  go_wp2_with fail
  refine HK.out.mono ?_
  rintro e w' ⟨⟨p, cap, ks, rfl, hk, hkl, HA⟩, hb⟩
  have HA := Lib.hid HA
  have Hk := Lib.hid (And.intro hk hkl)
  clear hk hkl HK
  go_wp2_with fail
  go_ret
  exact ⟨⟨p, cap, ks, rfl, Hk.out.1, Hk.out.2, HA.out⟩, hb⟩
def TKeysSays (K : Ctx) (n : Now) (R : Hp) (e : Ending) (w' : World) : Prop :=
  ∃ p cap ks, e = .returned (.slice p (List.length ks) cap) ∧ KeysOf n.s.T ks ∧ ks.length ≤ 1000000 ∧ SAt K w' n (arr 9 1 p ks.length cap (ks.map Value.string) * R)
theorem keysT (K : Ctx) (n : Now) (w : World) (R : Hp) (hN : n.N ≤ 1000000) (h : SAt K w n R) :
    Calls Tryz.prog 100 #[pp K.P.tb] w fun e w' => TKeysSays K n R e w' ∧ Below w.heap.size w w' := by
  obtain ⟨B, X, hB, h1, h2⟩ := h.frameT
  refine (SM.keys_calls K.P.tb _ B n.s.T w _ (by omega) h1).mono ?_
  rintro e w' ⟨⟨p, cap, ks, rfl, hk, hkl, HA⟩, hb⟩
  exact ⟨⟨p, cap, ks, rfl, hk, by omega, h2 _ _ (HA.perm (by ac_rfl))⟩, hb⟩
theorem Status_calls (K : Ctx) (n : Now) (w : World) (R : Hp) (h : SAt K w n R) :
    Calls Tryz.prog 25 #[pp K.sb] w fun e w' => e = .returned (.int .i64 n.q) ∧ w = w' := by
  obtain ⟨c0, c1, c2, c3, c4, c5, c6, cz⟩ := h.cells
  clear h
  go_enter Tryz.func25, Tryz.ntmps25
  go_wp2_with fail
  go_ret
  exact ⟨rfl, rfl⟩
theorem and255 (k : Int) : bits BinOp.and IntKind.i64 k 255 = k % 256 := by
  have h1 : (BitVec.ofInt 64 k &&& BitVec.ofInt 64 255).toNat = (k % 256).toNat := by
    rw [BitVec.toNat_and, show (BitVec.ofInt 64 255).toNat = 2 ^ 8 - 1 from rfl, Nat.and_two_pow_sub_one_eq_mod, BitVec.toNat_ofInt]
    have : ((2 ^ 64 : Nat) : Int) = 18446744073709551616 := by decide
    rw [this]
    omega
  show IntKind.i64.wrap ((BitVec.ofInt 64 k &&& BitVec.ofInt 64 255).toNat : Int) = k % 256
  rw [h1, IntWalk.i64_in _ (by omega)]
  omega
theorem SetStatus_calls (K : Ctx) (n : Now) (k : Int) (w : World) (R : Hp) (h : SAt K w n R) :
    Calls Tryz.prog 58 #[pp K.sb, .int .i64 k] w fun e w' => (e = .returned (.tuple #[]) ∧ SAt K w' (n.setQ k).2 R) ∧ Ran w w' := by
  obtain ⟨c0, c1, c2, c3, c4, c5, c6, cz⟩ := h.cells
  have HS := Lib.hid (h.status (k % 256))
  have ha := and255 k
  clear h
  go_enter Tryz.func58, Tryz.ntmps58
  go_wp2_with fail
  go_end0
  refine ⟨⟨rfl, ?_⟩, Ran.set (Below.refl 0 w) _ _⟩
  exact HS.out
end Go.Proofs.YtlmjidandjemjaaGreatDoor.State
