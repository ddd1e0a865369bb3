/- The document's Hole walked. -/
import Derived.Test.YtlhkochpokhncaaDoorLxQ
import Derived.Deep.CutBlock
namespace Go.Proofs.YtlhkochpokhncaaDoor.Lexer
open Go.RowKit Go.Proofs.YtlhkochpokhncaaDoor Go.Proofs.YtlhkochpokhncaaDoor.Hp
set_option linter.unusedVariables false
attribute [local go_sem] Oper.semAt_some

theorem dst_one (a : UInt8) (ha : a ∈ frames) (l : Bytes) : DSt false [a] (M [a] l) l := ⟨fun _ => ⟨fun x hx => by rw [List.mem_singleton.1 hx]; exact ha, rfl⟩, fun h => by cases h⟩
theorem dst_wd (l : Bytes) : DSt true [119] (Wd l) l := ⟨fun h => (by cases h), fun _ => ⟨[], rfl, ⟨fun x hx => (by cases hx), (by rw [M_nil]; rfl)⟩⟩⟩
def holeR (n : Nat) (o : Option Bytes) : Int × Int := match o with | none => (0, 30) | some r => ((n : Int) - (r.length : Int), 0)
theorem pl_cases (s : ByteArray) {o : Option Bytes} (h : ∀ r, o = some r → r <:+ bs s) : (o = none ∧ pl s.size o = -1) ∨ ∃ r : Bytes, o = some r ∧ pl s.size o = (s.size : Int) - (r.length : Int) ∧ 0 ≤ (s.size : Int) - (r.length : Int) := by
  cases o with
  | none => exact .inl ⟨rfl, rfl⟩
  | some r =>
    have := (h r rfl).length_le
    rw [bs_length] at this
    exact .inr ⟨r, rfl, rfl, by omega⟩
set_option maxRecDepth 100000 in
set_option maxHeartbeats 8000000 in
theorem rHole_calls (s : ByteArray) (a : Int) (w : World) (h63 : (s.size : Int) ≤ 9223372036854775807) :
    Calls Tryd.prog 21 #[.string s, .int .i64 a] w (HPost (holeA s a) w) := by
  have HM := Lib.hid (fun w => rmay_calls s a w h63)
  unfold holeA
  by_cases hm : mayE s.size a ≠ 0
  · rw [if_pos hm]
    obtain ⟨v, hv⟩ : ∃ v, v = mayE s.size a := ⟨_, rfl⟩
    rw [← hv] at HM hm
    rw [← hv]
    clear hv
    go_enter Tryd.func21, Tryd.ntmps21
    go_wp2_with fail
    refine (HM.out _).mono ?_
    rintro e w1 ⟨rfl, rfl⟩
    go_wp2_with fail
    go_ret2
    exact ⟨rfl, Below.refl _ _⟩
  · rw [if_neg hm]
    have hm0 : mayE s.size a = 0 := by omega
    obtain ⟨h1, h2, h3⟩ := mayE_ok hm0
    rw [hm0] at HM
    obtain ⟨i, rfl⟩ : ∃ i : Nat, a = (i : Int) := ⟨a.toNat, by omega⟩
    have hi : i ≤ s.size := by omega
    have hs : Small s := by unfold Small; omega
    have hi0 : (0 : Int) ≤ i := by omega
    rw [show ((i : Int)).toNat = i from rfl]
    clear hm hm0
    have A40 := fun w => is_calls s hs i ⟨#[36, 40]⟩ w hi (by decide)
    have A123 := fun w => is_calls s hs i ⟨#[36, 123]⟩ w hi (by decide)
    have A96 := fun w => is_calls s hs i ⟨#[96]⟩ w hi (by decide)
    have hpre := hol_pre ((bs s).drop i)
    obtain ⟨b40, h40⟩ : ∃ b, b = ([36, 40] : Bytes).isPrefixOf ((bs s).drop i) := ⟨_, rfl⟩
    obtain ⟨b123, h123⟩ : ∃ b, b = ([36, 123] : Bytes).isPrefixOf ((bs s).drop i) := ⟨_, rfl⟩
    obtain ⟨b96, h96⟩ : ∃ b, b = ([96] : Bytes).isPrefixOf ((bs s).drop i) := ⟨_, rfl⟩
    have A40 := Lib.hid (fun w => show Calls _ _ _ _ (BPost b40 w) from by rw [h40]; exact A40 w)
    have A123 := Lib.hid (fun w => show Calls _ _ _ _ (BPost b123 w) from by rw [h123]; exact A123 w)
    have A96 := Lib.hid (fun w => show Calls _ _ _ _ (BPost b96 w) from by rw [h96]; exact A96 w)
    rw [← h40, ← h123, ← h96] at hpre
    rw [hpre]
    by_cases hany : (b40 || b123 || b96) = true
    · rw [if_pos hany]
      have hne : i < s.size := by
        rcases Nat.lt_or_ge i s.size with h | h
        · exact h
        · rw [drop_end s i h] at hpre; rw [← hpre] at hany; cases hany
      have hd := bs_drop s i hne
      have hcs := pl_cases s (o := holeL ((bs s).drop i)) (fun r hr => drop_suf s i (hole_suf hr))
      obtain ⟨v, hv⟩ : ∃ v, v = pl s.size (holeL ((bs s).drop i)) := ⟨_, rfl⟩
      have hres : holeR s.size (holeL ((bs s).drop i)) = if v < 0 then (0, 30) else (v, 0) := by
        rcases hcs with ⟨ho, hp⟩ | ⟨r, ho, hp, h0⟩
        · rw [hv, hp, ho]; rfl
        · rw [hv, hp, ho, if_neg (by omega)]; rfl
      show Calls _ _ _ _ (HPost (holeR s.size (holeL ((bs s).drop i))) w)
      rw [hres]
      clear hres hcs
      have hcase : (v < 0 ∧ (if v < 0 then ((0 : Int), (30 : Int)) else (v, 0)) = (0, 30)) ∨ (0 ≤ v ∧ (if v < 0 then ((0 : Int), (30 : Int)) else (v, 0)) = (v, 0)) := by
        by_cases h : v < 0
        · exact .inl ⟨h, if_pos h⟩
        · exact .inr ⟨by omega, if_neg h⟩
      rcases hcase with ⟨hv0, he⟩ | ⟨hv0, he⟩
      all_goals
        rw [he]
        clear he
        by_cases hD : b40 = true ∨ b123 = true
        · have hc : s[i] = 36 ∧ (((bs s).drop (i + 1)).head? = some 40 ∨ ((bs s).drop (i + 1)).head? = some 123) := by
            rw [hd, pre2' 40] at h40
            rw [hd, pre2' 123] at h123
            rcases hD with h | h
            · rw [h40, Bool.and_eq_true] at h; exact ⟨eq_of_beq h.1, .inl (eq_of_beq h.2)⟩
            · rw [h123, Bool.and_eq_true] at h; exact ⟨eq_of_beq h.1, .inr (eq_of_beq h.2)⟩
          have hk2 : i + 1 < s.size := by
            rcases Nat.lt_or_ge (i + 1) s.size with h | h
            · exact h
            · rw [drop_end s (i + 1) h] at hc; rcases hc.2 with h | h <;> cases h
          have hl1 := bs_drop s (i + 1) hk2
          have hf : s[i + 1] = 40 ∨ s[i + 1] = 123 := by
            rw [hl1] at hc; rcases hc.2 with h | h
            · exact .inl (Option.some.inj h)
            · exact .inr (Option.some.inj h)
          have hv2 : v = pl s.size (M [s[i + 1]] ((bs s).drop (i + 2))) := by
            rw [hv, hd, holeL_cons, if_neg (by rw [hc.1]; decide), hl1]; rfl
          have HS := fun w => scan_calls s hs (i + 2) s[i + 1] false _ (dst_one s[i + 1] (by rcases hf with h | h <;> rw [h] <;> decide) _) w (by omega)
          rw [← hv2, show ((i + 2 : Nat) : Int) = (i : Int) + 2 by omega] at HS
          have HS := Lib.hid HS
          have hk2I : (i : Int) + 1 < s.size := by omega
          clear hv2 hl1 hc hd hv hpre h40 h123 h96 hany hf
          have tail : b40 = true ∨ (b40 = false ∧ b123 = true) := by
            cases b40
            · exact .inr ⟨rfl, by simpa using hD⟩
            · exact .inl rfl
          clear hD
          rcases tail with rfl | ⟨rfl, rfl⟩
          · go_enter Tryd.func21, Tryd.ntmps21
            go_wp2_with fail
            refine (HM.out _).mono ?_
            rintro e w1 ⟨rfl, rfl⟩
            go_wp2_with fail
            refine (A40.out _).mono ?_
            rintro e w1 ⟨rfl, hB1⟩
            go_wp2_with fail
            refine (HS.out _).mono ?_
            rintro e w2 ⟨rfl, hB2⟩
            have hF := Lib.hid (hB1.trans (Below.mono (h := hB2) hB1.size))
            clear hB1 hB2
            go_wp2_with fail
            go_ret2
            exact ⟨rfl, hF.out⟩
          · go_enter Tryd.func21, Tryd.ntmps21
            go_wp2_with fail
            refine (HM.out _).mono ?_
            rintro e w1 ⟨rfl, rfl⟩
            go_wp2_with fail
            refine (A40.out _).mono ?_
            rintro e w1 ⟨rfl, hB0⟩
            go_wp2_with fail
            refine (A123.out _).mono ?_
            rintro e w3 ⟨rfl, hB3⟩
            have hB1 := hB0.trans (Below.mono (h := hB3) hB0.size)
            clear hB0 hB3
            go_wp2_with fail
            refine (HS.out _).mono ?_
            rintro e w2 ⟨rfl, hB2⟩
            have hF := Lib.hid (hB1.trans (Below.mono (h := hB2) hB1.size))
            clear hB1 hB2
            go_wp2_with fail
            go_ret2
            exact ⟨rfl, hF.out⟩
        · obtain ⟨rfl, rfl, rfl⟩ : b40 = false ∧ b123 = false ∧ b96 = true := by
            cases b40 <;> cases b123 <;> cases b96 <;> simp_all
          have hc : s[i] = 96 := by
            rw [hd] at h96
            simp only [List.isPrefixOf, Bool.and_true] at h96
            exact (eq_of_beq h96.symm).symm
          have hv2 : v = pl s.size (M [96] ((bs s).drop (i + 1))) := by
            rw [hv, hd, holeL_cons, if_pos hc]
          have HS := fun w => scan_calls s hs (i + 1) 96 false _ (dst_one 96 (by decide) _) w (by omega)
          rw [← hv2, show ((i + 1 : Nat) : Int) = (i : Int) + 1 by omega] at HS
          have HS := Lib.hid (fun w => show Calls _ _ #[.string s, .int .i64 ((i : Int) + 1), .int .u8 96] _ _ from HS w)
          clear hv2 hc hd hv hpre h40 h123 h96 hany hD
          go_enter Tryd.func21, Tryd.ntmps21
          go_wp2_with fail
          refine (HM.out _).mono ?_
          rintro e w1 ⟨rfl, rfl⟩
          go_wp2_with fail
          refine (A40.out _).mono ?_
          rintro e w1 ⟨rfl, hB0⟩
          go_wp2_with fail
          refine (A123.out _).mono ?_
          rintro e w3 ⟨rfl, hB3⟩
          have hB1 := hB0.trans (Below.mono (h := hB3) hB0.size)
          clear hB0 hB3
          go_wp2_with fail
          refine (A96.out _).mono ?_
          rintro e w4 ⟨rfl, hB4⟩
          have hB5 := hB1.trans (Below.mono (h := hB4) hB1.size)
          clear hB1 hB4
          go_wp2_with fail
          refine (HS.out _).mono ?_
          rintro e w2 ⟨rfl, hB2⟩
          have hF := Lib.hid (hB5.trans (Below.mono (h := hB2) hB5.size))
          clear hB5 hB2
          go_wp2_with fail
          go_ret2
          exact ⟨rfl, hF.out⟩
    · rw [if_neg hany]
      obtain ⟨rfl, rfl, rfl⟩ : b40 = false ∧ b123 = false ∧ b96 = false := by
        cases b40 <;> cases b123 <;> cases b96 <;> simp_all
      clear hpre h40 h123 h96 hany
      go_enter Tryd.func21, Tryd.ntmps21
      go_wp2_with fail
      refine (HM.out _).mono ?_
      rintro e w1 ⟨rfl, rfl⟩
      go_wp2_with fail
      refine (A40.out _).mono ?_
      rintro e w1 ⟨rfl, hB0⟩
      go_wp2_with fail
      refine (A123.out _).mono ?_
      rintro e w3 ⟨rfl, hB3⟩
      have hB1 := hB0.trans (Below.mono (h := hB3) hB0.size)
      clear hB0 hB3
      go_wp2_with fail
      refine (A96.out _).mono ?_
      rintro e w4 ⟨rfl, hB4⟩
      have hB5 := hB1.trans (Below.mono (h := hB4) hB1.size)
      clear hB1 hB4
      go_wp2_with fail
      go_ret2
      exact ⟨rfl, hB5⟩
end Go.Proofs.YtlhkochpokhncaaDoor.Lexer
