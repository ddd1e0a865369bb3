/- The document's scan: all rounds joined. -/
import Derived.Test.YtlhkochpokhncaaDoorLxO96
import Derived.Test.YtlhkochpokhncaaDoorLxO34
import Derived.Test.YtlhkochpokhncaaDoorLxO40
import Derived.Test.YtlhkochpokhncaaDoorLxO123
import Derived.Test.YtlhkochpokhncaaDoorLxO119
namespace Go.Proofs.YtlhkochpokhncaaDoor.Lexer
open Go.RowKit Go.Proofs.YtlhkochpokhncaaDoor Go.Proofs.YtlhkochpokhncaaDoor.Hp
set_option linter.unusedVariables false
attribute [local go_sem] Oper.semAt_some

set_option maxRecDepth 100000 in
set_option maxHeartbeats 80000000 in
theorem scan_calls (s : ByteArray) (hs : Small s) (i : Nat) (first : UInt8) (wd : Bool) (T : Option Bytes) (hD : DSt wd [first] T ((bs s).drop i)) (w : World) (hi : i ≤ s.size) :
    Calls Tryd.prog 35 #[.string s, .int .i64 (i : Int), .int .u8 ((first.toNat : Nat) : Int)] w (NPost (pl s.size T) w) := by
  have hsz : (s.size : Int) ≤ 1000000 := hs
  have Hs := Lib.hid hs
  have HD0 := Lib.hid hD
  have Hi := Lib.hid hi
  clear hs hD hi
  go_enter Tryd.func35, Tryd.ntmps35
  go_wp2_with fail
  go_loopg [1, 7, 8, 9, 10] (s.size - i + 1) (fun g iv wv _ _ _ wr => ScRel s wd T w g iv wv wr)
  case atStart =>
    refine ⟨i, [first], some ⟨w.heap.size, 0, none⟩, 1, rfl, rfl, Hi.out, by simp, by simp, ?_, Ran.new (Below.refl 0 w) _, HD0.out, Nat.le_refl _⟩
    exact Sat.arr_mk (cur := #[u8V first]) (Nat.le_refl _) (by unfold maxLen; omega) (by simp) (by simp) (by simp) ((Sat.start w).alloc _)
  case round =>
    obtain ⟨k, st, p, cap, rfl, rfl, hk, hne, hlen, hS, hR, hDS, hg⟩ := hrel
    obtain ⟨a, rest, rfl⟩ : ∃ a rest, st = a :: rest := by cases st with
      | nil => exact absurd rfl hne
      | cons a rest => exact ⟨a, rest, rfl⟩
    obtain ⟨b, o, rfl, hcap⟩ := stk_addr hS
    by_cases hlt : k < s.size
    · have hd := bs_drop s k hlt
      obtain ⟨c, hc⟩ : ∃ c, c = s[k] := ⟨_, rfl⟩
      rw [← hc] at hd
      rw [hd] at hDS
      have X : ScCtx s wd T w wr gk k b o cap a c rest := ⟨Hs.out, hlt, hd, fun _ => hc, hlen, hcap, hS, hR, hDS, hg⟩
      rename_i J K hJ hK
      rcases dst_mem hDS with ha | ha | ha | ha | ha | ha
      · subst ha
        obtain ⟨h1, h2, h3⟩ := dst_word hDS
        subst h2
        by_cases hst : stops (c :: (bs s).drop (k + 1)) = true
        · by_cases c32 : c = 32
          · exact scan_stop_32 X hst c32
          · by_cases c9 : c = 9
            · exact scan_stop_9 X hst c9
            · by_cases c10 : c = 10
              · exact scan_stop_10 X hst c10
              · have hop : 0 < opN ((bs s).drop k) := by
                  rw [stops_cons, Bool.or_eq_true] at hst
                  rcases hst with h | h
                  · unfold blankB at h; simp [c32, c9, c10] at h
                  · rw [hd]; exact of_decide_eq_true h
                exact scan_stop_op X hst hop c32 c9 c10
        · have hst : stops (c :: (bs s).drop (k + 1)) = false := by simpa using hst
          by_cases c92 : c = 92
          · have ce : c = 92 := c92
            by_cases hl2 : k + 1 = s.size
            · exact scan_119_0 hJ hK X ce hl2 hst
            · exact scan_119_1 hJ hK X ce hl2 hst
          · by_cases hD40 : c = 36 ∧ ((bs s).drop (k + 1)).head? = some 40
            · have hD := hD40
              have ce := hD.1
              exact scan_119_6 hJ hK X ce hD hst
            · by_cases hD123 : c = 36 ∧ ((bs s).drop (k + 1)).head? = some 123
              · have hD := hD123
                have ce := hD.1
                exact scan_119_7 hJ hK X ce hD hst
              · have hD : ¬ (c = 36 ∧ (((bs s).drop (k + 1)).head? = some 40 ∨ ((bs s).drop (k + 1)).head? = some 123)) := by
                  rintro ⟨h1, h2 | h2⟩
                  · exact hD40 ⟨h1, h2⟩
                  · exact hD123 ⟨h1, h2⟩
                by_cases c96 : c = 96
                · have ce : c = 96 := c96
                  exact scan_119_2 hJ hK X ce hst
                · by_cases c39 : c = 39
                  · have ce : c = 39 := c39
                    exact scan_119_3 hJ hK X ce hst
                  · by_cases c34 : c = 34
                    · have ce : c = 34 := c34
                      exact scan_119_4 hJ hK X ce hst
                    · exact scan_119_5 hJ hK X c92 c96 c39 c34 hD hst
      · subst ha
        by_cases c39 : c = 39
        · have ce : c = 39 := c39
          exact scan_39_0 hJ hK X ce
        · exact scan_39_1 hJ hK X c39
      · subst ha
        by_cases c92 : c = 92
        · have ce : c = 92 := c92
          by_cases hl2 : k + 1 = s.size
          · exact scan_34_0 hJ hK X ce hl2
          · exact scan_34_1 hJ hK X ce hl2
        · by_cases c34 : c = 34
          · have ce : c = 34 := c34
            exact scan_34_2 hJ hK X ce
          · by_cases hD40 : c = 36 ∧ ((bs s).drop (k + 1)).head? = some 40
            · have hD := hD40
              have ce := hD.1
              exact scan_34_5 hJ hK X ce hD
            · by_cases hD123 : c = 36 ∧ ((bs s).drop (k + 1)).head? = some 123
              · have hD := hD123
                have ce := hD.1
                exact scan_34_6 hJ hK X ce hD
              · have hD : ¬ (c = 36 ∧ (((bs s).drop (k + 1)).head? = some 40 ∨ ((bs s).drop (k + 1)).head? = some 123)) := by
                  rintro ⟨h1, h2 | h2⟩
                  · exact hD40 ⟨h1, h2⟩
                  · exact hD123 ⟨h1, h2⟩
                by_cases c96 : c = 96
                · have ce : c = 96 := c96
                  exact scan_34_3 hJ hK X ce
                · exact scan_34_4 hJ hK X c92 c34 c96 hD
      · subst ha
        by_cases c92 : c = 92
        · have ce : c = 92 := c92
          by_cases hl2 : k + 1 = s.size
          · exact scan_40_0 hJ hK X ce hl2
          · exact scan_40_1 hJ hK X ce hl2
        · by_cases hD40 : c = 36 ∧ ((bs s).drop (k + 1)).head? = some 40
          · have hD := hD40
            have ce := hD.1
            exact scan_40_8 hJ hK X ce hD
          · by_cases hD123 : c = 36 ∧ ((bs s).drop (k + 1)).head? = some 123
            · have hD := hD123
              have ce := hD.1
              exact scan_40_9 hJ hK X ce hD
            · have hD : ¬ (c = 36 ∧ (((bs s).drop (k + 1)).head? = some 40 ∨ ((bs s).drop (k + 1)).head? = some 123)) := by
                rintro ⟨h1, h2 | h2⟩
                · exact hD40 ⟨h1, h2⟩
                · exact hD123 ⟨h1, h2⟩
              by_cases c96 : c = 96
              · have ce : c = 96 := c96
                exact scan_40_2 hJ hK X ce
              · by_cases c39 : c = 39
                · have ce : c = 39 := c39
                  exact scan_40_3 hJ hK X ce
                · by_cases c34 : c = 34
                  · have ce : c = 34 := c34
                    exact scan_40_4 hJ hK X ce
                  · by_cases c40 : c = 40
                    · have ce : c = 40 := c40
                      exact scan_40_5 hJ hK X ce
                    · by_cases c41 : c = 41
                      · have ce : c = 41 := c41
                        exact scan_40_6 hJ hK X ce
                      · exact scan_40_7 hJ hK X c92 c96 c39 c34 c40 c41 hD
      · subst ha
        by_cases c92 : c = 92
        · have ce : c = 92 := c92
          by_cases hl2 : k + 1 = s.size
          · exact scan_96_0 hJ hK X ce hl2
          · exact scan_96_1 hJ hK X ce hl2
        · by_cases c96 : c = 96
          · have ce : c = 96 := c96
            exact scan_96_2 hJ hK X ce
          · exact scan_96_3 hJ hK X c92 c96
      · subst ha
        by_cases c92 : c = 92
        · have ce : c = 92 := c92
          by_cases hl2 : k + 1 = s.size
          · exact scan_123_0 hJ hK X ce hl2
          · exact scan_123_1 hJ hK X ce hl2
        · by_cases hD40 : c = 36 ∧ ((bs s).drop (k + 1)).head? = some 40
          · have hD := hD40
            have ce := hD.1
            exact scan_123_7 hJ hK X ce hD
          · by_cases hD123 : c = 36 ∧ ((bs s).drop (k + 1)).head? = some 123
            · have hD := hD123
              have ce := hD.1
              exact scan_123_8 hJ hK X ce hD
            · have hD : ¬ (c = 36 ∧ (((bs s).drop (k + 1)).head? = some 40 ∨ ((bs s).drop (k + 1)).head? = some 123)) := by
                rintro ⟨h1, h2 | h2⟩
                · exact hD40 ⟨h1, h2⟩
                · exact hD123 ⟨h1, h2⟩
              by_cases c96 : c = 96
              · have ce : c = 96 := c96
                exact scan_123_2 hJ hK X ce
              · by_cases c39 : c = 39
                · have ce : c = 39 := c39
                  exact scan_123_3 hJ hK X ce
                · by_cases c34 : c = 34
                  · have ce : c = 34 := c34
                    exact scan_123_4 hJ hK X ce
                  · by_cases c125 : c = 125
                    · have ce : c = 125 := c125
                      exact scan_123_5 hJ hK X ce
                    · exact scan_123_6 hJ hK X c92 c96 c39 c34 c125 hD
    · have hk1 : k = s.size := by omega
      subst hk1
      rw [drop_end s s.size (Nat.le_refl _)] at hDS
      have ct0 := stk_top hS
      have hcapI : ((rest.length : Nat) : Int) + 1 ≤ cap := by omega
      have hltI : ¬ ((s.size : Int) < s.size) := by omega
      have HS := Lib.hid hS
      have hs0 : (0 : Int) ≤ s.size := by omega
      have hrl0 : (0 : Int) ≤ (rest.length : Nat) := by omega
      rcases dst_end hDS with ⟨rfl, rfl, rfl⟩ | ⟨hor, rfl⟩
      · have hv : pl s.size (some []) = (s.size : Int) := by show (s.size : Int) - _ = _; simp
        have HV := Lib.hid hv
        have ct1 : wr.cell? ⟨b, o, none⟩ = some (u8V 119) := ct0
        clear hDS hS hg hlen hv ct0
        simp only [List.length_cons, List.length_nil]
        go_wp2_with fail
        go_ret
        exact ⟨by rw [HV.out]; rfl, Ran.whole' hR HS.out.right⟩
      · by_cases hrest : rest = []
        · subst hrest
          have ha : a ≠ 119 := by rcases hor with h | h; exact h; exact absurd rfl h
          have ha2 : (((a.toNat : Nat) : Int) == 119) = false := by rw [q119]; exact beq_eq_false_iff_ne.2 ha
          have ct1 : wr.cell? ⟨b, o, none⟩ = some (u8V a) := ct0
          clear hDS hS hg hlen ct0 hor ha
          simp only [List.length_cons, List.length_nil]
          go_wp2_with fail
          go_ret
          exact ⟨rfl, Ran.whole' hR HS.out.right⟩
        · have hrl : (((rest.length : Nat) : Int) == 0) = false := by rw [beq_eq_false_iff_ne]; intro e; exact hrest (List.length_eq_zero_iff.1 (by omega))
          have hrl2 : (((rest.length : Nat) : Int) + 1 == 1) = false := by rw [beq_eq_false_iff_ne]; rw [beq_eq_false_iff_ne] at hrl; omega
          clear hDS hS hg hlen ct0 hor
          simp only [List.length_cons]
          go_wp2_with fail
          go_ret
          exact ⟨rfl, Ran.whole' hR HS.out.right⟩
end Go.Proofs.YtlhkochpokhncaaDoor.Lexer
