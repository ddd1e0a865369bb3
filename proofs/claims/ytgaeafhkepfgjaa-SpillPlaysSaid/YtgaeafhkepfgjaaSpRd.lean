/- The document's answer for layer 6, walked: how many chunks are used. -/
import Derived.Test.YtgaeafhkepfgjaaSpRc
namespace Go.Proofs.Ytgaeafhkepfgjaa.Spill
open Go.RowKit Go.Proofs.Ytgaeafhkepfgjaa Go.Proofs.Ytgaeafhkepfgjaa.Hp
set_option linter.unusedVariables false

theorem lt_cl {m c t j : Nat} (hc : 0 < c) : j < cl m c t ↔ m + j * c < t := by
  unfold cl
  rw [show (j < (t - m + c - 1) / c) = (j + 1 ≤ (t - m + c - 1) / c) from rfl, Nat.le_div_iff_mul_le hc, Nat.add_mul]
  omega
theorem gn_le_iff {m c g j : Nat} (hc : 0 < c) : gn m c g ≤ j ↔ g < m + j * c + c := by
  unfold gn
  rw [show ((g - m) / c ≤ j) = ((g - m) / c < j + 1) from propext (Nat.lt_succ_iff).symm, Nat.div_lt_iff_lt_mul hc, Nat.add_mul]
  omega
/-- In the midst of the inner loop: j chunks have been looked at. -/
def CIn (m c t g acc : Nat) (w : World) (k : Nat) (nv fv : Value) (wr : World) : Prop :=
  ∃ j n : Nat, j + k = cl m c t ∧ fv = .int .i64 ((m + j * c : Nat) : Int) ∧ nv = .int .i64 ((acc + (j - gn m c g) : Nat) : Int) ∧ wr = w.drewN n
set_option maxRecDepth 100000 in
set_option maxHeartbeats 4000000 in
theorem rchunks (rp q m c cap : Nat) (p : Option Addr) (L : List Bf) (w : World) (R : Hp) (hm : m ≤ 65536) (hc : 1 ≤ c) (hc2 : c ≤ 65536) (hs : ∀ x ∈ L, Small x) (hb : sumOf (Bf.u m c) L ≤ 1000000000) (H : Sat w (rpool rp q m c cap p L * (all rbuf L * R))) :
    Calls Try.prog 25 #[.pointer (some ⟨rp, 0, none⟩)] w fun e w' => e = .returned (.int .i64 (sumOf (Bf.u m c) L : Nat)) ∧ ∃ n, w' = w.drewN n := by
  obtain ⟨h0, hL, hB⟩ := rpool_at H
  obtain ⟨c0, c1, c2, c3, _⟩ := rpo_cells h0
  go_enter Try.func25, Try.ntmps25
  go_wp2_with fail
  go_loopg [3, 4] (L.length) (RdRel (Bf.u m c) L w)
  case atStart => exact ⟨0, 0, by omega, rfl, rfl, rfl⟩
  case round =>
    obtain ⟨i, n, hik, rfl, rfl, rfl⟩ := hrel
    have h1 : (w.drewN n).cell? ⟨rp, 3, none⟩ = some (.slice p L.length cap) := c3
    have h1b : (w.drewN n).cell? ⟨rp, 1, none⟩ = some (.int .i64 m) := c1
    have hi0 : (0 : Int) ≤ i := by omega
    by_cases hi : i < L.length
    · have hlt : (i : Int) < L.length := by omega
      obtain ⟨b, o, rfl, h2, h3⟩ := hB i hi
      have h4 : (w.drewN n).cell? ⟨b, o + i, none⟩ = some (.pointer (some ⟨L[i].rb, 0, none⟩)) := h2
      have hx := hs L[i] (List.getElem_mem hi)
      have ht := sumOf_take (Bf.u m c) L i hi
      have hle := sumOf_take_le (Bf.u m c) L (i + 1)
      obtain ⟨d0, d1, d2, _⟩ := rbo_cells h3
      generalize L[i] = x at *
      generalize sumOf (Bf.u m c) (L.take i) = sm at *
      have Ht := Lib.hid ht
      have hsm : (sm : Int) ≤ 1000000000 := by omega
      have hxh : ((x.u m c : Nat) : Int) ≤ 1000000000 := by omega
      have HL : (L.length : Int) ≤ 9223372036854775807 := by omega
      have Hik := Lib.hid hik
      have H1 := Lib.hid c1
      have H2 := Lib.hid c2
      obtain ⟨ba, rb, cld, pre, data⟩ := x
      simp only [Small] at hx
      simp only at d0 d1 d2 h4
      clear c0 c1 c2 c3 h2 h3 hB hs ht hle hik hL
      cases cld
      · have hu : Bf.u m c ⟨ba, rb, false, pre, data⟩ = cl m c (pre.length + data.length) - gn m c pre.length := rfl
        rw [hu] at Ht hxh
        have hclb := cl_le (m := m) (c := c) (a := pre.length + data.length) (by omega)
        obtain ⟨t, hT⟩ : ∃ t, t = pre.length + data.length := ⟨_, rfl⟩
        rw [← hT] at Ht hxh hclb hx
        obtain ⟨K, hK⟩ : ∃ K, K = gk := ⟨_, rfl⟩
        rw [← hK] at Hik
        have HT := Lib.hid hT
        clear hT hu
        go_wp2_with fail
        go_loopg [3, 6] (cl m c t) (CIn m c t pre.length sm w)
        case atStart => exact ⟨0, n, by omega, by simp, by simp, rfl⟩
        case round =>
          obtain ⟨j, n2, hjk, rfl, rfl, rfl⟩ := hrel
          have e0 : (w.drewN n2).cell? ⟨rb, 0, none⟩ = some (.string ⟨(pre ++ data).toArray⟩) := d0
          have e1 : (w.drewN n2).cell? ⟨rb, 1, none⟩ = some (.int .i64 pre.length) := d1
          have e2 : (w.drewN n2).cell? ⟨rb, 2, none⟩ = some (.bool false) := d2
          have e5 : (w.drewN n2).cell? ⟨rp, 2, none⟩ = some (.int .i64 c) := H2.out
          obtain ⟨fr, hfr⟩ : ∃ fr, fr = m + j * c := ⟨_, rfl⟩
          obtain ⟨na, hna⟩ : ∃ na, na = sm + (j - gn m c pre.length) := ⟨_, rfl⟩
          rw [← hfr, ← hna]
          have hlc := lt_cl (m := m) (c := c) (t := t) (j := j) (by omega)
          have hgc := gn_le_iff (m := m) (c := c) (g := pre.length) (j := j) (by omega)
          rw [← hfr] at hlc hgc
          have hfr1 : fr + c = m + (j + 1) * c := by rw [Nat.add_mul]; omega
          have Hfr1 := Lib.hid hfr1
          have e6 := H2.out
          clear hfr hfr1 h1 h1b h4
          by_cases hj : fr < t
          · have hjl : j < cl m c t := hlc.2 hj
            have hlt2 : (fr : Int) < (pre.length : Int) + data.length := by have := HT.out; omega
            have hfrb : (fr : Int) ≤ 1000000 := by have := HT.out; omega
            have hnab : (na : Int) ≤ 2000000000 := by omega
            have hwr : IntKind.i64.wrap ((fr : Int) + c) = (fr : Int) + c := IntWalk.i64_in _ (by omega)
            by_cases hg : pre.length < fr + c
            · have hg1 : (pre.length : Int) < (fr : Int) + c := by omega
              have hna2 : na + 1 = sm + (j + 1 - gn m c pre.length) := by have := hgc.2 hg; omega
              have Hna2 := Lib.hid hna2
              have Hjk := Lib.hid hjk
              have Hj := Lib.hid hjl
              clear hna hna2 hgc hlc hjk hjl
              go_wp2_with fail
              go_quiet (fail)
              go_wp2_with fail
              go_roundg (gk - 1)
              case measure => have h1 := Hjk.out; have h2 := Hj.out; omega
              case rel => exact ⟨j + 1, _, by have h1 := Hjk.out; have h2 := Hj.out; omega, by rw [← Hfr1.out]; simp, by rw [← Hna2.out]; simp, rfl⟩
            · have hg1 : ¬ (pre.length : Int) < (fr : Int) + c := by omega
              have hna2 : na = sm + (j + 1 - gn m c pre.length) := by have : ¬ gn m c pre.length ≤ j := fun h => hg (hgc.1 h); omega
              have Hna2 := Lib.hid hna2
              have Hjk := Lib.hid hjk
              have Hj := Lib.hid hjl
              clear hna hna2 hgc hlc hjk hjl
              go_wp2_with fail
              go_quiet (fail)
              go_wp2_with fail
              go_roundg (gk - 1)
              case measure => have h1 := Hjk.out; have h2 := Hj.out; omega
              case rel => exact ⟨j + 1, _, by have h1 := Hjk.out; have h2 := Hj.out; omega, by rw [← Hfr1.out]; simp, by rw [← Hna2.out], rfl⟩
          · have hge2 : ¬ (fr : Int) < (pre.length : Int) + data.length := by have := HT.out; omega
            have hjl : j = cl m c t := by have : ¬ j < cl m c t := fun h => hj (hlc.1 h); omega
            have hna2 : na = sm + (cl m c t - gn m c pre.length) := by rw [hna, hjl]
            have Hna2 := Lib.hid hna2
            clear hna hna2 hgc hlc hjk hjl
            go_wp2_with fail
            go_roundg (K - 1)
            case measure => have := Hik.out; omega
            case rel => exact ⟨i + 1, _, by have := Hik.out; omega, rfl, by rw [Ht.out, ← Hna2.out], rfl⟩
      · have hu : Bf.u m c ⟨ba, rb, true, pre, data⟩ = 0 := rfl
        rw [hu] at Ht
        obtain ⟨K, hK⟩ : ∃ K, K = gk := ⟨_, rfl⟩
        rw [← hK] at Hik
        go_wp2_with fail
        go_loopg [3, 6] 0 (fun k nv fv wr => k = 0 ∧ nv = .int .i64 sm ∧ fv = .int .i64 (m : Int) ∧ wr = w.drewN n)
        case atStart => exact ⟨rfl, rfl, rfl, rfl⟩
        case round =>
          obtain ⟨_, rfl, rfl, rfl⟩ := hrel
          have e0 : (w.drewN n).cell? ⟨rb, 0, none⟩ = some (.string ⟨(pre ++ data).toArray⟩) := d0
          have e2 : (w.drewN n).cell? ⟨rb, 2, none⟩ = some (.bool true) := d2
          clear d0 d1 d2
          by_cases hj : (m : Int) < (pre.length : Int) + data.length
          · go_wp2_with fail
            go_roundg (K - 1)
            case measure => have := Hik.out; omega
            case rel => exact ⟨i + 1, _, by have := Hik.out; omega, rfl, by rw [Ht.out]; simp, rfl⟩
          · go_wp2_with fail
            go_roundg (K - 1)
            case measure => have := Hik.out; omega
            case rel => exact ⟨i + 1, _, by have := Hik.out; omega, rfl, by rw [Ht.out]; simp, rfl⟩
    · have hge : ¬ ((i : Int) < L.length) := by omega
      have hil : i = L.length := by omega
      clear hB hs hik
      go_wp2_with fail
      go_ret
      subst hil
      exact ⟨rfl, _, rfl⟩
end Go.Proofs.Ytgaeafhkepfgjaa.Spill
