/- All walked: a table's numbers, rising. -/
import Derived.Test.YtljlpkeddbfpaaaGreatDoorHdJ
import Derived.Test.YtljlpkeddbfpaaaGreatDoorIti
namespace Go.Proofs.YtljlpkeddbfpaaaGreatDoor.Hd
open Go.RowKit Go.Maps Go.Sort Go.Shelf Go.Proofs.YtljlpkeddbfpaaaGreatDoor Go.Proofs.YtljlpkeddbfpaaaGreatDoor.Hp
set_option linter.unusedVariables false
attribute [local go_sem] Oper.semAt_some

/-- The numbers of a table, rising. -/
def KeysOf (M : Int → Option Nat) (ks : List Int) : Prop := ks.Pairwise (· < ·) ∧ ∀ s, s ∈ ks ↔ (M s).isSome = true
theorem own_arr {w w' : World} {S : Hp} {base E n : Nat} {v : Value} {xs : List Value} (h : Sat w S) (hb : Below w.heap.size w w') (hbase : w.heap.size ≤ base) (hrow : w'.ownsRow base E 1 v n xs) : ∃ p cap, v = .slice p n cap ∧ Sat w' (arr E 1 p n cap xs * S) := by
  obtain ⟨hl, ⟨rfl, rfl⟩ | ⟨g, cap, cur, rfl, hg, hcell, h1, h2, h3, h4⟩⟩ := hrow
  · refine ⟨none, 0, rfl, ?_⟩
    have : xs = [] := List.eq_nil_of_length_eq_zero (by omega)
    subst this
    exact (h.below hb).nil_arr E 1
  · refine ⟨_, cap, rfl, ?_⟩
    refine Sat.arr_mk h1 h2 (by omega) hl (fun j hj => ?_) (Sat.fresh h (Nat.le_trans hbase hg) hcell hb.block)
    rw [← h4, List.getElem?_take_of_lt (by omega), Nat.zero_add]
    simp
theorem key_int {v : Value} {k : Lit} (h : keyOf Tryz.prog 3 v = some k) : ∃ x, k = .int .i64 x := by
  rw [keyOf_int Tryz.underlying3] at h
  cases v with
  | int q x =>
    simp only [mapKey, Tryz.underlying3] at h
    split at h
    · exact ⟨x, by injection h with h; exact h.symm⟩
    · cases h
  | _ => simp [mapKey, Tryz.underlying3] at h
theorem keys_facts {w : World} {b n sz : Nat} {D : DataW Unit} {M : Int → Option Nat} (hown : Owns w b n D) (hR : Reads D M sz) {ss : List Int} (hp : ss.Perm (intKeys D)) : KeysOf M (ss.mergeSort (fun x y => decide (x ≤ y))) := by
  obtain ⟨es, hD, hpw, _⟩ := hown.entries intKey
  obtain ⟨es', hD', hko⟩ := hown.keysOf
  obtain rfl : es = es' := by rw [hD] at hD'; simpa using hD'
  have hk : ∀ p ∈ es, ∃ x, p.1 = .int .i64 x := fun p hp => by obtain ⟨v, hv⟩ := hko p hp; exact key_int hv
  have hnd : (intKeys D).Nodup := by
    rw [hD]
    show (es.map fun p => Go.intOf p.1).Nodup
    refine List.pairwise_map.2 (hpw.imp_of_mem fun {p q} hp' hq' hne e => hne ?_)
    obtain ⟨a, ha⟩ := hk p hp'
    obtain ⟨b, hb⟩ := hk q hq'
    rw [ha, hb] at e ⊢
    exact congrArg (Lit.int .i64) e
  have hmem : ∀ x, x ∈ intKeys D ↔ Maps.has D (ik x) = true := by
    intro x
    rw [hD, has_eq, List.any_eq_true]
    show x ∈ es.map (fun p => Go.intOf p.1) ↔ _
    rw [List.mem_map]
    constructor
    · rintro ⟨p, hp', rfl⟩
      obtain ⟨a, ha⟩ := hk p hp'
      exact ⟨p, hp', by rw [ha]; simp [Lit.sameKey, Go.intOf]⟩
    · rintro ⟨p, hp', hs⟩
      obtain ⟨a, ha⟩ := hk p hp'
      rw [ha] at hs
      exact ⟨p, hp', by rw [ha]; simpa [Lit.sameKey, Go.intOf] using hs⟩
  have tr : ∀ a b c : Int, decide (a ≤ b) = true → decide (b ≤ c) = true → decide (a ≤ c) = true := fun a b c h1 h2 => by simp only [decide_eq_true_eq] at *; omega
  have tot : ∀ a b : Int, (decide (a ≤ b) || decide (b ≤ a)) = true := fun a b => by simp only [Bool.or_eq_true, decide_eq_true_eq]; omega
  have hpm : (ss.mergeSort (fun x y => decide (x ≤ y))).Perm (intKeys D) := (List.mergeSort_perm ss _).trans hp
  have hnd2 : (ss.mergeSort (fun x y => decide (x ≤ y))).Nodup := hpm.nodup_iff.2 hnd
  have hs := List.pairwise_mergeSort tr tot ss
  refine ⟨(hs.and hnd2).imp fun {a b} h => ?_, fun s => ?_⟩
  · obtain ⟨h1, h2⟩ := h
    simp only [decide_eq_true_eq] at h1
    omega
  · rw [hpm.mem_iff, hmem, hR.has]
abbrev iv (n : Int) : Value := .int .i64 n
def AllSays (tb fb pb hm n : Nat) (L : HL) (R : Hp) (e : Ending) (w' : World) : Prop :=
  ∃ p cap ks, e = .returned (.slice p (List.length ks) cap) ∧ KeysOf (hblk L) ks ∧ Sat w' (arr 3 1 p ks.length cap (ks.map iv) * (tabHp tb fb pb hm L n * R))
set_option maxRecDepth 100000 in
set_option maxHeartbeats 4000000 in
theorem All_calls (tb fb pb hm n : Nat) (L : HL) (hn : n ≤ 1000000) (w : World) (R : Hp) (h : Sat w (tabHp tb fb pb hm L n * R)) :
    Calls Tryz.prog 23 #[pp tb] w fun e w' => AllSays tb fb pb hm n L R e w' ∧ Below w.heap.size w w' := by
  obtain ⟨c0, c1, c2⟩ := tab_cells h
  obtain ⟨D, hR, HD⟩ := pmap_out (h.perm (show _ = pmap hm (hblk L) L.length n * (pts tb (tbO fb pb hm) * all (fun p : Int × Hn => hnHp fb p.2) L * R) by unfold tabHp; ac_rfl))
  obtain ⟨hO, _⟩ := mapD_out HD
  have hsz := hO.size_le
  have hs := (callsIn_wide (n := 5)).1 (Tryz.slices_Sorted_keys_42_43 hm n D _ w hO (by unfold maxLen; omega) (by omega))
  have Hs := Lib.hid hs
  have HO := Lib.hid hO
  have H0 := Lib.hid h
  clear HD hO h hs
  go_enter Tryz.func23, Tryz.ntmps23
  go_wp2_with fail
  refine ((callsIn_wide (n := 5)).1 (Tryz.maps_Keys_43 (some hm) w)).mono ?_
  rintro e w1 ⟨rfl, rfl⟩
  go_wp2_with fail
  refine Hs.out.mono ?_
  rintro e w2 ⟨v, ss, rfl, hp, hrow, _, hb⟩
  have hb2 : Below w.heap.size w w2 := ((Below.refl _ w).alloc (Nat.le_refl _) _).trans (hb.mono (by rw [World.size_alloc]; exact Nat.le_succ _))
  obtain ⟨p, cap, rfl, HA⟩ := own_arr H0.out hb2 (by rw [World.size_alloc]; exact Nat.le_succ _) hrow
  have hlen : (ss.mergeSort (fun x y => decide (x ≤ y))).length = ss.length := by rw [List.length_mergeSort]
  have hfin : AllSays tb fb pb hm n L R (.returned (.slice p ss.length cap)) w2 := by
    refine ⟨p, cap, ss.mergeSort (fun x y => decide (x ≤ y)), by rw [hlen], keys_facts HO.out hR hp, ?_⟩
    rw [hlen]
    exact HA
  have Hfin := Lib.hid hfin
  clear hfin HA hrow hp hlen hb Hs HO H0
  go_wp2_with fail
  go_ret
  exact ⟨Hfin.out, hb2⟩
end Go.Proofs.YtljlpkeddbfpaaaGreatDoor.Hd
