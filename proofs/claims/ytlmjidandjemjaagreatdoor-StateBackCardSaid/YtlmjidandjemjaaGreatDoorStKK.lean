/- Texts joined into one: StK, StVK, StSK. (printed by gen_stmerge.py) -/
import Derived.Test.YtlmjidandjemjaaGreatDoorStF
import Derived.Test.YtlmjidandjemjaaGreatDoorIter
import Derived.Test.YtlmjidandjemjaaGreatDoorStV
import Derived.Test.YtlmjidandjemjaaGreatDoorStS3
/- The keys of a map of a log. (printed by gen_stk.py) -/
namespace Go.Proofs.YtlmjidandjemjaaGreatDoor.Undo
open Go.RowKit Go.Maps Go.Sort Go.Shelf Go.Proofs.YtlmjidandjemjaaGreatDoor Go.Proofs.YtlmjidandjemjaaGreatDoor.Hp
set_option linter.unusedVariables false
attribute [local go_sem] Oper.semAt_some

/-- Texts, rising. -/
def Rising (ks : List ByteArray) : Prop := ks.Pairwise fun a b => a.data.toList < b.data.toList
def KeysOf {α : Type} (M : ByteArray → Option α) (ks : List ByteArray) : Prop := Rising ks ∧ ∀ s, s ∈ ks ↔ (M s).isSome = true
theorem own_arr {w w' : World} {S : Hp} {base E n : Nat} {v : Value} {xs : List Value} (h : Sat w S) (hb : Below w.heap.size w w') (hbase : w.heap.size ≤ base) (hrow : w'.ownsRow base E 1 v n xs) : ∃ p cap, v = .slice p n cap ∧ Sat w' (arr E 1 p n cap xs * S) := by
  obtain ⟨hl, ⟨rfl, rfl⟩ | ⟨g, cap, cur, rfl, hg, hcell, h1, h2, h3, h4⟩⟩ := hrow
  · refine ⟨none, 0, rfl, ?_⟩
    have : xs = [] := List.eq_nil_of_length_eq_zero (by omega)
    subst this
    exact (h.below hb).nil_arr E 1
  · refine ⟨_, cap, rfl, ?_⟩
    refine Sat.arr_mk h1 h2 (by omega) hl (fun j hj => ?_) (Sat.fresh h (Nat.le_trans hbase hg) hcell hb.block)
    rw [← h4, List.getElem?_take_of_lt (by omega), Nat.zero_add]
    simp
def strB (l : List UInt8) : ByteArray := ⟨l.toArray⟩
theorem strB_list (s : ByteArray) : strB s.data.toList = s := by cases s; simp [strB]
theorem keys_facts {w : World} {b n : Nat} {D : DataW Value} {M : ByteArray → Option Value} (hown : Owns w b n D) (hR : Reads D M) {ss : List (List UInt8)} (hp : ss.Perm (strKeys D)) : KeysOf M ((ss.mergeSort (fun x y => decide (x ≤ y))).map strB) := by
  obtain ⟨es, hD, hpw, _⟩ := hown.entries strKey
  obtain ⟨es', hD', hko⟩ := hown.keysOf
  obtain rfl : es = es' := by rw [hD] at hD'; simpa using hD'
  have hk : ∀ p ∈ es, ∃ x, p.1 = .string x := fun p hp => by obtain ⟨v, hv⟩ := hko p hp; obtain ⟨x, _, hx, _⟩ := Maps.keyOf_str Tryz.underlying9 hv; exact ⟨x, hx⟩
  have hnd : (strKeys D).Nodup := by
    rw [hD]
    show (es.map fun p => strOf p.1).Nodup
    refine List.pairwise_map.2 (hpw.imp_of_mem fun {p q} hp' hq' hne e => hne ?_)
    obtain ⟨a, ha⟩ := hk p hp'
    obtain ⟨b, hb⟩ := hk q hq'
    rw [ha, hb] at e ⊢
    exact congrArg _ e
  have hmem : ∀ x, x ∈ strKeys D ↔ Maps.has D (.string x) = true := by
    intro x
    rw [hD, has_eq, List.any_eq_true]
    show x ∈ es.map (fun p => strOf p.1) ↔ _
    rw [List.mem_map]
    constructor
    · rintro ⟨p, hp', rfl⟩
      obtain ⟨a, ha⟩ := hk p hp'
      exact ⟨p, hp', by rw [ha]; simp [Lit.sameKey, strOf]⟩
    · rintro ⟨p, hp', hs⟩
      obtain ⟨a, ha⟩ := hk p hp'
      rw [ha] at hs
      exact ⟨p, hp', by rw [ha]; simpa [Lit.sameKey, strOf] using hs⟩
  have tr : ∀ a b c : List UInt8, leB a b = true → leB b c = true → leB a c = true := fun a b c h1 h2 => by simp only [leB, decide_eq_true_eq] at *; exact List.le_trans h1 h2
  have tot : ∀ a b : List UInt8, (leB a b || leB b a) = true := fun a b => by simp only [leB, Bool.or_eq_true, decide_eq_true_eq]; exact List.le_total a b
  have hpm : (ss.mergeSort leB).Perm (strKeys D) := (List.mergeSort_perm ss leB).trans hp
  have hnd2 : (ss.mergeSort leB).Nodup := hpm.nodup_iff.2 hnd
  have hs := List.pairwise_mergeSort tr tot ss
  refine ⟨?_, fun s => ?_⟩
  · refine List.pairwise_map.2 ((hs.and hnd2).imp fun {a b} h => ?_)
    obtain ⟨h1, h2⟩ := h
    simp only [leB, decide_eq_true_eq] at h1
    show (strB a).data.toList < (strB b).data.toList
    simp only [strB]
    rcases List.le_iff_lt_or_eq.1 h1 with h | h
    · exact h
    · exact absurd h h2
  · rw [List.mem_map]
    constructor
    · rintro ⟨x, hx, rfl⟩
      have h1 := (hmem x).1 (hpm.mem_iff.1 hx)
      rw [← (hR.2 (strB x)).1]
      simpa [kl, strB] using h1
    · intro h
      rw [← (hR.2 s).1] at h
      exact ⟨s.data.toList, hpm.mem_iff.2 ((hmem _).2 h), strB_list s⟩
theorem keys_len {w : World} {b n : Nat} {D : DataW Value} (hown : Owns w b n D) : (strKeys D).length ≤ n := by
  obtain ⟨es, hD, _⟩ := hown.entries strKey
  have h := hown.size_le
  rw [hD] at h ⊢
  show (es.map fun p => strOf p.1).length ≤ n
  rw [List.length_map]
  exact h
theorem keysOf_map {α : Type} {enc : α → Value} {M : ByteArray → Option α} {ks : List ByteArray} (h : KeysOf (mapM enc M) ks) : KeysOf M ks :=
  ⟨h.1, fun s => by rw [h.2 s]; unfold mapM; cases M s <;> rfl⟩
end Go.Proofs.YtlmjidandjemjaaGreatDoor.Undo
/- Keys walked. Values: whelk/state.Var. (printed by gen_stk.py) -/
namespace Go.Proofs.YtlmjidandjemjaaGreatDoor.Undo.VM
open Go.RowKit Go.Maps Go.Sort Go.Shelf Go.Proofs.YtlmjidandjemjaaGreatDoor Go.Proofs.YtlmjidandjemjaaGreatDoor.Hp Go.Proofs.YtlmjidandjemjaaGreatDoor.Undo
set_option linter.unusedVariables false
attribute [local go_sem] Oper.semAt_some

def KeysSays (mb : Nat) (lb : Option Addr) (B : Nat) (M : ByteArray → Option T) (S : Hp) (e : Ending) (w' : World) : Prop :=
  ∃ p cap ks, e = .returned (.slice p (List.length ks) cap) ∧ KeysOf M ks ∧ ks.length ≤ B ∧ Sat w' (arr 9 1 p ks.length cap (ks.map Value.string) * (MapAt mb lb B M * S))
set_option maxRecDepth 100000 in
set_option maxHeartbeats 1000000 in
theorem keys_calls (mb : Nat) (lb : Option Addr) (B : Nat) (M : ByteArray → Option T) (w : World) (S : Hp) (hB : B ≤ 1000000) (h : Sat w (MapAt mb lb B M * S)) :
    Calls Tryz.prog 113 #[.pointer (some ⟨mb, 0, none⟩)] w fun e w' => KeysSays mb lb B M S e w' ∧ Below w.heap.size w w' := by
  obtain ⟨mp, n, hn, hM, HS⟩ := mapAt_out h
  obtain ⟨c0, c1⟩ := map_cells HS
  obtain ⟨D, hR, HD⟩ := mapHp_out (show Sat w (Undo.mapHp mp n (mapM enc M) * _) from pull1 HS)
  obtain ⟨hO, _⟩ := mapD_out HD
  have hsz := hO.size_le
  have hs := (callsIn_wide (n := 5)).1 (Tryz.slices_Sorted_keys_132_139 mp n D _ w hO (by unfold maxLen; omega) (by omega))
  have Hs := Lib.hid hs
  have HO := Lib.hid hO
  have H0 := Lib.hid h
  clear HD hO HS h hs
  go_enter Tryz.func113, Tryz.ntmps113
  go_wp2_with fail
  refine ((callsIn_wide (n := 5)).1 (Tryz.maps_Keys_139 (some mp) w)).mono ?_
  rintro e w1 ⟨rfl, rfl⟩
  go_wp2_with fail
  refine Hs.out.mono ?_
  rintro e w2 ⟨v, ss, rfl, hp, hrow, _, hb⟩
  have hb2 : Below w.heap.size w w2 := ((Below.refl _ w).alloc (Nat.le_refl _) _).trans (hb.mono (by rw [World.size_alloc]; exact Nat.le_succ _))
  obtain ⟨p, cap, rfl, HA⟩ := own_arr H0.out hb2 (by rw [World.size_alloc]; exact Nat.le_succ _) hrow
  have hlen : ((ss.mergeSort (fun x y => decide (x ≤ y))).map strB).length = ss.length := by rw [List.length_map, List.length_mergeSort]
  have hfin : KeysSays mb lb B M S (.returned (.slice p ss.length cap)) w2 := by
    refine ⟨p, cap, (ss.mergeSort (fun x y => decide (x ≤ y))).map strB, by rw [hlen], keysOf_map (keys_facts HO.out hR hp), by rw [hlen, hp.length_eq]; exact Nat.le_trans (keys_len HO.out) hn, ?_⟩
    rw [hlen, List.map_map]
    exact HA
  have Hfin := Lib.hid hfin
  clear hfin HA hrow hp hlen hb Hs HO H0
  go_wp2_with fail
  go_ret
  exact ⟨Hfin.out, hb2⟩
end Go.Proofs.YtlmjidandjemjaaGreatDoor.Undo.VM
/- Keys walked. Values: string. (printed by gen_stk.py) -/
namespace Go.Proofs.YtlmjidandjemjaaGreatDoor.Undo.SM
open Go.RowKit Go.Maps Go.Sort Go.Shelf Go.Proofs.YtlmjidandjemjaaGreatDoor Go.Proofs.YtlmjidandjemjaaGreatDoor.Hp Go.Proofs.YtlmjidandjemjaaGreatDoor.Undo
set_option linter.unusedVariables false
attribute [local go_sem] Oper.semAt_some

def KeysSays (mb : Nat) (lb : Option Addr) (B : Nat) (M : ByteArray → Option T) (S : Hp) (e : Ending) (w' : World) : Prop :=
  ∃ p cap ks, e = .returned (.slice p (List.length ks) cap) ∧ KeysOf M ks ∧ ks.length ≤ B ∧ Sat w' (arr 9 1 p ks.length cap (ks.map Value.string) * (MapAt mb lb B M * S))
set_option maxRecDepth 100000 in
set_option maxHeartbeats 1000000 in
theorem keys_calls (mb : Nat) (lb : Option Addr) (B : Nat) (M : ByteArray → Option T) (w : World) (S : Hp) (hB : B ≤ 1000000) (h : Sat w (MapAt mb lb B M * S)) :
    Calls Tryz.prog 100 #[.pointer (some ⟨mb, 0, none⟩)] w fun e w' => KeysSays mb lb B M S e w' ∧ Below w.heap.size w w' := by
  obtain ⟨mp, n, hn, hM, HS⟩ := mapAt_out h
  obtain ⟨c0, c1⟩ := map_cells HS
  obtain ⟨D, hR, HD⟩ := mapHp_out (show Sat w (Undo.mapHp mp n (mapM enc M) * _) from pull1 HS)
  obtain ⟨hO, _⟩ := mapD_out HD
  have hsz := hO.size_le
  have hs := (callsIn_wide (n := 5)).1 (Tryz.slices_Sorted_keys_132_133 mp n D _ w hO (by unfold maxLen; omega) (by omega))
  have Hs := Lib.hid hs
  have HO := Lib.hid hO
  have H0 := Lib.hid h
  clear HD hO HS h hs
  go_enter Tryz.func100, Tryz.ntmps100
  go_wp2_with fail
  refine ((callsIn_wide (n := 5)).1 (Tryz.maps_Keys_133 (some mp) w)).mono ?_
  rintro e w1 ⟨rfl, rfl⟩
  go_wp2_with fail
  refine Hs.out.mono ?_
  rintro e w2 ⟨v, ss, rfl, hp, hrow, _, hb⟩
  have hb2 : Below w.heap.size w w2 := ((Below.refl _ w).alloc (Nat.le_refl _) _).trans (hb.mono (by rw [World.size_alloc]; exact Nat.le_succ _))
  obtain ⟨p, cap, rfl, HA⟩ := own_arr H0.out hb2 (by rw [World.size_alloc]; exact Nat.le_succ _) hrow
  have hlen : ((ss.mergeSort (fun x y => decide (x ≤ y))).map strB).length = ss.length := by rw [List.length_map, List.length_mergeSort]
  have hfin : KeysSays mb lb B M S (.returned (.slice p ss.length cap)) w2 := by
    refine ⟨p, cap, (ss.mergeSort (fun x y => decide (x ≤ y))).map strB, by rw [hlen], keysOf_map (keys_facts HO.out hR hp), by rw [hlen, hp.length_eq]; exact Nat.le_trans (keys_len HO.out) hn, ?_⟩
    rw [hlen, List.map_map]
    exact HA
  have Hfin := Lib.hid hfin
  clear hfin HA hrow hp hlen hb Hs HO H0
  go_wp2_with fail
  go_ret
  exact ⟨Hfin.out, hb2⟩
end Go.Proofs.YtlmjidandjemjaaGreatDoor.Undo.SM
