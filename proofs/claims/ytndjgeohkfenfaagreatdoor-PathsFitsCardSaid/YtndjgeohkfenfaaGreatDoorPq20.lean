/- HandlesPlays, part 20 of 26: the texts PaJ PaN PaO, joined by a program. -/
import Derived.Test.YtndjgeohkfenfaaGreatDoorPq19
import Derived.Test.YtndjgeohkfenfaaGreatDoorIter
import Derived.Test.YtndjgeohkfenfaaGreatDoorPq16
import Derived.OwnWalkIn
import Derived.TacticsInMore
import Derived.LoopNIn
import Derived.LoopIn
namespace Go.Proofs.YtndjgeohkfenfaaGreatDoor.Hd
open Go.RowKit Go.Maps Go.Sort Go.Shelf Go.Proofs.YtndjgeohkfenfaaGreatDoor Go.Proofs.YtndjgeohkfenfaaGreatDoor.Hp
set_option linter.unusedVariables false
attribute [local go_sem] Oper.semAt_some

theorem own_arr {w w' : World} {S : Hp} {base E n : Nat} {v : Value} {xs : List Value} (h : Sat w S) (hb : Below w.heap.size w w') (hbase : w.heap.size ≤ base) (hrow : w'.ownsRow base E 1 v n xs) : ∃ p cap, v = .slice p n cap ∧ Sat w' (arr E 1 p n cap xs * S) := by
  obtain ⟨hl, ⟨rfl, rfl⟩ | ⟨g, cap, cur, rfl, hg, hcell, h1, h2, h3, h4⟩⟩ := hrow
  · refine ⟨none, 0, rfl, ?_⟩
    have : xs = [] := List.eq_nil_of_length_eq_zero (by omega)
    subst this
    exact (h.below hb).nil_arr E 1
  · refine ⟨_, cap, rfl, ?_⟩
    refine Sat.arr_mk h1 h2 (by omega) hl (fun j hj => ?_) (Sat.fresh h (Nat.le_trans hbase hg) hcell hb.block)
    rw [← h4, List.getElem?_take_of_lt (by omega), Nat.zero_add]
    simp
/-- Texts, rising, that are just a map's keys. -/
def KeysS (M : K.SM) (ks : List ByteArray) : Prop := ks.Pairwise (fun a b => a.data.toList < b.data.toList) ∧ ∀ s, s ∈ ks ↔ (M s).isSome = true
theorem rise_eq : ∀ (l1 l2 : List ByteArray), l1.Pairwise (fun a b => a.data.toList < b.data.toList) → l2.Pairwise (fun a b => a.data.toList < b.data.toList) → (∀ x, x ∈ l1 ↔ x ∈ l2) → l1 = l2
  | [], [], _, _, _ => rfl
  | [], y :: l2, _, _, h => by have := (h y).2 List.mem_cons_self; cases this
  | x :: l1, [], _, _, h => by have := (h x).1 List.mem_cons_self; cases this
  | x :: l1, y :: l2, h1, h2, h => by
    have c1 := List.pairwise_cons.1 h1
    have c2 := List.pairwise_cons.1 h2
    have e : x = y := by
      rcases List.mem_cons.1 ((h x).1 List.mem_cons_self) with e | e
      · exact e
      · rcases List.mem_cons.1 ((h y).2 List.mem_cons_self) with e2 | e2
        · exact e2.symm
        · exact absurd (c1.1 y e2) (List.lt_asymm (c2.1 x e))
    subst e
    rw [rise_eq l1 l2 c1.2 c2.2 fun z => ⟨fun hz => ?_, fun hz => ?_⟩]
    · rcases List.mem_cons.1 ((h z).1 (List.mem_cons_of_mem _ hz)) with e | e
      · subst e; exact absurd (c1.1 z hz) (List.lt_irrefl _)
      · exact e
    · rcases List.mem_cons.1 ((h z).2 (List.mem_cons_of_mem _ hz)) with e | e
      · subst e; exact absurd (c2.1 z hz) (List.lt_irrefl _)
      · exact e
def strB (l : List UInt8) : ByteArray := ⟨l.toArray⟩
theorem strB_list (s : ByteArray) : strB s.data.toList = s := by cases s; simp [strB]
theorem skeys_facts {w : World} {b n sz : Nat} {D : DataW Unit} {M : K.SM} (hown : K.Owns w b n D) (hR : K.Reads D M sz) {ss : List (List UInt8)} (hp : ss.Perm (strKeys D)) : KeysS M ((ss.mergeSort (fun x y => decide (x ≤ y))).map strB) := by
  obtain ⟨es, hD, hpw, _⟩ := hown.entries K.strKey
  obtain ⟨es', hD', hko⟩ := hown.keysOf
  obtain rfl : es = es' := by rw [hD] at hD'; simpa using hD'
  have hk : ∀ p ∈ es, ∃ x, p.1 = .string x := fun p hp => by obtain ⟨v, hv⟩ := hko p hp; obtain ⟨x, _, hx, _⟩ := Maps.keyOf_str Tryz.underlying9 hv; exact ⟨x, hx⟩
  have hnd : (strKeys D).Nodup := by
    rw [hD]
    show (es.map fun p => strOf p.1).Nodup
    refine List.pairwise_map.2 (hpw.imp_of_mem fun {p q} hp' hq' hne e => hne ?_)
    obtain ⟨a, ha⟩ := hk p hp'
    obtain ⟨b, hb⟩ := hk q hq'
    rw [ha, hb] at e ⊢
    exact congrArg _ e
  have hmem : ∀ x, x ∈ strKeys D ↔ Maps.has D (.string x) = true := by
    intro x
    rw [hD, has_eq, List.any_eq_true]
    show x ∈ es.map (fun p => strOf p.1) ↔ _
    rw [List.mem_map]
    constructor
    · rintro ⟨p, hp', rfl⟩
      obtain ⟨a, ha⟩ := hk p hp'
      exact ⟨p, hp', by rw [ha]; simp [Lit.sameKey, strOf]⟩
    · rintro ⟨p, hp', hs⟩
      obtain ⟨a, ha⟩ := hk p hp'
      rw [ha] at hs
      exact ⟨p, hp', by rw [ha]; simpa [Lit.sameKey, strOf] using hs⟩
  have tr : ∀ a b c : List UInt8, leB a b = true → leB b c = true → leB a c = true := fun a b c h1 h2 => by simp only [leB, decide_eq_true_eq] at *; exact List.le_trans h1 h2
  have tot : ∀ a b : List UInt8, (leB a b || leB b a) = true := fun a b => by simp only [leB, Bool.or_eq_true, decide_eq_true_eq]; exact List.le_total a b
  have hpm : (ss.mergeSort leB).Perm (strKeys D) := (List.mergeSort_perm ss leB).trans hp
  have hnd2 : (ss.mergeSort leB).Nodup := hpm.nodup_iff.2 hnd
  have hs := List.pairwise_mergeSort tr tot ss
  refine ⟨?_, fun s => ?_⟩
  · refine List.pairwise_map.2 ((hs.and hnd2).imp fun {a b} h => ?_)
    obtain ⟨h1, h2⟩ := h
    simp only [leB, decide_eq_true_eq] at h1
    show (strB a).data.toList < (strB b).data.toList
    simp only [strB]
    rcases List.le_iff_lt_or_eq.1 h1 with h | h
    · exact h
    · exact absurd h h2
  · rw [List.mem_map]
    constructor
    · rintro ⟨x, hx, rfl⟩
      have h1 := (hmem x).1 (hpm.mem_iff.1 hx)
      rw [← hR.has (strB x)]
      simpa [K.kl, strB] using h1
    · intro h
      rw [← hR.has s] at h
      exact ⟨s.data.toList, hpm.mem_iff.2 ((hmem _).2 h), strB_list s⟩
theorem enc_map (ks : List (List UInt8)) : (ks.map strB).map Value.string = ks.map encStr := by rw [List.map_map]; rfl
/-- A directory's names in memory: what Sorted gives. -/
theorem fs_kids {w : World} {fb mb : Nat} {F : Fs} {R : Hp} (h : Sat w (fsHp fb mb F * R)) {k : Int} {x : Nd} {kd : Kd} (hx : find F.L k = some x) (hk : x.kids = some kd) : ∃ D, K.Reads D kd.M kd.sz ∧ K.Owns w kd.b kd.n D := by
  obtain ⟨X, h1, _⟩ := fs_node h hx
  rw [hk] at h1
  obtain ⟨D, hR, HD⟩ := K.smap_out (h1.perm (show _ = K.smap kd.b kd.M kd.sz kd.n * (pts x.b (ndO x) * (pts fb (fsO F mb) * (X * R))) by unfold kidsHp; ac_rfl))
  exact ⟨D, hR, (K.mapD_out HD).1⟩
abbrev strA (p : Option Addr) (cap : Nat) (l : List ByteArray) : Hp := arr 9 1 p l.length cap (l.map Value.string)
/-- What List tells of a node. -/
def ListS (F : Fs) (k : Int) (ks : List ByteArray) : Prop := match find F.L k with
  | none => ks = []
  | some x => match x.kids with
    | none => ks = []
    | some kd => KeysS kd.M ks
theorem KeysS.one {M : K.SM} {a b : List ByteArray} (h : KeysS M a) (k : KeysS M b) : a = b := rise_eq _ _ h.1 k.1 fun x => (h.2 x).trans (k.2 x).symm
theorem ListS.one {F : Fs} {k : Int} {a b : List ByteArray} (h : ListS F k a) (g : ListS F k b) : a = b := by
  unfold ListS at h g
  split at h
  · rename_i e; rw [e] at g; rw [h, g]
  · rename_i x e
    rw [e] at g
    dsimp only at g
    split at h
    · rename_i e2; rw [e2] at g; rw [h, g]
    · rename_i kd e2; rw [e2] at g; exact h.one g
def ListPost (N fb mb : Nat) (F : Fs) (k : Int) (R : Hp) (e : Ending) (w' : World) : Prop :=
  ∃ p cap ks er, e = .returned (.tuple #[.slice p (List.length ks) cap, .int .i64 er]) ∧ ListS F k ks ∧ ks.length ≤ N ∧ Sat w' (strA p cap ks * (fsHp fb mb F * R))
set_option maxRecDepth 100000 in
set_option maxHeartbeats 4000000 in
theorem List_calls (fb mb N : Nat) (F : Fs) (hT : TreeG N F) (hN : N ≤ 1000000) (k : Int) (hk : I64 k) (w : World) (R : Hp) (h : Sat w (fsHp fb mb F * R)) :
    Calls Tryz.prog 16 #[pp fb, .int .i64 k] w fun e w' => ListPost N fb mb F k R e w' ∧ Below w.heap.size w w' := by
  obtain ⟨c0, c1, c2, c3⟩ := fs_cells h
  have hl := fs_look h k hk
  have HI := is_calls fb mb F k 1 hk w R h
  cases hx : find F.L k with
  | none =>
    rw [show blk F.L k = none by unfold blk; rw [hx]; rfl] at hl
    unfold pv at hl
    have hfin : ListPost N fb mb F k R (.returned (.tuple #[.slice none 0 0, .int .i64 10])) w := ⟨none, 0, [], 10, rfl, by unfold ListS; rw [hx], Nat.zero_le _, h.nil_arr _ _⟩
    have Hfin := Lib.hid hfin
    clear hfin h HI hx
    go_enter Tryz.func16, Tryz.ntmps16
    go_wp2_with fail
    go_ret2
    exact ⟨Hfin.out, Below.refl _ _⟩
  | some x =>
    rw [show blk F.L k = some x.b by unfold blk; rw [hx]; rfl] at hl
    unfold pv at hl
    unfold isK at HI
    rw [hx] at HI
    dsimp only at HI
    rcases hT.kinds k x hx with ⟨hk1, kd, hkd⟩ | ⟨hk2, hkn⟩
    · rw [hk1, show ((1 : Int) == 1) = true by rfl] at HI
      have HI := Lib.hid HI
      obtain ⟨d0, d1, d2, d3, d4, d5⟩ := fs_at h hx
      rw [hkd] at d2
      unfold kv at d2
      dsimp only at d2
      obtain ⟨D, hR, hO⟩ := fs_kids h hx hkd
      have hsz := hO.size_le
      have hkn := ((hT.each k x hx).2.2.2 kd hkd).2
      have Hsz := Lib.hid (show Maps.size D ≤ N by omega)
      have Hs := Lib.hid ((callsIn_wide (n := 5)).1 (Tryz.slices_Sorted_keys_40_41 kd.b kd.n D _ w hO (by unfold maxLen; omega) (by omega)))
      have HO := Lib.hid (And.intro hO hR)
      have H0 := Lib.hid h
      have Hx := Lib.hid hx
      have Hkd := Lib.hid hkd
      clear h hO hR hkd hx d0 d1 d3 d4 d5 hT hk1 hsz hkn
      go_enter Tryz.func16, Tryz.ntmps16
      go_wp2_with fail
      refine HI.out.mono ?_
      rintro e w1 ⟨rfl, rfl⟩
      go_wp2_with fail
      refine ((callsIn_wide (n := 5)).1 (Tryz.maps_Keys_41 (some kd.b) w)).mono ?_
      rintro e w1 ⟨rfl, rfl⟩
      go_wp2_with fail
      refine Hs.out.mono ?_
      rintro e w2 ⟨v, ss, rfl, hp, hrow, _, hb⟩
      have hb2 : Below w.heap.size w w2 := ((Below.refl _ w).alloc (Nat.le_refl _) _).trans (hb.mono (by rw [World.size_alloc]; exact Nat.le_succ _))
      obtain ⟨p, cap, rfl, HA⟩ := own_arr H0.out hb2 (by rw [World.size_alloc]; exact Nat.le_succ _) hrow
      have hks := skeys_facts HO.out.1 HO.out.2 hp
      have Hsn := Lib.hid (show ss.length ≤ N by
        obtain ⟨es, hD, -⟩ := HO.out.1.entries K.strKey
        have h1 := hp.length_eq
        have h2 := Hsz.out
        rw [hD] at h1 h2
        have h3 : (strKeys (DataW.map es)).length = es.length := by show (es.map _).length = _; rw [List.length_map]
        have h4 : Maps.size (DataW.map es) = es.length := rfl
        omega)
      have hlen : (ss.mergeSort (fun x y => decide (x ≤ y))).length = ss.length := by rw [List.length_mergeSort]
      have hfin : ListPost N fb mb F k R (.returned (.tuple #[.slice p ss.length cap, .int .i64 0])) w2 := by
        refine ⟨p, cap, (ss.mergeSort (fun x y => decide (x ≤ y))).map strB, 0, by rw [List.length_map, hlen], ?_, by rw [List.length_map, hlen]; exact Hsn.out, ?_⟩
        · unfold ListS
          rw [Hx.out]
          dsimp only
          rw [Hkd.out]
          exact hks
        · unfold strA
          rw [List.length_map, hlen, enc_map]
          exact HA
      have Hfin := Lib.hid hfin
      have Hb2 := Lib.hid hb2
      clear hfin HA hrow hp hlen hb Hs HO H0 hks hb2
      go_wp2_with fail
      go_ret2
      exact ⟨Hfin.out, Hb2.out⟩
    · rw [show (x.kind == 1) = false by rcases hk2 with e | e <;> rw [e] <;> rfl] at HI
      have HI := Lib.hid HI
      have hfin : ListPost N fb mb F k R (.returned (.tuple #[.slice none 0 0, .int .i64 12])) w := ⟨none, 0, [], 12, rfl, by unfold ListS; rw [hx]; dsimp only; rw [hkn], Nat.zero_le _, h.nil_arr _ _⟩
      have Hfin := Lib.hid hfin
      clear hfin h hx hk2 hkn hT
      go_enter Tryz.func16, Tryz.ntmps16
      go_wp2_with fail
      refine HI.out.mono ?_
      rintro e w1 ⟨rfl, rfl⟩
      go_wp2_with fail
      go_ret2
      exact ⟨Hfin.out, Below.refl _ _⟩
/-- The names of where a path comes to. -/
def NamesS (F : Fs) (dir : Int) (path : ByteArray) (ks : List ByteArray) : Prop :=
  if path.size = 0 then ListS F dir ks else if (WalkP F dir path true).2 ≠ 0 then ks = [] else ListS F (WalkP F dir path true).1 ks
theorem NamesS.one {F : Fs} {d : Int} {s : ByteArray} {a b : List ByteArray} (h : NamesS F d s a) (g : NamesS F d s b) : a = b := by
  unfold NamesS at h g
  split at h
  · rename_i e; rw [if_pos e] at g; exact h.one g
  · rename_i e
    rw [if_neg e] at g
    split at h
    · rename_i e2; rw [if_pos e2] at g; rw [h, g]
    · rename_i e2; rw [if_neg e2] at g; exact h.one g
abbrev finV (fb : Nat) (dir : Int) : Value := .agg #[pp fb, .int .i64 dir]
abbrev finO (fb : Nat) (dir : Int) : Obj := .cells #[pp fb, .int .i64 dir] 99 (0, 0)
theorem fin_cells {w : World} {b fb : Nat} {dir : Int} {S : Hp} (h : Sat w (pts b (finO fb dir) * S)) : w.cell? ⟨b, 0, none⟩ = some (pp fb) ∧ w.cell? ⟨b, 1, none⟩ = some (.int .i64 dir) :=
  ⟨by rw [cell_at h.get]; rfl, by rw [cell_at h.get]; rfl⟩
def NamesPost (N fb mb : Nat) (F : Fs) (dir : Int) (path : ByteArray) (R : Hp) (e : Ending) (w' : World) : Prop :=
  ∃ p cap ks, e = .returned (.slice p (List.length ks) cap) ∧ NamesS F dir path ks ∧ ks.length ≤ N ∧ Sat w' (strA p cap ks * (fsHp fb mb F * R))
set_option maxRecDepth 100000 in
set_option maxHeartbeats 4000000 in
theorem names_calls (fb mb N : Nat) (F : Fs) (hT : TreeG N F) (hN : N ≤ 1000000) (dir : Int) (hd : I64 dir) (path : ByteArray) (hp : path.size ≤ 1000000) (w : World) (R : Hp) (hG : Glob R) (h : Sat w (fsHp fb mb F * R)) :
    Calls Tryz.prog 120 #[finV fb dir, .string path] w fun e w' => NamesPost N fb mb F dir path R e w' ∧ Ran w w' := by
  have S1 := (h.alloc (finO fb dir)).perm (show _ = fsHp fb mb F * (pts w.heap.size (finO fb dir) * R) by ac_rfl)
  have R1 := Ran.new (Below.refl 0 w) (finO fb dir)
  obtain ⟨f0, f1⟩ := fin_cells (h.alloc (finO fb dir))
  by_cases h0 : path.size = 0
  · obtain rfl := ba_nil h0
    have HL := Lib.hid (List_calls fb mb N F hT hN dir hd _ _ S1)
    clear h S1 h0
    go_enter Tryz.func120, Tryz.ntmps120
    go_wp2_with fail
    refine HL.out.mono ?_
    rintro e w2 ⟨⟨p, cap, ks, er, rfl, hks, hks2, S2⟩, B2⟩
    have Hks := Lib.hid hks
    have Hks2 := Lib.hid hks2
    have S3 := Lib.hid (S2.perm (show _ = pts w.heap.size (finO fb dir) * (strA p cap ks * (fsHp fb mb F * R)) by ac_rfl)).right
    have R2 := Below.trans R1 (below_ran B2)
    clear hks hks2 S2 B2
    go_wp2_with fail
    go_ret
    exact ⟨⟨p, cap, ks, rfl, by unfold NamesS; rw [if_pos (show ByteArray.size ⟨#[]⟩ = 0 from rfl)]; exact Hks.out, Hks2.out, S3.out⟩, R2⟩
  · have e0 := ba_ne (show path ≠ ⟨#[]⟩ from fun e => h0 (by rw [e]; rfl))
    rw [show (ByteArray.toList ⟨#[]⟩) = ([] : List UInt8) by rw [ByteArray.toList_eq]] at e0
    have HW := Walk_calls fb mb F (hT.ok hN) hT.nums dir path true _ _ hd hp (hG.more (S := pts w.heap.size (finO fb dir))) S1
    have hwi := walk_i64 hT.nums hd path true
    obtain ⟨q, hq⟩ : ∃ q, q = WalkP F dir path true := ⟨_, rfl⟩
    rw [← hq] at HW hwi
    have HW := Lib.hid HW
    have Hq := Lib.hid hq
    have Hn := Lib.hid h0
    have HT := Lib.hid hT
    have Hwi := Lib.hid hwi
    obtain ⟨q1, q2⟩ := q
    clear h S1 hG hp hq h0 hT hwi
    by_cases hz : q2 = 0
    · subst hz
      go_enter Tryz.func120, Tryz.ntmps120
      go_wp2_with fail
      refine HW.out.mono ?_
      rintro e w2 ⟨⟨rfl, S2⟩, R2⟩
      obtain ⟨g0, g1⟩ := fin_cells (S2.perm (show _ = pts w.heap.size (finO fb dir) * (fsHp fb mb F * R) by ac_rfl))
      have R3 := Below.trans R1 R2
      have HL := Lib.hid (List_calls fb mb N F HT.out hN q1 Hwi.out _ _ S2)
      clear S2 R2 HW f0 f1
      go_wp2_with fail
      refine HL.out.mono ?_
      rintro e w3 ⟨⟨p, cap, ks, er, rfl, hks, hks2, S4⟩, B4⟩
      have Hks := Lib.hid hks
      have Hks2 := Lib.hid hks2
      have S5 := Lib.hid (S4.perm (show _ = pts w.heap.size (finO fb dir) * (strA p cap ks * (fsHp fb mb F * R)) by ac_rfl)).right
      have R4 := Below.trans R3 (below_ran B4)
      clear hks hks2 S4 B4
      go_wp2_with fail
      go_ret
      exact ⟨⟨p, cap, ks, rfl, by unfold NamesS; rw [if_neg Hn.out, ← Hq.out, if_neg (fun h => h rfl)]; exact Hks.out, Hks2.out, S5.out⟩, R4⟩
    · go_enter Tryz.func120, Tryz.ntmps120
      go_wp2_with fail
      refine HW.out.mono ?_
      rintro e w2 ⟨⟨rfl, S2⟩, R2⟩
      have R3 := Below.trans R1 R2
      have S3 := Lib.hid (S2.perm (show _ = pts w.heap.size (finO fb dir) * (fsHp fb mb F * R) by ac_rfl)).right
      clear S2 R2 HW
      have Hz := Lib.hid hz
      go_wp2_with fail
      go_ret
      exact ⟨⟨none, 0, [], rfl, by unfold NamesS; rw [if_neg Hn.out, ← Hq.out, if_pos Hz.out], Nat.zero_le _, S3.out.nil_arr _ _⟩, R3⟩
end Go.Proofs.YtndjgeohkfenfaaGreatDoor.Hd

namespace Go.Proofs.YtndjgeohkfenfaaGreatDoor
open Go.RowKit Go.Maps Go.Proofs.YtndjgeohkfenfaaGreatDoor.Hp
set_option linter.unusedVariables false

/-- All that lies around a part of memory, just as it is. -/
theorem Sat.part {w : World} {A R : Hp} (h : Sat w (A * R)) : ∃ (h1 : Nat → Option Obj) (T : Hp), A h1 ∧ (∀ k o, h1 k = some o → w.heap[k]? = some o) ∧ Sat w (A * T) ∧ (∀ W S', Sat W (S' * T) → Sat W (S' * R)) ∧
    (∀ W S', Sat W (S' * T) → ∀ k, k < w.heap.size → h1 k = none → W.heap[k]? = w.heap[k]?) := by
  obtain ⟨hh, hsub, h1, h2, hd, he, hA, hR⟩ := h
  obtain ⟨t, ht⟩ : ∃ t : Nat → Option Obj, t = fun k => if h1 k = none then w.heap[k]? else none := ⟨_, rfl⟩
  have ht1 : ∀ k, h1 k = none → t k = w.heap[k]? := fun k hk => by rw [ht]; exact if_pos hk
  have ht2 : ∀ k, h1 k ≠ none → t k = none := fun k hk => by rw [ht]; exact if_neg hk
  have hs1 : ∀ k o, h1 k = some o → w.heap[k]? = some o := fun k o hk => hsub k o (by rw [he, hk]; rfl)
  have hs2 : ∀ k o, h2 k = some o → t k = some o := fun k o hk => by
    have h0 : h1 k = none := by
      rcases hd k with e | e
      · exact e
      · rw [e] at hk; cases hk
    rw [ht1 k h0]
    exact hsub k o (by rw [he, h0, hk]; rfl)
  refine ⟨h1, fun x => ∀ k, x k = t k, hA, hs1, ?_, ?_, ?_⟩
  · refine ⟨fun k => (h1 k).or (t k), fun k o hk => ?_, h1, t, fun k => ?_, fun _ => rfl, hA, fun _ => rfl⟩
    · have hk : (h1 k).or (t k) = some o := hk
      cases e : h1 k with
      | none =>
        rw [e] at hk
        have hk : t k = some o := hk
        rw [ht1 k e] at hk; exact hk
      | some o' =>
        rw [e] at hk
        have hk : some o' = some o := hk
        injection hk with hk; subst hk
        exact hs1 k o' e
    · by_cases e : h1 k = none
      · exact .inl e
      · exact .inr (ht2 k e)
  · rintro W S' ⟨hx, hxs, s, t', hd', he', hS, hT⟩
    refine ⟨fun k => (s k).or (h2 k), fun k o hk => ?_, s, h2, fun k => ?_, fun _ => rfl, hS, hR⟩
    · have hk : (s k).or (h2 k) = some o := hk
      cases e : s k with
      | none =>
        rw [e] at hk
        have hk : h2 k = some o := hk
        exact hxs k o (by rw [he', e, hT, hs2 k o hk]; rfl)
      | some o' =>
        rw [e] at hk
        have hk : some o' = some o := hk
        injection hk with hk; subst hk
        exact hxs k o' (by rw [he', e]; rfl)
    · rcases hd' k with e | e
      · exact .inl e
      · refine .inr ?_
        cases e2 : h2 k with
        | none => rfl
        | some o => rw [hT, hs2 k o e2] at e; cases e
  · rintro W S' ⟨hx, hxs, s, t', hd', he', hS, hT⟩ k hk hn
    have h3 : t' k = w.heap[k]? := by rw [hT, ht1 k hn]
    rw [Array.getElem?_eq_getElem hk] at h3 ⊢
    have hsn : s k = none := by
      rcases hd' k with e | e
      · exact e
      · rw [e] at h3; cases h3
    exact hxs k _ (by rw [he', hsn, h3]; rfl)
/-- No byte stands in it. -/
def NoU8 (A : Hp) : Prop := ∀ h, A h → ∀ k o, h k = some o → ∀ (w : World) (i : Nat) (n : Int), w.heap[k]? = some o → w.cell? ⟨k, i, none⟩ ≠ some (.int .u8 n)
theorem NoU8.sep {A B : Hp} (hA : NoU8 A) (hB : NoU8 B) : NoU8 (A * B) := by
  rintro h ⟨h1, h2, hd, he, a, b⟩ k o hk w i n hw
  rw [he] at hk
  cases e : h1 k with
  | none => rw [e] at hk; exact hB h2 b k o hk w i n hw
  | some o' =>
    rw [e] at hk
    have hk : some o' = some o := hk
    injection hk with hk; subst hk
    exact hA h1 a k o' e w i n hw
theorem NoU8.emp : NoU8 emp := fun h he k o hk => by rw [he k] at hk; cases hk
theorem NoU8.fact (φ : Prop) : NoU8 (fact φ) := fun h he k o hk => by rw [he.2 k] at hk; cases hk
theorem NoU8.ex {α : Type} {P : α → Hp} (hP : ∀ x, NoU8 (P x)) : NoU8 (ex P) := by
  rintro h ⟨x, hx⟩ k o hk w i n hw
  exact hP x h hx k o hk w i n hw
theorem NoU8.all {α : Type} {P : α → Hp} (hP : ∀ x, NoU8 (P x)) : ∀ l : List α, NoU8 (all P l)
  | [] => NoU8.emp
  | x :: l => (hP x).sep (NoU8.all hP l)
theorem NoU8.cells {b : Nat} {cs : Array Value} {T : TypeId} {fz : Nat × Nat} (h : ∀ (i : Nat) (n : Int), cs[i]? ≠ some (.int .u8 n)) : NoU8 (pts b (.cells cs T fz)) := by
  intro hh hp k o hk w i n hw
  rw [hp k] at hk
  split at hk
  · injection hk with hk; subst hk
    rw [cell_at hw]
    exact h i n
  · cases hk
end Go.Proofs.YtndjgeohkfenfaaGreatDoor
namespace Go.Proofs.YtndjgeohkfenfaaGreatDoor.Hd
open Go.RowKit Go.Maps Go.Proofs.YtndjgeohkfenfaaGreatDoor Go.Proofs.YtndjgeohkfenfaaGreatDoor.Hp
set_option linter.unusedVariables false
theorem map_nou8 {w : World} {b : Nat} {es : Array _} {c : Nat} (h : w.heap[b]? = some (.map es c)) (i : Nat) (n : Int) : w.cell? ⟨b, i, none⟩ ≠ some (.int .u8 n) := by
  simp [World.cell?, h]
theorem mapD_nou8 (b n : Nat) (D : DataW Unit) : NoU8 (mapD b n D) := by
  rintro h ⟨o, h1, h2, hd, he, ⟨hf, hn⟩, hp⟩ k o' hk w i m hw
  rw [he, hn k] at hk
  have hk : h2 k = some o' := hk
  rw [hp k] at hk
  split at hk
  · rename_i e
    injection hk with hk; subst hk; subst e
    obtain ⟨es, clock, hb, -⟩ := hf w hw
    exact map_nou8 hb i m
  · cases hk
theorem smapD_nou8 (b n : Nat) (D : DataW Unit) : NoU8 (K.mapD b n D) := by
  rintro h ⟨o, h1, h2, hd, he, ⟨hf, hn⟩, hp⟩ k o' hk w i m hw
  rw [he, hn k] at hk
  have hk : h2 k = some o' := hk
  rw [hp k] at hk
  split at hk
  · rename_i e
    injection hk with hk; subst hk; subst e
    obtain ⟨es, clock, hb, -⟩ := hf w hw
    exact map_nou8 hb i m
  · cases hk
theorem kids_nou8 : ∀ k : Option Kd, NoU8 (kidsHp k)
  | none => NoU8.emp
  | some kd => NoU8.ex fun D => (NoU8.fact _).sep (smapD_nou8 _ _ D)
theorem nd_nou8 (x : Nd) : NoU8 (ndHp x) := by
  refine NoU8.sep (NoU8.cells fun i n => ?_) (kids_nou8 x.kids)
  rcases i with _ | _ | _ | _ | _ | _ | i <;> simp
  cases x.kids <;> simp [kv]
theorem fs_nou8 (fb mb : Nat) (F : Fs) : NoU8 (fsHp fb mb F) := by
  refine NoU8.sep (NoU8.cells fun i n => ?_) (NoU8.sep (NoU8.ex fun D => (NoU8.fact _).sep (mapD_nou8 _ _ D)) (show NoU8 (all (fun p : Int × Nd => ndHp p.2) F.L) from NoU8.all (P := fun p : Int × Nd => ndHp p.2) (fun p => nd_nou8 p.2) F.L))
  rcases i with _ | _ | _ | _ | i <;> simp
theorem Glob.conv {R T : Hp} (h : Glob R) (hc : ∀ W S', Sat W (S' * T) → Sat W (S' * R)) : Glob T := by
  obtain ⟨m, hm⟩ := h
  exact ⟨m, fun w S hS => hm w S (hc w S hS)⟩
end Go.Proofs.YtndjgeohkfenfaaGreatDoor.Hd
namespace Go.Proofs.YtndjgeohkfenfaaGreatDoor.Globs
open Go.RowKit Go.Proofs.YtndjgeohkfenfaaGreatDoor Go.Proofs.YtndjgeohkfenfaaGreatDoor.Hp
set_option linter.unusedVariables false
/-- A pattern stays where all blocks with bytes stay. -/
theorem items_stay {w W : World} {ao : Option Addr} {p : List Itm} (h : ItemsAt w ao p) (hk : ∀ k i n, w.cell? ⟨k, i, none⟩ = some (.int .u8 n) → W.heap[k]? = w.heap[k]?) : ItemsAt W ao p := by
  refine ⟨h.1, fun i hi => ?_⟩
  obtain ⟨b, o, ra, rc, e, hb, c0, c1, c2, c3, hr⟩ := h.2 i hi
  have hW := hk b _ _ c1
  have hc : ∀ j, W.cell? ⟨b, j, none⟩ = w.cell? ⟨b, j, none⟩ := fun j => World.cell?_of_block (w := w) hW
  refine ⟨b, o, ra, rc, e, World.block_lt_of_cell? W _ ((hc _).trans c0), (hc _).trans c0, (hc _).trans c1, (hc _).trans c2, (hc _).trans c3, hr.1, fun j hj => ?_⟩
  obtain ⟨b2, o2, e2, hb2, g0, g1⟩ := hr.2 j hj
  have hW2 := hk b2 _ _ g0
  have hc2 : ∀ j, W.cell? ⟨b2, j, none⟩ = w.cell? ⟨b2, j, none⟩ := fun j => World.cell?_of_block (w := w) hW2
  exact ⟨b2, o2, e2, World.block_lt_of_cell? W _ ((hc2 _).trans g0), (hc2 _).trans g0, (hc2 _).trans g1⟩
theorem itemL_rs (t : List Ch) (path : Bool) : (itemL t path).1.rs.length ≤ 4 * (t.length + 1) := by
  unfold itemL
  split
  · simp
  split
  · simp
  split
  · simp
  split
  · simp
  split
  · unfold groupL
    cases hg : groupR (t.drop 1) path with
    | none => simp
    | some x =>
      unfold groupR at hg
      have h2 := groupF_rs hg
      rw [List.length_drop, List.length_nil] at h2
      simp only [Option.map_some]
      omega
  · simp
theorem addI_bd {out : List Itm} {x : Itm} {B : Nat} (h : ∀ y ∈ out, y.rs.length ≤ B) (hx : x.rs.length ≤ B) : (addI out x).length ≤ out.length + 1 ∧ ∀ y ∈ addI out x, y.rs.length ≤ B := by
  unfold addI
  split
  · exact ⟨by omega, h⟩
  · refine ⟨by simp, fun y hy => ?_⟩
    rcases List.mem_append.1 hy with hy | hy
    · exact h y hy
    · simp only [List.mem_singleton] at hy; subst hy; exact hx
theorem compF_bd {path : Bool} {f : Nat} {t : List Ch} {out : List Itm} {B : Nat} (h : ∀ y ∈ out, y.rs.length ≤ B) (hB : 4 * (t.length + 1) ≤ B) : (compF path f t out).length ≤ out.length + f ∧ ∀ y ∈ compF path f t out, y.rs.length ≤ B := by
  induction f generalizing t out with
  | zero => exact ⟨Nat.le_refl _, h⟩
  | succ f ih =>
    unfold compF
    split
    · exact ⟨by omega, h⟩
    · have h1 := addI_bd h (show (itemL t path).1.rs.length ≤ B by have := itemL_rs t path; omega)
      have h2 := ih (t := t.drop (itemL t path).2) h1.2 (by rw [List.length_drop]; omega)
      exact ⟨by omega, h2.2⟩
theorem compileL_bd (t : List Ch) (path : Bool) : (compileL t path).length ≤ t.length ∧ ∀ y ∈ compileL t path, y.rs.length ≤ 4 * (t.length + 1) := by
  have := compF_bd (path := path) (f := t.length) (t := t) (out := []) (B := 4 * (t.length + 1)) (by simp) (Nat.le_refl _)
  exact ⟨by rw [List.length_nil, Nat.zero_add] at this; exact this.1, this.2⟩
abbrev slashB : ByteArray := ⟨#[47]⟩
/-- The names that come of a part. -/
def pickO (nm : ByteArray → List ByteArray) (path : ByteArray) (p : List Ch) : List ByteArray :=
  if spP p = true then (nm path).filter (fun s => pathB (compileL p true) (bs s)) else [⟨((compileL p true).map (·.b)).toArray⟩]
/-- What comes of parts, behind a path. -/
def walkO (nm : ByteArray → List ByteArray) (ok : ByteArray → Bool) (fin : ByteArray) : ByteArray → List (List Ch) → List ByteArray
  | _, [] => []
  | path, [p] => (pickO nm path p).flatMap fun name => if ok (path ++ name ++ fin) = true then [path ++ name ++ fin] else []
  | path, p :: q :: rest => (pickO nm path p).flatMap fun name => walkO nm ok fin (path ++ name ++ slashB) (q :: rest)
end Go.Proofs.YtndjgeohkfenfaaGreatDoor.Globs

namespace Go.Proofs.YtndjgeohkfenfaaGreatDoor.Globs
open Go.RowKit Go.Proofs.YtndjgeohkfenfaaGreatDoor Go.Proofs.YtndjgeohkfenfaaGreatDoor.Hp
open Go.Proofs.YtndjgeohkfenfaaGreatDoor.Hd (fsHp Fs TreeG Glob WalkP NamesS pp finV finO fin_cells strA rightB FsOk NumsOk)
set_option linter.unusedVariables false
attribute [local go_sem] Oper.semAt_some

theorem infoRows : (Tryz.prog.info? 22).map (fun i => (i.zero, i.size, i.bytes)) = some (some (.slice none 0 0), 1, 24) := by kernel_rfl
theorem slice_fromR (ao : Option Addr) (len cap n : Nat) (hn : n ≤ len) (w : World) :
    (Instr.slice 24 (.slice ao len cap) (some (.int .i64 (n : Int))) none none).run Tryz.prog w = .ok (.slice (tailA ao n cap 1) (len - n) (cap - n)) w := by
  obtain ⟨i0, hi0, hz0, hz1, hz2⟩ := info_parts infoRows
  exact run_slice_from 24 22 i0 1 Tryz.underlying24 hi0 hz1 ao len cap n hn w
/-- Rows that can be read wherever R is true. -/
def RdR (R : Hp) (lo : Option Addr) (rs : List Rw) : Prop := ∀ W S', Sat W (S' * R) → RowsAt W lo rs
theorem rows_tail {w : World} {lo : Option Addr} {lc : Nat} {r : Rw} {rs : List Rw} (hlc : rs.length + 1 ≤ lc) (h : RowsAt w lo (r :: rs)) : RowsAt w (tailA lo 1 lc 1) rs := fun i hi => by
  obtain ⟨b, o, e, hc, hr⟩ := h (i + 1) (by simpa using hi)
  subst e
  refine ⟨b, o + 1, ?_, ?_, hr⟩
  · unfold tailA
    rw [if_neg (by omega)]
    show some (Addr.add _ _) = _
    rw [Addr.add_lit]
  · rw [show o + 1 + i = o + (i + 1) by omega]
    exact hc
theorem names_kept (fb mb N : Nat) (F : Fs) (hT : TreeG N F) (hN : N ≤ 1000000) (dir : Int) (hd : Hd.I64 dir) (path : ByteArray) (hp : path.size ≤ 1000000) (w : World) (R : Hp) (hG : Glob R) (p : List Itm) (pb : Nat) (ao : Option Addr) (cp : Nat) (hpb : ∀ W S', Sat W (S' * R) → W.cell? ⟨pb, 0, none⟩ = some (.slice ao p.length cp)) (hI : ItemsAt w ao p) (h : Sat w (fsHp fb mb F * R)) :
    ∃ T : Hp, (∀ W S', Sat W (S' * T) → Sat W (S' * R)) ∧ RdP (fsHp fb mb F * T) pb ao cp p ∧
      Calls Tryz.prog 120 #[finV fb dir, .string path] w fun e w' => Hd.NamesPost N fb mb F dir path T e w' ∧ Ran w w' := by
  obtain ⟨h1, T, hA, hs, hST, hconv, hkeep⟩ := Sat.part h
  refine ⟨T, hconv, fun W S' hS => ?_, Hd.names_calls fb mb N F hT hN dir hd path hp w T (hG.conv hconv) hST⟩
  have hS2 := hS.perm (show _ = (fsHp fb mb F * S') * T by ac_rfl)
  refine ⟨hpb W _ (hconv W _ hS2), items_stay hI fun k i n hc => hkeep W _ hS2 k (World.block_lt_of_cell? w _ hc) ?_⟩
  cases e : h1 k with
  | none => rfl
  | some o => exact absurd hc (Hd.fs_nou8 fb mb F h1 hA k o e w i n (hs k o e))
end Go.Proofs.YtndjgeohkfenfaaGreatDoor.Globs

