/- few; pairs of keys and values; Keys of things; now walked. -/
import Derived.Test.YtibgpkcklneloaaUnQ
namespace Go.Proofs.Ytibgpkcklneloaa.Undo
open Go.RowKit Go.Proofs.Ytibgpkcklneloaa Go.Proofs.Ytibgpkcklneloaa.Hp
set_option linter.unusedVariables false
attribute [local go_sem] Oper.semAt_some

/-- Calls are not too many, nor too great. -/
def Few (l : List Opr) : Prop := l.length ≤ 60 ∧ ∀ o ∈ l, o.k.size ≤ 100
set_option maxHeartbeats 1000000 in
theorem few_yes (w : World) (ao : Option Addr) (cap : Nat) (l : List Opr) (h : OpsAt w ao l) (hf : Few l) :
    Calls Try.prog 14 #[.slice ao l.length cap] w fun e w' => e = .returned (.bool true) ∧ w = w' := by
  obtain ⟨hn, ha⟩ := hf
  have hn1 : (l.length : Int) ≤ 60 := by omega
  go_enter Try.func14, Try.ntmps14
  go_wp2_with fail
  go_loopg [3] (l.length) (fun k iv wr => ∃ i : Nat, i + k = l.length ∧ iv = .int .i64 (i : Int) ∧ wr = w)
  case atStart => exact ⟨0, by omega, rfl, rfl⟩
  case round =>
    obtain ⟨i, hik, rfl, rfl⟩ := hrel
    by_cases hi : i < l.length
    · obtain ⟨_, b, o, rfl, hb, h0, h1, h2⟩ := h i hi
      have hd := ha l[i] (List.getElem_mem hi)
      have hd1 : (l[i].k.size : Int) ≤ 100 := by omega
      have hlt : (i : Int) < l.length := by omega
      have hi0 : (0 : Int) ≤ i := by omega
      generalize l[i].k = d at *
      have Hik := Lib.hid hik
      clear hik h h0 h2 ha
      go_wp2_with fail
      go_roundg (gk - 1)
      case measure => have := Hik.out; omega
      case rel => exact ⟨i + 1, by have := Hik.out; omega, rfl, rfl⟩
    · have hge : ¬ ((i : Int) < l.length) := by omega
      clear hik h ha
      go_wp2
      go_ret
      exact ⟨rfl, rfl⟩
set_option maxHeartbeats 1000000 in
theorem few_no (w : World) (ao : Option Addr) (cap : Nat) (l : List Opr) (h : OpsAt w ao l) (hf : ¬ Few l) :
    Calls Try.prog 14 #[.slice ao l.length cap] w fun e w' => e = .returned (.bool false) ∧ w = w' := by
  by_cases hn : l.length ≤ 60
  · have hn1 : (l.length : Int) ≤ 60 := by omega
    have hex : ∃ j, ∃ hj : j < l.length, 100 < l[j].k.size := by
      rcases Classical.em (∃ j, ∃ hj : j < l.length, 100 < l[j].k.size) with h1 | h1
      · exact h1
      · exfalso; refine hf ⟨hn, fun o ho => ?_⟩
        obtain ⟨j, hj, rfl⟩ := List.mem_iff_getElem.1 ho
        rcases Nat.lt_or_ge 100 l[j].k.size with h2 | h2
        · exact absurd ⟨j, hj, h2⟩ h1
        · exact h2
    obtain ⟨j, hj, hjd⟩ := hex
    clear hf
    go_enter Try.func14, Try.ntmps14
    go_wp2_with fail
    go_loopg [3] (j + 1) (fun k iv wr => ∃ i : Nat, i + k = j + 1 ∧ 0 < k ∧ iv = .int .i64 (i : Int) ∧ wr = w)
    case atStart => exact ⟨0, by omega, by omega, rfl, rfl⟩
    case round =>
      obtain ⟨i, hik, hk0, rfl, rfl⟩ := hrel
      have hi : i < l.length := by omega
      have hlt : (i : Int) < l.length := by omega
      have hi0 : (0 : Int) ≤ i := by omega
      by_cases hd : l[i].k.size ≤ 100
      · have hij : i ≠ j := by rintro rfl; omega
        obtain ⟨_, b, o, rfl, hb, h0, h1, h2⟩ := h i hi
        have hd1 : (l[i].k.size : Int) ≤ 100 := by omega
        generalize l[i].k = d at *
        have Hik := Lib.hid hik
        clear hik h h0 h2
        go_wp2_with fail
        go_roundg (gk - 1)
        case measure => omega
        case rel => exact ⟨i + 1, by have := Hik.out; omega, by have := Hik.out; omega, rfl, rfl⟩
      · obtain ⟨ok, b, o, rfl, hb, h0, h1, h2⟩ := h i hi
        have hd2 := ok.2.1
        have hd1 : (100 : Int) < (l[i].k.size : Int) := by omega
        clear ok
        generalize l[i].k = d at *
        unfold maxLen at hd2
        have hd3 : (d.size : Int) ≤ 9223372036854775807 := by omega
        clear hik h h0 h2
        go_wp2
        go_ret
        exact ⟨rfl, rfl⟩
  · have hn1 : (60 : Int) < l.length := by omega
    clear h hf
    go_enter Try.func14, Try.ntmps14
    go_wp2
    go_ret
    exact ⟨rfl, rfl⟩
/-- Pairs of a map. -/
abbrev Pr := ByteArray × Int
def prCells (l : List Pr) : List Value := l.flatMap fun c => [.string c.1, .int .i64 c.2]
theorem prCells_length (l : List Pr) : (prCells l).length = l.length * 2 := by
  unfold prCells
  induction l with
  | nil => rfl
  | cons c l ih => simp only [List.flatMap_cons, List.length_append, List.length_cons, List.length_nil, ih]; omega
theorem prCells_append (l m : List Pr) : prCells (l ++ m) = prCells l ++ prCells m := List.flatMap_append
theorem prCells_get (l : List Pr) (i : Nat) (h : i < l.length) : (prCells l)[i * 2]? = some (.string l[i].1) ∧ (prCells l)[i * 2 + 1]? = some (.int .i64 l[i].2) := by
  induction l generalizing i with
  | nil => simp at h
  | cons c l ih =>
    cases i with
    | zero => exact ⟨rfl, rfl⟩
    | succ i =>
      obtain ⟨h1, h2⟩ := ih i (by simpa using h)
      refine ⟨?_, ?_⟩
      · rw [show (i + 1) * 2 = i * 2 + 2 by omega]; exact h1
      · rw [show (i + 1) * 2 + 1 = i * 2 + 1 + 2 by omega]; exact h2
def PairsOf (M : ByteArray → Option Int) (L : List Pr) : Prop := KeysOf M (L.map Prod.fst) ∧ ∀ x ∈ L, M x.1 = some x.2
def pairs (M : ByteArray → Option Int) (ks : List ByteArray) : List Pr := ks.map fun k => (k, (M k).getD 0)
theorem pairs_of {M : ByteArray → Option Int} {ks : List ByteArray} (h : KeysOf M ks) : PairsOf M (pairs M ks) := by
  have e : (pairs M ks).map Prod.fst = ks := by unfold pairs; rw [List.map_map]; exact (List.map_congr_left fun _ _ => rfl).trans (List.map_id ks)
  refine ⟨by rw [e]; exact h, fun x hx => ?_⟩
  obtain ⟨k, hk, rfl⟩ := List.mem_map.1 hx
  have := (h.2 k).1 hk
  show M k = some ((M k).getD 0)
  cases hm : M k with
  | none => rw [hm] at this; cases this
  | some v => rfl
/-- A map has one list of keys. -/
theorem keys_unique {M : ByteArray → Option Int} {a b : List ByteArray} (ha : KeysOf M a) (hb : KeysOf M b) : a = b := by
  have irr : ∀ {x y : ByteArray}, x.data.toList < y.data.toList → x ≠ y := fun h e => by subst e; exact List.lt_irrefl _ h
  have na : a.Nodup := ha.1.imp irr
  have nb : b.Nodup := hb.1.imp irr
  have hp : a.Perm b := (List.perm_ext_iff_of_nodup na nb).2 fun s => (ha.2 s).trans (hb.2 s).symm
  have pa : List.Pairwise (fun x y : ByteArray => x.data.toList < y.data.toList) a := ha.1
  have pb : List.Pairwise (fun x y : ByteArray => x.data.toList < y.data.toList) b := hb.1
  have asy : ∀ x y : ByteArray, x ∈ a → y ∈ b → x.data.toList < y.data.toList → y.data.toList < x.data.toList → x = y := fun x y _ _ h1 h2 => absurd (List.lt_trans h1 h2) (List.lt_irrefl _)
  exact List.Perm.eq_of_pairwise asy pa pb hp
theorem pairs_unique {M : ByteArray → Option Int} {a b : List Pr} (ha : PairsOf M a) (hb : PairsOf M b) : a = b := by
  have e := keys_unique ha.1 hb.1
  have hv : ∀ L : List Pr, (∀ x ∈ L, M x.1 = some x.2) → L = pairs M (L.map Prod.fst) := fun L h => by
    unfold pairs
    rw [List.map_map]
    refine (List.map_id L).symm.trans (List.map_congr_left fun x hx => ?_)
    show x = (x.1, (M x.1).getD 0)
    rw [h x hx]; rfl
  rw [hv a ha.2, hv b hb.2, e]
/-- Keys of things. -/
def TKeys (lb mb cb : Nat) (most nest : Int) (m : Mach) (N : Nat) (R : Hp) (e : Ending) (w' : World) : Prop :=
  ∃ p cap ks, e = .returned (.slice p (List.length ks) cap) ∧ KeysOf m.s.M ks ∧ ThingsM w' lb mb cb most nest m N (arr 9 1 p ks.length cap (ks.map sv) * R)
theorem keys_things (lb mb cb : Nat) (most nest : Int) (m : Mach) (N : Nat) (w : World) (R : Hp) (hN : N ≤ 1000000) (h : ThingsM w lb mb cb most nest m N R) :
    Calls Try.prog 30 #[.pointer (some ⟨mb, 0, none⟩)] w fun e w' => TKeys lb mb cb most nest m N R e w' ∧ Ran w w' := by
  obtain ⟨rs, B, h0, h1, h2, h3, np, nc, qp, qc, HS⟩ := h
  refine (keys_calls mb (some ⟨lb, 0, none⟩) B m.s.M w _ (by omega) (pull4 HS)).mono ?_
  rintro e w' ⟨⟨p, cap, ks, rfl, hk, HA⟩, hb⟩
  refine ⟨⟨p, cap, ks, rfl, hk, rs, B, h0, h1, h2, h3, np, nc, qp, qc, ?_⟩, hb.mono (Nat.zero_le _)⟩
  refine HA.perm ?_
  unfold CellAt
  ac_rfl
theorem infoPr : (Try.prog.info? 84).map (fun i => (i.zero, i.size, i.bytes)) = some (some (.agg #[.string ⟨#[]⟩, .int .i64 0]), 2, 24) := by kernel_rfl
theorem stepPr {w : World} {H : Hp} {ops : Array Oper} {o : Oper} {a : Act} {K : Act → World → Prop} {Q : Exit → Act → World → Prop} {E : Prop} (hgd : o.guard = none) (s x : Operand)
    (ho : o.op = .call { callee := .builtin .append, args := #[s, x], argTypes := #[49, 49] })
    (p : Option Addr) (n cap : Nat) (xs : List Value) (hp : a.eval s = .slice p n cap) (b : Nat) (hvx : a.eval x = .slice (some ⟨b, 0, none⟩) 1 1) (h : Sat w (arr 84 2 p n cap xs * H)) (v0 v1 : Value) (hb : w.heap[b]? = some (.cells #[v0, v1] 84 (0, 0))) (h0 : v0.oneCell' = true) (h1 : v1.oneCell' = true) (hn : n ≤ 1000000000)
    (hk : ∀ p' cap' w', Sat w' (arr 84 2 p' (n + 1) cap' (xs ++ [v0, v1]) * H) → Ran w w' → K (a.put o.dst (.slice p' (n + 1) cap')) w') :
    if Region.wanted o (yielded ops a.tmps) = true then Oper.wp Try.prog o a w K Q else E := by
  obtain ⟨i0, hi, hz0, hz1, hz2⟩ := info_parts infoPr
  rw [if_pos (by simp [Region.wanted, hgd])]
  refine wp_append_arr s x _ _ ho 84 i0 _ 2 24 Try.underlying49 hi hz0 hz1 hz2 rfl p n cap xs hp h _ hvx 1 [v0, v1] (Src.ofSlice w Try.underlying49 ⟨b, 0, none⟩ 1 1 [v0, v1] (by rw [hz1]; rfl) ?_ (by simp [h0, h1])) (by omega) (by unfold maxLen; omega) (fun p' cap' w' h1 h2 _ => hk p' cap' w' h1 h2)
  intro j u hj
  rw [Addr.add_lit, Nat.zero_add, cell_at hb, ← hj]
  simp
end Go.Proofs.Ytibgpkcklneloaa.Undo
