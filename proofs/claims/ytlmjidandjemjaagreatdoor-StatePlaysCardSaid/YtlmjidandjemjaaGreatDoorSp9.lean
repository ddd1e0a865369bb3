/- HandlesPlays, part 9 of 29: the texts SvA SvB SvC SvD, joined by a program. -/
import Derived.Test.YtlmjidandjemjaaGreatDoorSp6
import Derived.Test.YtlmjidandjemjaaGreatDoorSp8
namespace Go.Proofs.YtlmjidandjemjaaGreatDoor.State
open Go.RowKit Go.Proofs.YtlmjidandjemjaaGreatDoor Go.Proofs.YtlmjidandjemjaaGreatDoor.Hp Go.Proofs.YtlmjidandjemjaaGreatDoor.Undo
set_option linter.unusedVariables false
attribute [local go_sem] Oper.semAt_some

section
variable {α : Type} {f : α → List Value} {K : Nat}
theorem flatS_len (hK : ∀ x, (f x).length = K) : ∀ l : List α, (l.flatMap f).length = l.length * K
  | [] => by simp
  | x :: l => by rw [List.flatMap_cons, List.length_append, hK, flatS_len hK l, List.length_cons, Nat.add_mul]; omega
theorem flatS_get (hK : ∀ x, (f x).length = K) : ∀ (l : List α) (i j : Nat) (hi : i < l.length), j < K → (l.flatMap f)[i * K + j]? = (f l[i])[j]?
  | [], i, j, hi, _ => by simp at hi
  | x :: l, 0, j, _, hj => by rw [List.flatMap_cons, Nat.zero_mul, Nat.zero_add, List.getElem?_append_left (by rw [hK]; exact hj)]; rfl
  | x :: l, i + 1, j, hi, hj => by
    rw [List.flatMap_cons, List.getElem?_append_right (by rw [hK, Nat.add_mul]; omega), hK, show (i + 1) * K + j - K = i * K + j by rw [Nat.add_mul]; omega]
    exact flatS_get hK l i j (by simpa using hi) hj
theorem flatS_snoc (l : List α) (y : α) : (l ++ [y]).flatMap f = l.flatMap f ++ f y := by rw [List.flatMap_append]; simp
/-- A list of records that may be read wherever the frame is true. -/
structure RdR (f : α → List Value) (K : Nat) (R : Hp) (p : Option Addr) (cap : Nat) (L : List α) : Prop where
  len : L.length ≤ cap
  top : cap ≤ maxLen
  cells : ∀ (w : World) (S : Hp), Sat w (S * R) → ∀ i (hi : i < L.length), ∃ b o, p = some ⟨b, o, none⟩ ∧ ∀ j, j < K → w.cell? ⟨b, o + i * K + j, none⟩ = (f L[i])[j]?
theorem RdR.more {R S : Hp} {p : Option Addr} {cap : Nat} {L : List α} (h : RdR f K R p cap L) : RdR f K (S * R) p cap L :=
  ⟨h.len, h.top, fun w S' hS => h.cells w (S' * S) (hS.perm (by ac_rfl))⟩
theorem RdR.nil {R : Hp} : RdR f K R none 0 ([] : List α) := ⟨Nat.le_refl _, Nat.zero_le _, fun w S _ i hi => absurd hi (Nat.not_lt_zero _)⟩
theorem RdR.of_arr2 (hK : ∀ x, (f x).length = K) (hK0 : 0 < K) {R A : Hp} {E : Nat} {p : Option Addr} {cap : Nat} {L : List α} {w : World} (h : Sat w (arr E K p L.length cap (L.flatMap f) * R)) : RdR f K (arr E K p L.length cap (L.flatMap f) * A) p cap L := by
  have hl := h.arr_len
  refine ⟨hl.2.1, hl.2.2, fun w' S hS i hi => ?_⟩
  have h2 := hS.perm (show _ = arr E K p L.length cap (L.flatMap f) * (S * A) by ac_rfl)
  obtain ⟨b, o, hb⟩ := h2.arr_addr (by omega)
  refine ⟨b, o, hb, fun j hj => ?_⟩
  rw [hb] at h2
  have hlt : i * K + j < (L.flatMap f).length := by
    rw [flatS_len hK]
    have : (i + 1) * K ≤ L.length * K := Nat.mul_le_mul_right K hi
    rw [Nat.add_mul] at this; omega
  rw [Nat.add_assoc, h2.arr_cell _ hlt, ← flatS_get hK L i j hi hj, List.getElem?_eq_getElem hlt]
theorem RdR.of_arr (hK : ∀ x, (f x).length = K) (hK0 : 0 < K) {R : Hp} {E : Nat} {p : Option Addr} {cap : Nat} {L : List α} {w : World} (h : Sat w (arr E K p L.length cap (L.flatMap f) * R)) : RdR f K (arr E K p L.length cap (L.flatMap f) * R) p cap L := by
  have hl := h.arr_len
  refine ⟨hl.2.1, hl.2.2, fun w' S hS i hi => ?_⟩
  have h2 := hS.perm (show _ = arr E K p L.length cap (L.flatMap f) * (S * R) by ac_rfl)
  obtain ⟨b, o, hb⟩ := h2.arr_addr (by omega)
  refine ⟨b, o, hb, fun j hj => ?_⟩
  rw [hb] at h2
  have hlt : i * K + j < (L.flatMap f).length := by
    rw [flatS_len hK]
    have : (i + 1) * K ≤ L.length * K := Nat.mul_le_mul_right K hi
    rw [Nat.add_mul] at this; omega
  rw [Nat.add_assoc, h2.arr_cell _ hlt, ← flatS_get hK L i j hi hj, List.getElem?_eq_getElem hlt]
end
def vrC (x : Pa VM.T) : List Value := [.string x.1, .string x.2.val, .bool x.2.set, .bool x.2.exp, .bool x.2.fix]
def prC (x : Pa ByteArray) : List Value := [.string x.1, .string x.2]
def fnC (x : Pa NM.T) : List Value := [.string x.1, .int .i64 x.2.kind, .bool false, .string x.2.name, .bool false, .slice none 0 0, .slice none 0 0, .slice none 0 0, .slice none 0 0, .slice none 0 0]
def gC (x : ByteArray) : List Value := [.string x]
theorem vrC_len (x : Pa VM.T) : (vrC x).length = 5 := rfl
theorem prC_len (x : Pa ByteArray) : (prC x).length = 2 := rfl
theorem fnC_len (x : Pa NM.T) : (fnC x).length = 10 := rfl
theorem gC_len (x : ByteArray) : (gC x).length = 1 := rfl
/-- The document's state. -/
structure Sr where
  vp : Option Addr
  vc : Nat
  V : List (Pa VM.T)
  fp : Option Addr
  fc : Nat
  F : List (Pa NM.T)
  ap : Option Addr
  ac : Nat
  A : List (Pa ByteArray)
  tp : Option Addr
  tc : Nat
  T : List (Pa ByteArray)
  o : ByteArray
  gp : Option Addr
  gc : Nat
  G : List ByteArray
  at_ : Int
  in_ : Int
  q : Int
abbrev srO (s : Sr) : Obj := .cells #[.slice s.vp s.V.length s.vc, .slice s.fp s.F.length s.fc, .slice s.ap s.A.length s.ac, .slice s.tp s.T.length s.tc, .string s.o, .slice s.gp s.G.length s.gc, .int .i64 s.at_, .int .i64 s.in_, .int .i64 s.q] 122 (0, 0)
theorem sr_cells {w : World} {b : Nat} {s : Sr} {S : Hp} (h : Sat w (pts b (srO s) * S)) : w.cell? ⟨b, 0, none⟩ = some (.slice s.vp s.V.length s.vc) ∧ w.cell? ⟨b, 1, none⟩ = some (.slice s.fp s.F.length s.fc) ∧ w.cell? ⟨b, 2, none⟩ = some (.slice s.ap s.A.length s.ac) ∧ w.cell? ⟨b, 3, none⟩ = some (.slice s.tp s.T.length s.tc) ∧
    w.cell? ⟨b, 4, none⟩ = some (.string s.o) ∧ w.cell? ⟨b, 5, none⟩ = some (.slice s.gp s.G.length s.gc) ∧ w.cell? ⟨b, 6, none⟩ = some (.int .i64 s.at_) ∧ w.cell? ⟨b, 7, none⟩ = some (.int .i64 s.in_) ∧ w.cell? ⟨b, 8, none⟩ = some (.int .i64 s.q) := by
  have hb := h.get
  refine ⟨?_, ?_, ?_, ?_, ?_, ?_, ?_, ?_, ?_⟩ <;> rw [cell_at hb] <;> rfl
/-- What may be read of it. -/
structure SrOk (R : Hp) (s : Sr) : Prop where
  V : RdR vrC 5 R s.vp s.vc s.V
  F : RdR fnC 10 R s.fp s.fc s.F
  A : RdR prC 2 R s.ap s.ac s.A
  T : RdR prC 2 R s.tp s.tc s.T
  G : RdR gC 1 R s.gp s.gc s.G
theorem SrOk.more {R S : Hp} {s : Sr} (h : SrOk R s) : SrOk (S * R) s := ⟨h.V.more, h.F.more, h.A.more, h.T.more, h.G.more⟩
/-- It is what a state knows. -/
structure SrIs (s : Pst) (q : Int) (r : Sr) : Prop where
  V : PairsA s.V r.V
  F : BagOf s.F r.F
  A : PairsA s.A r.A
  T : PairsA s.T r.T
  o : r.o = s.o
  G : r.G = s.l
  at_ : r.at_ = s.here
  in_ : r.in_ = s.within
  q : r.q = q
  vo : ∀ k v, s.V k = some v → (v.set = false → v.val = ⟨#[]⟩) ∧ (v.set || v.exp || v.fix) = true
end Go.Proofs.YtlmjidandjemjaaGreatDoor.State

namespace Go.Proofs.YtlmjidandjemjaaGreatDoor.State
open Go.RowKit Go.Proofs.YtlmjidandjemjaaGreatDoor Go.Proofs.YtlmjidandjemjaaGreatDoor.Hp Go.Proofs.YtlmjidandjemjaaGreatDoor.Undo
set_option linter.unusedVariables false
attribute [local go_sem] Oper.semAt_some

theorem infoVr : (Tryz.prog.info? 125).map (fun i => (i.zero, i.size, i.bytes)) = some (some (.agg #[.string ⟨#[]⟩, .string ⟨#[]⟩, .bool false, .bool false, .bool false]), 5, 40) := by kernel_rfl
abbrev vrO (x : Pa VM.T) : Obj := .cells #[.string x.1, .string x.2.val, .bool x.2.set, .bool x.2.exp, .bool x.2.fix] 125 (0, 0)
abbrev vrA (p : Option Addr) (cap : Nat) (L : List (Pa VM.T)) : Hp := arr 125 5 p L.length cap (L.flatMap vrC)
theorem vrC_one (y : Pa VM.T) : ∀ u ∈ vrC y, u.oneCell' = true := fun u hu => by
  simp only [vrC, List.mem_cons, List.not_mem_nil, or_false] at hu
  rcases hu with rfl | rfl | rfl | rfl | rfl <;> rfl
/-- A record is appended. -/
theorem appVr {w : World} {H : Hp} {ops : Array Oper} {rest : List Oper} {o : Oper} {a : Act} {Q : Exit → Act → World → Prop} (hgd : o.guard = none) (s x : Operand)
    (ho : o.op = .call { callee := .builtin .append, args := #[s, x], argTypes := #[118, 118] })
    (p : Option Addr) (n cap : Nat) (l : List (Pa VM.T)) (y : Pa VM.T) (hn : l.length = n) (hp : a.eval s = .slice p n cap) (xb : Nat) (hvx : a.eval x = .slice (some ⟨xb, 0, none⟩) 1 1) (hx : w.heap[xb]? = some (vrO y)) (h : Sat w (vrA p cap l * H)) (hl : n ≤ 1000000)
    (hk : ∀ p' cap' w', Sat w' (vrA p' cap' (l ++ [y]) * H) → Ran w w' → wpList Tryz.prog ops Q rest (a.put o.dst (.slice p' (n + 1) cap')) w') : wpList Tryz.prog ops Q (o :: rest) a w := by
  subst hn
  obtain ⟨i0, hi, hz0, hz1, hz2⟩ := info_parts infoVr
  refine wpList_append_arr hgd s x _ _ ho 125 i0 _ 5 40 Tryz.underlying118 hi hz0 hz1 hz2 rfl p l.length cap _ hp h _ hvx 1 (vrC y) (Src.ofSlice _ Tryz.underlying118 ⟨xb, 0, none⟩ 1 1 (vrC y) (by rw [hz1]; rfl) (fun j u hj => ?_) (vrC_one y)) (by omega) (by unfold maxLen; omega) fun p' cap' w' h1 h2 _ => ?_
  · rw [Addr.add_lit, Nat.zero_add, cell_at hx]
    have : (vrC y).toArray[j]? = (vrC y)[j]? := by simp
    rw [← hj]
    exact this
  · refine hk p' cap' w' ?_ h2
    show Sat w' (arr 125 5 p' (l ++ [y]).length cap' ((l ++ [y]).flatMap vrC) * H)
    rw [flatS_snoc, List.length_append]
    exact h1
theorem infoPr : (Tryz.prog.info? 127).map (fun i => (i.zero, i.size, i.bytes)) = some (some (.agg #[.string ⟨#[]⟩, .string ⟨#[]⟩]), 2, 32) := by kernel_rfl
abbrev prO (x : Pa ByteArray) : Obj := .cells #[.string x.1, .string x.2] 127 (0, 0)
abbrev prA (p : Option Addr) (cap : Nat) (L : List (Pa ByteArray)) : Hp := arr 127 2 p L.length cap (L.flatMap prC)
theorem prC_one (y : Pa ByteArray) : ∀ u ∈ prC y, u.oneCell' = true := fun u hu => by
  simp only [prC, List.mem_cons, List.not_mem_nil, or_false] at hu
  rcases hu with rfl | rfl <;> rfl
/-- A record is appended. -/
theorem appPr {w : World} {H : Hp} {ops : Array Oper} {rest : List Oper} {o : Oper} {a : Act} {Q : Exit → Act → World → Prop} (hgd : o.guard = none) (s x : Operand)
    (ho : o.op = .call { callee := .builtin .append, args := #[s, x], argTypes := #[120, 120] })
    (p : Option Addr) (n cap : Nat) (l : List (Pa ByteArray)) (y : Pa ByteArray) (hn : l.length = n) (hp : a.eval s = .slice p n cap) (xb : Nat) (hvx : a.eval x = .slice (some ⟨xb, 0, none⟩) 1 1) (hx : w.heap[xb]? = some (prO y)) (h : Sat w (prA p cap l * H)) (hl : n ≤ 1000000)
    (hk : ∀ p' cap' w', Sat w' (prA p' cap' (l ++ [y]) * H) → Ran w w' → wpList Tryz.prog ops Q rest (a.put o.dst (.slice p' (n + 1) cap')) w') : wpList Tryz.prog ops Q (o :: rest) a w := by
  subst hn
  obtain ⟨i0, hi, hz0, hz1, hz2⟩ := info_parts infoPr
  refine wpList_append_arr hgd s x _ _ ho 127 i0 _ 2 32 Tryz.underlying120 hi hz0 hz1 hz2 rfl p l.length cap _ hp h _ hvx 1 (prC y) (Src.ofSlice _ Tryz.underlying120 ⟨xb, 0, none⟩ 1 1 (prC y) (by rw [hz1]; rfl) (fun j u hj => ?_) (prC_one y)) (by omega) (by unfold maxLen; omega) fun p' cap' w' h1 h2 _ => ?_
  · rw [Addr.add_lit, Nat.zero_add, cell_at hx]
    have : (prC y).toArray[j]? = (prC y)[j]? := by simp
    rw [← hj]
    exact this
  · refine hk p' cap' w' ?_ h2
    show Sat w' (arr 127 2 p' (l ++ [y]).length cap' ((l ++ [y]).flatMap prC) * H)
    rw [flatS_snoc, List.length_append]
    exact h1
theorem infoFn : (Tryz.prog.info? 151).map (fun i => (i.zero, i.size, i.bytes)) = some (some (.agg #[.string ⟨#[]⟩, .int .i64 0, .bool false, .string ⟨#[]⟩, .bool false, .slice none 0 0, .slice none 0 0, .slice none 0 0, .slice none 0 0, .slice none 0 0]), 10, 176) := by kernel_rfl
abbrev fnO (x : Pa NM.T) : Obj := .cells #[.string x.1, .int .i64 x.2.kind, .bool false, .string x.2.name, .bool false, .slice none 0 0, .slice none 0 0, .slice none 0 0, .slice none 0 0, .slice none 0 0] 151 (0, 0)
abbrev fnA (p : Option Addr) (cap : Nat) (L : List (Pa NM.T)) : Hp := arr 151 10 p L.length cap (L.flatMap fnC)
theorem fnC_one (y : Pa NM.T) : ∀ u ∈ fnC y, u.oneCell' = true := fun u hu => by
  simp only [fnC, List.mem_cons, List.not_mem_nil, or_false] at hu
  rcases hu with rfl | rfl | rfl | rfl | rfl | rfl | rfl | rfl | rfl | rfl <;> rfl
/-- A record is appended. -/
theorem appFn {w : World} {H : Hp} {ops : Array Oper} {rest : List Oper} {o : Oper} {a : Act} {Q : Exit → Act → World → Prop} (hgd : o.guard = none) (s x : Operand)
    (ho : o.op = .call { callee := .builtin .append, args := #[s, x], argTypes := #[119, 119] })
    (p : Option Addr) (n cap : Nat) (l : List (Pa NM.T)) (y : Pa NM.T) (hn : l.length = n) (hp : a.eval s = .slice p n cap) (xb : Nat) (hvx : a.eval x = .slice (some ⟨xb, 0, none⟩) 1 1) (hx : w.heap[xb]? = some (fnO y)) (h : Sat w (fnA p cap l * H)) (hl : n ≤ 1000000)
    (hk : ∀ p' cap' w', Sat w' (fnA p' cap' (l ++ [y]) * H) → Ran w w' → wpList Tryz.prog ops Q rest (a.put o.dst (.slice p' (n + 1) cap')) w') : wpList Tryz.prog ops Q (o :: rest) a w := by
  subst hn
  obtain ⟨i0, hi, hz0, hz1, hz2⟩ := info_parts infoFn
  refine wpList_append_arr hgd s x _ _ ho 151 i0 _ 10 176 Tryz.underlying119 hi hz0 hz1 hz2 rfl p l.length cap _ hp h _ hvx 1 (fnC y) (Src.ofSlice _ Tryz.underlying119 ⟨xb, 0, none⟩ 1 1 (fnC y) (by rw [hz1]; rfl) (fun j u hj => ?_) (fnC_one y)) (by omega) (by unfold maxLen; omega) fun p' cap' w' h1 h2 _ => ?_
  · rw [Addr.add_lit, Nat.zero_add, cell_at hx]
    have : (fnC y).toArray[j]? = (fnC y)[j]? := by simp
    rw [← hj]
    exact this
  · refine hk p' cap' w' ?_ h2
    show Sat w' (arr 151 10 p' (l ++ [y]).length cap' ((l ++ [y]).flatMap fnC) * H)
    rw [flatS_snoc, List.length_append]
    exact h1
end Go.Proofs.YtlmjidandjemjaaGreatDoor.State

namespace Go.Proofs.YtlmjidandjemjaaGreatDoor.State
open Go.RowKit Go.Proofs.YtlmjidandjemjaaGreatDoor Go.Proofs.YtlmjidandjemjaaGreatDoor.Hp Go.Proofs.YtlmjidandjemjaaGreatDoor.Undo
set_option linter.unusedVariables false
attribute [local go_sem] Oper.semAt_some

/-- A pair's cells. -/
theorem rd_pr {R S : Hp} {p : Option Addr} {cap : Nat} {L : List (Pa ByteArray)} (h : RdR prC 2 R p cap L) {w : World} (hw : Sat w (S * R)) (i : Nat) (hi : i < L.length) : ∃ b o, p = some ⟨b, o, none⟩ ∧ w.cell? ⟨b, o + i * 2, none⟩ = some (.string L[i].1) ∧ w.cell? ⟨b, o + i * 2 + 1, none⟩ = some (.string L[i].2) := by
  obtain ⟨b, o, hb, hc⟩ := h.cells w S hw i hi
  exact ⟨b, o, hb, hc 0 (by omega), hc 1 (by omega)⟩
set_option maxRecDepth 100000 in
set_option maxHeartbeats 2000000 in
theorem rfind_calls {R S : Hp} {w : World} (p : Option Addr) (cap : Nat) (L : List (Pa ByteArray)) (M : ByteArray → Option ByteArray) (k : ByteArray) (hn : L.length ≤ 1000000) (hL : BagOf M L) (hr : RdR prC 2 R p cap L) (h : Sat w (S * R)) :
    Calls Tryz.prog 124 #[.slice p L.length cap, .string k] w fun e w' => e = .returned (.tuple #[.string ((M k).getD ⟨#[]⟩), .bool (M k).isSome]) ∧ w = w' := by
  have hnn : (L.length : Int) ≤ 1000000 := by omega
  have hcl := hr.len
  have hct := hr.top
  have hcI : (cap : Int) ≤ 9223372036854775807 := by unfold maxLen at hct; omega
  have hclI : (L.length : Int) ≤ (cap : Int) := by omega
  have Hp := Lib.hid (fun (i : Nat) (hi : i < L.length) => rd_pr hr h i hi)
  clear hr h hcl hct
  cases hM : M k with
  | none =>
    have hno := Lib.hid (bag_none hL hM)
    clear hL hM
    go_enter Tryz.func124, Tryz.ntmps124
    go_wp2_with fail
    go_loopg [6] (L.length) (fun (g : Nat) (iv : Value) (wr : World) => ∃ i : Nat, i + g = L.length ∧ iv = .int .i64 (i : Int) ∧ w = wr)
    case atStart => exact ⟨0, by omega, rfl, rfl⟩
    case round =>
      obtain ⟨i, hik, rfl, rfl⟩ := hrel
      have hi0 : (0 : Int) ≤ i := by omega
      by_cases hi : i < L.length
      · obtain ⟨b, o, rfl, p0, p1⟩ := Hp.out i hi
        have hne := toList_ne (hno.out L[i] (List.getElem_mem hi))
        have hlt : (i : Int) < L.length := by omega
        obtain ⟨x, hx⟩ : ∃ x, x = L[i].1 := ⟨_, rfl⟩
        rw [← hx] at p0 hne
        have Hik := Lib.hid hik
        clear hik p1 hx
        go_wp2_with fail
        go_roundg (gk - 1)
        case measure => have := Hik.out; omega
        case rel => exact ⟨i + 1, by have := Hik.out; omega, rfl, rfl⟩
      · have hge : ¬ ((i : Int) < L.length) := by omega
        clear hik
        go_wp2_with fail
        go_ret2
        exact ⟨rfl, rfl⟩
  | some v =>
    obtain ⟨j, hj, hjk, hjv, hot⟩ := bag_some hL hM
    have Hot := Lib.hid hot
    clear hL hM hot
    go_enter Tryz.func124, Tryz.ntmps124
    go_wp2_with fail
    go_loopg [6] (j + 1) (fun (g : Nat) (iv : Value) (wr : World) => ∃ i : Nat, i + g = j + 1 ∧ 0 < g ∧ iv = .int .i64 (i : Int) ∧ w = wr)
    case atStart => exact ⟨0, by omega, by omega, rfl, rfl⟩
    case round =>
      obtain ⟨i, hik, hk0, rfl, rfl⟩ := hrel
      have hi : i < L.length := by omega
      have hlt : (i : Int) < L.length := by omega
      have hi0 : (0 : Int) ≤ i := by omega
      obtain ⟨b, o, rfl, p0, p1⟩ := Hp.out i hi
      by_cases hij : i = j
      · subst hij
        rw [hjk] at p0
        rw [hjv] at p1
        have heq : (k.toList == k.toList) = true := (toListS_iff _ _).2 rfl
        clear hjk hjv hik
        go_wp2_with fail
        go_ret2
        exact ⟨rfl, rfl⟩
      · have hne := toList_ne (Hot.out i hi hij)
        clear hjk hjv
        obtain ⟨x, hx⟩ : ∃ x, x = L[i].1 := ⟨_, rfl⟩
        rw [← hx] at p0 hne
        have Hik := Lib.hid hik
        clear hik p1 hx
        go_wp2_with fail
        go_roundg (gk - 1)
        case measure => omega
        case rel => exact ⟨i + 1, by have := Hik.out; omega, by have := Hik.out; omega, rfl, rfl⟩
end Go.Proofs.YtlmjidandjemjaaGreatDoor.State

namespace Go.Proofs.YtlmjidandjemjaaGreatDoor.State
open Go.RowKit Go.Proofs.YtlmjidandjemjaaGreatDoor Go.Proofs.YtlmjidandjemjaaGreatDoor.Hp Go.Proofs.YtlmjidandjemjaaGreatDoor.Undo
set_option linter.unusedVariables false
attribute [local go_sem] Oper.semAt_some

set_option maxRecDepth 100000 in
set_option maxHeartbeats 4000000 in
theorem rwithout_calls {R : Hp} {w : World} (p : Option Addr) (cap : Nat) (L : List (Pa ByteArray)) (k : ByteArray) (hn : L.length ≤ 1000000) (hr : RdR prC 2 R p cap L) (h : Sat w R) :
    Calls Tryz.prog 122 #[.slice p L.length cap, .string k] w fun e w' => (∃ q qc, e = .returned (.slice q (without k L).length qc) ∧ Sat w' (prA q qc (without k L) * R)) ∧ Ran w w' := by
  have hnn : (L.length : Int) ≤ 1000000 := by omega
  have hcl := hr.len
  have hct := hr.top
  have hcI : (cap : Int) ≤ 9223372036854775807 := by unfold maxLen at hct; omega
  have hclI : (L.length : Int) ≤ (cap : Int) := by omega
  have Hrd := Lib.hid hr
  have H := Lib.hid h
  clear hr h hcl hct
  go_enter Tryz.func122, Tryz.ntmps122
  go_wp2_with fail
  go_loopg [5, 6] (L.length) (fun (g : Nat) (ov iv : Value) (wr : World) => ∃ (i : Nat) (q : Option Addr) (qc : Nat), i + g = L.length ∧ iv = .int .i64 (i : Int) ∧ ov = .slice q (without k (L.take i)).length qc ∧ Sat wr (prA q qc (without k (L.take i)) * R) ∧ Ran w wr)
  case atStart => exact ⟨0, none, 0, by omega, rfl, rfl, H.out.nil_arr _ _, Below.refl 0 w⟩
  case round =>
    clear H
    obtain ⟨i, q, qc, hik, rfl, rfl, HS, HR⟩ := hrel
    have hi0 : (0 : Int) ≤ i := by omega
    by_cases hi : i < L.length
    · obtain ⟨b, o, rfl, p0, p1⟩ := rd_pr Hrd.out HS i hi
      have hlt : (i : Int) < L.length := by omega
      have htk : L.take (i + 1) = L.take i ++ [L[i]] := List.take_succ_eq_append_getElem hi
      have hsn := without_snoc k (L.take i) L[i]
      rw [← htk] at hsn
      have hln := without_len k (L.take i)
      rw [List.length_take] at hln
      have hln2 : (without k (L.take i)).length ≤ 1000000 := by omega
      obtain ⟨z, hz⟩ : ∃ z, z = L[i] := ⟨_, rfl⟩
      rw [← hz] at p0 p1 hsn
      obtain ⟨zn, zt⟩ := z
      dsimp only at p0 p1 hsn
      obtain ⟨out, hout⟩ : ∃ out, out = without k (L.take i) := ⟨_, rfl⟩
      rw [← hout] at HS hsn hln2
      rw [← hout]
      have Hik := Lib.hid hik
      by_cases heq : (zn.toList == k.toList) = true
      · rw [if_pos heq, List.append_nil] at hsn
        have hzk : zn = k := (toListS_iff _ _).1 heq
        subst hzk
        have Hs := Lib.hid (And.intro hsn (And.intro HS HR))
        clear hik hz hsn htk hln HS HR heq hout p1
        go_wp2_with fail
        go_roundg (gk - 1)
        case measure => have := Hik.out; omega
        case rel => exact ⟨i + 1, q, qc, by have := Hik.out; omega, rfl, by rw [Hs.out.1], by rw [Hs.out.1]; exact Hs.out.2.1, Hs.out.2.2⟩
      · have hne : (zn.toList == k.toList) = false := by simpa using heq
        rw [if_neg heq] at hsn
        have HA := Lib.hid (HS.old (prO (zn, zt)))
        have HX := Lib.hid (heap_alloc_new wr (prO (zn, zt)))
        have RA := Lib.hid (Ran.new HR (prO (zn, zt)))
        have Hs := Lib.hid hsn
        clear hik hz hsn htk hln HS HR heq hout
        go_wp2_with (at_builtin; go_loud (refine appPr rfl _ _ rfl q out.length qc out (zn, zt) rfl rfl _ rfl HX.out HA.out hln2 ?_; intro q2 qc2 w6 T6 R6; clear HA HX p0 p1))
        have T6 := Lib.hid (And.intro T6 (Below.trans RA.out R6))
        clear RA R6
        go_roundg (gk - 1)
        case measure => have := Hik.out; omega
        case rel => exact ⟨i + 1, q2, qc2, by have := Hik.out; omega, rfl, by rw [Hs.out, List.length_append]; rfl, by rw [Hs.out]; exact T6.out.1, T6.out.2⟩
    · have hge : ¬ ((i : Int) < L.length) := by omega
      have htl : L.take i = L := List.take_of_length_le (by omega)
      rw [htl] at HS
      rw [htl]
      have HS0 := Lib.hid (And.intro HS HR)
      clear hik HS HR htl hi
      go_wp2_with fail
      go_ret
      exact ⟨⟨q, qc, rfl, HS0.out.1⟩, HS0.out.2⟩
/-- What the document's with makes of a row. -/
def insB {α : Type} (y : Pa α) : List (Pa α) → Bool → List (Pa α)
  | [], false => [y]
  | [], true => []
  | x :: l, true => x :: insB y l true
  | x :: l, false => if behindK x.1 y.1 = true then y :: x :: insB y l true else x :: insB y l false
theorem insB_true {α : Type} (y : Pa α) : ∀ l : List (Pa α), insB y l true = l
  | [] => rfl
  | x :: l => by show x :: insB y l true = _; rw [insB_true y l]
theorem insB_false {α : Type} (k : ByteArray) (v : α) : ∀ l : List (Pa α), insB (k, v) l false = insP k v l
  | [] => rfl
  | x :: l => by
    show (if behindK x.1 k = true then (k, v) :: x :: insB (k, v) l true else x :: insB (k, v) l false) = _
    unfold insP
    rw [insB_true, insB_false k v l]
theorem prO_cells {w : World} {b : Nat} {x : Pa ByteArray} {S : Hp} (h : Sat w (pts b (prO x) * S)) : w.cell? ⟨b, 0, none⟩ = some (.string x.1) ∧ w.cell? ⟨b, 1, none⟩ = some (.string x.2) := by
  have hb := h.get
  refine ⟨?_, ?_⟩ <;> rw [cell_at hb] <;> rfl
theorem pr_cells {w : World} {p : Option Addr} {cap : Nat} {E : List (Pa ByteArray)} {R : Hp} (h : Sat w (prA p cap E * R)) {i : Nat} (hi : i < E.length) :
    ∃ b o, p = some ⟨b, o, none⟩ ∧ w.cell? ⟨b, o + i * 2, none⟩ = some (.string E[i].1) ∧ w.cell? ⟨b, o + i * 2 + 1, none⟩ = some (.string E[i].2) ∧ E.length ≤ cap ∧ cap ≤ maxLen := by
  have hr := RdR.of_arr prC_len (by omega) h
  obtain ⟨b, o, h1, h2, h3⟩ := rd_pr hr (S := emp) (by rw [emp_sep]; exact h) i hi
  exact ⟨b, o, h1, h2, h3, hr.len, hr.top⟩
set_option maxRecDepth 100000 in
set_option maxHeartbeats 16000000 in
theorem rwith_calls {R : Hp} {w : World} (p : Option Addr) (cap : Nat) (L : List (Pa ByteArray)) (k v : ByteArray) (hn : L.length ≤ 100000) (hr : RdR prC 2 R p cap L) (h : Sat w R) :
    Calls Tryz.prog 120 #[.slice p L.length cap, .agg #[.string k, .string v]] w fun e w' => (∃ q qc, e = .returned (.slice q (insP k v (without k L)).length qc) ∧ Sat w' (prA q qc (insP k v (without k L)) * R)) ∧ Ran w w' := by
  obtain ⟨hb, hhb⟩ : ∃ hb, hb = w.heap.size := ⟨_, rfl⟩
  have S1 := h.alloc (prO (k, v))
  have R1 := Ran.new (Below.refl 0 w) (prO (k, v))
  obtain ⟨w1, hw1⟩ : ∃ w1, w1 = w.alloc (prO (k, v)) := ⟨_, rfl⟩
  rw [← hhb, ← hw1] at S1
  rw [← hw1] at R1
  obtain ⟨k0, k1⟩ := prO_cells S1
  have HW := Lib.hid (rwithout_calls p cap L k (by omega) hr.more S1)
  have R1 := Lib.hid R1
  have hwl := without_len k L
  have hmem : ∀ z ∈ without k L, ¬ z.1.toList = k.toList := fun z hz e => (without_mem.1 hz).2 ((toListS_iff _ _).1 (by simpa using e))
  dsimp only at k0 k1
  obtain ⟨E, hE⟩ : ∃ E, E = without k L := ⟨_, rfl⟩
  rw [← hE] at HW hwl hmem
  rw [← hE, ← insB_false]
  have hEn : E.length ≤ 100000 := by omega
  have hEI : (E.length : Int) ≤ 100000 := by omega
  have HNE := Lib.hid hmem
  clear h S1 hr hE hwl hmem
  go_enter Tryz.func120, Tryz.ntmps120
  go_upto_region 1 with fail
  rw [← hhb, ← hw1]
  clear hhb hw1
  go_wp2_with fail
  refine HW.out.mono ?_
  rintro e w2 ⟨⟨q, qc, rfl, S2⟩, R2⟩
  have R2 := Lib.hid (Below.trans R1.out R2)
  have S2 := Lib.hid S2
  clear HW R1 k0 k1
  go_wp2_with fail
  go_loopg [5, 6, 7] (E.length) (fun (gk : Nat) (v5 v6 v7 : Value) (wr : World) => ∃ (i : Nat) (out : List (Pa ByteArray)) (done : Bool) (p : Option Addr) (cap : Nat), v7 = .int .i64 (i : Int) ∧ i + gk = E.length ∧ v6 = .bool done ∧ v5 = .slice p out.length cap ∧ out.length ≤ i + done.toNat ∧ out ++ insB (k, v) (E.drop i) done = insB (k, v) E false ∧
    Sat wr (prA p cap out * (prA q qc E * (pts hb (prO (k, v)) * R))) ∧ Ran w wr)
  case atStart => exact ⟨0, [], false, none, 0, rfl, by omega, rfl, rfl, Nat.zero_le _, by rw [List.drop_zero]; rfl, S2.out.nil_arr _ _, R2.out⟩
  case round =>
    clear S2 R2
    obtain ⟨i, out, done, p, cap, rfl, hgi, rfl, rfl, hol, hins, Si, Ri⟩ := hrel
    by_cases hlt : i < E.length
    · have hltI : (i : Int) < (E.length : Int) := by omega
      have hi0 : (0 : Int) ≤ (i : Int) := by omega
      have hoI : (out.length : Int) ≤ 100001 := by cases done <;> simp at hol <;> omega
      have hol1 : out.length ≤ i + 1 := by cases done <;> simp at hol <;> omega
      have Sd := Si.drew.perm (show _ = prA q qc E * (prA p cap out * (pts hb (prO (k, v)) * R)) by ac_rfl)
      obtain ⟨b, o, hbo, m0, m1, hc1, hc2⟩ := pr_cells Sd hlt
      obtain ⟨k0, k1⟩ := prO_cells (Si.drew.perm (show _ = pts hb (prO (k, v)) * (prA p cap out * (prA q qc E * R)) by ac_rfl))
      have hcm : (qc : Int) ≤ 9223372036854775807 := by unfold maxLen at hc2; omega
      have hc1I : (E.length : Int) ≤ (qc : Int) := by omega
      have hze := HNE.out E[i] (List.getElem_mem hlt)
      obtain ⟨z, hz⟩ : ∃ z, z = E[i] := ⟨_, rfl⟩
      rw [← hz] at m0 m1 hze
      have hdr : E.drop i = z :: E.drop (i + 1) := by rw [hz]; exact List.drop_eq_getElem_cons hlt
      rw [hdr] at hins
      subst hbo
      obtain ⟨zn, zd⟩ := z
      dsimp only at k0 k1 m0 m1 hze
      have HM := Lib.hid (fun (W' : World) (X : Hp) (hX : Sat W' (prA (some ⟨b, o, none⟩) qc E * X)) => (by obtain ⟨b2, o2, e, q0, q1, -⟩ := pr_cells hX hlt; injection e with e; injection e with e1 e2; subst e1; subst e2; rw [← hz] at q0 q1; exact And.intro q0 q1 : W'.cell? ⟨b, o + i * 2, none⟩ = some (.string zn) ∧ W'.cell? ⟨b, o + i * 2 + 1, none⟩ = some (.string zd)))
      have Si := Lib.hid Si
      have Ri := Lib.hid Ri
      have hzb : (zn.toList == k.toList) = false := by simpa using hze
      clear hz hdr Sd hc2
      cases done with
      | true =>
        have hins2 : (out ++ [(zn, zd)]) ++ insB (k, v) (E.drop (i + 1)) true = insB (k, v) E false := by rw [← hins, List.append_assoc]; rfl
        have HI := Lib.hid hins2
        have HA := Lib.hid ((Si.out.drew).old (prO (zn, zd)))
        have HX := Lib.hid (heap_alloc_new wr.drew (prO (zn, zd)))
        have RA := Lib.hid (Ran.new (Ran.drewN Ri.out 1) (prO (zn, zd)))
        clear hins hins2
        go_upto_region 7 with fail
        refine region_plan (S := (fun w' => w'.cell? ⟨b, o + i * 2, none⟩ = some (.string zn) ∧ w'.cell? ⟨hb, 0, none⟩ = some (.string k))) [(0, true), (1, true), (2, true), (3, true), (4, true), (5, true), (6, true), (7, true), (8, true), (9, true), (10, true), (11, true)] (by kernel_rfl) (by kernel_rfl) (by kernel_rfl) ?_ ?_
        · ((try dsimp only); (first | done | (exact ⟨m0, k0⟩)))
        simp only [planOps, List.map_cons, List.map_nil, List.getElem?_toArray, List.getElem?_cons_zero, List.getElem?_cons_succ]
        repeat (first
          | ((refine plan_yes (v := ?_) (by rfl) ?_ ?_); rotate_left; (focus (intro w hSw; (try dsimp only at hSw); go_simp; try (with_reducible rfl))); (try simp only [Act.put, List.setIfInBounds_toArray, List.set_cons_zero, List.set_cons_succ]))
          | ((refine plan_no (by rfl) ?_); (try simp only [Act.put, List.setIfInBounds_toArray, List.set_cons_zero, List.set_cons_succ]))
          | ((refine plan_step (fun K hK => ?_)); (first | (fail) | (go_simp; (fail); (try go_wp2_with fail)) | go_simp); (refine hK.out _ _ ?_ (fun hHeld => ?_)); (focus ((try dsimp only); (first | done | (exact ⟨m0, k0⟩)))); clear hK K; (try simp only [Act.put, List.setIfInBounds_toArray, List.set_cons_zero, List.set_cons_succ])))
        refine plan_done ?_
        go_wp2_with (at_builtin; go_loud (refine appPr rfl _ _ rfl p out.length cap out (zn, zd) rfl rfl _ rfl HX.out HA.out (by omega) ?_; intro p' cap' w6 T6 R6))
        have T6 := Lib.hid T6
        have R6 := Lib.hid (Below.trans RA.out R6)
        clear HA HX RA Si Ri HM
        go_roundg (gk - 1)
        case rel => exact ⟨i + 1, _, true, p', cap', by simp, by omega, rfl, by simp, by simp at hol ⊢; omega, HI.out, T6.out, R6.out⟩
        case measure => omega
      | false =>
        have hstep : insB (k, v) ((zn, zd) :: E.drop (i + 1)) false = if behindK zn k = true then (k, v) :: (zn, zd) :: insB (k, v) (E.drop (i + 1)) true else (zn, zd) :: insB (k, v) (E.drop (i + 1)) false := rfl
        rw [hstep] at hins
        clear hstep
        by_cases hbk : behindK zn k = true
        · rw [if_pos hbk] at hins
          have hlt2 : Op.bytesLess zn.toList k.toList = false := by unfold behindK at hbk; rw [hzb] at hbk; simpa using hbk
          have hins2 : (out ++ [(k, v)] ++ [(zn, zd)]) ++ insB (k, v) (E.drop (i + 1)) true = insB (k, v) E false := by rw [← hins, List.append_assoc, List.append_assoc]; rfl
          have HI := Lib.hid hins2
          have HA := Lib.hid ((Si.out.drew).old (prO (k, v)))
          have HX := Lib.hid (heap_alloc_new wr.drew (prO (k, v)))
          have RA := Lib.hid (Ran.new (Ran.drewN Ri.out 1) (prO (k, v)))
          clear hins hins2 hbk
          go_upto_region 7 with fail
          refine region_plan (S := (fun w' => w'.cell? ⟨b, o + i * 2, none⟩ = some (.string zn) ∧ w'.cell? ⟨hb, 0, none⟩ = some (.string k))) [(0, true), (1, true), (2, true), (3, true), (4, true), (5, true), (6, true), (7, true), (8, true), (9, true), (10, true), (11, true)] (by kernel_rfl) (by kernel_rfl) (by kernel_rfl) ?_ ?_
          · ((try dsimp only); (first | done | (exact ⟨m0, k0⟩)))
          simp only [planOps, List.map_cons, List.map_nil, List.getElem?_toArray, List.getElem?_cons_zero, List.getElem?_cons_succ]
          repeat (first
            | ((refine plan_yes (v := ?_) (by rfl) ?_ ?_); rotate_left; (focus (intro w hSw; (try dsimp only at hSw); go_simp; try (with_reducible rfl))); (try simp only [Act.put, List.setIfInBounds_toArray, List.set_cons_zero, List.set_cons_succ]))
            | ((refine plan_no (by rfl) ?_); (try simp only [Act.put, List.setIfInBounds_toArray, List.set_cons_zero, List.set_cons_succ]))
            | ((refine plan_step (fun K hK => ?_)); (first | (fail) | (go_simp; (fail); (try go_wp2_with fail)) | go_simp); (refine hK.out _ _ ?_ (fun hHeld => ?_)); (focus ((try dsimp only); (first | done | (exact ⟨m0, k0⟩)))); clear hK K; (try simp only [Act.put, List.setIfInBounds_toArray, List.set_cons_zero, List.set_cons_succ])))
          refine plan_done ?_
          go_wp2_with (first | (at_builtin; go_loud (refine appPr rfl _ _ rfl p out.length cap out (k, v) rfl rfl _ rfl HX.out HA.out (by omega) ?_; intro p1 cap1 w6 T6 R6; clear HA HX; obtain ⟨m0, m1⟩ := HM.out w6 _ (T6.perm (show _ = prA (some ⟨b, o, none⟩) qc E * (prA p1 cap1 (out ++ [(k, v)]) * (pts hb (prO (k, v)) * R)) by ac_rfl)); have HB := Lib.hid (T6.old (prO (zn, zd))); have HW := Lib.hid (heap_alloc_new w6 (prO (zn, zd))); have RB := Lib.hid (Ran.new (Below.trans RA.out R6) (prO (zn, zd))); clear T6 R6)) | (at_builtin; go_loud (refine appPr rfl _ _ rfl p1 (out.length + 1) cap1 (out ++ [(k, v)]) (zn, zd) (by simp) rfl _ rfl HW.out HB.out (by omega) ?_; intro p' cap' w7 T7 R7)))
          have T7 := Lib.hid T7
          have R7 := Lib.hid (Below.trans RB.out R7)
          clear HB HW RB RA Si Ri HM
          go_roundg (gk - 1)
          case rel => exact ⟨i + 1, _, true, p', cap', by simp, by omega, rfl, by simp, by simp at hol ⊢; omega, HI.out, T7.out, R7.out⟩
          case measure => omega
        · rw [if_neg hbk] at hins
          have hins2 : (out ++ [(zn, zd)]) ++ insB (k, v) (E.drop (i + 1)) false = insB (k, v) E false := by rw [← hins, List.append_assoc]; rfl
          have hlt3 : Op.bytesLess zn.toList k.toList = true := by unfold behindK at hbk; rw [hzb] at hbk; simpa using hbk
          clear hbk
          have HI := Lib.hid hins2
          have HA := Lib.hid ((Si.out.drew).old (prO (zn, zd)))
          have HX := Lib.hid (heap_alloc_new wr.drew (prO (zn, zd)))
          have RA := Lib.hid (Ran.new (Ran.drewN Ri.out 1) (prO (zn, zd)))
          clear hins hins2
          go_upto_region 7 with fail
          refine region_plan (S := (fun w' => w'.cell? ⟨b, o + i * 2, none⟩ = some (.string zn) ∧ w'.cell? ⟨hb, 0, none⟩ = some (.string k))) [(0, true), (1, true), (2, true), (3, true), (4, true), (5, true), (6, true), (7, true), (8, true), (9, true), (10, true), (11, true)] (by kernel_rfl) (by kernel_rfl) (by kernel_rfl) ?_ ?_
          · ((try dsimp only); (first | done | (exact ⟨m0, k0⟩)))
          simp only [planOps, List.map_cons, List.map_nil, List.getElem?_toArray, List.getElem?_cons_zero, List.getElem?_cons_succ]
          repeat (first
            | ((refine plan_yes (v := ?_) (by rfl) ?_ ?_); rotate_left; (focus (intro w hSw; (try dsimp only at hSw); go_simp; try (with_reducible rfl))); (try simp only [Act.put, List.setIfInBounds_toArray, List.set_cons_zero, List.set_cons_succ]))
            | ((refine plan_no (by rfl) ?_); (try simp only [Act.put, List.setIfInBounds_toArray, List.set_cons_zero, List.set_cons_succ]))
            | ((refine plan_step (fun K hK => ?_)); (first | (fail) | (go_simp; (fail); (try go_wp2_with fail)) | go_simp); (refine hK.out _ _ ?_ (fun hHeld => ?_)); (focus ((try dsimp only); (first | done | (exact ⟨m0, k0⟩)))); clear hK K; (try simp only [Act.put, List.setIfInBounds_toArray, List.set_cons_zero, List.set_cons_succ])))
          refine plan_done ?_
          go_wp2_with (at_builtin; go_loud (refine appPr rfl _ _ rfl p out.length cap out (zn, zd) rfl rfl _ rfl HX.out HA.out (by omega) ?_; intro p' cap' w6 T6 R6))
          have T6 := Lib.hid T6
          have R6 := Lib.hid (Below.trans RA.out R6)
          clear HA HX RA Si Ri HM
          go_roundg (gk - 1)
          case rel => exact ⟨i + 1, _, false, p', cap', by simp, by omega, rfl, by simp, by simp at hol ⊢; omega, HI.out, T6.out, R6.out⟩
          case measure => omega
    · have hge : (E.length : Int) ≤ (i : Int) := by omega
      have hd0 : E.drop i = [] := List.drop_eq_nil_of_le (by omega)
      rw [hd0] at hins
      have hoI : (out.length : Int) ≤ 100001 := by cases done <;> simp at hol <;> omega
      have hol1 : out.length ≤ i + 1 := by cases done <;> simp at hol <;> omega
      obtain ⟨k0, k1⟩ := prO_cells (Si.perm (show _ = pts hb (prO (k, v)) * (prA p cap out * (prA q qc E * R)) by ac_rfl))
      dsimp only at k0 k1
      cases done with
      | true =>
        have hout : out = insB (k, v) E false := by rw [← hins]; show out = out ++ []; rw [List.append_nil]
        have S9 := (Si.perm (show _ = prA q qc E * (pts hb (prO (k, v)) * (prA p cap out * R)) by ac_rfl)).right.right
        have S9 := Lib.hid (And.intro hout (And.intro S9 Ri))
        clear hout hins Si Ri
        go_wp2_with fail
        go_ret
        exact ⟨⟨p, cap, by rw [← S9.out.1]; rfl, by rw [← S9.out.1]; exact S9.out.2.1⟩, S9.out.2.2⟩
      | false =>
        have hout : out ++ [(k, v)] = insB (k, v) E false := hins
        have HO := Lib.hid hout
        have HA := Lib.hid (Si.old (prO (k, v)))
        have HX := Lib.hid (heap_alloc_new wr (prO (k, v)))
        have RA := Lib.hid (Ran.new Ri (prO (k, v)))
        clear hout hins Si Ri
        go_wp2_with (at_builtin; go_loud (refine appPr rfl _ _ rfl p out.length cap out (k, v) rfl rfl _ rfl HX.out HA.out (by omega) ?_; intro p' cap' w6 T6 R6; clear HA HX; have S9 := Lib.hid ((T6.perm (show _ = prA q qc E * (pts hb (prO (k, v)) * (prA p' cap' (out ++ [(k, v)]) * R)) by ac_rfl)).right.right); have R9 := Lib.hid (Below.trans RA.out R6); clear T6 R6 RA))
        go_ret
        exact ⟨⟨p', cap', by rw [← HO.out, List.length_append]; rfl, by rw [← HO.out]; exact S9.out⟩, R9.out⟩
end Go.Proofs.YtlmjidandjemjaaGreatDoor.State

