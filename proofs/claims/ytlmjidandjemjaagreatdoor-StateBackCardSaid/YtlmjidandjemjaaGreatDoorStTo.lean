/- What told tells; texts that are appended to a row beside a state. -/
import Derived.Test.YtlmjidandjemjaaGreatDoorStNk
import Derived.Test.YtlmjidandjemjaaGreatDoorStBe
namespace Go.Proofs.YtlmjidandjemjaaGreatDoor.State
open Go.RowKit Go.Proofs.YtlmjidandjemjaaGreatDoor Go.Proofs.YtlmjidandjemjaaGreatDoor.Hp Go.Proofs.YtlmjidandjemjaaGreatDoor.Undo
set_option linter.unusedVariables false
attribute [local go_sem] Oper.semAt_some

theorem row2 {w : World} {b : Nat} {x y : ByteArray} (h : w.heap[b]? = some (.cells #[.string x, .string y] 9 (0, 0))) : StrsAt w (some ⟨b, 0, none⟩) [x, y] := by
  refine .inr ⟨b, 0, rfl, fun j hj => ?_⟩
  rw [Nat.zero_add, cell_at h]
  match j, hj with
  | 0, _ => rfl
  | 1, _ => rfl
theorem row1s {w : World} {b : Nat} {x : ByteArray} (h : w.heap[b]? = some (.cells #[.string x] 9 (0, 0))) : StrsAt w (some ⟨b, 0, none⟩) [x] := by
  refine .inr ⟨b, 0, rfl, fun j hj => ?_⟩
  rw [Nat.zero_add, cell_at h]
  match j, hj with
  | 0, _ => rfl
set_option maxRecDepth 100000 in
theorem srcRow {w : World} {q : Option Addr} {mc m sz : Nat} {ys : List ByteArray} (hz1 : sz = 1) (hm : ys.length = m) (hy : StrsAt w q ys) : Src Tryz.prog sz 22 (.slice q m mc) m (ys.map sv) w := by
  subst hz1
  rcases hy with he | ⟨b, o, rfl, hc⟩
  · subst he
    have : m = 0 := hm.symm
    subst this
    cases q with
    | none => exact Src.ofNil _ Tryz.underlying22 mc
    | some a => exact Src.ofSlice w Tryz.underlying22 a 0 mc [] (by simp) (fun j u h => by simp at h) (fun u h => by simp at h)
  · refine Src.ofSlice w Tryz.underlying22 ⟨b, o, none⟩ m mc (ys.map sv) (by rw [List.length_map, hm, Nat.mul_one]) (fun j u hj => ?_) (fun u hu => ?_)
    · have hj2 : j < ys.length := by
        obtain ⟨h1, _⟩ := List.getElem?_eq_some_iff.1 hj
        rw [List.length_map] at h1; exact h1
      rw [List.getElem?_map, List.getElem?_eq_getElem hj2] at hj
      injection hj with hj
      rw [← hj, Addr.add_lit]
      exact hc j hj2
    · obtain ⟨y, -, rfl⟩ := List.mem_map.1 hu
      rfl
set_option maxRecDepth 100000 in
/-- Texts are appended. -/
theorem appRow {w : World} {H : Hp} {ops : Array Oper} {rest : List Oper} {o : Oper} {a : Act} {Q : Exit → Act → World → Prop} (hgd : o.guard = none) (s x : Operand)
    (ho : o.op = .call { callee := .builtin .append, args := #[s, x], argTypes := #[22, 22] })
    (p : Option Addr) (n cap : Nat) (xs : List Value) (hp : a.eval s = .slice p n cap) (q : Option Addr) (mc : Nat) (ys : List ByteArray) (m : Nat) (hm : ys.length = m) (hvx : a.eval x = .slice q m mc) (hy : StrsAt w q ys)
    (h : Sat w (arr 9 1 p n cap xs * H)) (hn : n + m ≤ 1000000000)
    (hk : ∀ p' cap' w', Sat w' (arr 9 1 p' (n + m) cap' (xs ++ ys.map sv) * H) → Ran w w' → wpList Tryz.prog ops Q rest (a.put o.dst (.slice p' (n + m) cap')) w') : wpList Tryz.prog ops Q (o :: rest) a w := by
  obtain ⟨i0, hi, hz0, hz1, hz2⟩ := info_parts infoStr
  have hsrc : Src Tryz.prog i0.size 22 (.slice q m mc) m (ys.map sv) w := by
    rcases hy with he | ⟨b, o, rfl, hc⟩
    · subst he
      have : m = 0 := hm.symm
      subst this
      cases q with
      | none => exact Src.ofNil _ Tryz.underlying22 mc
      | some a => exact Src.ofSlice w Tryz.underlying22 a 0 mc [] (by simp) (fun j u h => by simp at h) (fun u h => by simp at h)
    · refine Src.ofSlice w Tryz.underlying22 ⟨b, o, none⟩ m mc (ys.map sv) (by rw [hz1, List.length_map, hm, Nat.mul_one]) (fun j u hj => ?_) (fun u hu => ?_)
      · have hj2 : j < ys.length := by
          have := List.getElem?_eq_some_iff.1 hj
          obtain ⟨h1, _⟩ := this
          rw [List.length_map] at h1; exact h1
        rw [List.getElem?_map, List.getElem?_eq_getElem hj2] at hj
        injection hj with hj
        rw [← hj, Addr.add_lit]
        exact hc j hj2
      · obtain ⟨y, -, rfl⟩ := List.mem_map.1 hu
        rfl
  exact wpList_append_arr hgd s x _ _ ho 9 i0 _ 1 16 Tryz.underlying22 hi hz0 hz1 hz2 rfl p n cap xs hp h _ hvx m (ys.map sv) hsrc (by omega) (by unfold maxLen; omega) (fun p' cap' w' h1 h2 _ => hk p' cap' w' h1 h2)
theorem appS {w : World} {ops : Array Oper} {rest : List Oper} {o : Oper} {a : Act} {Q : Exit → Act → World → Prop} (hgd : o.guard = none) (s x : Operand)
    (ho : o.op = .call { callee := .builtin .append, args := #[s, x], argTypes := #[22, 22] })
    (K : Ctx) (n : Now) (R : Hp) (p : Option Addr) (cap : Nat) (xs : List ByteArray) (hp : a.eval s = .slice p xs.length cap) (q : Option Addr) (mc : Nat) (ys : List ByteArray) (m : Nat) (hm : ys.length = m) (hvx : a.eval x = .slice q m mc) (hy : StrsAt w q ys)
    (h : SAt K w n (arr 9 1 p xs.length cap (xs.map sv) * R)) (hn : xs.length + m ≤ 1000000000)
    (hk : ∀ p' cap' w', SAt K w' n (arr 9 1 p' (xs ++ ys).length cap' ((xs ++ ys).map sv) * R) → Ran w w' → wpList Tryz.prog ops Q rest (a.put o.dst (.slice p' (xs ++ ys).length cap')) w') : wpList Tryz.prog ops Q (o :: rest) a w := by
  obtain ⟨X, hX1, hX2⟩ := h.frame
  refine appRow hgd s x ho p xs.length cap (xs.map sv) hp q mc ys m hm hvx hy (hX1.perm (show _ = arr 9 1 p xs.length cap (xs.map sv) * (X * R) by ac_rfl)) hn (fun p' cap' w' h1 h2 => ?_)
  have e : (xs ++ ys).length = xs.length + m := by rw [List.length_append, hm]
  have := hk p' cap' w' (by rw [e, List.map_append]; exact hX2 _ _ (h1.perm (by ac_rfl))) h2
  rw [e] at this
  exact this
theorem stepS {w : World} {ops : Array Oper} {o : Oper} {a : Act} {J : Act → World → Prop} {Q : Exit → Act → World → Prop} {E : Prop} (hgd : o.guard = none) (s x : Operand)
    (ho : o.op = .call { callee := .builtin .append, args := #[s, x], argTypes := #[22, 22] })
    (K : Ctx) (n : Now) (R : Hp) (p : Option Addr) (cap : Nat) (xs : List ByteArray) (hp : a.eval s = .slice p xs.length cap) (q : Option Addr) (mc : Nat) (ys : List ByteArray) (m : Nat) (hm : ys.length = m) (hvx : a.eval x = .slice q m mc) (hy : StrsAt w q ys)
    (h : SAt K w n (arr 9 1 p xs.length cap (xs.map sv) * R)) (hn : xs.length + m ≤ 1000000000)
    (hk : ∀ p' cap' w', SAt K w' n (arr 9 1 p' (xs ++ ys).length cap' ((xs ++ ys).map sv) * R) → Ran w w' → J (a.put o.dst (.slice p' (xs ++ ys).length cap')) w') :
    if Region.wanted o (yielded ops a.tmps) = true then Oper.wp Tryz.prog o a w J Q else E := by
  obtain ⟨i0, hi, hz0, hz1, hz2⟩ := info_parts infoStr
  obtain ⟨X, hX1, hX2⟩ := h.frame
  refine step_append_arr hgd s x _ _ ho 9 i0 _ 1 16 Tryz.underlying22 hi hz0 hz1 hz2 rfl p xs.length cap (xs.map sv) hp (hX1.perm (show _ = arr 9 1 p xs.length cap (xs.map sv) * (X * R) by ac_rfl)) _ hvx m (ys.map sv) (srcRow hz1 hm hy) (by omega) (by unfold maxLen; omega) (fun p' cap' w' h1 h2 _ => ?_)
  have e : (xs ++ ys).length = xs.length + m := by rw [List.length_append, hm]
  have := hk p' cap' w' (by rw [e, List.map_append]; exact hX2 _ _ (h1.perm (by ac_rfl))) h2
  rw [e] at this
  exact this
/-- There are not more variables than notes and calls. -/
theorem keys_bound {K : Ctx} {w : World} {n : Now} {R : Hp} (h : SAt K w n R) {ks : List ByteArray} (hk : KeysOf n.s.V ks) : ks.length ≤ n.N := by
  obtain ⟨B, S, hB, hS⟩ := h.atV
  obtain ⟨mp, k, hkB, hM, HS⟩ := VM.mapAt_out hS
  obtain ⟨D, hR, HD⟩ := mapHp_out (show Sat w (Undo.mapHp mp k (mapM VM.enc n.s.V) * _) from pull1 HS)
  obtain ⟨hO, _⟩ := mapD_out HD
  have h1 := keysOf_map (keys_facts hO hR (List.Perm.refl (strKeys D)))
  have h2 := keys_len hO
  rw [keys_unique hk h1, List.length_map, List.length_mergeSort]
  omega
abbrev setS : ByteArray := ⟨#[115, 101, 116]⟩
abbrev exportS : ByteArray := ⟨#[101, 120, 112, 111, 114, 116]⟩
abbrev fixedS : ByteArray := ⟨#[102, 105, 120, 101, 100]⟩
def fl (b : Bool) (t : ByteArray) : List ByteArray := if b = true then [t] else []
def nameL (s : Pst) (k : ByteArray) : List ByteArray := [k, (s.var k).val] ++ fl (s.var k).set setS ++ fl (s.var k).exp exportS ++ fl (s.var k).fix fixedS
def aliasL (s : Pst) (k : ByteArray) : List ByteArray := [k, (s.A k).getD ⟨#[]⟩]
def trapL (s : Pst) (k : ByteArray) : List ByteArray := if (s.T k).isSome = true then [k, (s.T k).getD ⟨#[]⟩] else []
def funcL (s : Pst) (k : ByteArray) : List ByteArray := if (s.F k).isSome = true then [k, ((s.F k).getD NM.zt).name] else []
/-- All that a state knows, as texts; ks, al: the keys of its variables and aliases. -/
def toldL (s : Pst) (ks al names : List ByteArray) : List ByteArray :=
  [s.o] ++ envL s ks ++ ks.flatMap (nameL s) ++ [argsS] ++ s.l ++ al.flatMap (aliasL s) ++ trapsL.flatMap (trapL s) ++ names.flatMap (funcL s)
theorem fl_len (b : Bool) (t : ByteArray) : (fl b t).length ≤ 1 := by unfold fl; split <;> simp
theorem nameL_len (s : Pst) (k : ByteArray) : (nameL s k).length ≤ 5 := by
  unfold nameL
  have h1 := fl_len (s.var k).set setS
  have h2 := fl_len (s.var k).exp exportS
  have h3 := fl_len (s.var k).fix fixedS
  simp only [List.length_append, List.length_cons, List.length_nil]
  omega
theorem aliasL_len (s : Pst) (k : ByteArray) : (aliasL s k).length ≤ 5 := by unfold aliasL; simp
theorem trapL_len (s : Pst) (k : ByteArray) : (trapL s k).length ≤ 5 := by unfold trapL; split <;> simp
theorem funcL_len (s : Pst) (k : ByteArray) : (funcL s k).length ≤ 5 := by unfold funcL; split <;> simp
theorem flat_len {f : ByteArray → List ByteArray} (hf : ∀ k, (f k).length ≤ 5) : ∀ l : List ByteArray, (l.flatMap f).length ≤ 5 * l.length
  | [] => Nat.le_refl _
  | k :: l => by
    have h1 := hf k
    have h2 := flat_len hf l
    rw [List.flatMap_cons, List.length_append, List.length_cons]
    omega
theorem flat_snoc {f : ByteArray → List ByteArray} (l : List ByteArray) (i : Nat) (h : i < l.length) : (l.take (i + 1)).flatMap f = (l.take i).flatMap f ++ f l[i] := by
  rw [List.take_succ_eq_append_getElem h, List.flatMap_append]
  simp
end Go.Proofs.YtlmjidandjemjaaGreatDoor.State
