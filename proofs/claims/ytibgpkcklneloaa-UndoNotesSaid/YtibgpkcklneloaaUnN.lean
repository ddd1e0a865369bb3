/- UndoNotes: the numbers that notes lay into a slice. -/
import Derived.Test.YtibgpkcklneloaaUnO
namespace Go.Proofs.Ytibgpkcklneloaa.Undo
open Go.RowKit Go.Proofs.Ytibgpkcklneloaa Go.Proofs.Ytibgpkcklneloaa.Hp
set_option linter.unusedVariables false
attribute [local go_sem] Oper.semAt_some

abbrev outO (p : Option Addr) (n cap : Nat) : Obj := .cells #[.slice p n cap] 22 (0, 0)
abbrev intO (v : Int) : Obj := .cells #[.int .i64 v] 3 (0, 0)
abbrev iv (x : Int) : Value := .int .i64 x
/-- A variable that holds a slice of numbers. -/
def outHp (ob : Nat) (xs : List Int) : Hp := ex fun p : Option Addr => ex fun cap : Nat => pts ob (outO p xs.length cap) * arr 3 1 p xs.length cap (xs.map iv)
theorem outHp_out {w : World} {ob : Nat} {xs : List Int} {S : Hp} (h : Sat w (outHp ob xs * S)) : ∃ p cap, Sat w (pts ob (outO p xs.length cap) * (arr 3 1 p xs.length cap (xs.map iv) * S)) := by
  unfold outHp at h
  obtain ⟨p, h⟩ := h.ex_out
  obtain ⟨cap, h⟩ := h.ex_out
  exact ⟨p, cap, h.perm (by ac_rfl)⟩
theorem outHp_in {w : World} {ob : Nat} {xs : List Int} {S : Hp} {p : Option Addr} {cap : Nat} (h : Sat w (pts ob (outO p xs.length cap) * (arr 3 1 p xs.length cap (xs.map iv) * S))) : Sat w (outHp ob xs * S) := by
  unfold outHp
  exact Sat.ex_in p (Sat.ex_in cap (h.perm (by ac_rfl)))
theorem appInt {w : World} {H : Hp} {ops : Array Oper} {rest : List Oper} {o : Oper} {a : Act} {Q : Exit → Act → World → Prop} (hgd : o.guard = none) (s x : Operand)
    (ho : o.op = .call { callee := .builtin .append, args := #[s, x], argTypes := #[22, 22] })
    (p : Option Addr) (n cap : Nat) (xs : List Value) (hp : a.eval s = .slice p n cap) (b : Nat) (hvx : a.eval x = .slice (some ⟨b, 0, none⟩) 1 1) (h : Sat w (arr 3 1 p n cap xs * H)) (v : Value) (hb : w.heap[b]? = some (.cells #[v] 3 (0, 0))) (h0 : v.oneCell' = true) (hn : n ≤ 1000000000)
    (hk : ∀ p' cap' w', Sat w' (arr 3 1 p' (n + 1) cap' (xs ++ [v]) * H) → Ran w w' → wpList Try.prog ops Q rest (a.put o.dst (.slice p' (n + 1) cap')) w') : wpList Try.prog ops Q (o :: rest) a w := by
  obtain ⟨i0, hi, hz0, hz1, hz2⟩ := info_parts infoInt
  refine wpList_append_arr hgd s x _ _ ho 3 i0 _ 1 8 Try.underlying22 hi hz0 hz1 hz2 rfl p n cap xs hp h _ hvx 1 [v] (Src.ofSlice w Try.underlying22 ⟨b, 0, none⟩ 1 1 [v] (by rw [hz1]; rfl) ?_ (by simp [h0])) (by omega) (by unfold maxLen; omega) (fun p' cap' w' h1 h2 _ => hk p' cap' w' h1 h2)
  intro j u hj
  rw [Addr.add_lit, Nat.zero_add, cell_at hb, ← hj]
  simp
def oneC (ob nb : Nat) : Array Value := #[.pointer (some ⟨ob, 0, none⟩), .pointer (some ⟨nb, 0, none⟩)]
set_option maxRecDepth 100000 in
set_option maxHeartbeats 1000000 in
theorem one_calls (ob nb : Nat) (v : Int) (xs : List Int) (w : World) (S : Hp) (hl : xs.length ≤ 1000000000) (h : Sat w (pts nb (intO v) * (outHp ob xs * S))) :
    Calls Try.prog 12 (oneC ob nb) w fun e w' => (∃ v, e = .returned v) ∧ Sat w' (outHp ob (xs ++ [v]) * S) ∧ Ran w w' := by
  obtain ⟨p, cap, HS⟩ := outHp_out (h.perm (show _ = outHp ob xs * (pts nb (intO v) * S) by ac_rfl))
  have c0 := one_cell HS
  have c1 := one_cell (pull2 HS)
  have HSB := (pull1 HS).old (intO v)
  unfold oneC
  obtain ⟨n, hn⟩ : ∃ n, n = xs.length := ⟨_, rfl⟩
  rw [← hn] at HS HSB c0 hl
  have Hn := Lib.hid hn
  clear HS h hn
  go_enter Try.func12, Try.ntmps12
  go_wp2_with (at_builtin; go_loud (refine appInt rfl _ _ rfl p n cap _ rfl _ rfl HSB _ (blk_new rfl) rfl hl ?_; intro p' cap' w6 HS7 HR7; clear HSB c0 c1; have HS8 := pull1 HS7; have c0 := one_cell HS8; have cz : w6.frozen? ⟨ob, 0, none⟩ = false := free_at HS8.get 0))
  go_end0
  refine ⟨⟨_, rfl⟩, ?_, Ran.set (Below.trans (Ran.new (Below.refl 0 w) _) HR7) _ _⟩
  have h9 := HS8.set (i := 0) (.slice p' (n + 1) cap')
  have hl9 : (xs ++ [v]).length = n + 1 := by rw [List.length_append, Hn.out]; rfl
  have hA : Sat (w6.setCell ⟨ob, 0, none⟩ (.slice p' (n + 1) cap')) (outHp ob (xs ++ [v]) * (pts nb (intO v) * S)) := by
    refine outHp_in (p := p') (cap := cap') ?_
    rw [hl9, List.map_append]
    exact h9
  exact (pull1 hA).right
theorem enters_one : Enters Try.prog 12 := enters_of Try.func12 (by kernel_rfl) rfl
def oneV (ob : Nat) (x : Nat × Int) : Value := .func (.func 12) #[] (oneC ob x.1)
def boxHp (x : Nat × Int) : Hp := pts x.1 (intO x.2)
/-- What there is when the notes from the i-th on have been done. -/
def outs (ob : Nat) (bs : List (Nat × Int)) (i : Nat) : Hp := all boxHp (bs.take i) * outHp ob ((bs.drop i).map Prod.snd).reverse
theorem out_effects (ob : Nat) (bs : List (Nat × Int)) (n m : Nat) (hn : n ≤ bs.length) (hl : bs.length ≤ 1000000) : Effects (outs ob bs) ((bs.take n).map (oneV ob)) m := by
  intro i _ hi
  rw [List.length_map, List.length_take] at hi
  have hib : i < bs.length := by omega
  have hgd : ((bs.take n).map (oneV ob)).getD i undef = oneV ob bs[i] := by rw [List.getD_eq_getElem?_getD, List.getElem?_map, List.getElem?_take_of_lt (by omega), List.getElem?_eq_getElem hib]; rfl
  rw [hgd]
  have htk : bs.take (i + 1) = bs.take i ++ [bs[i]] := List.take_succ_eq_append_getElem hib
  refine ⟨_, _, rfl, enters_one, fun S W hS => ?_⟩
  unfold outs at hS
  rw [htk, all_snoc] at hS
  refine (one_calls ob bs[i].1 bs[i].2 ((bs.drop (i + 1)).map Prod.snd).reverse W (all boxHp (bs.take i) * S) (by simp; omega) (hS.perm (by show boxHp bs[i] * _ * _ * _ = boxHp bs[i] * _; ac_rfl))).mono ?_
  rintro e w' ⟨he, hs, hr⟩
  refine ⟨he, ?_, hr⟩
  unfold outs
  rw [List.drop_eq_getElem_cons hib, List.map_cons, List.reverse_cons]
  exact hs.perm (by ac_rfl)
end Go.Proofs.Ytibgpkcklneloaa.Undo
