/- HandlesPlays, part 3 of 31: the texts PrNa PrA PrB PrC PrD PrE PrF, joined by a program. -/
import Derived.Test.YteienbdbhnikbaaGreatDoorPw1
import Derived.Test.YteienbdbhnikbaaGreatDoorPw2
namespace Go.Proofs.YteienbdbhnikbaaGreatDoor.Pr
open Go.RowKit Go.Proofs.YteienbdbhnikbaaGreatDoor Go.Proofs.YteienbdbhnikbaaGreatDoor.Hp
set_option linter.unusedVariables false
attribute [local go_sem] Oper.semAt_some

abbrev nilP : Value := .pointer none
abbrev pp (b : Nat) : Value := .pointer (some ⟨b, 0, none⟩)
end Go.Proofs.YteienbdbhnikbaaGreatDoor.Pr

namespace Go.Proofs.YteienbdbhnikbaaGreatDoor.Pr
open Go.RowKit Go.Proofs.YteienbdbhnikbaaGreatDoor Go.Proofs.YteienbdbhnikbaaGreatDoor.Hp
set_option linter.unusedVariables false
attribute [local go_sem] Oper.semAt_some

/-- A slot: what it has, and the mark behind which that was noted. -/
structure Sl where
  has : Int
  mark : Int
/-- A process: where it lies, its tree, table and log, the boxes that its closures have; its slots. -/
structure Pc where
  pb : Nat
  fb : Nat
  tb : Nat
  lb : Nat
  fx : Nat
  tx : Nat
  fds : List Sl
  dir : Sl
  mask : Sl
def fNone : Value := .func (.func 44) #[] #[]
def fHold (fx : Nat) : Value := .func (.func 45) #[] #[pp fx]
def fDrop (fx : Nat) : Value := .func (.func 47) #[] #[pp fx]
def fRef (tx : Nat) : Value := .func (.func 49) #[] #[pp tx]
def fUnref (tx : Nat) : Value := .func (.func 51) #[] #[pp tx]
def slC (take drop : Value) (s : Sl) : List Value := [.int .i64 s.has, .int .i64 s.mark, take, drop]
def pcL (p : Pc) : List Value := [pp p.fb, pp p.tb, pp p.lb] ++ (p.fds.flatMap (slC (fRef p.tx) (fUnref p.tx)) ++ (slC (fHold p.fx) (fDrop p.fx) p.dir ++ slC fNone fNone p.mask))
def pcO (p : Pc) : Obj := .cells (pcL p).toArray 89 (0, 0)
/-- The process and its boxes. -/
def pcHp (p : Pc) : Hp := pts p.pb (pcO p) * (pts p.fx (.cells #[pp p.fb] 26 (0, 0)) * pts p.tx (.cells #[pp p.tb] 28 (0, 0)))
theorem sl_flat (a b : Value) : ∀ l : List Sl, (l.flatMap (slC a b)).length = l.length * 4
  | [] => rfl
  | x :: l => by rw [List.flatMap_cons, List.length_append, sl_flat a b l, List.length_cons]; show 4 + _ = _; omega
theorem sl_get (a b : Value) : ∀ (l : List Sl) (i j : Nat) (hi : i < l.length), j < 4 → (l.flatMap (slC a b))[i * 4 + j]? = (slC a b l[i])[j]?
  | [], i, j, hi, _ => by simp at hi
  | x :: l, 0, j, _, hj => by rw [List.flatMap_cons, Nat.zero_mul, Nat.zero_add, List.getElem?_append_left (by exact hj)]; rfl
  | x :: l, i + 1, j, hi, hj => by
    rw [List.flatMap_cons, List.getElem?_append_right (by show 4 ≤ _; omega)]
    rw [show (i + 1) * 4 + j - (slC a b x).length = i * 4 + j by show (i + 1) * 4 + j - 4 = _; omega]
    exact sl_get a b l i j (by simpa using hi) hj
theorem pc_at {w : World} {p : Pc} {S : Hp} (h : Sat w (pcHp p * S)) (k : Nat) : w.cell? ⟨p.pb, k, none⟩ = (pcL p)[k]? := by
  have h1 := (h.perm (show _ = pts p.pb (pcO p) * ((pts p.fx (.cells #[pp p.fb] 26 (0, 0)) * pts p.tx (.cells #[pp p.tb] 28 (0, 0))) * S) by unfold pcHp; ac_rfl)).get
  rw [cell_at h1]
  exact List.getElem?_toArray
theorem pc_free {w : World} {p : Pc} {S : Hp} (h : Sat w (pcHp p * S)) (k : Nat) : w.frozen? ⟨p.pb, k, none⟩ = false :=
  free_at (h.perm (show _ = pts p.pb (pcO p) * ((pts p.fx (.cells #[pp p.fb] 26 (0, 0)) * pts p.tx (.cells #[pp p.tb] 28 (0, 0))) * S) by unfold pcHp; ac_rfl)).get k
/-- What stands in an fd's slot. -/
theorem pc_fd {w : World} {p : Pc} {S : Hp} (h : Sat w (pcHp p * S)) (i : Nat) (hi : i < p.fds.length) : w.cell? ⟨p.pb, 3 + i * 4, none⟩ = some (.int .i64 p.fds[i].has) ∧ w.cell? ⟨p.pb, 3 + i * 4 + 1, none⟩ = some (.int .i64 p.fds[i].mark) ∧ w.cell? ⟨p.pb, 3 + i * 4 + 2, none⟩ = some (fRef p.tx) ∧ w.cell? ⟨p.pb, 3 + i * 4 + 3, none⟩ = some (fUnref p.tx) := by
  have key : ∀ j, j < 4 → w.cell? ⟨p.pb, 3 + i * 4 + j, none⟩ = (slC (fRef p.tx) (fUnref p.tx) p.fds[i])[j]? := fun j hj => by
    rw [pc_at h]
    unfold pcL
    rw [List.getElem?_append_right (by show 3 ≤ _; omega)]
    rw [show 3 + i * 4 + j - [pp p.fb, pp p.tb, pp p.lb].length = i * 4 + j by show 3 + i * 4 + j - 3 = _; omega]
    rw [List.getElem?_append_left (by rw [sl_flat]; omega)]
    exact sl_get _ _ _ _ _ hi hj
  exact ⟨key 0 (by omega), key 1 (by omega), key 2 (by omega), key 3 (by omega)⟩
theorem pc_heads {w : World} {p : Pc} {S : Hp} (h : Sat w (pcHp p * S)) : w.cell? ⟨p.pb, 0, none⟩ = some (pp p.fb) ∧ w.cell? ⟨p.pb, 1, none⟩ = some (pp p.tb) ∧ w.cell? ⟨p.pb, 2, none⟩ = some (pp p.lb) :=
  ⟨by rw [pc_at h]; rfl, by rw [pc_at h]; rfl, by rw [pc_at h]; rfl⟩
theorem pc_tail {w : World} {p : Pc} {S : Hp} (h : Sat w (pcHp p * S)) (h16 : p.fds.length = 16) : w.cell? ⟨p.pb, 67, none⟩ = some (.int .i64 p.dir.has) ∧ w.cell? ⟨p.pb, 68, none⟩ = some (.int .i64 p.dir.mark) ∧ w.cell? ⟨p.pb, 69, none⟩ = some (fHold p.fx) ∧ w.cell? ⟨p.pb, 70, none⟩ = some (fDrop p.fx) ∧
    w.cell? ⟨p.pb, 71, none⟩ = some (.int .i64 p.mask.has) ∧ w.cell? ⟨p.pb, 72, none⟩ = some (.int .i64 p.mask.mark) ∧ w.cell? ⟨p.pb, 73, none⟩ = some fNone ∧ w.cell? ⟨p.pb, 74, none⟩ = some fNone := by
  have key : ∀ j, w.cell? ⟨p.pb, 67 + j, none⟩ = (slC (fHold p.fx) (fDrop p.fx) p.dir ++ slC fNone fNone p.mask)[j]? := fun j => by
    rw [pc_at h]
    unfold pcL
    rw [List.getElem?_append_right (by show 3 ≤ _; omega), List.getElem?_append_right (by rw [sl_flat, h16]; show 64 ≤ 67 + j - 3; omega)]
    congr 1
    rw [sl_flat, h16]
    show 67 + j - 3 - 64 = j
    omega
  exact ⟨key 0, key 1, key 2, key 3, key 4, key 5, key 6, key 7⟩
set_option maxRecDepth 100000 in
theorem at_bad (pb : Nat) (fd : Int) (hf : fd < 0 ∨ 16 ≤ fd) (w : World) : Calls Tryz.prog 55 #[pp pb, .int .i64 fd] w fun e w' => e = .returned (.tuple #[nilP, .int .i64 18]) ∧ w = w' := by
  by_cases h0 : fd < 0
  · clear hf
    go_enter Tryz.func55, Tryz.ntmps55
    go_wp2_with fail
    go_ret2
    exact ⟨rfl, rfl⟩
  · have h1 : (16 : Int) ≤ fd := by omega
    clear hf
    go_enter Tryz.func55, Tryz.ntmps55
    go_wp2_with fail
    go_ret2
    exact ⟨rfl, rfl⟩
set_option maxRecDepth 100000 in
theorem at_calls (pb i : Nat) (hi : i < 16) (w : World) : Calls Tryz.prog 55 #[pp pb, .int .i64 (i : Int)] w fun e w' => e = .returned (.tuple #[.pointer (some ⟨pb, 3 + i * 4, none⟩), .int .i64 0]) ∧ w = w' := by
  have h0 : ¬ (i : Int) < 0 := by omega
  have h1 : (i : Int) < 16 := by omega
  have h2 : (0 : Int) ≤ (i : Int) := by omega
  go_enter Tryz.func55, Tryz.ntmps55
  go_wp2_with fail
  go_ret2
  exact ⟨rfl, rfl⟩
end Go.Proofs.YteienbdbhnikbaaGreatDoor.Pr

namespace Go.Proofs.YteienbdbhnikbaaGreatDoor.Pr
open Go.RowKit Go.Proofs.YteienbdbhnikbaaGreatDoor Go.Proofs.YteienbdbhnikbaaGreatDoor.Hp
set_option linter.unusedVariables false
attribute [local go_sem] Oper.semAt_some

set_option maxRecDepth 100000 in
theorem open_bad (pb : Nat) (fd : Int) (hf : fd < 0 ∨ 16 ≤ fd) (w : World) : Calls Tryz.prog 53 #[pp pb, .int .i64 fd] w fun e w' => e = .returned (.tuple #[nilP, .int .i64 18]) ∧ w = w' := by
  have HA := Lib.hid (at_bad pb fd hf w)
  clear hf
  go_enter Tryz.func53, Tryz.ntmps53
  go_wp2_with fail
  refine HA.out.mono ?_
  rintro e w1 ⟨rfl, rfl⟩
  go_wp2_with fail
  go_ret2
  exact ⟨rfl, rfl⟩
set_option maxRecDepth 100000 in
/-- An fd's slot; 18 where it is not open. -/
theorem open_calls (p : Pc) (i : Nat) (hi : i < 16) (h16 : p.fds.length = 16) (w : World) (S : Hp) (h : Sat w (pcHp p * S)) :
    Calls Tryz.prog 53 #[pp p.pb, .int .i64 (i : Int)] w fun e w' => e = .returned (.tuple #[.pointer (some ⟨p.pb, 3 + i * 4, none⟩), .int .i64 (if (p.fds[i]'(by omega)).has = 0 then 18 else 0)]) ∧ w = w' := by
  have HA := Lib.hid (at_calls p.pb i hi w)
  obtain ⟨c0, -⟩ := pc_fd h i (by omega)
  obtain ⟨x, hx⟩ : ∃ x, x = (p.fds[i]'(by omega)).has := ⟨_, rfl⟩
  rw [← hx] at c0 ⊢
  clear h hx
  by_cases hz : x = 0
  · subst hz
    rw [if_pos rfl]
    go_enter Tryz.func53, Tryz.ntmps53
    go_wp2_with fail
    refine HA.out.mono ?_
    rintro e w1 ⟨rfl, rfl⟩
    go_wp2_with fail
    go_ret2
    exact ⟨rfl, rfl⟩
  · rw [if_neg hz]
    go_enter Tryz.func53, Tryz.ntmps53
    go_wp2_with fail
    refine HA.out.mono ?_
    rintro e w1 ⟨rfl, rfl⟩
    go_wp2_with fail
    go_ret2
    exact ⟨rfl, rfl⟩
/-- What an fd has; 0 where it is none. -/
def hasP (p : Pc) (fd : Int) : Int := if 0 ≤ fd ∧ fd < 16 then (p.fds.getD fd.toNat ⟨0, 0⟩).has else 0
set_option maxRecDepth 100000 in
theorem Handle_calls (p : Pc) (fd : Int) (h16 : p.fds.length = 16) (w : World) (S : Hp) (h : Sat w (pcHp p * S)) :
    Calls Tryz.prog 13 #[pp p.pb, .int .i64 fd] w fun e w' => e = .returned (.tuple #[.int .i64 (hasP p fd), .bool (!decide (hasP p fd = 0))]) ∧ w = w' := by
  unfold hasP
  by_cases hr : 0 ≤ fd ∧ fd < 16
  · rw [if_pos hr]
    obtain ⟨i, rfl⟩ : ∃ i : Nat, fd = i := ⟨fd.toNat, by omega⟩
    have hi : i < 16 := by omega
    have HO := open_calls p i hi h16 w S h
    obtain ⟨c0, -⟩ := pc_fd h i (by omega)
    rw [Int.toNat_natCast, List.getD_eq_getElem?_getD, List.getElem?_eq_getElem (by omega), Option.getD_some]
    obtain ⟨x, hx⟩ : ∃ x, x = (p.fds[i]'(by omega)).has := ⟨_, rfl⟩
    rw [← hx] at c0 HO ⊢
    clear h hx hr
    by_cases hz : x = 0
    · subst hz
      rw [if_pos rfl] at HO
      have HO := Lib.hid HO
      go_enter Tryz.func13, Tryz.ntmps13
      go_wp2_with fail
      refine HO.out.mono ?_
      rintro e w1 ⟨rfl, rfl⟩
      go_wp2_with fail
      go_ret2
      exact ⟨rfl, rfl⟩
    · rw [if_neg hz] at HO
      rw [decide_eq_false hz]
      have HO := Lib.hid HO
      go_enter Tryz.func13, Tryz.ntmps13
      go_wp2_with fail
      refine HO.out.mono ?_
      rintro e w1 ⟨rfl, rfl⟩
      go_wp2_with fail
      go_ret2
      exact ⟨rfl, rfl⟩
  · rw [if_neg hr]
    have HO := Lib.hid (open_bad p.pb fd (by omega) w)
    clear h hr
    go_enter Tryz.func13, Tryz.ntmps13
    go_wp2_with fail
    refine HO.out.mono ?_
    rintro e w1 ⟨rfl, rfl⟩
    go_wp2_with fail
    go_ret2
    exact ⟨rfl, rfl⟩
set_option maxRecDepth 100000 in
theorem Dir_calls (p : Pc) (h16 : p.fds.length = 16) (w : World) (S : Hp) (h : Sat w (pcHp p * S)) :
    Calls Tryz.prog 15 #[pp p.pb] w fun e w' => e = .returned (.int .i64 p.dir.has) ∧ w = w' := by
  obtain ⟨c0, -⟩ := pc_tail h h16
  clear h
  go_enter Tryz.func15, Tryz.ntmps15
  go_wp2_with fail
  go_ret
  exact ⟨rfl, rfl⟩
set_option maxRecDepth 100000 in
theorem Mask_calls (p : Pc) (h16 : p.fds.length = 16) (w : World) (S : Hp) (h : Sat w (pcHp p * S)) :
    Calls Tryz.prog 16 #[pp p.pb] w fun e w' => e = .returned (.int .i64 p.mask.has) ∧ w = w' := by
  obtain ⟨-, -, -, -, c0, -⟩ := pc_tail h h16
  clear h
  go_enter Tryz.func16, Tryz.ntmps16
  go_wp2_with fail
  go_ret
  exact ⟨rfl, rfl⟩
end Go.Proofs.YteienbdbhnikbaaGreatDoor.Pr

namespace Go.Proofs.YteienbdbhnikbaaGreatDoor.Pr
open Go.RowKit Go.Proofs.YteienbdbhnikbaaGreatDoor Go.Proofs.YteienbdbhnikbaaGreatDoor.Hp
set_option linter.unusedVariables false
attribute [local go_sem] Oper.semAt_some

theorem run_store_func (P : Program) (w : World) (a : Addr) (m : Mode) (f : Fn) (ts cs : Array Value) : (store a (.func f ts cs) m).run P w = stored P w a (.func f ts cs) m := run_store P w a _ m rfl
attribute [local go_sem] run_store_func
def zsl : List Value := [.int .i64 0, .int .i64 0, .nilFunc, .nilFunc]
def gsl (tx : Nat) : List Value := slC (fRef tx) (fUnref tx) ⟨0, 0⟩
/-- A process whose first i slots are laid. -/
def npL (fb tb lb fx tx i : Nat) : List Value := ([pp fb, pp tb, pp lb] ++ (List.replicate i (gsl tx)).flatten) ++ ((List.replicate (16 - i) zsl).flatten ++ (slC (fHold fx) (fDrop fx) ⟨1, 0⟩ ++ slC fNone fNone ⟨18, 0⟩))
theorem flat_rep (n : Nat) (l : List Value) : ((List.replicate n l).flatten).length = n * l.length := by
  induction n with
  | zero => simp
  | succ n ih => rw [List.replicate_succ, List.flatten_cons, List.length_append, ih, Nat.succ_mul]; omega
theorem set4 (A B : List Value) (k : Nat) (hk : A.length = k) (a b c d v0 v1 v2 v3 : Value) : ((((A ++ (a :: b :: c :: d :: B)).set k v0).set (k + 1) v1).set (k + 2) v2).set (k + 3) v3 = A ++ (v0 :: v1 :: v2 :: v3 :: B) := by
  subst hk
  rw [List.set_append_right _ _ (Nat.le_refl _), List.set_append_right _ _ (by omega), List.set_append_right _ _ (by omega), List.set_append_right _ _ (by omega)]
  simp
theorem np_set (fb tb lb fx tx i : Nat) (hi : i < 16) : ((((npL fb tb lb fx tx i).set (3 + i * 4) (.int .i64 0)).set (3 + i * 4 + 1) (.int .i64 0)).set (3 + i * 4 + 2) (fRef tx)).set (3 + i * 4 + 3) (fUnref tx) = npL fb tb lb fx tx (i + 1) := by
  have hlen : ([pp fb, pp tb, pp lb] ++ (List.replicate i (gsl tx)).flatten).length = 3 + i * 4 := by
    rw [List.length_append, flat_rep]; rfl
  unfold npL
  obtain ⟨k, hk⟩ : ∃ k, 16 - i = k + 1 := ⟨15 - i, by omega⟩
  rw [hk, List.replicate_succ, List.flatten_cons, show 16 - (i + 1) = k by omega]
  show ((((_ ++ (Value.int .i64 0 :: Value.int .i64 0 :: Value.nilFunc :: Value.nilFunc :: ((List.replicate k zsl).flatten ++ (slC (fHold fx) (fDrop fx) ⟨1, 0⟩ ++ slC fNone fNone ⟨18, 0⟩)))).set _ _).set _ _).set _ _).set _ _ = _
  rw [set4 _ _ _ hlen]
  rw [List.replicate_succ', List.flatten_append]
  simp [gsl, slC]
theorem np_end (fb tb lb fx tx pb : Nat) : npL fb tb lb fx tx 16 = pcL ⟨pb, fb, tb, lb, fx, tx, List.replicate 16 ⟨0, 0⟩, ⟨1, 0⟩, ⟨18, 0⟩⟩ := by rfl
def zL (fb tb lb : Nat) : List Value := ([pp fb, pp tb, pp lb] ++ (List.replicate 16 zsl).flatten) ++ (zsl ++ zsl)
theorem zero_eq (fb tb lb : Nat) : ((Tryz.zeroCells89.setIfInBounds 0 (pp fb)).setIfInBounds 1 (pp tb)).setIfInBounds 2 (pp lb) = (zL fb tb lb).toArray := by kernel_rfl
theorem z_len (fb tb lb : Nat) : ([pp fb, pp tb, pp lb] ++ (List.replicate 16 zsl).flatten).length = 67 := by rw [List.length_append, flat_rep]; rfl
theorem z_set (fb tb lb fx tx : Nat) (v0 v1 v2 v3 u0 u1 u2 u3 : Value) (h0 : [v0, v1, v2, v3] = slC (fHold fx) (fDrop fx) ⟨1, 0⟩) (h1 : [u0, u1, u2, u3] = slC fNone fNone ⟨18, 0⟩) :
    (((((((((zL fb tb lb).set 67 v0).set 68 v1).set 69 v2).set 70 v3).set 71 u0).set 72 u1).set 73 u2).set 74 u3) = npL fb tb lb fx tx 0 := by
  have e1 : ((((zL fb tb lb).set 67 v0).set 68 v1).set 69 v2).set 70 v3 = ([pp fb, pp tb, pp lb] ++ (List.replicate 16 zsl).flatten) ++ (v0 :: v1 :: v2 :: v3 :: zsl) := set4 _ _ 67 (z_len fb tb lb) _ _ _ _ _ _ _ _
  rw [e1]
  have e2 : ([pp fb, pp tb, pp lb] ++ (List.replicate 16 zsl).flatten) ++ (v0 :: v1 :: v2 :: v3 :: zsl) = (([pp fb, pp tb, pp lb] ++ (List.replicate 16 zsl).flatten) ++ [v0, v1, v2, v3]) ++ (Value.int .i64 0 :: Value.int .i64 0 :: Value.nilFunc :: Value.nilFunc :: []) := by rw [List.append_assoc]; rfl
  rw [e2, set4 _ _ 71 (by rw [List.length_append, z_len]; rfl)]
  rw [h0]
  show _ ++ [u0, u1, u2, u3] = _
  rw [h1]
  unfold npL
  simp
set_option maxRecDepth 100000 in
/-- What holds a node. -/
theorem fhold_calls (fx fb : Nat) (n : Int) (w : World) (Q : World → Prop) (hb : w.cell? ⟨fx, 0, none⟩ = some (pp fb)) (HH : Calls Tryz.prog 46 #[pp fb, .int .i64 n] w fun e w' => ∃ v, e = .returned v ∧ Q w') :
    Calls Tryz.prog 45 #[.int .i64 n, pp fx] w fun e w' => e = .returned (.tuple #[]) ∧ Q w' := by
  have HH := Lib.hid HH
  go_enter Tryz.func45, Tryz.ntmps45
  go_wp2_with fail
  refine HH.out.mono ?_
  rintro e w1 ⟨v, rfl, hQ⟩
  have hQ := Lib.hid hQ
  go_wp2_with fail
  go_end0
  exact ⟨rfl, hQ.out⟩
theorem np_at (fb tb lb fx tx i : Nat) (hi : i < 16) : (npL fb tb lb fx tx i)[3 + i * 4]? = some (.int .i64 0) ∧ (npL fb tb lb fx tx i)[3 + i * 4 + 1]? = some (.int .i64 0) ∧ (npL fb tb lb fx tx i)[3 + i * 4 + 2]? = some .nilFunc ∧ (npL fb tb lb fx tx i)[3 + i * 4 + 3]? = some .nilFunc := by
  have hlen : ([pp fb, pp tb, pp lb] ++ (List.replicate i (gsl tx)).flatten).length = 3 + i * 4 := by
    rw [List.length_append, flat_rep]; rfl
  have key : ∀ j, j < 4 → (npL fb tb lb fx tx i)[3 + i * 4 + j]? = zsl[j]? := fun j hj => by
    unfold npL
    rw [List.getElem?_append_right (by rw [hlen]; omega), hlen, show 3 + i * 4 + j - (3 + i * 4) = j by omega]
    obtain ⟨k, hk⟩ : ∃ k, 16 - i = k + 1 := ⟨15 - i, by omega⟩
    rw [hk, List.replicate_succ, List.flatten_cons, List.append_assoc, List.getElem?_append_left (by exact hj)]
  exact ⟨key 0 (by omega), key 1 (by omega), key 2 (by omega), key 3 (by omega)⟩
set_option maxRecDepth 100000 in
set_option maxHeartbeats 4000000 in
theorem New_calls (fb tb lb : Nat) (P P' : Hp) (w : World) (R : Hp)
    (HH : ∀ W S, Sat W (P * S) → Calls Tryz.prog 46 #[pp fb, .int .i64 1] W fun e w' => (∃ v, e = .returned v ∧ Sat w' (P' * S)) ∧ Ran W w') (h : Sat w (P * R)) :
    Calls Tryz.prog 12 #[pp fb, pp tb, pp lb] w fun e w' => (∃ p : Pc, e = .returned (.tuple #[pp p.pb, .int .i64 0]) ∧ p.fb = fb ∧ p.tb = tb ∧ p.lb = lb ∧ p.fds = List.replicate 16 ⟨0, 0⟩ ∧ p.dir = ⟨1, 0⟩ ∧ p.mask = ⟨18, 0⟩ ∧ Sat w' (pcHp p * (P' * R))) ∧ Ran w w' := by
  have S0 := (h.alloc (.cells #[pp fb] 26 (0, 0))).alloc (.cells #[pp tb] 28 (0, 0))
  have R0 := Ran.new (Ran.new (Below.refl 0 w) (.cells #[pp fb] 26 (0, 0))) (.cells #[pp tb] 28 (0, 0))
  rw [show (w.alloc (.cells #[pp fb] 26 (0, 0))).heap.size = w.heap.size + 1 from Array.size_push ..] at S0
  obtain ⟨fx, hfx⟩ : ∃ x, x = w.heap.size := ⟨_, rfl⟩
  obtain ⟨tx, htx⟩ : ∃ x, x = w.heap.size + 1 := ⟨_, rfl⟩
  obtain ⟨w1, hw1⟩ : ∃ w1, w1 = (w.alloc (.cells #[pp fb] 26 (0, 0))).alloc (.cells #[pp tb] 28 (0, 0)) := ⟨_, rfl⟩
  rw [← hw1, ← htx, ← hfx] at S0
  rw [← hw1] at R0
  have k1 : w1.cell? ⟨tx, 0, none⟩ = some (pp tb) := by rw [cell_at S0.get]; rfl
  have k0 : w1.cell? ⟨fx, 0, none⟩ = some (pp fb) := by rw [cell_at S0.right.get]; rfl
  have S1 := S0.alloc (.cells (((Tryz.zeroCells89.setIfInBounds 0 (pp fb)).setIfInBounds 1 (pp tb)).setIfInBounds 2 (pp lb)) 89 (0, 0))
  have R1 := Ran.new R0 (.cells (((Tryz.zeroCells89.setIfInBounds 0 (pp fb)).setIfInBounds 1 (pp tb)).setIfInBounds 2 (pp lb)) 89 (0, 0))
  obtain ⟨pb, hpb⟩ : ∃ x, x = w1.heap.size := ⟨_, rfl⟩
  obtain ⟨w2, hw2⟩ : ∃ w2, w2 = w1.alloc (.cells (((Tryz.zeroCells89.setIfInBounds 0 (pp fb)).setIfInBounds 1 (pp tb)).setIfInBounds 2 (pp lb)) 89 (0, 0)) := ⟨_, rfl⟩
  rw [← hw2, ← hpb, zero_eq] at S1
  rw [← hw2] at R1
  have fz : ∀ i, w2.frozen? ⟨pb, i, none⟩ = false := fun i => free_at S1.get i
  have q67 : w2.cell? ⟨pb, 67, none⟩ = some (.int .i64 0) := by rw [cell_at S1.get]; rfl
  have q68 : w2.cell? ⟨pb, 68, none⟩ = some (.int .i64 0) := by rw [cell_at S1.get]; rfl
  have q69 : w2.cell? ⟨pb, 69, none⟩ = some (.nilFunc) := by rw [cell_at S1.get]; rfl
  have q70 : w2.cell? ⟨pb, 70, none⟩ = some (.nilFunc) := by rw [cell_at S1.get]; rfl
  have q71 : w2.cell? ⟨pb, 71, none⟩ = some (.int .i64 0) := by rw [cell_at S1.get]; rfl
  have q72 : w2.cell? ⟨pb, 72, none⟩ = some (.int .i64 0) := by rw [cell_at S1.get]; rfl
  have q73 : w2.cell? ⟨pb, 73, none⟩ = some (.nilFunc) := by rw [cell_at S1.get]; rfl
  have q74 : w2.cell? ⟨pb, 74, none⟩ = some (.nilFunc) := by rw [cell_at S1.get]; rfl
  obtain ⟨w3, hw3⟩ : ∃ w3, w3 = ((((((((w2.setCell ⟨pb, 67, none⟩ (.int .i64 1)).setCell ⟨pb, 68, none⟩ (.int .i64 0)).setCell ⟨pb, 69, none⟩ (.func (.func 45) #[] #[pp fx])).setCell ⟨pb, 70, none⟩ (.func (.func 47) #[] #[pp fx])).setCell ⟨pb, 71, none⟩ (.int .i64 18)).setCell ⟨pb, 72, none⟩ (.int .i64 0)).setCell ⟨pb, 73, none⟩ (.func (.func 44) #[] #[])).setCell ⟨pb, 74, none⟩ (.func (.func 44) #[] #[])) := ⟨_, rfl⟩
  have S2 := (((((((S1.setL (i := 67) (.int .i64 1)).setL (i := 68) (.int .i64 0)).setL (i := 69) (.func (.func 45) #[] #[pp fx])).setL (i := 70) (.func (.func 47) #[] #[pp fx])).setL (i := 71) (.int .i64 18)).setL (i := 72) (.int .i64 0)).setL (i := 73) (.func (.func 44) #[] #[])).setL (i := 74) (.func (.func 44) #[] #[])
  have R2 := Ran.set (Ran.set (Ran.set (Ran.set (Ran.set (Ran.set (Ran.set (Ran.set R1 ⟨pb, 67, none⟩ (.int .i64 1)) ⟨pb, 68, none⟩ (.int .i64 0)) ⟨pb, 69, none⟩ (.func (.func 45) #[] #[pp fx])) ⟨pb, 70, none⟩ (.func (.func 47) #[] #[pp fx])) ⟨pb, 71, none⟩ (.int .i64 18)) ⟨pb, 72, none⟩ (.int .i64 0)) ⟨pb, 73, none⟩ (.func (.func 44) #[] #[])) ⟨pb, 74, none⟩ (.func (.func 44) #[] #[])
  rw [← hw3] at S2 R2
  rw [z_set fb tb lb fx tx (.int .i64 1) (.int .i64 0) (.func (.func 45) #[] #[pp fx]) (.func (.func 47) #[] #[pp fx]) (.int .i64 18) (.int .i64 0) (.func (.func 44) #[] #[]) (.func (.func 44) #[] #[]) rfl rfl] at S2
  have S2 : Sat w3 (pts pb (.cells (npL fb tb lb fx tx 0).toArray 89 (0, 0)) * (pts tx (.cells #[pp tb] 28 (0, 0)) * (pts fx (.cells #[pp fb] 26 (0, 0)) * (P * R)))) := S2
  have S2 := Lib.hid S2
  have R2 := Lib.hid R2
  have HH := Lib.hid HH
  clear h S0 R0 S1 R1
  go_enter Tryz.func12, Tryz.ntmps12
  go_upto_region 1 with fail
  rw [← hw1, ← htx, ← hfx]
  clear hw1 hfx htx
  go_upto_region 7 with fail
  rw [← hw2, ← hpb]
  clear hw2 hpb
  go_upto_region 11 with fail
  rw [← hw3]
  clear hw3 fz q67 q68 q69 q70 q71 q72 q73 q74
  go_wp2_with fail
  go_loopg [46] (16) (fun (g : Nat) (iv : Value) (wr : World) => ∃ i : Nat, i + g = 16 ∧ iv = .int .i64 (i : Int) ∧ Sat wr (pts pb (.cells (npL fb tb lb fx tx i).toArray 89 (0, 0)) * (pts tx (.cells #[pp tb] 28 (0, 0)) * (pts fx (.cells #[pp fb] 26 (0, 0)) * (P * R)))) ∧ Ran w wr)
  case atStart => exact ⟨0, by omega, rfl, S2.out, R2.out⟩
  case round =>
    clear S2 R2 k0 k1
    obtain ⟨i, hik, rfl, HS, HR⟩ := hrel
    have hi0 : (0 : Int) ≤ (i : Int) := by omega
    have Hik := Lib.hid hik
    by_cases hi : i < 16
    · have hlt : (i : Int) < 16 := by omega
      obtain ⟨a0, a1, a2, a3⟩ := np_at fb tb lb fx tx i hi
      have key : ∀ k v, (npL fb tb lb fx tx i)[k]? = some v → wr.cell? ⟨pb, k, none⟩ = some v := fun k v h => by rw [cell_at HS.get]; rw [List.getElem?_toArray]; exact h
      have c0 := key _ _ a0
      have c1 := key _ _ a1
      have c2 := key _ _ a2
      have c3 := key _ _ a3
      have fz : ∀ i, wr.frozen? ⟨pb, i, none⟩ = false := fun i => free_at HS.get i
      have HS4 := (((HS.setL (i := 3 + i * 4) (.int .i64 0)).setL (i := 3 + i * 4 + 1) (.int .i64 0)).setL (i := 3 + i * 4 + 2) (fRef tx)).setL (i := 3 + i * 4 + 3) (fUnref tx)
      rw [np_set fb tb lb fx tx i hi] at HS4
      have HS4 := Lib.hid HS4
      have HR4 := Lib.hid (Ran.set (Ran.set (Ran.set (Ran.set HR ⟨pb, 3 + i * 4, none⟩ (.int .i64 0)) ⟨pb, 3 + i * 4 + 1, none⟩ (.int .i64 0)) ⟨pb, 3 + i * 4 + 2, none⟩ (fRef tx)) ⟨pb, 3 + i * 4 + 3, none⟩ (fUnref tx))
      clear HS HR hik a0 a1 a2 a3 key
      go_wp2_with fail
      go_roundg (gk - 1)
      case measure => have := Hik.out; omega
      case rel => exact ⟨i + 1, by have := Hik.out; omega, rfl, HS4.out, HR4.out⟩
    · have h16 : i = 16 := by omega
      subst h16
      have k0 : wr.cell? ⟨fx, 0, none⟩ = some (pp fb) := by rw [cell_at HS.right.right.get]; rfl
      rw [np_end fb tb lb fx tx pb] at HS
      have HF := Lib.hid (fhold_calls fx fb 1 wr _ k0 ((HH.out wr _ (HS.perm (show _ = P * (pts pb (pcO ⟨pb, fb, tb, lb, fx, tx, List.replicate 16 ⟨0, 0⟩, ⟨1, 0⟩, ⟨18, 0⟩⟩) * (pts tx (.cells #[pp tb] 28 (0, 0)) * (pts fx (.cells #[pp fb] 26 (0, 0)) * R))) by unfold pcO; ac_rfl))).mono fun e w' ⟨⟨v, h1, h2⟩, h3⟩ => ⟨v, h1, And.intro h2 h3⟩))
      have HR := Lib.hid HR
      clear HS hik hi k0
      go_wp2_with fail
      refine HF.out.mono ?_
      rintro e w9 ⟨rfl, h8, h9⟩
      have hA := Lib.hid (And.intro (h8.perm (show _ = pcHp ⟨pb, fb, tb, lb, fx, tx, List.replicate 16 ⟨0, 0⟩, ⟨1, 0⟩, ⟨18, 0⟩⟩ * (P' * R) by unfold pcHp; dsimp only; ac_rfl)) (Below.trans HR.out h9))
      clear HF h8 h9 HR
      go_wp2_with fail
      go_ret2
      exact ⟨⟨⟨pb, fb, tb, lb, fx, tx, List.replicate 16 ⟨0, 0⟩, ⟨1, 0⟩, ⟨18, 0⟩⟩, rfl, rfl, rfl, rfl, rfl, rfl, rfl, hA.out.1⟩, hA.out.2⟩
end Go.Proofs.YteienbdbhnikbaaGreatDoor.Pr

namespace Go.Proofs.YteienbdbhnikbaaGreatDoor.Pr
open Go.RowKit Go.Proofs.YteienbdbhnikbaaGreatDoor Go.Proofs.YteienbdbhnikbaaGreatDoor.Hp
set_option linter.unusedVariables false
attribute [local go_sem] Oper.semAt_some
attribute [local go_sem] run_store_func

set_option maxRecDepth 100000 in
theorem fnone_calls (n : Int) (w : World) : Calls Tryz.prog 44 #[.int .i64 n] w fun e w' => e = .returned (.tuple #[]) ∧ w = w' := by
  go_enter Tryz.func44, Tryz.ntmps44
  go_wp2_with fail
  go_end0
  exact ⟨rfl, rfl⟩
set_option maxRecDepth 100000 in
theorem fdrop_calls (fx fb : Nat) (n : Int) (w : World) (Q : World → Prop) (hb : w.cell? ⟨fx, 0, none⟩ = some (pp fb)) (HH : Calls Tryz.prog 48 #[pp fb, .int .i64 n] w fun e w' => ∃ v, e = .returned v ∧ Q w') :
    Calls Tryz.prog 47 #[.int .i64 n, pp fx] w fun e w' => e = .returned (.tuple #[]) ∧ Q w' := by
  have HH := Lib.hid HH
  go_enter Tryz.func47, Tryz.ntmps47
  go_wp2_with fail
  refine HH.out.mono ?_
  rintro e w1 ⟨v, rfl, hQ⟩
  have hQ := Lib.hid hQ
  go_wp2_with fail
  go_end0
  exact ⟨rfl, hQ.out⟩
set_option maxRecDepth 100000 in
theorem fref_calls (tx tb : Nat) (n : Int) (w : World) (Q : World → Prop) (hb : w.cell? ⟨tx, 0, none⟩ = some (pp tb)) (h0 : n ≤ 0 → Q w) (HH : 0 < n → Calls Tryz.prog 50 #[pp tb, .int .i64 n] w fun e w' => ∃ v, e = .returned v ∧ Q w') :
    Calls Tryz.prog 49 #[.int .i64 n, pp tx] w fun e w' => e = .returned (.tuple #[]) ∧ Q w' := by
  by_cases hn : 0 < n
  · have HH := Lib.hid (HH hn)
    clear h0
    go_enter Tryz.func49, Tryz.ntmps49
    go_wp2_with fail
    refine HH.out.mono ?_
    rintro e w1 ⟨v, rfl, hQ⟩
    have hQ := Lib.hid hQ
    go_wp2_with fail
    go_end0
    exact ⟨rfl, hQ.out⟩
  · have hq := Lib.hid (h0 (by omega))
    clear h0 HH
    go_enter Tryz.func49, Tryz.ntmps49
    go_wp2_with fail
    go_end0
    exact ⟨rfl, hq.out⟩
set_option maxRecDepth 100000 in
theorem funref_calls (tx tb : Nat) (n : Int) (w : World) (Q : World → Prop) (hb : w.cell? ⟨tx, 0, none⟩ = some (pp tb)) (h0 : n ≤ 0 → Q w) (HH : 0 < n → Calls Tryz.prog 52 #[pp tb, .int .i64 n] w fun e w' => ∃ v, e = .returned v ∧ Q w') :
    Calls Tryz.prog 51 #[.int .i64 n, pp tx] w fun e w' => e = .returned (.tuple #[]) ∧ Q w' := by
  by_cases hn : 0 < n
  · have HH := Lib.hid (HH hn)
    clear h0
    go_enter Tryz.func51, Tryz.ntmps51
    go_wp2_with fail
    refine HH.out.mono ?_
    rintro e w1 ⟨v, rfl, hQ⟩
    have hQ := Lib.hid hQ
    go_wp2_with fail
    go_end0
    exact ⟨rfl, hQ.out⟩
  · have hq := Lib.hid (h0 (by omega))
    clear h0 HH
    go_enter Tryz.func51, Tryz.ntmps51
    go_wp2_with fail
    go_end0
    exact ⟨rfl, hq.out⟩
/-- What a slot has, turned. -/
def Pc.has (p : Pc) (i : Nat) (n : Int) : Pc := { p with fds := p.fds.set i { p.fds.getD i ⟨0, 0⟩ with has := n } }
theorem flat_set (a b : Value) (n : Int) : ∀ (l : List Sl) (i : Nat), i < l.length → (l.flatMap (slC a b)).set (i * 4) (.int .i64 n) = (l.set i { l.getD i ⟨0, 0⟩ with has := n }).flatMap (slC a b)
  | [], i, h => by simp at h
  | x :: l, 0, _ => rfl
  | x :: l, i + 1, h => by
    rw [List.flatMap_cons, List.set_append_right _ _ (by show 4 ≤ _; omega)]
    rw [show (i + 1) * 4 - (slC a b x).length = i * 4 by show (i + 1) * 4 - 4 = _; omega]
    rw [flat_set a b n l i (by simpa using h)]
    rfl
theorem pcL_has (p : Pc) (i : Nat) (n : Int) (hi : i < p.fds.length) : (pcL p).set (3 + i * 4) (.int .i64 n) = pcL (p.has i n) := by
  unfold pcL
  rw [List.set_append_right _ _ (by show 3 ≤ _; omega)]
  rw [show 3 + i * 4 - [pp p.fb, pp p.tb, pp p.lb].length = i * 4 by show 3 + i * 4 - 3 = _; omega]
  rw [List.set_append_left _ _ (by rw [sl_flat]; omega), flat_set _ _ n p.fds i hi]
  rfl
theorem pc_has {w : World} {p : Pc} {S : Hp} (h : Sat w (pcHp p * S)) (i : Nat) (n : Int) (hi : i < p.fds.length) : Sat (w.setCell ⟨p.pb, 3 + i * 4, none⟩ (.int .i64 n)) (pcHp (p.has i n) * S) := by
  have h1 := (h.perm (show _ = pts p.pb (.cells (pcL p).toArray 89 (0, 0)) * ((pts p.fx (.cells #[pp p.fb] 26 (0, 0)) * pts p.tx (.cells #[pp p.tb] 28 (0, 0))) * S) by unfold pcHp pcO; ac_rfl)).setL (i := 3 + i * 4) (.int .i64 n)
  rw [pcL_has p i n hi] at h1
  exact h1.perm (by unfold pcHp pcO; show pts p.pb (.cells (pcL (p.has i n)).toArray 89 (0, 0)) * _ = pts p.pb (.cells (pcL (p.has i n)).toArray 89 (0, 0)) * (pts p.fx (.cells #[pp p.fb] 26 (0, 0)) * pts p.tx (.cells #[pp p.tb] 28 (0, 0))) * S; ac_rfl)
theorem pc_boxes {w : World} {p : Pc} {S : Hp} (h : Sat w (pcHp p * S)) : w.cell? ⟨p.fx, 0, none⟩ = some (pp p.fb) ∧ w.cell? ⟨p.tx, 0, none⟩ = some (pp p.tb) := by
  have h1 := h.perm (show _ = pts p.fx (.cells #[pp p.fb] 26 (0, 0)) * (pts p.tx (.cells #[pp p.tb] 28 (0, 0)) * (pts p.pb (pcO p) * S)) by unfold pcHp; ac_rfl)
  exact ⟨by rw [cell_at h1.get]; rfl, by rw [cell_at h1.right.get]; rfl⟩
end Go.Proofs.YteienbdbhnikbaaGreatDoor.Pr

namespace Go.Proofs.YteienbdbhnikbaaGreatDoor.Pr
open Go.RowKit Go.Proofs.YteienbdbhnikbaaGreatDoor Go.Proofs.YteienbdbhnikbaaGreatDoor.Hp
set_option linter.unusedVariables false
attribute [local go_sem] Oper.semAt_some
attribute [local go_sem] run_store_func

abbrev slP (pb i : Nat) : Value := .pointer (some ⟨pb, 3 + i * 4, none⟩)
set_option maxRecDepth 100000 in
set_option maxHeartbeats 4000000 in
theorem set_now (p : Pc) (i : Nat) (n m : Int) (A B C : Hp) (w : World) (R : Hp) (hi : i < 16) (h16 : p.fds.length = 16) (hm : m ≤ (p.fds[i]'(by omega)).mark)
    (HMk : ∀ W S, Sat W (A * S) → Calls Tryz.prog 17 #[pp p.lb] W fun e w' => e = .returned (.int .i64 m) ∧ W = w')
    (HT : ∀ W S, Sat W (A * (pcHp p * S)) → Calls Tryz.prog 49 #[.int .i64 n, pp p.tx] W fun e w' => e = .returned (.tuple #[]) ∧ (Sat w' (B * (pcHp p * S)) ∧ Ran W w'))
    (HD : ∀ W S, Sat W (B * (pcHp p * S)) → Calls Tryz.prog 51 #[.int .i64 (p.fds[i]'(by omega)).has, pp p.tx] W fun e w' => e = .returned (.tuple #[]) ∧ (Sat w' (C * (pcHp p * S)) ∧ Ran W w'))
    (h : Sat w (A * (pcHp p * R))) :
    Calls Tryz.prog 56 #[pp p.pb, slP p.pb i, .int .i64 n] w fun e w' => (e = .returned (.int .i64 0) ∧ Sat w' (C * (pcHp (p.has i n) * R))) ∧ Ran w w' := by
  have S1 := h.alloc (.cells #[slP p.pb i] 90 (0, 0))
  have R1 := Ran.new (Below.refl 0 w) (.cells #[slP p.pb i] 90 (0, 0))
  obtain ⟨sb, hsb⟩ : ∃ x, x = w.heap.size := ⟨_, rfl⟩
  obtain ⟨w1, hw1⟩ : ∃ w1, w1 = w.alloc (.cells #[slP p.pb i] 90 (0, 0)) := ⟨_, rfl⟩
  rw [← hw1, ← hsb] at S1
  rw [← hw1] at R1
  obtain ⟨x, hx⟩ : ∃ x, x = (p.fds[i]'(by omega)).has := ⟨_, rfl⟩
  rw [← hx] at HD
  have HC := Lib.hid (fun (W : World) (X : Hp) (hW : Sat W (pts sb (.cells #[slP p.pb i] 90 (0, 0)) * (X * (pcHp p * R)))) => (by
    have h2 := hW.perm (show _ = pcHp p * (pts sb (.cells #[slP p.pb i] 90 (0, 0)) * (X * R)) by ac_rfl)
    obtain ⟨c0, c1, c2, c3⟩ := pc_fd h2 i (by omega)
    obtain ⟨a0, a1, a2⟩ := pc_heads h2
    rw [← hx] at c0
    exact ⟨by rw [cell_at hW.get]; rfl, c0, c1, c2, c3, a2, fun k => pc_free h2 k⟩ : W.cell? ⟨sb, 0, none⟩ = some (slP p.pb i) ∧ W.cell? ⟨p.pb, 3 + i * 4, none⟩ = some (.int .i64 x) ∧ W.cell? ⟨p.pb, 3 + i * 4 + 1, none⟩ = some (.int .i64 (p.fds[i]'(by omega)).mark) ∧ W.cell? ⟨p.pb, 3 + i * 4 + 2, none⟩ = some (.func (.func 49) #[] #[pp p.tx]) ∧ W.cell? ⟨p.pb, 3 + i * 4 + 3, none⟩ = some (.func (.func 51) #[] #[pp p.tx]) ∧ W.cell? ⟨p.pb, 2, none⟩ = some (pp p.lb) ∧ ∀ k, W.frozen? ⟨p.pb, k, none⟩ = false))
  obtain ⟨mk, hmk⟩ : ∃ k, k = (p.fds[i]'(by omega)).mark := ⟨_, rfl⟩
  rw [← hmk] at hm HC
  obtain ⟨z0, c0, c1, c2, c3, a2, -⟩ := HC.out w1 A S1
  have HMw := Lib.hid (HMk w1 _ (S1.perm (show _ = A * (pts sb (.cells #[slP p.pb i] 90 (0, 0)) * (pcHp p * R)) by ac_rfl)))
  have HTw := Lib.hid (HT w1 _ (S1.perm (show _ = A * (pcHp p * (pts sb (.cells #[slP p.pb i] 90 (0, 0)) * R)) by ac_rfl)))
  have HDh := Lib.hid HD
  have R1 := Lib.hid R1
  have hil : i < p.fds.length := by omega
  clear h S1 HMk HT HD hx hmk
  go_enter Tryz.func56, Tryz.ntmps56
  go_upto_region 1 with fail
  rw [← hw1, ← hsb]
  clear hw1 hsb
  go_wp2_with fail
  refine HMw.out.mono ?_
  rintro e w2 ⟨rfl, rfl⟩
  clear HMw
  go_wp2_with fail
  refine HTw.out.mono ?_
  rintro e w3 ⟨rfl, S3, R3⟩
  have hS3 := S3.perm (show _ = pts sb (.cells #[slP p.pb i] 90 (0, 0)) * (B * (pcHp p * R)) by ac_rfl)
  clear z0 c0 c1 c2 c3 a2
  obtain ⟨z0, c0, c1, c2, c3, a2, -⟩ := HC.out w3.drew B hS3.drew
  have HDw := Lib.hid (HDh.out w3.drew _ S3.drew)
  have R3 := Lib.hid (Below.drew (Below.trans R1.out R3))
  clear S3 hS3 HTw HDh R1
  go_upto_region 4 with fail
  refine region_plan (S := (fun w' => w'.cell? ⟨sb, 0, none⟩ = some (slP p.pb i) ∧ w'.cell? ⟨p.pb, 3 + i * 4, none⟩ = some (.int .i64 x) ∧ w'.cell? ⟨p.pb, 3 + i * 4 + 3, none⟩ = some (.func (.func 51) #[] #[pp p.tx]))) [(0, true), (1, true), (2, true), (3, true), (4, true), (5, true), (6, true), (7, true), (8, false)] (by kernel_rfl) (by kernel_rfl) (by kernel_rfl) ?_ ?_
  · ((try dsimp only); (first | done | (first | exact ⟨z0, c0, c3⟩ | exact ⟨y0, d0, d3⟩)))
  simp only [planOps, List.map_cons, List.map_nil, List.getElem?_toArray, List.getElem?_cons_zero, List.getElem?_cons_succ]
  repeat (first
    | ((refine plan_yes (v := ?_) (by rfl) ?_ ?_); rotate_left; (focus (intro w hSw; (try dsimp only at hSw); go_simp; try (with_reducible rfl))); (try simp only [Act.put, List.setIfInBounds_toArray, List.set_cons_zero, List.set_cons_succ]))
    | ((refine plan_no (by rfl) ?_); (try simp only [Act.put, List.setIfInBounds_toArray, List.set_cons_zero, List.set_cons_succ]))
    | ((refine plan_step (fun K hK => ?_)); (first | ((refine HDw.out.mono ?_; rintro e w4 ⟨rfl, S4, R4⟩; have hS4 := S4.perm (show _ = pts sb (.cells #[slP p.pb i] 90 (0, 0)) * (C * (pcHp p * R)) by ac_rfl); obtain ⟨y0, d0, d1, d2, d3, -, fz⟩ := HC.out w4 C hS4; have fz0 := fz (3 + i * 4); have hA := Lib.hid (And.intro ((pc_has (S4.perm (show _ = pcHp p * (C * (pts sb (.cells #[slP p.pb i] 90 (0, 0)) * R)) by ac_rfl)) i n hil).perm (show _ = pts sb (.cells #[slP p.pb i] 90 (0, 0)) * (C * (pcHp (p.has i n) * R)) by ac_rfl)) (Ran.set (Below.trans R3.out R4) ⟨p.pb, 3 + i * 4, none⟩ (.int .i64 n))); clear S4 hS4 R4 fz)) | (go_simp; ((refine HDw.out.mono ?_; rintro e w4 ⟨rfl, S4, R4⟩; have hS4 := S4.perm (show _ = pts sb (.cells #[slP p.pb i] 90 (0, 0)) * (C * (pcHp p * R)) by ac_rfl); obtain ⟨y0, d0, d1, d2, d3, -, fz⟩ := HC.out w4 C hS4; have fz0 := fz (3 + i * 4); have hA := Lib.hid (And.intro ((pc_has (S4.perm (show _ = pcHp p * (C * (pts sb (.cells #[slP p.pb i] 90 (0, 0)) * R)) by ac_rfl)) i n hil).perm (show _ = pts sb (.cells #[slP p.pb i] 90 (0, 0)) * (C * (pcHp (p.has i n) * R)) by ac_rfl)) (Ran.set (Below.trans R3.out R4) ⟨p.pb, 3 + i * 4, none⟩ (.int .i64 n))); clear S4 hS4 R4 fz)); (try go_wp2_with fail)) | go_simp); (refine hK.out _ _ ?_ (fun hHeld => ?_)); (focus ((try dsimp only); (first | done | (first | exact ⟨z0, c0, c3⟩ | exact ⟨y0, d0, d3⟩)))); clear hK K; (try simp only [Act.put, List.setIfInBounds_toArray, List.set_cons_zero, List.set_cons_succ])))
  refine plan_done ?_
  go_wp2_with fail
  go_ret
  exact ⟨⟨rfl, hA.out.1.right⟩, hA.out.2⟩
end Go.Proofs.YteienbdbhnikbaaGreatDoor.Pr

namespace Go.Proofs.YteienbdbhnikbaaGreatDoor.Pr
open Go.RowKit Go.Proofs.YteienbdbhnikbaaGreatDoor Go.Proofs.YteienbdbhnikbaaGreatDoor.Hp
set_option linter.unusedVariables false
attribute [local go_sem] Oper.semAt_some
attribute [local go_sem] run_store_func

/-- A slot turned whole. -/
def Pc.slot (p : Pc) (i : Nat) (s : Sl) : Pc := { p with fds := p.fds.set i s }
theorem flat_slot (a b : Value) (s : Sl) : ∀ (l : List Sl) (i : Nat), i < l.length → ((l.flatMap (slC a b)).set (i * 4) (.int .i64 s.has)).set (i * 4 + 1) (.int .i64 s.mark) = (l.set i s).flatMap (slC a b)
  | [], i, h => by simp at h
  | x :: l, 0, _ => rfl
  | x :: l, i + 1, h => by
    rw [List.flatMap_cons, List.set_append_right _ _ (by show 4 ≤ _; omega), List.set_append_right _ _ (by show 4 ≤ _; omega)]
    rw [show (i + 1) * 4 - (slC a b x).length = i * 4 by show (i + 1) * 4 - 4 = _; omega, show (i + 1) * 4 + 1 - (slC a b x).length = i * 4 + 1 by show (i + 1) * 4 + 1 - 4 = _; omega]
    rw [flat_slot a b s l i (by simpa using h)]
    rfl
theorem pcL_slot (p : Pc) (i : Nat) (s : Sl) (hi : i < p.fds.length) : ((pcL p).set (3 + i * 4) (.int .i64 s.has)).set (3 + i * 4 + 1) (.int .i64 s.mark) = pcL (p.slot i s) := by
  unfold pcL
  rw [List.set_append_right _ _ (by show 3 ≤ _; omega), List.set_append_right _ _ (by show 3 ≤ _; omega)]
  rw [show 3 + i * 4 - [pp p.fb, pp p.tb, pp p.lb].length = i * 4 by show 3 + i * 4 - 3 = _; omega, show 3 + i * 4 + 1 - [pp p.fb, pp p.tb, pp p.lb].length = i * 4 + 1 by show 3 + i * 4 + 1 - 3 = _; omega]
  rw [List.set_append_left _ _ (by rw [sl_flat]; omega), List.set_append_left _ _ (by rw [List.length_set, sl_flat]; omega), flat_slot _ _ s p.fds i hi]
  rfl
theorem pc_slot {w : World} {p : Pc} {S : Hp} (h : Sat w (pcHp p * S)) (i : Nat) (s : Sl) (hi : i < p.fds.length) : Sat ((w.setCell ⟨p.pb, 3 + i * 4, none⟩ (.int .i64 s.has)).setCell ⟨p.pb, 3 + i * 4 + 1, none⟩ (.int .i64 s.mark)) (pcHp (p.slot i s) * S) := by
  have h1 := ((h.perm (show _ = pts p.pb (.cells (pcL p).toArray 89 (0, 0)) * ((pts p.fx (.cells #[pp p.fb] 26 (0, 0)) * pts p.tx (.cells #[pp p.tb] 28 (0, 0))) * S) by unfold pcHp pcO; ac_rfl)).setL (i := 3 + i * 4) (.int .i64 s.has)).setL (i := 3 + i * 4 + 1) (.int .i64 s.mark)
  rw [pcL_slot p i s hi] at h1
  exact h1.perm (by unfold pcHp pcO; show pts p.pb (.cells (pcL (p.slot i s)).toArray 89 (0, 0)) * _ = pts p.pb (.cells (pcL (p.slot i s)).toArray 89 (0, 0)) * (pts p.fx (.cells #[pp p.fb] 26 (0, 0)) * pts p.tx (.cells #[pp p.tb] 28 (0, 0))) * S; ac_rfl)
/-- A slot that a note keeps. -/
abbrev wasO (s : Sl) (tx : Nat) : Obj := .cells #[.int .i64 s.has, .int .i64 s.mark, .func (.func 49) #[] #[pp tx], .func (.func 51) #[] #[pp tx]] 86 (0, 0)
/-- What a note of an fd's slot owns: the box of the slot's pointer, the slot as it was. -/
def noteHp (pb i tx sb wb : Nat) (s : Sl) : Hp := pts sb (.cells #[slP pb i] 90 (0, 0)) * pts wb (wasO s tx)
def fBack (sb wb : Nat) : Value := .func (.func 76) #[] #[pp sb, pp wb]
set_option maxRecDepth 100000 in
set_option maxHeartbeats 4000000 in
theorem set_noted (p : Pc) (i : Nat) (n m : Int) (A : Hp) (B C : Nat → Nat → Hp) (w : World) (R : Hp) (hi : i < 16) (h16 : p.fds.length = 16) (hm : (p.fds[i]'(by omega)).mark < m)
    (HMk : ∀ W S, Sat W (A * S) → Calls Tryz.prog 17 #[pp p.lb] W fun e w' => e = .returned (.int .i64 m) ∧ W = w')
    (HN : ∀ sb wb W S, Sat W (A * S) → Calls Tryz.prog 75 #[pp p.lb, .func (.func 76) #[] #[pp sb, pp wb]] W fun e w' => e = .returned (.int .i64 0) ∧ (Sat w' (B sb wb * S) ∧ Ran W w'))
    (HT : ∀ sb wb W S, Sat W (B sb wb * (pcHp p * S)) → Calls Tryz.prog 49 #[.int .i64 n, pp p.tx] W fun e w' => e = .returned (.tuple #[]) ∧ (Sat w' (C sb wb * (pcHp p * S)) ∧ Ran W w'))
    (h : Sat w (A * (pcHp p * R))) :
    Calls Tryz.prog 56 #[pp p.pb, slP p.pb i, .int .i64 n] w fun e w' => (e = .returned (.int .i64 0) ∧ ∃ sb wb, Sat w' (C sb wb * (noteHp p.pb i p.tx sb wb (p.fds[i]'(by omega)) * (pcHp (p.slot i ⟨n, m⟩) * R)))) ∧ Ran w w' := by
  have S1 := h.alloc (.cells #[slP p.pb i] 90 (0, 0))
  have R1 := Ran.new (Below.refl 0 w) (.cells #[slP p.pb i] 90 (0, 0))
  obtain ⟨sb, hsb⟩ : ∃ x, x = w.heap.size := ⟨_, rfl⟩
  obtain ⟨w1, hw1⟩ : ∃ w1, w1 = w.alloc (.cells #[slP p.pb i] 90 (0, 0)) := ⟨_, rfl⟩
  rw [← hw1, ← hsb] at S1
  rw [← hw1] at R1
  obtain ⟨sl, hsl⟩ : ∃ s, s = p.fds[i]'(by omega) := ⟨_, rfl⟩
  rw [← hsl] at hm ⊢
  have HC := Lib.hid (fun (W : World) (X : Hp) (hW : Sat W (pts sb (.cells #[slP p.pb i] 90 (0, 0)) * (X * (pcHp p * R)))) => (by
    have h2 := hW.perm (show _ = pcHp p * (pts sb (.cells #[slP p.pb i] 90 (0, 0)) * (X * R)) by ac_rfl)
    obtain ⟨c0, c1, c2, c3⟩ := pc_fd h2 i (by omega)
    obtain ⟨a0, a1, a2⟩ := pc_heads h2
    rw [← hsl] at c0 c1
    exact ⟨by rw [cell_at hW.get]; rfl, c0, c1, c2, c3, a2, fun k => pc_free h2 k⟩ : W.cell? ⟨sb, 0, none⟩ = some (slP p.pb i) ∧ W.cell? ⟨p.pb, 3 + i * 4, none⟩ = some (.int .i64 sl.has) ∧ W.cell? ⟨p.pb, 3 + i * 4 + 1, none⟩ = some (.int .i64 sl.mark) ∧ W.cell? ⟨p.pb, 3 + i * 4 + 2, none⟩ = some (.func (.func 49) #[] #[pp p.tx]) ∧ W.cell? ⟨p.pb, 3 + i * 4 + 3, none⟩ = some (.func (.func 51) #[] #[pp p.tx]) ∧ W.cell? ⟨p.pb, 2, none⟩ = some (pp p.lb) ∧ ∀ k, W.frozen? ⟨p.pb, k, none⟩ = false))
  obtain ⟨sh, sm⟩ := sl
  dsimp only at hm HC
  obtain ⟨z0, c0, c1, c2, c3, a2, -⟩ := HC.out w1 A S1
  have HMw := Lib.hid (HMk w1 _ (S1.perm (show _ = A * (pts sb (.cells #[slP p.pb i] 90 (0, 0)) * (pcHp p * R)) by ac_rfl)))
  have S2 := S1.alloc (wasO ⟨sh, sm⟩ p.tx)
  have R2 := Ran.new R1 (wasO ⟨sh, sm⟩ p.tx)
  obtain ⟨wb, hwb⟩ : ∃ x, x = w1.heap.size := ⟨_, rfl⟩
  obtain ⟨w2, hw2⟩ : ∃ w2, w2 = w1.alloc (wasO ⟨sh, sm⟩ p.tx) := ⟨_, rfl⟩
  rw [← hw2, ← hwb] at S2
  rw [← hw2] at R2
  obtain ⟨y0, d0, d1, d2, d3, b2, -⟩ := HC.out w2 (A * pts wb (wasO ⟨sh, sm⟩ p.tx)) (S2.perm (by ac_rfl))
  have HNw := Lib.hid (HN sb wb w2 _ (S2.perm (show _ = A * (pts wb (wasO ⟨sh, sm⟩ p.tx) * (pts sb (.cells #[slP p.pb i] 90 (0, 0)) * (pcHp p * R))) by ac_rfl)))
  have HTh := Lib.hid (HT sb wb)
  have R2 := Lib.hid R2
  have hil : i < p.fds.length := by omega
  have Hsl := Lib.hid hsl
  clear h S1 HMk HT HN S2 R1 hsl
  go_enter Tryz.func56, Tryz.ntmps56
  go_upto_region 1 with fail
  rw [← hw1, ← hsb]
  clear hw1 hsb
  go_wp2_with fail
  refine HMw.out.mono ?_
  rintro e w3 ⟨rfl, rfl⟩
  clear HMw
  go_upto_region 8 with fail
  rw [← hw2, ← hwb]
  clear hw2 hwb z0 c0 c1 c2 c3 a2
  go_wp2_with fail
  refine HNw.out.mono ?_
  rintro e w4 ⟨rfl, S4, R4⟩
  clear y0 d0 d1 d2 d3 b2
  obtain ⟨z0, c0, c1, c2, c3, a2, -⟩ := HC.out w4 (B sb wb * pts wb (wasO ⟨sh, sm⟩ p.tx)) (S4.perm (by ac_rfl))
  have HTw := Lib.hid (HTh.out w4 _ (S4.perm (show _ = B sb wb * (pcHp p * (pts wb (wasO ⟨sh, sm⟩ p.tx) * (pts sb (.cells #[slP p.pb i] 90 (0, 0)) * R))) by ac_rfl)))
  have R4 := Lib.hid (Below.trans R2.out R4)
  clear S4 HNw HTh R2
  go_wp2_with fail
  refine HTw.out.mono ?_
  rintro e w5 ⟨rfl, S5, R5⟩
  clear z0 c0 c1 c2 c3 a2
  obtain ⟨z0, c0, c1, -, -, -, fz⟩ := HC.out w5.drew (C sb wb * pts wb (wasO ⟨sh, sm⟩ p.tx)) (S5.drew.perm (by ac_rfl))
  have fz0 := fz (3 + i * 4)
  have fz1 := fz (3 + i * 4 + 1)
  have e0 : w5.cell? ⟨p.pb, 3 + i * 4, none⟩ = some (.int .i64 sh) := c0
  have e1 : w5.cell? ⟨p.pb, 3 + i * 4 + 1, none⟩ = some (.int .i64 sm) := c1
  have gz0 : w5.frozen? ⟨p.pb, 3 + i * 4, none⟩ = false := fz0
  have gz1 : w5.frozen? ⟨p.pb, 3 + i * 4 + 1, none⟩ = false := fz1
  have S6 := pc_slot (S5.drew.perm (show _ = pcHp p * (C sb wb * (pts wb (wasO ⟨sh, sm⟩ p.tx) * (pts sb (.cells #[slP p.pb i] 90 (0, 0)) * R))) by ac_rfl)) i ⟨n, m⟩ hil
  have S6 := S6.perm (show _ = C sb wb * (noteHp p.pb i p.tx sb wb ⟨sh, sm⟩ * (pcHp (p.slot i ⟨n, m⟩) * R)) by unfold noteHp; ac_rfl)
  have R6 := Ran.set (Ran.set (Below.drew (Below.trans R4.out R5)) ⟨p.pb, 3 + i * 4, none⟩ (.int .i64 n)) ⟨p.pb, 3 + i * 4 + 1, none⟩ (.int .i64 m)
  have y1 : (w5.drew.setCell ⟨p.pb, 3 + i * 4, none⟩ (.int .i64 n)).cell? ⟨sb, 0, none⟩ = some (slP p.pb i) := by
    have h7 := (pc_has (S5.drew.perm (show _ = pcHp p * (C sb wb * (pts wb (wasO ⟨sh, sm⟩ p.tx) * (pts sb (.cells #[slP p.pb i] 90 (0, 0)) * R))) by ac_rfl)) i n hil).perm (show _ = pts sb (.cells #[slP p.pb i] 90 (0, 0)) * (C sb wb * (pts wb (wasO ⟨sh, sm⟩ p.tx) * (pcHp (p.has i n) * R))) by ac_rfl)
    rw [cell_at h7.get]; rfl
  have y2 : ((w5.drew.setCell ⟨p.pb, 3 + i * 4, none⟩ (.int .i64 n)).setCell ⟨p.pb, 3 + i * 4 + 1, none⟩ (.int .i64 m)).cell? ⟨sb, 0, none⟩ = some (slP p.pb i) := by
    have h7 := S6.perm (show _ = pts sb (.cells #[slP p.pb i] 90 (0, 0)) * (C sb wb * (pts wb (wasO ⟨sh, sm⟩ p.tx) * (pcHp (p.slot i ⟨n, m⟩) * R))) by unfold noteHp; ac_rfl)
    rw [cell_at h7.get]; rfl
  have hA := Lib.hid (And.intro S6 R6)
  clear S5 R5 R4 S6 R6 HTw fz
  go_upto_region 12 with fail
  refine region_plan (S := (fun w' => w'.cell? ⟨sb, 0, none⟩ = some (slP p.pb i))) [(0, true), (1, true), (2, true), (3, true), (4, true), (5, true), (6, false), (7, true), (8, true), (9, false)] (by kernel_rfl) (by kernel_rfl) (by kernel_rfl) ?_ ?_
  · ((try dsimp only); (first | done | (first | exact z0 | exact y1 | exact y2)))
  simp only [planOps, List.map_cons, List.map_nil, List.getElem?_toArray, List.getElem?_cons_zero, List.getElem?_cons_succ]
  repeat (first
    | ((refine plan_yes (v := ?_) (by rfl) ?_ ?_); rotate_left; (focus (intro w hSw; (try dsimp only at hSw); go_simp; try (with_reducible rfl))); (try simp only [Act.put, List.setIfInBounds_toArray, List.set_cons_zero, List.set_cons_succ]))
    | ((refine plan_no (by rfl) ?_); (try simp only [Act.put, List.setIfInBounds_toArray, List.set_cons_zero, List.set_cons_succ]))
    | ((refine plan_step (fun K hK => ?_)); (first | (fail) | (go_simp; (fail); (try go_wp2_with fail)) | go_simp); (refine hK.out _ _ ?_ (fun hHeld => ?_)); (focus ((try dsimp only); (first | done | (first | exact z0 | exact y1 | exact y2)))); clear hK K; (try simp only [Act.put, List.setIfInBounds_toArray, List.set_cons_zero, List.set_cons_succ])))
  refine plan_done ?_
  go_wp2_with fail
  go_ret
  exact ⟨⟨rfl, sb, wb, hA.out.1⟩, hA.out.2⟩
end Go.Proofs.YteienbdbhnikbaaGreatDoor.Pr

