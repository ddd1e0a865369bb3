/- HandlesHeld: what is told of the world's state; plain laws of counts. -/
import Derived.Test.YtljlpkeddbfpaaaGreatDoorHdIw
import Derived.Test.YtljlpkeddbfpaaaGreatDoorHdSt
import Derived.Test.YtljlpkeddbfpaaaGreatDoorHdKy
namespace Go.Proofs.YtljlpkeddbfpaaaGreatDoor.Hd
open Go.RowKit Go.Maps Go.Proofs.YtljlpkeddbfpaaaGreatDoor Go.Proofs.YtljlpkeddbfpaaaGreatDoor.Hp
set_option linter.unusedVariables false

def knd : Th → Int
  | .file .. => 1
  | .text .. => 2
  | .sink .. => 3
  | .reader .. => 4
  | .writer .. => 5
def nod : Th → Int
  | .file k _ _ => k
  | _ => 0
def holdsOf (F : Fs) (k : Int) : Int := match find F.L k with
  | none => 0
  | some x => x.holds
theorem free_nil : Free ([] : HL) 1 := ⟨Nat.le_refl _, Nat.le_refl _, rfl, fun j h1 h2 => by omega⟩
theorem tree_begun {F : Fs} (h : Begun F) : TreeOk F := by
  have hok := h.ok
  obtain ⟨b1, k1, e1, s1⟩ := h.n1
  obtain ⟨b2, e2⟩ := h.n2
  obtain ⟨b3, e3⟩ := h.n3
  obtain ⟨b4, e4⟩ := h.n4
  obtain ⟨b5, k5, e5, s5⟩ := h.n5
  have cs : ∀ j x, find F.L j = some x → j = 1 ∨ j = 2 ∨ j = 3 ∨ j = 4 ∨ j = 5 := fun j x hx => by
    have := (h.only j).1 (by rw [hx]; rfl)
    omega
  refine ⟨hok, h.only, fun j x hx => ?_, fun j x hx hk => ?_, fun j x hx => ?_, h.room, by rw [h.used]; omega, fun j x hx => ?_⟩
  · rcases cs j x hx with rfl | rfl | rfl | rfl | rfl
    · rw [e1] at hx; injection hx with hx; subst hx; simp
    · rw [e2] at hx; injection hx with hx; subst hx; simp
    · rw [e3] at hx; injection hx with hx; subst hx; simp
    · rw [e4] at hx; injection hx with hx; subst hx; simp
    · rw [e5] at hx; injection hx with hx; subst hx; simp
  · rcases cs j x hx with rfl | rfl | rfl | rfl | rfl
    · rw [e1] at hx; injection hx with hx; subst hx; simp at hk
    · rw [e2] at hx; injection hx with hx; subst hx; exact ⟨rfl, Int.le_refl _⟩
    · rw [e3] at hx; injection hx with hx; subst hx; exact ⟨rfl, Int.le_refl _⟩
    · rw [e4] at hx; injection hx with hx; subst hx; simp at hk
    · rw [e5] at hx; injection hx with hx; subst hx; simp at hk
  · rcases cs j x hx with rfl | rfl | rfl | rfl | rfl
    · rw [e1] at hx; injection hx with hx; subst hx; simp
    · rw [e2] at hx; injection hx with hx; subst hx; simp
    · rw [e3] at hx; injection hx with hx; subst hx; simp
    · rw [e4] at hx; injection hx with hx; subst hx; simp
    · rw [e5] at hx; injection hx with hx; subst hx; simp
  · rcases cs j x hx with rfl | rfl | rfl | rfl | rfl
    · rw [e1] at hx; injection hx with hx; subst hx; exact Nat.zero_le _
    · rw [e2] at hx; injection hx with hx; subst hx; show 3 ≤ 4096; omega
    · rw [e3] at hx; injection hx with hx; subst hx; exact Nat.zero_le _
    · rw [e4] at hx; injection hx with hx; subst hx; show 1 ≤ 4096; omega
    · rw [e5] at hx; injection hx with hx; subst hx; exact Nat.zero_le _
theorem inv_begun {F : Fs} (h : Begun F) : Inv 0 ⟨F, [], 0, [], 0⟩ where
  tree := tree_begun h
  nd := List.nodup_nil
  ids k x hx := by cases hx
  refs k x hx := by cases hx
  th k x hx := by cases hx
  oneR j k x y bb e1 e2 hx := by cases hx
  oneW j k x y bb e1 e2 hx := by cases hx
  nR := rfl
  nW := rfl
  pnd := List.nodup_nil
  pk k p hp := by cases hp
  holds k x hx := by
    obtain ⟨b1, k1, e1, s1⟩ := h.n1
    obtain ⟨b2, e2⟩ := h.n2
    obtain ⟨b3, e3⟩ := h.n3
    obtain ⟨b4, e4⟩ := h.n4
    obtain ⟨b5, k5, e5, s5⟩ := h.n5
    have hx' : find F.L k = some x := hx
    have := (h.only k).1 (by rw [hx']; rfl)
    rcases (show k = 1 ∨ k = 2 ∨ k = 3 ∨ k = 4 ∨ k = 5 by omega) with rfl | rfl | rfl | rfl | rfl
    · rw [e1] at hx'; injection hx' with hx'; subst hx'; rfl
    · rw [e2] at hx'; injection hx' with hx'; subst hx'; rfl
    · rw [e3] at hx'; injection hx' with hx'; subst hx'; rfl
    · rw [e4] at hx'; injection hx' with hx'; subst hx'; rfl
    · rw [e5] at hx'; injection hx' with hx'; subst hx'; rfl
  lenL := Nat.le_refl _
  lenN := Nat.le_refl _
  lenP := Nat.le_refl _
  held := Nat.zero_le _
  tot := Nat.le_refl _
theorem sg_begun {c : Pls} {F : Fs} {w : World} {R : Hp} (h : Sat w (fsHp c.fb c.mb F * (tabHp c.tb c.fb c.bp c.hm [] 0 * (Spill.poolX c.bp 40 3 4 0 0 0 0 * R)))) : Sat w (SgHp c ⟨F, [], 0, [], 0⟩ * R) := by
  refine h.perm ?_
  unfold SgHp poolHp pipesHp snksHp
  show _ = fsHp c.fb c.mb F * (tabHp c.tb c.fb c.bp c.hm [] 0 * (Spill.poolX c.bp 40 3 4 0 0 0 0 * (emp * emp))) * R
  rw [emp_sep, sep_emp]
  ac_rfl
section
variable {s : Sg} {N : Nat}
theorem Inv.file_node (h : Inv N s) {k : Int} {x : Hn} (hx : findA s.L k = some x) : ∀ n, n ≠ 2 → n ≠ 3 → cF n x = 0 := fun n h2 h3 => by
  have := h.th k x hx
  unfold ThOk at this
  unfold cF
  split
  · rename_i j a m e
    rw [e] at this
    rw [if_neg (by omega)]
  · rfl
theorem mem_find {α : Type} : ∀ (L : List (Int × α)) (k : Int) (x : α), (L.map Prod.fst).Nodup → (k, x) ∈ L → findA L k = some x
  | [], _, _, _, h => by cases h
  | p :: L, k, x, hn, h => by
    rw [List.map_cons, List.nodup_cons] at hn
    unfold findA
    rcases List.mem_cons.1 h with e | e
    · rw [← e]; rw [if_pos rfl]
    · rw [if_neg (fun e2 => hn.1 (by rw [e2]; exact List.mem_map.2 ⟨(k, x), e, rfl⟩))]
      exact mem_find L k x hn.2 e
theorem sumA_zero {α : Type} (f : α → Nat) (L : List (Int × α)) (h : ∀ k x, (k, x) ∈ L → f x = 0) : sumA f L = 0 := by
  rw [sumA_congr f (fun _ => 0) L h]
  induction L with
  | nil => rfl
  | cons p L ih =>
    show 0 + sumA (fun _ => 0) L = 0
    rw [ih fun k x hm => h k x (List.mem_cons_of_mem _ hm)]
theorem Inv.holds_eq (h : Inv N s) (n : Int) : holdsOf s.F n = (sumA (cF n) s.L : Int) := by
  unfold holdsOf
  cases hx : find s.F.L n with
  | some x => exact h.holds n x hx
  | none =>
    have hn : ¬ (1 ≤ n ∧ n < 6) := fun e => by have := (h.tree.only n).2 e; rw [hx] at this; cases this
    rw [sumA_zero (cF n) s.L fun k x hm => h.file_node (mem_find s.L k x h.nd hm) n (by omega) (by omega)]
    rfl
/-- A sum over numbers. -/
def sumK {α : Type} (f : α → Nat) (L : List (Int × α)) : List Int → Nat
  | [] => 0
  | k :: ks => (match findA L k with
    | none => 0
    | some x => f x) + sumK f L ks
theorem sumK_append {α : Type} (f : α → Nat) (L : List (Int × α)) : ∀ a b : List Int, sumK f L (a ++ b) = sumK f L a + sumK f L b
  | [], b => by show _ = 0 + _; rw [Nat.zero_add]; rfl
  | k :: a, b => by
    show _ + sumK f L (a ++ b) = _ + sumK f L a + _
    rw [sumK_append f L a b]; omega
theorem sumK_take {α : Type} (f : α → Nat) (L : List (Int × α)) (ks : List Int) (i : Nat) (h : i < ks.length) (x : α) (hx : findA L ks[i] = some x) : sumK f L (ks.take (i + 1)) = sumK f L (ks.take i) + f x := by
  rw [List.take_succ_eq_append_getElem h, sumK_append]
  show _ + (_ + 0) = _
  rw [hx]; rfl
theorem sumK_perm {α : Type} (f : α → Nat) (L : List (Int × α)) {a b : List Int} (h : a.Perm b) : sumK f L a = sumK f L b := by
  induction h with
  | nil => rfl
  | cons x _ ih => show _ + _ = _ + _; rw [ih]
  | swap x y l => show _ + (_ + _) = _ + (_ + _); omega
  | trans _ _ h1 h2 => rw [h1, h2]
theorem sumK_keys {α : Type} (f : α → Nat) : ∀ (M L : List (Int × α)), (∀ k x, (k, x) ∈ L → findA M k = some x) → sumK f M (L.map Prod.fst) = sumA f L
  | M, [], _ => rfl
  | M, p :: L, h => by
    show (match findA M p.1 with | none => 0 | some x => f x) + sumK f M (L.map Prod.fst) = f p.2 + sumA f L
    rw [h p.1 p.2 List.mem_cons_self, sumK_keys f M L fun k x hm => h k x (List.mem_cons_of_mem _ hm)]
theorem hblk_some (L : HL) (k : Int) : (hblk L k).isSome = (findA L k).isSome := by unfold hblk; cases findA L k <;> rfl
theorem keys_perm {L : HL} {ks : List Int} (hn : NodupK L) (hk : KeysOf (hblk L) ks) : ks.Perm (L.map Prod.fst) := by
  refine (List.perm_ext_iff_of_nodup (hk.1.imp fun h => by omega) hn).2 fun k => ?_
  rw [hk.2 k, hblk_some]
  exact ⟨findA_mem L k, find_of_mem L k⟩
theorem Inv.sum_keys (h : Inv N s) {ks : List Int} (hk : KeysOf (hblk s.L) ks) (f : Hn → Nat) : sumK f s.L ks = sumA f s.L := by
  rw [sumK_perm f s.L (keys_perm h.nd hk)]
  exact sumK_keys f s.L s.L fun k x hm => mem_find s.L k x h.nd hm
theorem Inv.keys_len (h : Inv N s) {ks : List Int} (hk : KeysOf (hblk s.L) ks) : ks.length = s.L.length := by
  rw [(keys_perm h.nd hk).length_eq, List.length_map]
/-- How many buffers there are. -/
theorem Inv.buffers (h : Inv N s) : sumA cR s.L ≤ s.P.length ∧ sumA cW s.L ≤ s.P.length ∧ s.P.length ≤ sumA cR s.L + sumA cW s.L := by
  rw [h.nR, h.nW]
  have key : ∀ P : PL, (∀ k p, (k, p) ∈ P → p.rd = true ∨ p.wr = true) → sumA (fun p : Pp => p.rd.toNat) P ≤ P.length ∧ sumA (fun p : Pp => p.wr.toNat) P ≤ P.length ∧ P.length ≤ sumA (fun p : Pp => p.rd.toNat) P + sumA (fun p : Pp => p.wr.toNat) P := by
    intro P
    induction P with
    | nil => intro _; exact ⟨Nat.le_refl _, Nat.le_refl _, Nat.le_refl _⟩
    | cons p P ih =>
      intro hp
      obtain ⟨a, b, d⟩ := ih fun k q hq => hp k q (List.mem_cons_of_mem _ hq)
      have h1 := hp p.1 p.2 List.mem_cons_self
      show p.2.rd.toNat + sumA (fun p : Pp => p.rd.toNat) P ≤ P.length + 1 ∧ p.2.wr.toNat + sumA (fun p : Pp => p.wr.toNat) P ≤ P.length + 1 ∧ P.length + 1 ≤ p.2.rd.toNat + sumA (fun p : Pp => p.rd.toNat) P + (p.2.wr.toNat + sumA (fun p : Pp => p.wr.toNat) P)
      cases hr : p.2.rd <;> cases hw : p.2.wr <;> rw [hr, hw] at h1 <;> simp at h1 ⊢ <;> omega
  exact key s.P fun k p hm => (h.pk k p (mem_find s.P k p h.pnd hm)).2.1
theorem Inv.empty (h : Inv N s) (hn : ∀ k, findA s.L k = none) : s.L = [] ∧ s.P = [] ∧ ∀ n, holdsOf s.F n = 0 := by
  have hL : s.L = [] := by
    cases hl : s.L with
    | nil => rfl
    | cons p L =>
      have := hn p.1
      rw [hl] at this
      unfold findA at this
      rw [if_pos rfl] at this
      cases this
  have hb := h.buffers
  rw [hL] at hb
  refine ⟨hL, List.eq_nil_of_length_eq_zero (by have := hb.2.2; have e : sumA cR ([] : HL) + sumA cW ([] : HL) = 0 := rfl; omega), fun n => ?_⟩
  rw [h.holds_eq, hL]; rfl
/-- Unref takes away only. -/
theorem unref_eff {o : Opr} {n er : Int} {t : ByteArray} {s' : Sg} {y : Hn} (st : Step s o n t er s') (ha : askI o = 5) (hy : findA s.L o.id = some y) :
    er = 0 ∧ (2 ≤ y.refs → s'.L = updA s.L o.id { y with refs := y.refs - 1 }) ∧ (y.refs = 1 → s'.L = delA s.L o.id) ∧ s'.n = s.n ∧ s'.P.length ≤ s.P.length ∧ s'.tot = s.tot := by
  cases st with
  | unref_no _ h => rw [hy] at h; cases h
  | unref_more z _ h h2 =>
    rw [hy] at h; injection h with h; subst h
    exact ⟨rfl, fun _ => rfl, fun e => by omega, rfl, Nat.le_refl _, rfl⟩
  | unref_file z k a m _ h h1 _ =>
    rw [hy] at h; injection h with h; subst h
    exact ⟨rfl, fun e => by omega, fun _ => rfl, rfl, Nat.le_refl _, rfl⟩
  | unref_text z u a _ h h1 _ =>
    rw [hy] at h; injection h with h; subst h
    exact ⟨rfl, fun e => by omega, fun _ => rfl, rfl, Nat.le_refl _, rfl⟩
  | unref_sink z sp q cap l most _ h h1 _ =>
    rw [hy] at h; injection h with h; subst h
    exact ⟨rfl, fun e => by omega, fun _ => rfl, rfl, Nat.le_refl _, rfl⟩
  | unref_reader z bb eb p _ h h1 _ hp =>
    rw [hy] at h; injection h with h; subst h
    refine ⟨rfl, fun e => by omega, fun _ => rfl, rfl, ?_, rfl⟩
    show (closeR s.P bb p).length ≤ _
    have := delA_len s.P (bb : Int) (by rw [hp]; rfl)
    unfold closeR; split
    · rw [updA_len]; exact Nat.le_refl _
    · omega
  | unref_writer z bb eb p _ h h1 _ hp =>
    rw [hy] at h; injection h with h; subst h
    refine ⟨rfl, fun e => by omega, fun _ => rfl, rfl, ?_, rfl⟩
    show (closeW s.P bb p).length ≤ _
    have := delA_len s.P (bb : Int) (by rw [hp]; rfl)
    unfold closeW; split
    · rw [updA_len]; exact Nat.le_refl _
    · omega
  | _ => omega
theorem inv_unref {o : Opr} {n er : Int} {t : ByteArray} {s' : Sg} {y : Hn} (h : Inv N s) (hN : N ≤ 100) (hd : o.d.size ≤ 100) (st : Step s o n t er s') (ha : askI o = 5) (hy : findA s.L o.id = some y) : Inv N s' := by
  have h' := inv_step h hN hd st
  obtain ⟨_, h2, h1, hn, hp, ht⟩ := unref_eff st ha hy
  have hr := h.refs _ y hy
  have hs : (findA s.L o.id).isSome = true := by rw [hy]; rfl
  have old : ∀ k x, findA s'.L k = some x → ∃ z, findA s.L k = some z ∧ x.refs ≤ z.refs := fun k x hx => by
    by_cases e : 2 ≤ y.refs
    · rw [h2 e, findA_upd s.L _ _ _ hs] at hx
      split at hx
      · rename_i e2; injection hx with hx; subst hx; subst e2
        exact ⟨y, hy, by show y.refs - 1 ≤ _; omega⟩
      · exact ⟨x, hx, Int.le_refl _⟩
    · rw [h1 (by omega), findA_del s.L _ _ h.nd] at hx
      split at hx
      · cases hx
      · exact ⟨x, hx, Int.le_refl _⟩
  have hl : s'.L.length ≤ s.L.length := by
    by_cases e : 2 ≤ y.refs
    · rw [h2 e, updA_len]; exact Nat.le_refl _
    · rw [h1 (by omega)]; have := delA_len s.L o.id hs; omega
  exact { h' with
    ids := fun k x hx => (by obtain ⟨z, hz, _⟩ := old k x hx; exact h.ids k z hz)
    refs := fun k x hx => (by obtain ⟨z, hz, e⟩ := old k x hx; have := h.refs k z hz; have := h'.refs k x hx; omega)
    lenL := (by have := h.lenL; omega)
    lenN := (by have := h.lenN; omega)
    lenP := (by have := h.lenP; omega)
    tot := (by have := h.tot; omega) }
theorem find_unref {o : Opr} {n er : Int} {t : ByteArray} {s' : Sg} {y : Hn} (h : Inv N s) (st : Step s o n t er s') (ha : askI o = 5) (hy : findA s.L o.id = some y) :
    (2 ≤ y.refs → ∃ y', findA s'.L o.id = some y' ∧ y'.refs = y.refs - 1) ∧ (y.refs = 1 → findA s'.L o.id = none) ∧ ∀ k, k ≠ o.id → findA s'.L k = findA s.L k ∨ (findA s'.L k).isSome = (findA s.L k).isSome := by
  obtain ⟨_, h2, h1, _⟩ := unref_eff st ha hy
  have hs : (findA s.L o.id).isSome = true := by rw [hy]; rfl
  have hr := h.refs _ y hy
  refine ⟨fun e => ⟨{ y with refs := y.refs - 1 }, by rw [h2 e, findA_upd s.L _ _ _ hs, if_pos rfl], rfl⟩, fun e => by rw [h1 e, findA_del s.L _ _ h.nd, if_pos rfl], fun k hk => .inl ?_⟩
  by_cases e : 2 ≤ y.refs
  · rw [h2 e, findA_upd s.L _ _ _ hs, if_neg hk]
  · rw [h1 (by omega), findA_del s.L _ _ h.nd, if_neg hk]
end
section
variable {c : Pls} {s : Sg} {N : Nat} {w : World} {R : Hp}
theorem stat_st (hN : N ≤ 100) (hI : Inv N s) {id : Int} {y : Hn} (hid : I64 id) (hy : findA s.L id = some y) (h : Sat w (SgHp c s * R)) :
    Calls Tryz.prog 24 #[pp c.tb, .int .i64 id] w fun e w' => (∃ a m, e = .returned (.tuple #[inV (knd y.t) y.refs a (nod y.t) m, .int .i64 0])) ∧ Below w.heap.size w w' := by
  have hth := hI.th _ y hy
  have htot := hI.tot
  unfold ThOk at hth
  cases hyt : y.t with
  | file k a m => exact (TStat_file c.tb c.fb c.bp c.hm s.n s.L id k y a m hid hy hyt w _ (sg_tab h)).mono fun e w' ⟨he, hB⟩ => ⟨⟨_, _, he⟩, hB⟩
  | text t a => exact (TStat_text c.tb c.fb c.bp c.hm s.n s.L id y t a hid hy hyt w _ (sg_tab h)).mono fun e w' ⟨he, hB⟩ => ⟨⟨_, _, he⟩, hB⟩
  | sink sp q cap l most => exact (TStat_sink c.tb c.fb c.bp c.hm s.n s.L id y sp q cap l most hid hy hyt w _ (sg_tab h)).mono fun e w' ⟨he, hB⟩ => ⟨⟨_, _, he⟩, hB⟩
  | reader bb eb =>
    rw [hyt] at hth
    obtain ⟨p, hp, rfl, hrd⟩ := hth
    obtain ⟨hpk, hpo, hpt⟩ := hI.pk _ p hp
    have hbb : p.bb = bb := by omega
    subst hbb
    obtain ⟨X, HX⟩ := sg_pipe h hp
    exact (TStat_reader c.tb c.fb c.bp c.hm s.n s.L id y p.bb p.eb c.bp p.frm p.data hid hy hyt (by omega) w _ HX).mono fun e w' ⟨he, hB⟩ => ⟨⟨_, _, he⟩, hB⟩
  | writer bb eb =>
    rw [hyt] at hth
    obtain ⟨p, hp, rfl, hrd⟩ := hth
    obtain ⟨hpk, hpo, hpt⟩ := hI.pk _ p hp
    have hbb : p.bb = bb := by omega
    subst hbb
    obtain ⟨X, HX⟩ := sg_pipe h hp
    exact (TStat_writer c.tb c.fb c.bp c.hm s.n s.L id y p.bb p.eb c.bp p.frm p.data hid hy hyt (by omega) w _ HX).mono fun e w' ⟨he, hB⟩ => ⟨⟨_, _, he⟩, hB⟩
theorem fstat_st (hI : Inv N s) {n : Int} (hn : I64 n) (h : Sat w (SgHp c s * R)) :
    Calls Tryz.prog 25 #[pp c.fb, .int .i64 n] w fun e w' => (∃ k z m er, e = .returned (.tuple #[.agg #[.int .i64 k, .int .i64 z, .int .i64 m, .int .i64 (holdsOf s.F n)], .int .i64 er])) ∧ Below w.heap.size w w' := by
  refine (Stat_calls c.fb c.mb s.F n hn (hI.tree.ok.small n) w _ (sg_open h)).mono ?_
  rintro e w' ⟨rfl, hB⟩
  refine ⟨?_, hB⟩
  unfold statV holdsOf
  cases find s.F.L n with
  | none => exact ⟨_, _, _, _, rfl⟩
  | some x => exact ⟨_, _, _, _, rfl⟩
theorem all_st (hN : N ≤ 100) (hI : Inv N s) (h : Sat w (SgHp c s * R)) :
    Calls Tryz.prog 23 #[pp c.tb] w fun e w' => (∃ p cap ks, e = .returned (.slice p (List.length ks) cap) ∧ KeysOf (hblk s.L) ks ∧ Sat w' (SgHp c s * (arr 3 1 p ks.length cap (ks.map iv) * R))) ∧ Below w.heap.size w w' := by
  refine (All_calls c.tb c.fb c.bp c.hm s.n s.L (by have := hI.lenN; omega) w _ (sg_tab h)).mono ?_
  rintro e w' ⟨⟨p, cap, ks, he, hk, S⟩, hB⟩
  exact ⟨⟨p, cap, ks, he, hk, S.perm (by unfold SgHp; ac_rfl)⟩, hB⟩
theorem buffers_st (h : Sat w (SgHp c s * R)) : Calls Tryz.prog 26 #[pp c.bp] w fun e w' => e = .returned (.int .i64 (s.P.length : Int)) ∧ w = w' :=
  (Spill.xbuffers c.bp 40 3 4 (sumA Pp.len s.P) (sumA Pp.use s.P) s.P.length s.tot (fsHp c.fb c.mb s.F * (tabHp c.tb c.fb c.bp c.hm s.L s.n * (pipesHp c s.P * (snksHp s.L * R)))) w (h.perm (by unfold SgHp poolHp; ac_rfl))).mono fun e w' ⟨he, hw⟩ => ⟨he, hw⟩
theorem held_st (h : Sat w (SgHp c s * R)) : Calls Tryz.prog 28 #[pp c.bp] w fun e w' => e = .returned (.int .i64 (sumA Pp.len s.P : Int)) ∧ w = w' :=
  (Spill.xheld c.bp 40 3 4 (sumA Pp.len s.P) (sumA Pp.use s.P) s.P.length s.tot (fsHp c.fb c.mb s.F * (tabHp c.tb c.fb c.bp c.hm s.L s.n * (pipesHp c s.P * (snksHp s.L * R)))) w (h.perm (by unfold SgHp poolHp; ac_rfl))).mono fun e w' ⟨he, hw⟩ => ⟨he, hw⟩
theorem unref_st (hN : N ≤ 100) (hI : Inv N s) {id : Int} {y : Hn} (hid : I64 id) (hy : findA s.L id = some y) (h : Sat w (SgHp c s * R)) :
    Calls Tryz.prog 27 #[pp c.tb, .int .i64 id] w fun e w' => (e = .returned (.int .i64 0) ∧ ∃ s', Inv N s' ∧ (2 ≤ y.refs → ∃ y', findA s'.L id = some y' ∧ y'.refs = y.refs - 1) ∧ (y.refs = 1 → findA s'.L id = none) ∧ (∀ k, k ≠ id → (findA s'.L k).isSome = (findA s.L k).isSome) ∧ Sat w' (SgHp c s' * R)) ∧ Ran w w' := by
  refine (op_Unref (o := ⟨5, id, 0, 0, ⟨false, false, false⟩, nilB⟩) hN hI ⟨by show I64 5; unfold I64; omega, hid, by show I64 0; unfold I64; omega, by show I64 0; unfold I64; omega, Nat.zero_le _⟩ rfl h).mono ?_
  rintro e w' ⟨er, rfl, s', st, S, hR⟩
  have he := unref_eff st rfl hy
  obtain ⟨f1, f2, f3⟩ := find_unref hI st rfl hy
  refine ⟨⟨by rw [he.1], s', inv_unref hI hN (Nat.zero_le _) st rfl hy, f1, f2, fun k hk => ?_, S⟩, hR⟩
  rcases f3 k hk with e | e
  · rw [e]
  · exact e
end
end Go.Proofs.YtljlpkeddbfpaaaGreatDoor.Hd
