/- HandlesPlays, part 27 of 34: the texts HdHp HdQa HdQb, joined by a program. -/
import Derived.Test.YtljlpkeddbfpaaaGreatDoorHm18
import Derived.Test.YtljlpkeddbfpaaaGreatDoorHm26
namespace Go.Proofs.YtljlpkeddbfpaaaGreatDoor.Hd
open Go.RowKit Go.Maps Go.Proofs.YtljlpkeddbfpaaaGreatDoor Go.Proofs.YtljlpkeddbfpaaaGreatDoor.Hp
set_option linter.unusedVariables false

def nod : Th → Int
  | .file k _ _ => k
  | _ => 0
def holdsOf (F : Fs) (k : Int) : Int := match find F.L k with
  | none => 0
  | some x => x.holds
theorem tree_begun {F : Fs} (h : Begun F) : TreeOk F := by
  have hok := h.ok
  obtain ⟨b1, k1, e1, s1⟩ := h.n1
  obtain ⟨b2, e2⟩ := h.n2
  obtain ⟨b3, e3⟩ := h.n3
  obtain ⟨b4, e4⟩ := h.n4
  obtain ⟨b5, k5, e5, s5⟩ := h.n5
  have cs : ∀ j x, find F.L j = some x → j = 1 ∨ j = 2 ∨ j = 3 ∨ j = 4 ∨ j = 5 := fun j x hx => by
    have := (h.only j).1 (by rw [hx]; rfl)
    omega
  refine ⟨hok, h.only, fun j x hx => ?_, fun j x hx hk => ?_, fun j x hx => ?_, h.room, by rw [h.used]; omega, fun j x hx => ?_⟩
  · rcases cs j x hx with rfl | rfl | rfl | rfl | rfl
    · rw [e1] at hx; injection hx with hx; subst hx; simp
    · rw [e2] at hx; injection hx with hx; subst hx; simp
    · rw [e3] at hx; injection hx with hx; subst hx; simp
    · rw [e4] at hx; injection hx with hx; subst hx; simp
    · rw [e5] at hx; injection hx with hx; subst hx; simp
  · rcases cs j x hx with rfl | rfl | rfl | rfl | rfl
    · rw [e1] at hx; injection hx with hx; subst hx; simp at hk
    · rw [e2] at hx; injection hx with hx; subst hx; exact ⟨rfl, Int.le_refl _⟩
    · rw [e3] at hx; injection hx with hx; subst hx; exact ⟨rfl, Int.le_refl _⟩
    · rw [e4] at hx; injection hx with hx; subst hx; simp at hk
    · rw [e5] at hx; injection hx with hx; subst hx; simp at hk
  · rcases cs j x hx with rfl | rfl | rfl | rfl | rfl
    · rw [e1] at hx; injection hx with hx; subst hx; simp
    · rw [e2] at hx; injection hx with hx; subst hx; simp
    · rw [e3] at hx; injection hx with hx; subst hx; simp
    · rw [e4] at hx; injection hx with hx; subst hx; simp
    · rw [e5] at hx; injection hx with hx; subst hx; simp
  · rcases cs j x hx with rfl | rfl | rfl | rfl | rfl
    · rw [e1] at hx; injection hx with hx; subst hx; exact Nat.zero_le _
    · rw [e2] at hx; injection hx with hx; subst hx; show 3 ≤ 4096; omega
    · rw [e3] at hx; injection hx with hx; subst hx; exact Nat.zero_le _
    · rw [e4] at hx; injection hx with hx; subst hx; show 1 ≤ 4096; omega
    · rw [e5] at hx; injection hx with hx; subst hx; exact Nat.zero_le _
theorem inv_begun {F : Fs} (h : Begun F) : Inv 0 ⟨F, [], 0, [], 0⟩ where
  tree := tree_begun h
  nd := List.nodup_nil
  ids k x hx := by cases hx
  refs k x hx := by cases hx
  th k x hx := by cases hx
  oneR j k x y bb e1 e2 hx := by cases hx
  oneW j k x y bb e1 e2 hx := by cases hx
  nR := rfl
  nW := rfl
  pnd := List.nodup_nil
  pk k p hp := by cases hp
  holds k x hx := by
    obtain ⟨b1, k1, e1, s1⟩ := h.n1
    obtain ⟨b2, e2⟩ := h.n2
    obtain ⟨b3, e3⟩ := h.n3
    obtain ⟨b4, e4⟩ := h.n4
    obtain ⟨b5, k5, e5, s5⟩ := h.n5
    have hx' : find F.L k = some x := hx
    have := (h.only k).1 (by rw [hx']; rfl)
    rcases (show k = 1 ∨ k = 2 ∨ k = 3 ∨ k = 4 ∨ k = 5 by omega) with rfl | rfl | rfl | rfl | rfl
    · rw [e1] at hx'; injection hx' with hx'; subst hx'; rfl
    · rw [e2] at hx'; injection hx' with hx'; subst hx'; rfl
    · rw [e3] at hx'; injection hx' with hx'; subst hx'; rfl
    · rw [e4] at hx'; injection hx' with hx'; subst hx'; rfl
    · rw [e5] at hx'; injection hx' with hx'; subst hx'; rfl
  lenL := Nat.le_refl _
  lenN := Nat.le_refl _
  lenP := Nat.le_refl _
  held := Nat.zero_le _
  tot := Nat.le_refl _
theorem sg_begun {c : Pls} {F : Fs} {w : World} {R : Hp} (h : Sat w (fsHp c.fb c.mb F * (tabHp c.tb c.fb c.bp c.hm [] 0 * (Spill.poolX c.bp 40 3 4 0 0 0 0 * R)))) : Sat w (SgHp c ⟨F, [], 0, [], 0⟩ * R) := by
  refine h.perm ?_
  unfold SgHp poolHp pipesHp snksHp
  show _ = fsHp c.fb c.mb F * (tabHp c.tb c.fb c.bp c.hm [] 0 * (Spill.poolX c.bp 40 3 4 0 0 0 0 * (emp * emp))) * R
  rw [emp_sep, sep_emp]
  ac_rfl
section
variable {s : Sg} {N : Nat}
theorem Inv.file_node (h : Inv N s) {k : Int} {x : Hn} (hx : findA s.L k = some x) : ∀ n, n ≠ 2 → n ≠ 3 → cF n x = 0 := fun n h2 h3 => by
  have := h.th k x hx
  unfold ThOk at this
  unfold cF
  split
  · rename_i j a m e
    rw [e] at this
    rw [if_neg (by omega)]
  · rfl
theorem mem_find {α : Type} : ∀ (L : List (Int × α)) (k : Int) (x : α), (L.map Prod.fst).Nodup → (k, x) ∈ L → findA L k = some x
  | [], _, _, _, h => by cases h
  | p :: L, k, x, hn, h => by
    rw [List.map_cons, List.nodup_cons] at hn
    unfold findA
    rcases List.mem_cons.1 h with e | e
    · rw [← e]; rw [if_pos rfl]
    · rw [if_neg (fun e2 => hn.1 (by rw [e2]; exact List.mem_map.2 ⟨(k, x), e, rfl⟩))]
      exact mem_find L k x hn.2 e
theorem sumA_zero {α : Type} (f : α → Nat) (L : List (Int × α)) (h : ∀ k x, (k, x) ∈ L → f x = 0) : sumA f L = 0 := by
  rw [sumA_congr f (fun _ => 0) L h]
  induction L with
  | nil => rfl
  | cons p L ih =>
    show 0 + sumA (fun _ => 0) L = 0
    rw [ih fun k x hm => h k x (List.mem_cons_of_mem _ hm)]
theorem Inv.holds_eq (h : Inv N s) (n : Int) : holdsOf s.F n = (sumA (cF n) s.L : Int) := by
  unfold holdsOf
  cases hx : find s.F.L n with
  | some x => exact h.holds n x hx
  | none =>
    have hn : ¬ (1 ≤ n ∧ n < 6) := fun e => by have := (h.tree.only n).2 e; rw [hx] at this; cases this
    rw [sumA_zero (cF n) s.L fun k x hm => h.file_node (mem_find s.L k x h.nd hm) n (by omega) (by omega)]
    rfl
/-- How many buffers there are. -/
theorem Inv.buffers (h : Inv N s) : sumA cR s.L ≤ s.P.length ∧ sumA cW s.L ≤ s.P.length ∧ s.P.length ≤ sumA cR s.L + sumA cW s.L := by
  rw [h.nR, h.nW]
  have key : ∀ P : PL, (∀ k p, (k, p) ∈ P → p.rd = true ∨ p.wr = true) → sumA (fun p : Pp => p.rd.toNat) P ≤ P.length ∧ sumA (fun p : Pp => p.wr.toNat) P ≤ P.length ∧ P.length ≤ sumA (fun p : Pp => p.rd.toNat) P + sumA (fun p : Pp => p.wr.toNat) P := by
    intro P
    induction P with
    | nil => intro _; exact ⟨Nat.le_refl _, Nat.le_refl _, Nat.le_refl _⟩
    | cons p P ih =>
      intro hp
      obtain ⟨a, b, d⟩ := ih fun k q hq => hp k q (List.mem_cons_of_mem _ hq)
      have h1 := hp p.1 p.2 List.mem_cons_self
      show p.2.rd.toNat + sumA (fun p : Pp => p.rd.toNat) P ≤ P.length + 1 ∧ p.2.wr.toNat + sumA (fun p : Pp => p.wr.toNat) P ≤ P.length + 1 ∧ P.length + 1 ≤ p.2.rd.toNat + sumA (fun p : Pp => p.rd.toNat) P + (p.2.wr.toNat + sumA (fun p : Pp => p.wr.toNat) P)
      cases hr : p.2.rd <;> cases hw : p.2.wr <;> rw [hr, hw] at h1 <;> simp at h1 ⊢ <;> omega
  exact key s.P fun k p hm => (h.pk k p (mem_find s.P k p h.pnd hm)).2.1
theorem Inv.empty (h : Inv N s) (hn : ∀ k, findA s.L k = none) : s.L = [] ∧ s.P = [] ∧ ∀ n, holdsOf s.F n = 0 := by
  have hL : s.L = [] := by
    cases hl : s.L with
    | nil => rfl
    | cons p L =>
      have := hn p.1
      rw [hl] at this
      unfold findA at this
      rw [if_pos rfl] at this
      cases this
  have hb := h.buffers
  rw [hL] at hb
  refine ⟨hL, List.eq_nil_of_length_eq_zero (by have := hb.2.2; have e : sumA cR ([] : HL) + sumA cW ([] : HL) = 0 := rfl; omega), fun n => ?_⟩
  rw [h.holds_eq, hL]; rfl
end
section
variable {c : Pls} {s : Sg} {N : Nat} {w : World} {R : Hp}
theorem all_st (hN : N ≤ 100) (hI : Inv N s) (h : Sat w (SgHp c s * R)) :
    Calls Tryz.prog 23 #[pp c.tb] w fun e w' => (∃ p cap ks, e = .returned (.slice p (List.length ks) cap) ∧ KeysOf (hblk s.L) ks ∧ Sat w' (SgHp c s * (arr 3 1 p ks.length cap (ks.map iv) * R))) ∧ Below w.heap.size w w' := by
  refine (All_calls c.tb c.fb c.bp c.hm s.n s.L (by have := hI.lenN; omega) w _ (sg_tab h)).mono ?_
  rintro e w' ⟨⟨p, cap, ks, he, hk, S⟩, hB⟩
  exact ⟨⟨p, cap, ks, he, hk, S.perm (by unfold SgHp; ac_rfl)⟩, hB⟩
theorem buffers_st (h : Sat w (SgHp c s * R)) : Calls Tryz.prog 26 #[pp c.bp] w fun e w' => e = .returned (.int .i64 (s.P.length : Int)) ∧ w = w' :=
  (Spill.xbuffers c.bp 40 3 4 (sumA Pp.len s.P) (sumA Pp.use s.P) s.P.length s.tot (fsHp c.fb c.mb s.F * (tabHp c.tb c.fb c.bp c.hm s.L s.n * (pipesHp c s.P * (snksHp s.L * R)))) w (h.perm (by unfold SgHp poolHp; ac_rfl))).mono fun e w' ⟨he, hw⟩ => ⟨he, hw⟩
theorem held_st (h : Sat w (SgHp c s * R)) : Calls Tryz.prog 28 #[pp c.bp] w fun e w' => e = .returned (.int .i64 (sumA Pp.len s.P : Int)) ∧ w = w' :=
  (Spill.xheld c.bp 40 3 4 (sumA Pp.len s.P) (sumA Pp.use s.P) s.P.length s.tot (fsHp c.fb c.mb s.F * (tabHp c.tb c.fb c.bp c.hm s.L s.n * (pipesHp c s.P * (snksHp s.L * R)))) w (h.perm (by unfold SgHp poolHp; ac_rfl))).mono fun e w' ⟨he, hw⟩ => ⟨he, hw⟩
end
end Go.Proofs.YtljlpkeddbfpaaaGreatDoor.Hd

namespace Go.Proofs.YtljlpkeddbfpaaaGreatDoor.Hd
open Go.RowKit Go.Maps Go.Proofs.YtljlpkeddbfpaaaGreatDoor Go.Proofs.YtljlpkeddbfpaaaGreatDoor.Hp
set_option linter.unusedVariables false

def Srt (H : List DH) : Prop := H.Pairwise (fun x y => x.id < y.id)
/-- A table's handles and the document's row of them say the same. -/
structure LR (P : Int → Hn → DH → Prop) (L : HL) (H : List DH) : Prop where
  srt : Srt H
  fwd : ∀ k y, findA L k = some y → ∃ h, h ∈ H ∧ h.id = k ∧ P k y h
  fro : ∀ h, h ∈ H → ∃ y, findA L h.id = some y ∧ P h.id y h
theorem srt_at {H : List DH} (hs : Srt H) {i j : Nat} (hi : i < H.length) (hj : j < H.length) (h : H[i].id = H[j].id) : i = j := by
  have hp := List.pairwise_iff_getElem.1 hs
  rcases Nat.lt_trichotomy i j with e | e | e
  · have := hp i j hi hj e; omega
  · exact e
  · have := hp j i hj hi e; omega
theorem LR.at {P : Int → Hn → DH → Prop} {L : HL} {H : List DH} (r : LR P L H) {k : Int} {y : Hn} (h : findA L k = some y) : ∃ i : Nat, ∃ hi : i < H.length, placeN H k 0 = (i : Int) ∧ H[i].id = k ∧ P k y H[i] := by
  rcases placeN_cases H k 0 with ⟨_, h2⟩ | ⟨i, hi, e, hid⟩
  · obtain ⟨x, hx, e, _⟩ := r.fwd k y h
    exact absurd e (h2 x hx)
  · refine ⟨i, hi, by rw [e, Nat.zero_add], hid, ?_⟩
    obtain ⟨y', e1, p1⟩ := r.fro H[i] (List.getElem_mem hi)
    rw [hid] at e1 p1
    rw [e1] at h
    injection h with h
    rw [← h]; exact p1
theorem LR.no {P : Int → Hn → DH → Prop} {L : HL} {H : List DH} (r : LR P L H) {k : Int} (h : findA L k = none) : placeN H k 0 = -1 := by
  rcases placeN_cases H k 0 with ⟨e, _⟩ | ⟨i, hi, e, hid⟩
  · exact e
  · obtain ⟨y', e1, p1⟩ := r.fro H[i] (List.getElem_mem hi)
    rw [hid, h] at e1; cases e1
theorem srt_ne {H : List DH} (hs : Srt H) : (H.map DH.id).Pairwise (· ≠ ·) := by
  rw [List.pairwise_map]
  exact hs.imp fun h e => by omega
theorem LR.len {P : Int → Hn → DH → Prop} {L : HL} {H : List DH} (r : LR P L H) (hn : NodupK L) : H.length = L.length := by
  have h1 := len_subset' (H.map DH.id) (L.map Prod.fst) (srt_ne r.srt) (fun x hx => by
    obtain ⟨h, hh, rfl⟩ := List.mem_map.1 hx
    obtain ⟨y, e, _⟩ := r.fro h hh
    exact findA_mem L _ (by rw [e]; rfl))
  have h2 := len_subset' (L.map Prod.fst) (H.map DH.id) hn (fun x hx => by
    obtain ⟨p, hp, rfl⟩ := List.mem_map.1 hx
    have e := mem_find L p.1 p.2 hn hp
    obtain ⟨h, hh, e2, _⟩ := r.fwd _ _ e
    exact List.mem_map.2 ⟨h, hh, e2⟩)
  rw [List.length_map, List.length_map] at h1 h2
  omega
theorem LR.free {P : Int → Hn → DH → Prop} {L : HL} {H : List DH} (r : LR P L H) {g : Nat} (hf : Free L g) (hL : L.length ≤ 100000) : FreeD H g where
  pos := hf.pos
  top := by have := hf.le; omega
  no := r.no hf.none
  le j h1 h2 := by
    have := hf.least j h1 h2
    cases hy : findA L (j : Int) with
    | none => rw [hy] at this; cases this
    | some y =>
      obtain ⟨i, hi, e, _⟩ := r.at hy
      rw [e]; omega
theorem mem_insN (h x : DH) : ∀ (l : List DH) (b : Bool), x ∈ insN h l b ↔ x ∈ l ∨ (b = false ∧ x = h)
  | [], false => by show x ∈ [h] ↔ _; simp
  | [], true => by show x ∈ [] ↔ _; simp
  | y :: l, true => by
    show x ∈ y :: insN h l true ↔ _
    rw [insN_true]; simp
  | y :: l, false => by
    show x ∈ (if h.id < y.id then h :: y :: insN h l true else y :: insN h l false) ↔ _
    split
    · rw [insN_true]; simp only [List.mem_cons, true_and]
      constructor
      · rintro (e | e | e)
        · exact .inr e
        · exact .inl (.inl e)
        · exact .inl (.inr e)
      · rintro ((e | e) | e)
        · exact .inr (.inl e)
        · exact .inr (.inr e)
        · exact .inl e
    · rw [List.mem_cons, mem_insN h x l false, List.mem_cons]
      constructor
      · rintro (e | e | e)
        · exact .inl (.inl e)
        · exact .inl (.inr e)
        · exact .inr e
      · rintro ((e | e) | e)
        · exact .inl e
        · exact .inr (.inl e)
        · exact .inr (.inr e)
theorem insN_len (h : DH) : ∀ (l : List DH), (insN h l false).length = l.length + 1
  | [] => rfl
  | y :: l => by
    show (if h.id < y.id then h :: y :: insN h l true else y :: insN h l false).length = _
    split
    · rw [insN_true]; rfl
    · rw [List.length_cons, insN_len h l]; rfl
theorem insN_srt (h : DH) : ∀ (l : List DH), Srt l → (∀ x ∈ l, x.id ≠ h.id) → Srt (insN h l false)
  | [], _, _ => List.pairwise_singleton _ _
  | y :: l, hs, hn => by
    have hc := List.pairwise_cons.1 hs
    show Srt (if h.id < y.id then h :: y :: insN h l true else y :: insN h l false)
    by_cases e : h.id < y.id
    · rw [if_pos e, insN_true]
      refine List.pairwise_cons.2 ⟨fun x hx => ?_, hs⟩
      rcases List.mem_cons.1 hx with e2 | e2
      · rw [e2]; exact e
      · have := hc.1 x e2; omega
    · rw [if_neg e]
      refine List.pairwise_cons.2 ⟨fun x hx => ?_, insN_srt h l hc.2 fun x hx => hn x (List.mem_cons_of_mem _ hx)⟩
      rcases (mem_insN h x l false).1 hx with e2 | ⟨_, e2⟩
      · exact hc.1 x e2
      · have := hn y List.mem_cons_self
        rw [e2]; omega
section
variable {P : Int → Hn → DH → Prop} {L : HL} {H : List DH}
theorem LR.nil : LR P [] [] := ⟨List.Pairwise.nil, fun k y h => (by cases h), fun h hh => (by cases hh)⟩
theorem LR.imp {Q : Int → Hn → DH → Prop} (r : LR P L H) (hq : ∀ k y h, findA L k = some y → h ∈ H → P k y h → Q k y h) : LR Q L H where
  srt := r.srt
  fwd k y hy := by
    obtain ⟨h, h1, h2, h3⟩ := r.fwd k y hy
    exact ⟨h, h1, h2, hq k y h hy h1 h3⟩
  fro h hh := by
    obtain ⟨y, h1, h2⟩ := r.fro h hh
    exact ⟨y, h1, hq _ y h h1 hh h2⟩
theorem LR.put (r : LR P L H) {g : Int} {y : Hn} {h : DH} (hg : findA L g = none) (hh : h.id = g) (hp : P g y h) : LR P ((g, y) :: L) (insN h H false) where
  srt := insN_srt h H r.srt fun x hx e => by
    obtain ⟨y', e1, _⟩ := r.fro x hx
    rw [e, hh, hg] at e1; cases e1
  fwd k z hz := by
    rw [findA_cons] at hz
    by_cases e : k = g
    · rw [if_pos e] at hz
      injection hz with hz
      exact ⟨h, (mem_insN h h H false).2 (.inr ⟨rfl, rfl⟩), by rw [hh, e], by rw [e, ← hz]; exact hp⟩
    · rw [if_neg e] at hz
      obtain ⟨x, h1, h2, h3⟩ := r.fwd k z hz
      exact ⟨x, (mem_insN h x H false).2 (.inl h1), h2, h3⟩
  fro x hx := by
    rcases (mem_insN h x H false).1 hx with e | ⟨_, e⟩
    · obtain ⟨z, h1, h2⟩ := r.fro x e
      refine ⟨z, ?_, h2⟩
      rw [findA_cons, if_neg (fun e2 => by rw [e2, hg] at h1; cases h1)]
      exact h1
    · subst e
      exact ⟨y, by rw [findA_cons, if_pos hh], by rw [hh]; exact hp⟩
theorem LR.upd (r : LR P L H) {k : Int} {y y' : Hn} {h' : DH} {i : Nat} (hy : findA L k = some y) (hi : i < H.length) (hk : H[i].id = k) (hh : h'.id = k) (hp : P k y' h') : LR P (updA L k y') (H.set i h') where
  srt := by
    refine List.pairwise_iff_getElem.2 fun a b ha hb hab => ?_
    have hp := List.pairwise_iff_getElem.1 r.srt a b (by rw [List.length_set] at ha; exact ha) (by rw [List.length_set] at hb; exact hb) hab
    rw [List.getElem_set, List.getElem_set]
    split
    · rename_i e1
      split
      · rename_i e2; omega
      · subst e1; rw [hh, ← hk]; exact hp
    · split
      · rename_i e2; subst e2; rw [hh, ← hk]; exact hp
      · exact hp
  fwd j z hz := by
    rw [findA_upd L k j y' (by rw [hy]; rfl)] at hz
    by_cases e : j = k
    · rw [if_pos e] at hz
      injection hz with hz
      refine ⟨h', List.mem_iff_getElem.2 ⟨i, by rw [List.length_set]; exact hi, List.getElem_set_self _⟩, by rw [hh, e], by rw [e, ← hz]; exact hp⟩
    · rw [if_neg e] at hz
      obtain ⟨x, h1, h2, h3⟩ := r.fwd j z hz
      obtain ⟨a, ha, e2⟩ := List.mem_iff_getElem.1 h1
      refine ⟨x, List.mem_iff_getElem.2 ⟨a, by rw [List.length_set]; exact ha, ?_⟩, h2, h3⟩
      rw [List.getElem_set_ne (fun e3 => e (by subst e3; rw [← h2, ← e2, hk])), e2]
  fro x hx := by
    obtain ⟨a, ha, e⟩ := List.mem_iff_getElem.1 hx
    rw [List.length_set] at ha
    by_cases e2 : i = a
    · subst e2
      rw [List.getElem_set_self] at e
      subst e
      exact ⟨y', by rw [findA_upd L k _ y' (by rw [hy]; rfl), if_pos hh], by rw [hh]; exact hp⟩
    · rw [List.getElem_set_ne e2] at e
      obtain ⟨z, h1, h2⟩ := r.fro x (by rw [← e]; exact List.getElem_mem ha)
      refine ⟨z, ?_, h2⟩
      rw [findA_upd L k _ y' (by rw [hy]; rfl), if_neg (fun e3 => e2 (srt_at r.srt hi ha (by rw [hk, e, e3])))]
      exact h1
theorem LR.del (r : LR P L H) (hn : NodupK L) {k : Int} {i : Nat} (hi : i < H.length) (hk : H[i].id = k) : LR P (delA L k) (H.eraseIdx i) where
  srt := List.Pairwise.sublist (List.eraseIdx_sublist H i) r.srt
  fwd j z hz := by
    rw [findA_del L k j hn] at hz
    by_cases e : j = k
    · rw [if_pos e] at hz; cases hz
    · rw [if_neg e] at hz
      obtain ⟨x, h1, h2, h3⟩ := r.fwd j z hz
      obtain ⟨a, ha, e2⟩ := List.mem_iff_getElem.1 h1
      refine ⟨x, (List.mem_eraseIdx_iff_getElem).2 ⟨a, ha, fun e3 => e (by subst e3; rw [← h2, ← e2, hk]), e2⟩, h2, h3⟩
  fro x hx := by
    obtain ⟨a, ha, hne, e⟩ := (List.mem_eraseIdx_iff_getElem).1 hx
    obtain ⟨z, h1, h2⟩ := r.fro x (by rw [← e]; exact List.getElem_mem ha)
    refine ⟨z, ?_, h2⟩
    rw [findA_del L k _ hn, if_neg (fun e3 => hne (srt_at r.srt ha hi (by rw [e, e3, hk])))]
    exact h1
end
end Go.Proofs.YtljlpkeddbfpaaaGreatDoor.Hd

namespace Go.Proofs.YtljlpkeddbfpaaaGreatDoor.Hd
open Go.RowKit Go.Maps Go.Proofs.YtljlpkeddbfpaaaGreatDoor Go.Proofs.YtljlpkeddbfpaaaGreatDoor.Hp
set_option linter.unusedVariables false

abbrev BL := List Spill.Bf
/-- An open pipe of the document's is this one. -/
def isO (B : BL) (bb k : Nat) : Prop := ∃ hk : k < B.length, B[k].ba = bb ∧ B[k].closed = false
def HR (B : BL) (k : Int) (y : Hn) (h : DH) : Prop := match y.t with
  | .file j a m => h = ⟨k, 1, y.refs, (a : Int), j, m.r, m.w, m.m, ⟨#[]⟩, 0, 0⟩
  | .text s a => h = ⟨k, 2, y.refs, (a : Int), 0, false, false, false, s, 0, 0⟩
  | .sink _ _ _ l most => h = ⟨k, 3, y.refs, 0, 0, false, false, false, ⟨l.toArray⟩, (most : Int), 0⟩
  | .reader bb _ => ∃ i : Nat, isO B bb i ∧ h = ⟨k, 4, y.refs, 0, 0, false, false, false, ⟨#[]⟩, 0, (i : Int) + 1⟩
  | .writer bb _ => ∃ i : Nat, isO B bb i ∧ h = ⟨k, 5, y.refs, 0, 0, false, false, false, ⟨#[]⟩, 0, (i : Int) + 1⟩
theorem HR.of {B : BL} {k : Int} {y : Hn} {h : DH} {t : Th} (r : HR B k y h) (e : y.t = t) : HR B k ⟨y.b, y.refs, y.xb, t⟩ h := by
  obtain ⟨b, rf, xb, t'⟩ := y
  subst e
  exact r
theorem HR.mk {B : BL} {k : Int} {y : Hn} {h : DH} {t : Th} (e : y.t = t) (r : HR B k ⟨y.b, y.refs, y.xb, t⟩ h) : HR B k y h := by
  obtain ⟨b, rf, xb, t'⟩ := y
  subst e
  exact r
theorem HR.move {B B' : BL} {k : Int} {y : Hn} {h : DH} (hb : ∀ bb i eb, (y.t = .reader bb eb ∨ y.t = .writer bb eb) → isO B bb i → isO B' bb i) (r : HR B k y h) : HR B' k y h := by
  obtain ⟨b, rf, xb, t⟩ := y
  cases t with
  | file j a m => exact r
  | text s a => exact r
  | sink a b c l most => exact r
  | reader bb eb =>
    obtain ⟨i, h1, h2⟩ := r
    exact ⟨i, hb bb i eb (.inl rfl) h1, h2⟩
  | writer bb eb =>
    obtain ⟨i, h1, h2⟩ := r
    exact ⟨i, hb bb i eb (.inr rfl) h1, h2⟩
/-- The pipes. -/
structure PR (s : Sg) (B : BL) : Prop where
  fwd : ∀ k p, findA s.P k = some p → ∃ i rb pre, ∃ hi : i < B.length, B[i] = ⟨p.bb, rb, false, pre, p.data⟩ ∧ pre.length = p.frm
  inj : ∀ i j (hi : i < B.length) (hj : j < B.length), B[i].closed = false → B[j].closed = false → B[i].ba = B[j].ba → i = j
  fro : ∀ i (hi : i < B.length), B[i].closed = false → (findA s.P (B[i].ba : Int)).isSome = true
  sumh : Spill.sumOf Spill.Bf.h B = sumA Pp.len s.P
  sumo : Spill.sumOf Spill.Bf.o B = s.P.length
  wrs : ∀ k p, findA s.P k = some p → p.wr = true → ∃ j y eb, findA s.L j = some y ∧ y.t = .writer p.bb eb
  rds : ∀ k p, findA s.P k = some p → p.rd = true → ∃ j y eb, findA s.L j = some y ∧ y.t = .reader p.bb eb
  small : ∀ x, x ∈ B → x.pre.length + x.data.length ≤ s.tot
theorem PR.at {s : Sg} {B : BL} (r : PR s B) {bb k : Nat} {p : Pp} (hk : isO B bb k) (hp : findA s.P (bb : Int) = some p) (hpb : p.bb = bb) : ∃ rb pre, ∃ hk : k < B.length, B[k] = ⟨bb, rb, false, pre, p.data⟩ ∧ pre.length = p.frm := by
  obtain ⟨hk1, e1, e2⟩ := hk
  obtain ⟨i, rb, pre, hi, e3, e4⟩ := r.fwd _ p hp
  obtain rfl : k = i := r.inj k i hk1 hi e2 (by rw [e3]) (by rw [e1, e3, hpb])
  exact ⟨rb, pre, hk1, by rw [e3, hpb], e4⟩
/-- The tree's names, as the document's. -/
def kidsE : List EN := [⟨nm 97, 2⟩, ⟨nm 98, 3⟩, ⟨nm 100, 5⟩, ⟨nm 108, 4⟩]
abbrev kidsM : K.SM := K.putM (K.putM (K.putM (K.putM (fun _ => none) (nm 97) 2) (nm 98) 3) (nm 108) 4) (nm 100) 5
/-- A node and the document's. -/
structure NdR (x : Nd) (y : DN) : Prop where
  kind : y.kind = x.kind
  text : y.text = x.text
  names : y.names = x.names
  holds : y.holds = x.holds
/-- The trees. -/
structure NR (F : Fs) (cf : RF) (N : List DN) : Prop where
  len : N.length = 9
  room : cf.room = 60
  at' : ∀ (j : Nat) (x : Nd) (hj : j < N.length), find F.L (j : Int) = some x → NdR x N[j]
  no : ∀ (j : Nat) (hj : j < N.length), 6 ≤ j → N[j].kind = 0
  kn : ∀ (j : Nat) (hj : j < N.length), N[j].kn = if j = 1 then 4 else 0
  used : F.used = (sizD (N.drop 1) : Int)
  names : ∃ x kd, find F.L 1 = some x ∧ x.kind = 1 ∧ x.kids = some kd ∧ kd.M = kidsM ∧ kd.sz ≤ 100
  empty : ∃ x kd, find F.L 5 = some x ∧ x.kind = 1 ∧ x.kids = some kd ∧ (kd.M = fun _ => none) ∧ kd.sz ≤ 100
  link : ∃ x, find F.L 4 = some x ∧ x.kind = 3
/-- The document's state. -/
structure Dg where
  c : RT
  cf : RF
  H : List DH
  N : List DN
  B : BL
  cap : Nat
  p : Option Addr
  kp : Option Addr
  kc : Nat
def DgHp (d : Dg) : Hp := rtHp d.c d.H d.B.length * (rfHp d.cf d.N * (pqHp d.c d.B * (Spill.rpool d.c.rp 40 3 4 d.cap d.p d.B * (all Spill.rbuf d.B * enA d.kp d.kc kidsE))))
structure Rel (n : Nat) (s : Sg) (d : Dg) : Prop where
  hl : LR (HR d.B) s.L d.H
  pl : PR s d.B
  nl : NR s.F d.cf d.N
  rf : d.c.rf = d.cf.fb
  lenB : d.B.length ≤ n
  kids : ∀ h : 1 < d.N.length, d.N[1].kp = d.kp ∧ d.N[1].kc = d.kc
section
variable {F : Fs} {cf : RF} {N : List DN}
theorem sizD_drop (L : List DN) : sizD (L.drop 1) + sizD (L.take 1) = sizD L := by
  cases L with
  | nil => rfl
  | cons x r => show sizD r + ((if 0 < x.kind then x.text.size else 0) + 0) = (if 0 < x.kind then x.text.size else 0) + sizD r; omega
theorem sizD_set : ∀ (L : List DN) (i : Nat) (hi : i < L.length) (y : DN), sizD (L.set i y) + (if 0 < L[i].kind then L[i].text.size else 0) = sizD L + (if 0 < y.kind then y.text.size else 0)
  | [], i, hi, _ => by simp at hi
  | x :: r, 0, _, y => by
    show ((if 0 < y.kind then y.text.size else 0) + sizD r) + (if 0 < x.kind then x.text.size else 0) = ((if 0 < x.kind then x.text.size else 0) + sizD r) + _
    omega
  | x :: r, i + 1, hi, y => by
    have hi' : i < r.length := by simpa using hi
    have := sizD_set r i hi' y
    show ((if 0 < x.kind then x.text.size else 0) + sizD (r.set i y)) + (if 0 < r[i].kind then r[i].text.size else 0) = ((if 0 < x.kind then x.text.size else 0) + sizD r) + _
    omega
theorem sizD_drop_set (L : List DN) (i : Nat) (hi1 : 1 ≤ i) (hi : i < L.length) (y : DN) : sizD ((L.set i y).drop 1) + (if 0 < L[i].kind then L[i].text.size else 0) = sizD (L.drop 1) + (if 0 < y.kind then y.text.size else 0) := by
  have h1 := sizD_set L i hi y
  have h2 := sizD_drop (L.set i y)
  have h3 := sizD_drop L
  have h4 : (L.set i y).take 1 = L.take 1 := by
    obtain ⟨k, rfl⟩ : ∃ k, i = k + 1 := ⟨i - 1, by omega⟩
    cases L with
    | nil => rfl
    | cons x r => rfl
  rw [h4] at h2
  omega
/-- A node takes another one's place in both trees. -/
theorem NR.put (r : NR F cf N) {j : Nat} (hj1 : 1 ≤ j) (hj : j < N.length) (hj6 : j < 6) {x x' : Nd} {F' : Fs} (hx : find F.L (j : Int) = some x) (hL : F'.L = upd F.L (j : Int) x') (hk : x'.kind = x.kind) (hkd : x'.kids = x.kids) (y : DN) (hy : NdR x' y) (hkn : y.kn = N[j].kn)
    (hu : F'.used = (sizD ((N.set j y).drop 1) : Int)) : NR F' cf (N.set j y) where
  len := by rw [List.length_set]; exact r.len
  room := r.room
  at' k z hk' hz := by
    rw [List.length_set] at hk'
    rw [hL, find_upd F.L _ _ x' (by rw [hx]; rfl)] at hz
    by_cases e : k = j
    · subst e
      rw [if_pos rfl] at hz
      injection hz with hz
      rw [List.getElem_set_self, ← hz]; exact hy
    · rw [if_neg (by omega)] at hz
      rw [List.getElem_set_ne (by omega)]
      exact r.at' k z hk' hz
  no k hk' h6 := by
    rw [List.length_set] at hk'
    rw [List.getElem_set_ne (by omega)]
    exact r.no k hk' h6
  kn k hk' := by
    have hk2 : k < N.length := by rw [List.length_set] at hk'; exact hk'
    by_cases e : k = j
    · subst e; rw [List.getElem_set_self, hkn]; exact r.kn k hk2
    · rw [List.getElem_set_ne (by omega)]; exact r.kn k hk2
  used := hu
  names := by
    obtain ⟨z, kd, h1, h2, h3, h4⟩ := r.names
    by_cases e : (1 : Int) = (j : Int)
    · have hxz : x = z := by rw [e, hx] at h1; injection h1
      exact ⟨x', kd, by rw [hL, find_upd F.L _ _ x' (by rw [hx]; rfl), if_pos e], by rw [hk, hxz, h2], by rw [hkd, hxz, h3], h4⟩
    · exact ⟨z, kd, by rw [hL, find_upd F.L _ _ x' (by rw [hx]; rfl), if_neg e]; exact h1, h2, h3, h4⟩
  empty := by
    obtain ⟨z, kd, h1, h2, h3, h4⟩ := r.empty
    by_cases e : (5 : Int) = (j : Int)
    · have hxz : x = z := by rw [e, hx] at h1; injection h1
      exact ⟨x', kd, by rw [hL, find_upd F.L _ _ x' (by rw [hx]; rfl), if_pos e], by rw [hk, hxz, h2], by rw [hkd, hxz, h3], h4⟩
    · exact ⟨z, kd, by rw [hL, find_upd F.L _ _ x' (by rw [hx]; rfl), if_neg e]; exact h1, h2, h3, h4⟩
  link := by
    obtain ⟨z, h1, h2⟩ := r.link
    by_cases e : (4 : Int) = (j : Int)
    · have hxz : x = z := by rw [e, hx] at h1; injection h1
      exact ⟨x', by rw [hL, find_upd F.L _ _ x' (by rw [hx]; rfl), if_pos e], by rw [hk, hxz, h2]⟩
    · exact ⟨z, by rw [hL, find_upd F.L _ _ x' (by rw [hx]; rfl), if_neg e]; exact h1, h2⟩
/-- Only a node's holds change. -/
theorem NR.holds (r : NR F cf N) {j : Nat} (hj1 : 1 ≤ j) (hj : j < N.length) (hj6 : j < 6) {x : Nd} (hx : find F.L (j : Int) = some x) (v v2 : Int) (hv : v = v2) (F' : Fs) (hF : F' = F.put (j : Int) { x with holds := v }) : NR F' cf (N.set j { N[j] with holds := v2 }) := by
  have h0 := r.at' j x hj hx
  obtain ⟨y, hy⟩ : ∃ y : DN, y = { N[j] with holds := v2 } := ⟨_, rfl⟩
  have k1 : y.kind = N[j].kind := by rw [hy]
  have k2 : y.text = N[j].text := by rw [hy]
  have k3 : y.names = N[j].names := by rw [hy]
  have k4 : y.holds = v2 := by rw [hy]
  have k5 : y.kn = N[j].kn := by rw [hy]
  rw [← hy]
  subst hF
  refine r.put hj1 hj hj6 (x' := { x with holds := v }) hx rfl rfl rfl y ⟨by rw [k1]; exact h0.kind, by rw [k2]; exact h0.text, by rw [k3]; exact h0.names, by rw [k4]; exact hv.symm⟩ k5 ?_
  show F.used = _
  rw [r.used]
  have := sizD_drop_set N j hj1 hj y
  rw [k1, k2] at this
  omega
/-- A node's text changes. -/
theorem NR.write (r : NR F cf N) (hroom : F.room = 60) {j a : Nat} (d : ByteArray) (hj1 : 1 ≤ j) (hj : j < N.length) (hj6 : j < 6) {x : Nd} (hx : find F.L (j : Int) = some x) (hk : x.kind = 2) :
    (fwD cf.room N j a N[j] d).1 = (writeP F (j : Int) x a d).1 ∧ NR (writeP F (j : Int) x a d).2 cf (fwD cf.room N j a N[j] d).2 := by
  have h0 := r.at' j x hj hx
  have hsz : (wrB x.text a d).size = x.text.size + moreB x.text a d := by
    rw [wr_pad]
    unfold moreB
    rw [nowB_size _ _ _ (by rw [padB_size]; omega), padB_size]
    omega
  unfold fwD writeP
  rw [h0.text]
  by_cases h1 : 4096 < a ∨ 4096 - a < d.size
  · rw [if_pos h1, if_pos h1]; exact ⟨rfl, r⟩
  · rw [if_neg h1, if_neg h1]
    by_cases h2 : d.size = 0
    · rw [if_pos h2, if_pos h2]; exact ⟨rfl, r⟩
    · rw [if_neg h2, if_neg h2]
      have hu := r.used
      have hr := r.room
      by_cases h3 : F.room - F.used < (moreB x.text a d : Int)
      · rw [if_pos h3, if_pos (by omega)]; exact ⟨rfl, r⟩
      · rw [if_neg h3, if_neg (by omega)]
        refine ⟨rfl, ?_⟩
        obtain ⟨y, hy⟩ : ∃ y : DN, y = { N[j] with text := wrB x.text a d } := ⟨_, rfl⟩
        have k1 : y.kind = x.kind := by rw [hy]; exact h0.kind
        have k2 : y.text = wrB x.text a d := by rw [hy]
        have k3 : y.names = x.names := by rw [hy]; exact h0.names
        have k4 : y.holds = x.holds := by rw [hy]; exact h0.holds
        have k5 : y.kn = N[j].kn := by rw [hy]
        rw [← hy]
        refine r.put hj1 hj hj6 (x' := { x with text := wrB x.text a d }) hx rfl rfl rfl y ⟨k1, k2, k3, k4⟩ k5 ?_
        show F.used + (moreB x.text a d : Int) = _
        have := sizD_drop_set N j hj1 hj y
        rw [h0.kind, h0.text, k1, k2, if_pos (show 0 < x.kind by omega), if_pos (show 0 < x.kind by omega)] at this
        omega
end
end Go.Proofs.YtljlpkeddbfpaaaGreatDoor.Hd

