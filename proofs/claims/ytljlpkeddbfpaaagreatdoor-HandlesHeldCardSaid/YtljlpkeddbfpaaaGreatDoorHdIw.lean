/- Each step keeps what is true. -/
import Derived.Test.YtljlpkeddbfpaaaGreatDoorHdIv
namespace Go.Proofs.YtljlpkeddbfpaaaGreatDoor.Hd
open Go.RowKit Go.Maps Go.Proofs.YtljlpkeddbfpaaaGreatDoor Go.Proofs.YtljlpkeddbfpaaaGreatDoor.Hp
set_option linter.unusedVariables false

section
variable {s : Sg} {N : Nat}
theorem same_holds (F : Fs) : ∀ j z, find F.L j = some z → ∃ u, find F.L j = some u ∧ z.holds = u.holds := fun j z h => ⟨z, h, rfl⟩
theorem same_cons (F : Fs) {y : Hn} (h : ∀ j, cF j y = 0) : ∀ j z, find F.L j = some z → ∃ u, find F.L j = some u ∧ z.holds = u.holds + (cF j y : Int) := fun j z hz => ⟨z, hz, by rw [h j]; simp⟩
theorem same_del (F : Fs) {y : Hn} (h : ∀ j, cF j y = 0) : ∀ j z, find F.L j = some z → ∃ u, find F.L j = some u ∧ z.holds = u.holds - (cF j y : Int) := fun j z hz => ⟨z, hz, by rw [h j]; simp⟩
theorem Inv.hb (h : Inv N s) (hN : N ≤ 100) {k : Int} {x : Nd} (hx : find s.F.L k = some x) : 0 ≤ x.holds ∧ x.holds ≤ 900000 := by
  have h1 := h.holds k x hx
  have h2 := sumA_le (cF k) 1 (cF_le k) s.L
  have h3 := h.lenL
  omega
theorem Inv.step_pipe (h : Inv N s) {g1 g2 h1 x1 h2 x2 bb eb : Nat} (hg1 : Free s.L g1) (hg2 : ∀ y, Free (((g1 : Int), y) :: s.L) g2) (hp : findA s.P (bb : Int) = none) :
    Inv (N + 1) { s with L := ((g2 : Int), (⟨h2, 1, x2, .writer bb eb⟩ : Hn)) :: ((g1 : Int), (⟨h1, 1, x1, .reader bb eb⟩ : Hn)) :: s.L, n := s.n + 2, P := ((bb : Int), (⟨bb, eb, 0, [], true, true⟩ : Pp)) :: s.P } := by
  obtain ⟨rN, hrN⟩ : ∃ r : Hn, r = ⟨h1, 1, x1, .reader bb eb⟩ := ⟨_, rfl⟩
  obtain ⟨wN, hwN⟩ : ∃ r : Hn, r = ⟨h2, 1, x2, .writer bb eb⟩ := ⟨_, rfl⟩
  obtain ⟨pN, hpN⟩ : ∃ p : Pp, p = ⟨bb, eb, 0, [], true, true⟩ := ⟨_, rfl⟩
  rw [← hrN, ← hwN, ← hpN]
  have hm := h.more
  have hl := h.lenL
  have b1 := hg1.le
  have b1' := hg1.pos
  have b2 := (hg2 rN).le
  have b2' := (hg2 rN).pos
  simp only [List.length_cons] at b2
  have hf : ∀ j, findA (((g2 : Int), wN) :: ((g1 : Int), rN) :: s.L) j = if j = (g2 : Int) then some wN else if j = (g1 : Int) then some rN else findA s.L j := fun j => by rw [findA_cons, findA_cons]
  have hq : ∀ j, findA (((bb : Int), pN) :: s.P) j = if j = (bb : Int) then some pN else findA s.P j := fun j => findA_cons s.P bb j pN
  have old : ∀ j q, findA s.P j = some q → findA (((bb : Int), pN) :: s.P) j = some q := fun j q hj => by
    rw [hq, if_neg (fun e => by rw [e, hp] at hj; cases hj)]; exact hj
  have cas : ∀ j x, findA (((g2 : Int), wN) :: ((g1 : Int), rN) :: s.L) j = some x → (j = (g2 : Int) ∧ x = wN) ∨ (j = (g1 : Int) ∧ x = rN) ∨ findA s.L j = some x := fun j x hx => by
    rw [hf] at hx
    split at hx
    · rename_i e; injection hx with hx; exact .inl ⟨e, hx.symm⟩
    · split at hx
      · rename_i e; injection hx with hx; exact .inr (.inl ⟨e, hx.symm⟩)
      · exact .inr (.inr hx)
  have no : ∀ j x, findA s.L j = some x → (∀ e, x.t ≠ .reader bb e) ∧ (∀ e, x.t ≠ .writer bb e) := fun j x hx => by
    have := h.th j x hx
    unfold ThOk at this
    refine ⟨fun e he => ?_, fun e he => ?_⟩
    · rw [he] at this; obtain ⟨q, hq, _⟩ := this; rw [hp] at hq; cases hq
    · rw [he] at this; obtain ⟨q, hq, _⟩ := this; rw [hp] at hq; cases hq
  refine { tree := h.tree, nd := nodup_cons (nodup_cons h.nd rN hg1.none) wN (hg2 rN).none, ids := fun j x hx => ?_, refs := fun j x hx => ?_, th := fun j x hx => ?_, oneR := fun i j x z b e1 e2 hi hj hx hz => ?_, oneW := fun i j x z b e1 e2 hi hj hx hz => ?_,
           nR := ?_, nW := ?_, pnd := nodup_cons h.pnd pN hp, pk := fun j q hj => ?_, holds := fun j x hx => ?_, lenL := ?_, lenN := ?_, lenP := ?_, held := ?_, tot := hm.tot }
  · rcases cas j x hx with ⟨e, _⟩ | ⟨e, _⟩ | e
    · omega
    · omega
    · exact hm.ids j x e
  · rcases cas j x hx with ⟨_, e⟩ | ⟨_, e⟩ | e
    · rw [e, hwN]; exact ⟨Int.le_refl _, by show (1 : Int) ≤ _; omega⟩
    · rw [e, hrN]; exact ⟨Int.le_refl _, by show (1 : Int) ≤ _; omega⟩
    · exact hm.refs j x e
  · show ThOk (((bb : Int), pN) :: s.P) x
    rcases cas j x hx with ⟨_, e⟩ | ⟨_, e⟩ | e
    · rw [e, hwN]; exact ⟨pN, by rw [hq, if_pos rfl], by rw [hpN], by rw [hpN]⟩
    · rw [e, hrN]; exact ⟨pN, by rw [hq, if_pos rfl], by rw [hpN], by rw [hpN]⟩
    · have h0 := h.th j x e
      unfold ThOk at h0 ⊢
      split at h0
      · exact h0
      · exact h0
      · exact h0
      · obtain ⟨q, a, b, d⟩ := h0; exact ⟨q, old _ q a, b, d⟩
      · obtain ⟨q, a, b, d⟩ := h0; exact ⟨q, old _ q a, b, d⟩
  · rcases cas i x hi with ⟨_, e⟩ | ⟨ei, e⟩ | e
    · rw [e, hwN] at hx; cases hx
    · rcases cas j z hj with ⟨_, e'⟩ | ⟨ej, e'⟩ | e'
      · rw [e', hwN] at hz; cases hz
      · rw [ei, ej]
      · rw [e, hrN] at hx; cases hx
        exact absurd hz ((no j z e').1 _)
    · rcases cas j z hj with ⟨_, e'⟩ | ⟨ej, e'⟩ | e'
      · rw [e', hwN] at hz; cases hz
      · rw [e', hrN] at hz; cases hz
        exact absurd hx ((no i x e).1 _)
      · exact h.oneR i j x z b e1 e2 e e' hx hz
  · rcases cas i x hi with ⟨ei, e⟩ | ⟨_, e⟩ | e
    · rcases cas j z hj with ⟨ej, e'⟩ | ⟨_, e'⟩ | e'
      · rw [ei, ej]
      · rw [e', hrN] at hz; cases hz
      · rw [e, hwN] at hx; cases hx
        exact absurd hz ((no j z e').2 _)
    · rw [e, hrN] at hx; cases hx
    · rcases cas j z hj with ⟨ej, e'⟩ | ⟨_, e'⟩ | e'
      · rw [e', hwN] at hz; cases hz
        exact absurd hx ((no i x e).2 _)
      · rw [e', hrN] at hz; cases hz
      · exact h.oneW i j x z b e1 e2 e e' hx hz
  · show cR wN + (cR rN + sumA cR s.L) = pN.rd.toNat + sumA (fun p : Pp => p.rd.toNat) s.P
    rw [hwN, hrN, hpN, h.nR]
    show 0 + (1 + _) = 1 + _
    omega
  · show cW wN + (cW rN + sumA cW s.L) = pN.wr.toNat + sumA (fun p : Pp => p.wr.toNat) s.P
    rw [hwN, hrN, hpN, h.nW]
    show 1 + (0 + _) = 1 + _
    omega
  · have hj' : findA (((bb : Int), pN) :: s.P) j = some q := hj
    rw [hq] at hj'
    split at hj'
    · rename_i e; injection hj' with hj'; rw [← hj', hpN, e]
      exact ⟨rfl, .inl rfl, Nat.zero_le _⟩
    · exact h.pk j q hj'
  · have := h.holds j x hx
    show x.holds = ((cF j wN + (cF j rN + sumA (cF j) s.L) : Nat) : Int)
    have a : cF j wN = 0 := by rw [hwN]; rfl
    have b : cF j rN = 0 := by rw [hrN]; rfl
    omega
  · show s.L.length + 1 + 1 ≤ _
    omega
  · have := h.lenN
    show s.n + 2 ≤ _
    omega
  · have := h.lenP
    show s.P.length + 1 ≤ _
    omega
  · have := h.held
    show Pp.len pN + sumA Pp.len s.P ≤ 40
    have a : Pp.len pN = 0 := by rw [hpN]; rfl
    omega
theorem Inv.step_reader (h : Inv N s) {id : Int} {y : Hn} {bb eb : Nat} {p : Pp} (hy : findA s.L id = some y) (hyt : y.t = .reader bb eb) (hp : findA s.P (bb : Int) = some p) : Inv (N + 1) { s with L := delA s.L id, P := closeR s.P bb p } := by
  have hcF : ∀ j, cF j y = 0 := fun j => by unfold cF; rw [hyt]
  have hcR : cR y = 1 := by unfold cR; rw [hyt]
  have hcW : cW y = 0 := by unfold cW; rw [hyt]
  have g1 := sumA_get cR s.L id y hy
  have g2 := sumA_get cW s.L id y hy
  have g3 := sumA_get (fun p : Pp => p.rd.toNat) s.P _ p hp
  have g4 := sumA_get (fun p : Pp => p.wr.toNat) s.P _ p hp
  have g5 := sumA_get Pp.len s.P _ p hp
  have nR := h.nR
  have nW := h.nW
  have hth := h.th id y hy
  unfold ThOk at hth
  rw [hyt] at hth
  obtain ⟨p0, hp0, _, hrd⟩ := hth
  rw [hp] at hp0
  injection hp0 with hp0
  subst hp0
  have hrd1 : p.rd.toNat = 1 := by rw [hrd]; rfl
  have notbb : ∀ k x, findA s.L k = some x → k ≠ id → ∀ b e, x.t = .reader b e → (b : Int) ≠ (bb : Int) := fun k x hx hk b e he hb => by
    have : b = bb := by omega
    subst this
    exact hk (h.oneR k id x y b e eb hx hy he hyt)
  unfold closeR
  by_cases hw : p.wr = true
  · rw [if_pos hw]
    have hs : (findA s.P (bb : Int)).isSome = true := by rw [hp]; rfl
    have hf : ∀ j, findA (updA s.P (bb : Int) { p with rd := false }) j = if j = (bb : Int) then some { p with rd := false } else findA s.P j := fun j => findA_upd s.P bb j _ hs
    have u3 := sumA_upd (fun p : Pp => p.rd.toNat) s.P _ p { p with rd := false } hp
    have u4 := sumA_upd (fun p : Pp => p.wr.toNat) s.P _ p { p with rd := false } hp
    have u5 := sumA_upd Pp.len s.P _ p { p with rd := false } hp
    refine h.del hy s.F _ h.tree (same_del s.F hcF) (fun k x hx hk => ?_) (by rw [u3]; show _ = 0 + _; omega) (by rw [u4]; show _ = p.wr.toNat + _; omega) (nodup_upd h.pnd _ _) (fun j q hj => ?_) (by rw [updA_len]; exact h.lenP) (by
      rw [u5]; have := h.held; show Pp.len p + _ ≤ 40; omega)
    · have h0 := h.th k x hx
      have hnb := notbb k x hx hk
      unfold ThOk at h0 ⊢
      split at h0
      · exact h0
      · exact h0
      · exact h0
      · rename_i b e heq
        obtain ⟨q, a, d, f⟩ := h0
        exact ⟨q, by rw [hf, if_neg (hnb b e heq)]; exact a, d, f⟩
      · rename_i b e heq
        obtain ⟨q, a, d, f⟩ := h0
        by_cases hb : (b : Int) = (bb : Int)
        · rw [hb, hp] at a; injection a with a; subst a
          exact ⟨{ p with rd := false }, by rw [hf, if_pos hb], d, f⟩
        · exact ⟨q, by rw [hf, if_neg hb]; exact a, d, f⟩
    · rw [hf] at hj
      split at hj
      · rename_i e; injection hj with hj; subst hj
        obtain ⟨a, _, d⟩ := h.pk _ p hp
        exact ⟨by rw [e]; exact a, .inr hw, d⟩
      · exact h.pk j q hj
  · rw [if_neg hw]
    have hw : p.wr = false := by simpa using hw
    have hf : ∀ j, findA (delA s.P (bb : Int)) j = if j = (bb : Int) then none else findA s.P j := fun j => findA_del s.P _ j h.pnd
    have hw0 : p.wr.toNat = 0 := by rw [hw]; rfl
    have hdl := delA_len s.P (bb : Int) (by rw [hp]; rfl)
    refine h.del hy s.F _ h.tree (same_del s.F hcF) (fun k x hx hk => ?_) (by omega) (by omega) (nodup_del h.pnd _) (fun j q hj => ?_) (by have := h.lenP; omega) (by have := h.held; omega)
    · have h0 := h.th k x hx
      have hnb := notbb k x hx hk
      unfold ThOk at h0 ⊢
      split at h0
      · exact h0
      · exact h0
      · exact h0
      · rename_i b e heq
        obtain ⟨q, a, d, f⟩ := h0
        exact ⟨q, by rw [hf, if_neg (hnb b e heq)]; exact a, d, f⟩
      · rename_i b e heq
        obtain ⟨q, a, d, f⟩ := h0
        by_cases hb : (b : Int) = (bb : Int)
        · rw [hb, hp] at a; injection a with a; subst a
          rw [hw] at f; cases f
        · exact ⟨q, by rw [hf, if_neg hb]; exact a, d, f⟩
    · rw [hf] at hj
      split at hj
      · cases hj
      · exact h.pk j q hj
theorem Inv.step_writer (h : Inv N s) {id : Int} {y : Hn} {bb eb : Nat} {p : Pp} (hy : findA s.L id = some y) (hyt : y.t = .writer bb eb) (hp : findA s.P (bb : Int) = some p) : Inv (N + 1) { s with L := delA s.L id, P := closeW s.P bb p } := by
  have hcF : ∀ j, cF j y = 0 := fun j => by unfold cF; rw [hyt]
  have hcR : cR y = 0 := by unfold cR; rw [hyt]
  have hcW : cW y = 1 := by unfold cW; rw [hyt]
  have g1 := sumA_get cR s.L id y hy
  have g2 := sumA_get cW s.L id y hy
  have g3 := sumA_get (fun p : Pp => p.rd.toNat) s.P _ p hp
  have g4 := sumA_get (fun p : Pp => p.wr.toNat) s.P _ p hp
  have g5 := sumA_get Pp.len s.P _ p hp
  have nR := h.nR
  have nW := h.nW
  have hth := h.th id y hy
  unfold ThOk at hth
  rw [hyt] at hth
  obtain ⟨p0, hp0, _, hwd⟩ := hth
  rw [hp] at hp0
  injection hp0 with hp0
  subst hp0
  have hwd1 : p.wr.toNat = 1 := by rw [hwd]; rfl
  have notbb : ∀ k x, findA s.L k = some x → k ≠ id → ∀ b e, x.t = .writer b e → (b : Int) ≠ (bb : Int) := fun k x hx hk b e he hb => by
    have : b = bb := by omega
    subst this
    exact hk (h.oneW k id x y b e eb hx hy he hyt)
  unfold closeW
  by_cases hw : p.rd = true
  · rw [if_pos hw]
    have hs : (findA s.P (bb : Int)).isSome = true := by rw [hp]; rfl
    have hf : ∀ j, findA (updA s.P (bb : Int) { p with wr := false }) j = if j = (bb : Int) then some { p with wr := false } else findA s.P j := fun j => findA_upd s.P bb j _ hs
    have u3 := sumA_upd (fun p : Pp => p.rd.toNat) s.P _ p { p with wr := false } hp
    have u4 := sumA_upd (fun p : Pp => p.wr.toNat) s.P _ p { p with wr := false } hp
    have u5 := sumA_upd Pp.len s.P _ p { p with wr := false } hp
    refine h.del hy s.F _ h.tree (same_del s.F hcF) (fun k x hx hk => ?_) (by rw [u3]; show _ = p.rd.toNat + _; omega) (by rw [u4]; show _ = 0 + _; omega) (nodup_upd h.pnd _ _) (fun j q hj => ?_) (by rw [updA_len]; exact h.lenP) (by
      rw [u5]; have := h.held; show Pp.len p + _ ≤ 40; omega)
    · have h0 := h.th k x hx
      have hnb := notbb k x hx hk
      unfold ThOk at h0 ⊢
      split at h0
      · exact h0
      · exact h0
      · exact h0
      · rename_i b e heq
        obtain ⟨q, a, d, f⟩ := h0
        by_cases hb : (b : Int) = (bb : Int)
        · rw [hb, hp] at a; injection a with a; subst a
          exact ⟨{ p with wr := false }, by rw [hf, if_pos hb], d, f⟩
        · exact ⟨q, by rw [hf, if_neg hb]; exact a, d, f⟩
      · rename_i b e heq
        obtain ⟨q, a, d, f⟩ := h0
        exact ⟨q, by rw [hf, if_neg (hnb b e heq)]; exact a, d, f⟩
    · rw [hf] at hj
      split at hj
      · rename_i e; injection hj with hj; subst hj
        obtain ⟨a, _, d⟩ := h.pk _ p hp
        exact ⟨by rw [e]; exact a, .inl hw, d⟩
      · exact h.pk j q hj
  · rw [if_neg hw]
    have hw : p.rd = false := by simpa using hw
    have hf : ∀ j, findA (delA s.P (bb : Int)) j = if j = (bb : Int) then none else findA s.P j := fun j => findA_del s.P _ j h.pnd
    have hw0 : p.rd.toNat = 0 := by rw [hw]; rfl
    have hdl := delA_len s.P (bb : Int) (by rw [hp]; rfl)
    refine h.del hy s.F _ h.tree (same_del s.F hcF) (fun k x hx hk => ?_) (by omega) (by omega) (nodup_del h.pnd _) (fun j q hj => ?_) (by have := h.lenP; omega) (by have := h.held; omega)
    · have h0 := h.th k x hx
      have hnb := notbb k x hx hk
      unfold ThOk at h0 ⊢
      split at h0
      · exact h0
      · exact h0
      · exact h0
      · rename_i b e heq
        obtain ⟨q, a, d, f⟩ := h0
        by_cases hb : (b : Int) = (bb : Int)
        · rw [hb, hp] at a; injection a with a; subst a
          rw [hw] at f; cases f
        · exact ⟨q, by rw [hf, if_neg hb]; exact a, d, f⟩
      · rename_i b e heq
        obtain ⟨q, a, d, f⟩ := h0
        exact ⟨q, by rw [hf, if_neg (hnb b e heq)]; exact a, d, f⟩
    · rw [hf] at hj
      split at hj
      · cases hj
      · exact h.pk j q hj
theorem inv_step {o : Opr} {n er : Int} {t : ByteArray} {s' : Sg} (h : Inv N s) (hN : N ≤ 100) (hd : o.d.size ≤ 100) (st : Step s o n t er s') : Inv (N + 1) s' := by
  cases st with
  | file_no _ _ => exact h.more
  | file_ok x g hb xb _ hx hk hm hg =>
    obtain ⟨T, hh⟩ := tree_hold h.tree hx (h.hb hN hx)
    refine h.cons hg (y' := ⟨hb, 1, xb, .file o.node 0 o.m⟩) rfl ?_ _ T (fun j z hz => ?_) rfl rfl (fun _ _ e => by cases e) (fun _ _ e => by cases e)
    · exact ⟨(h.tree.files _ x hx).1 hk, Nat.zero_le _, hm⟩
    · obtain ⟨u, hu, e⟩ := hh j z hz
      refine ⟨u, hu, ?_⟩
      rw [e]
      show _ = u.holds + (((if o.node = j then 1 else 0 : Nat) : Nat) : Int)
      split <;> rfl
  | text g hb xb _ hg => exact h.cons hg (y' := ⟨hb, 1, xb, .text o.d 0⟩) rfl ⟨Nat.zero_le _, hd⟩ s.F h.tree (same_cons s.F fun _ => rfl) rfl rfl (fun _ _ e => by cases e) (fun _ _ e => by cases e)
  | sink_no _ _ => exact h.more
  | sink_ok most g hb xb _ _ hm hg => exact h.cons hg (y' := ⟨hb, 1, xb, .sink none none 0 [] most⟩) rfl ⟨.inl rfl, Nat.zero_le _, hm⟩ s.F h.tree (same_cons s.F fun _ => rfl) rfl rfl (fun _ _ e => by cases e) (fun _ _ e => by cases e)
  | pipe g1 g2 h1 x1 h2 x2 bb eb _ hg1 hg2 hp => exact h.step_pipe hg1 hg2 hp
  | ref_no _ _ => exact h.more
  | ref_ok y _ hy =>
    have hr := h.refs _ y hy
    exact h.upd hy (y' := { y with refs := y.refs + 1 }) ⟨by show 1 ≤ y.refs + 1; omega, by show y.refs + 1 ≤ _; omega⟩ (h.th _ y hy) s.F h.tree (same_holds s.F) (fun _ => rfl) rfl rfl (fun _ _ e => e) (fun _ _ e => e)
  | unref_no _ _ => exact h.more
  | unref_more y _ hy h2 =>
    have hr := h.refs _ y hy
    exact h.upd hy (y' := { y with refs := y.refs - 1 }) ⟨by show 1 ≤ y.refs - 1; omega, by show y.refs - 1 ≤ _; omega⟩ (h.th _ y hy) s.F h.tree (same_holds s.F) (fun _ => rfl) rfl rfl (fun _ _ e => e) (fun _ _ e => e)
  | unref_file y k a m _ hy h1 hyt =>
    have hth := h.th _ y hy
    unfold ThOk at hth
    rw [hyt] at hth
    obtain ⟨x, hx⟩ := Option.isSome_iff_exists.1 ((h.tree.only k).2 (by omega))
    have hc : cF k y = 1 := by unfold cF; rw [hyt]; exact if_pos rfl
    have hhx := h.holds k x hx
    have hgx := sumA_get (cF k) s.L _ y hy
    have hbx := h.hb hN hx
    obtain ⟨T, hh⟩ := tree_drop h.tree hx ⟨by omega, hbx.2⟩
    have g1 := sumA_get cR s.L _ y hy
    have g2 := sumA_get cW s.L _ y hy
    have c1 : cR y = 0 := by unfold cR; rw [hyt]
    have c2 : cW y = 0 := by unfold cW; rw [hyt]
    refine h.del hy _ s.P T (fun j z hz => ?_) (fun k x hx _ => h.th k x hx) (by rw [← h.nR]; omega) (by rw [← h.nW]; omega) h.pnd h.pk h.lenP h.held
    obtain ⟨u, hu, e⟩ := hh j z hz
    refine ⟨u, hu, ?_⟩
    rw [e]
    have : (cF j y : Int) = if k = j then 1 else 0 := by unfold cF; rw [hyt]; dsimp only; split <;> rfl
    rw [this]
  | unref_text y t a _ hy h1 hyt =>
    have g1 := sumA_get cR s.L _ y hy
    have g2 := sumA_get cW s.L _ y hy
    have c1 : cR y = 0 := by unfold cR; rw [hyt]
    have c2 : cW y = 0 := by unfold cW; rw [hyt]
    exact h.del hy s.F s.P h.tree (same_del s.F fun j => by unfold cF; rw [hyt]) (fun k x hx _ => h.th k x hx) (by rw [← h.nR]; omega) (by rw [← h.nW]; omega) h.pnd h.pk h.lenP h.held
  | unref_sink y sp q cap l most _ hy h1 hyt =>
    have g1 := sumA_get cR s.L _ y hy
    have g2 := sumA_get cW s.L _ y hy
    have c1 : cR y = 0 := by unfold cR; rw [hyt]
    have c2 : cW y = 0 := by unfold cW; rw [hyt]
    exact h.del hy s.F s.P h.tree (same_del s.F fun j => by unfold cF; rw [hyt]) (fun k x hx _ => h.th k x hx) (by rw [← h.nR]; omega) (by rw [← h.nW]; omega) h.pnd h.pk h.lenP h.held
  | unref_reader y bb eb p _ hy h1 hyt hp => exact h.step_reader hy hyt hp
  | unref_writer y bb eb p _ hy h1 hyt hp => exact h.step_writer hy hyt hp
  | read_no _ _ => exact h.more
  | read_mode y _ _ _ => exact h.more
  | read_neg y _ _ _ _ => exact h.more
  | read_file y k a q m x _ hy hyt hm hq hx =>
    have hr := h.refs _ y hy
    have hth := h.th _ y hy
    unfold ThOk at hth
    rw [hyt] at hth
    have hle := read_le x.text a q
    have htx := h.tree.text k x hx
    exact h.upd hy (y' := { y with t := .file k (a + (readB x.text a q).size) m }) ⟨hr.1, by show y.refs ≤ _; omega⟩ ⟨hth.1, by omega, hth.2.2⟩ s.F h.tree (same_holds s.F) (fun j => by unfold cF; rw [hyt]) (by unfold cR; rw [hyt]) (by unfold cW; rw [hyt]) (fun _ _ e => by cases e) (fun _ _ e => by cases e)
  | read_text y t a q _ hy hyt hq =>
    have hr := h.refs _ y hy
    have hth := h.th _ y hy
    unfold ThOk at hth
    rw [hyt] at hth
    have hle := read_le t a q
    exact h.upd hy (y' := { y with t := .text t (a + (readB t a q).size) }) ⟨hr.1, by show y.refs ≤ _; omega⟩ ⟨by have := hth.1; omega, hth.2⟩ s.F h.tree (same_holds s.F) (fun j => by unfold cF; rw [hyt]) (by unfold cR; rw [hyt]) (by unfold cW; rw [hyt]) (fun _ _ e => by cases e) (fun _ _ e => by cases e)
  | read_pipe y bb eb q p _ hy hyt hq hp =>
    obtain ⟨_, _, ht⟩ := h.pk _ p hp
    have g5 := sumA_get Pp.len s.P _ p hp
    have u5 := sumA_upd Pp.len s.P _ p { p with frm := p.frm + min q p.data.length, data := p.data.drop (min q p.data.length) } hp
    have htt := h.tot
    have hh := h.held
    refine h.pupd hp (p' := { p with frm := p.frm + min q p.data.length, data := p.data.drop (min q p.data.length) }) rfl rfl rfl rfl s.tot (Nat.le_refl _) (by omega) ?_ ?_
    · show p.frm + min q p.data.length + (p.data.drop (min q p.data.length)).length ≤ s.tot
      rw [List.length_drop]; omega
    · rw [u5]
      show (p.data.drop (min q p.data.length)).length + _ ≤ 40
      have e : Pp.len p = p.data.length := rfl
      rw [List.length_drop]; omega
  | write_no _ _ => exact h.more
  | write_mode y _ _ _ => exact h.more
  | write_file y k a m x _ hy hyt hm hx =>
    have hr := h.refs _ y hy
    have hth := h.th _ y hy
    unfold ThOk at hth
    rw [hyt] at hth
    obtain ⟨T, hh, hz⟩ := tree_write h.tree hx (atW x a m) o.d
    have htx := h.tree.text k x hx
    have hat : atW x a m ≤ 8192 := by unfold atW; split <;> omega
    refine h.upd hy (y' := { y with t := .file k (atN s.F k x a m o.d) m }) ⟨hr.1, by show y.refs ≤ _; omega⟩ ⟨hth.1, ?_, hth.2.2⟩ _ T hh (fun j => by unfold cF; rw [hyt]) (by unfold cR; rw [hyt]) (by unfold cW; rw [hyt]) (fun _ _ e => by cases e) (fun _ _ e => by cases e)
    unfold atN
    split
    · rename_i e; have := hz e; omega
    · exact hat
  | write_sink y sp q sp' q' cap cap' l most _ hy hyt hsp =>
    have hr := h.refs _ y hy
    have hth := h.th _ y hy
    unfold ThOk at hth
    rw [hyt] at hth
    refine h.upd hy (y' := { y with t := .sink sp' q' cap' (skL l most o.d) most }) ⟨hr.1, by show y.refs ≤ _; omega⟩ ⟨hsp, ?_, hth.2.2⟩ s.F h.tree (same_holds s.F) (fun j => by unfold cF; rw [hyt]) (by unfold cR; rw [hyt]) (by unfold cW; rw [hyt]) (fun _ _ e => by cases e) (fun _ _ e => by cases e)
    unfold skL
    split
    · rw [List.length_append, bs_length]; assumption
    · exact hth.2.1
  | write_full y bb eb p _ _ _ _ _ => exact h.more
  | write_pipe y bb eb p _ hy hyt hp hl =>
    obtain ⟨_, _, ht⟩ := h.pk _ p hp
    have g5 := sumA_get Pp.len s.P _ p hp
    have u5 := sumA_upd Pp.len s.P _ p { p with data := p.data ++ bs o.d } hp
    have htt := h.tot
    have hh := h.held
    refine h.pupd hp (p' := { p with data := p.data ++ bs o.d }) rfl rfl rfl rfl (s.tot + o.d.size) (by omega) (by omega) ?_ ?_
    · show p.frm + (p.data ++ bs o.d).length ≤ s.tot + o.d.size
      rw [List.length_append, bs_length]; omega
    · rw [u5]
      show (p.data ++ bs o.d).length + _ ≤ 40
      have e : Pp.len p = p.data.length := rfl
      rw [List.length_append, bs_length]; omega
end
end Go.Proofs.YtljlpkeddbfpaaaGreatDoor.Hd
