/- HandlesPlays, part 28 of 34: the texts HdQc HdQf, joined by a program. -/
import Derived.Test.YtljlpkeddbfpaaaGreatDoorHm27
namespace Go.Proofs.YtljlpkeddbfpaaaGreatDoor.Hd
open Go.RowKit Go.Maps Go.Proofs.YtljlpkeddbfpaaaGreatDoor Go.Proofs.YtljlpkeddbfpaaaGreatDoor.Hp
set_option linter.unusedVariables false

section
variable {s s' : Sg} {B : BL}
def Keyd (P : PL) : Prop := ∀ k p, findA P k = some p → k = (p.bb : Int)
theorem PR.frame (r : PR s B) (hP : s'.P = s.P) (hT : s.tot ≤ s'.tot) (hL : ∀ k y bb eb, findA s.L k = some y → (y.t = .reader bb eb ∨ y.t = .writer bb eb) → ∃ y', findA s'.L k = some y' ∧ y'.t = y.t) : PR s' B where
  fwd k p h := r.fwd k p (by rw [← hP]; exact h)
  inj := r.inj
  fro i hi hc := by rw [hP]; exact r.fro i hi hc
  sumh := by rw [hP]; exact r.sumh
  sumo := by rw [hP]; exact r.sumo
  wrs k p h hw := by
    rw [hP] at h
    obtain ⟨j, y, eb, h1, h2⟩ := r.wrs k p h hw
    obtain ⟨y', h3, h4⟩ := hL j y _ eb h1 (.inr h2)
    exact ⟨j, y', eb, h3, by rw [h4, h2]⟩
  rds k p h hw := by
    rw [hP] at h
    obtain ⟨j, y, eb, h1, h2⟩ := r.rds k p h hw
    obtain ⟨y', h3, h4⟩ := hL j y _ eb h1 (.inl h2)
    exact ⟨j, y', eb, h3, by rw [h4, h2]⟩
  small x hx := Nat.le_trans (r.small x hx) hT
theorem set_ba {k : Nat} (hk : k < B.length) (x : Spill.Bf) (hb : x.ba = B[k].ba) (hc : x.closed = B[k].closed) (i : Nat) (hi : i < (B.set k x).length) (hi' : i < B.length) : (B.set k x)[i].ba = B[i].ba ∧ (B.set k x)[i].closed = B[i].closed := by
  by_cases e : k = i
  · subst e; rw [List.getElem_set_self]; exact ⟨hb, hc⟩
  · rw [List.getElem_set_ne e]; exact ⟨rfl, rfl⟩
/-- A pipe's bytes change. -/
theorem PR.setB (r : PR s B) (hky : Keyd s.P) {bb k rb : Nat} {pre pre' : List UInt8} {p p' : Pp} (hk : k < B.length) (hB : B[k] = ⟨bb, rb, false, pre, p.data⟩) (hp : findA s.P (bb : Int) = some p) (hb : p'.bb = bb) (hrd : p'.rd = p.rd) (hwr : p'.wr = p.wr) (hpre : pre'.length = p'.frm)
    (hP : s'.P = updA s.P (bb : Int) p') (hL : s'.L = s.L) (hT : s.tot ≤ s'.tot) (hsm : pre'.length + p'.data.length ≤ s'.tot) : PR s' (B.set k ⟨bb, rb, false, pre', p'.data⟩) where
  fwd j q h := by
    rw [hP, findA_upd s.P _ _ p' (by rw [hp]; rfl)] at h
    by_cases e : j = (bb : Int)
    · rw [if_pos e] at h
      injection h with h
      subst h
      exact ⟨k, rb, pre', by rw [List.length_set]; exact hk, by rw [List.getElem_set_self, hb], hpre⟩
    · rw [if_neg e] at h
      obtain ⟨i, rb2, pre2, hi, h1, h2⟩ := r.fwd j q h
      have hq := hky j q h
      refine ⟨i, rb2, pre2, by rw [List.length_set]; exact hi, ?_, h2⟩
      rw [List.getElem_set_ne (fun e2 => ?_), h1]
      subst e2
      rw [hB] at h1
      injection h1 with h1
      omega
  inj i j hi hj h1 h2 h3 := by
    have hi' : i < B.length := by rw [List.length_set] at hi; exact hi
    have hj' : j < B.length := by rw [List.length_set] at hj; exact hj
    have ei := set_ba hk ⟨bb, rb, false, pre', p'.data⟩ (by rw [hB]) (by rw [hB]) i hi hi'
    have ej := set_ba hk ⟨bb, rb, false, pre', p'.data⟩ (by rw [hB]) (by rw [hB]) j hj hj'
    exact r.inj i j hi' hj' (by rw [← ei.2]; exact h1) (by rw [← ej.2]; exact h2) (by rw [← ei.1, ← ej.1]; exact h3)
  fro i hi h := by
    have hi' : i < B.length := by rw [List.length_set] at hi; exact hi
    have ei := set_ba hk ⟨bb, rb, false, pre', p'.data⟩ (by rw [hB]) (by rw [hB]) i hi hi'
    rw [ei.1, hP, findA_upd s.P _ _ p' (by rw [hp]; rfl)]
    split
    · rfl
    · exact r.fro i hi' (by rw [← ei.2]; exact h)
  sumh := by
    have h1 := Spill.sumOf_set Spill.Bf.h B k hk ⟨bb, rb, false, pre', p'.data⟩
    rw [hB] at h1
    have h2 := sumA_get Pp.len s.P _ p hp
    have h3 := sumA_upd Pp.len s.P _ p p' hp
    have h4 := r.sumh
    have e1 : Spill.Bf.h ⟨bb, rb, false, pre, p.data⟩ = p.data.length := rfl
    have e2 : Spill.Bf.h ⟨bb, rb, false, pre', p'.data⟩ = p'.data.length := rfl
    have e3 : Pp.len p = p.data.length := rfl
    have e4 : Pp.len p' = p'.data.length := rfl
    rw [hP]
    omega
  sumo := by
    have h1 := Spill.sumOf_set Spill.Bf.o B k hk ⟨bb, rb, false, pre', p'.data⟩
    rw [hB] at h1
    have h4 := r.sumo
    have e1 : Spill.Bf.o ⟨bb, rb, false, pre, p.data⟩ = 1 := rfl
    have e2 : Spill.Bf.o ⟨bb, rb, false, pre', p'.data⟩ = 1 := rfl
    rw [hP, updA_len]
    omega
  wrs j q h hw := by
    rw [hL]
    rw [hP, findA_upd s.P _ _ p' (by rw [hp]; rfl)] at h
    by_cases e : j = (bb : Int)
    · rw [if_pos e] at h
      injection h with h
      subst h
      have hpb := hky _ p hp
      obtain ⟨i, y, eb, h1, h2⟩ := r.wrs _ p hp (by rw [← hwr]; exact hw)
      exact ⟨i, y, eb, h1, by rw [h2, hb, show p.bb = bb by omega]⟩
    · rw [if_neg e] at h
      exact r.wrs j q h hw
  rds j q h hw := by
    rw [hL]
    rw [hP, findA_upd s.P _ _ p' (by rw [hp]; rfl)] at h
    by_cases e : j = (bb : Int)
    · rw [if_pos e] at h
      injection h with h
      subst h
      have hpb := hky _ p hp
      obtain ⟨i, y, eb, h1, h2⟩ := r.rds _ p hp (by rw [← hrd]; exact hw)
      exact ⟨i, y, eb, h1, by rw [h2, hb, show p.bb = bb by omega]⟩
    · rw [if_neg e] at h
      exact r.rds j q h hw
  small x hx := by
    rcases List.mem_or_eq_of_mem_set hx with e | e
    · exact Nat.le_trans (r.small x e) hT
    · rw [e]; exact hsm
/-- An end is closed, the other one stays. -/
theorem PR.half (r : PR s B) (hky : Keyd s.P) (hn : NodupK s.L) {bb : Nat} {id : Int} {y : Hn} {p p' : Pp} (hp : findA s.P (bb : Int) = some p) (hy : findA s.L id = some y) (hb : p'.bb = p.bb) (hd : p'.data = p.data) (hf : p'.frm = p.frm)
    (hyb : ∀ b2 eb, (y.t = .reader b2 eb ∨ y.t = .writer b2 eb) → b2 = bb)
    (hwr : p'.wr = true → p.wr = true ∧ ∀ b2 eb, y.t ≠ .writer b2 eb) (hrd : p'.rd = true → p.rd = true ∧ ∀ b2 eb, y.t ≠ .reader b2 eb)
    (hP : s'.P = updA s.P (bb : Int) p') (hL : s'.L = delA s.L id) (hT : s'.tot = s.tot) : PR s' B where
  fwd j q h := by
    rw [hP, findA_upd s.P _ _ p' (by rw [hp]; rfl)] at h
    by_cases e : j = (bb : Int)
    · rw [if_pos e] at h
      injection h with h
      subst h
      rw [hb, hd, hf]
      exact r.fwd _ p hp
    · rw [if_neg e] at h
      exact r.fwd j q h
  inj := r.inj
  fro i hi h := by
    rw [hP, findA_upd s.P _ _ p' (by rw [hp]; rfl)]
    split
    · rfl
    · exact r.fro i hi h
  sumh := by
    have h2 := sumA_get Pp.len s.P _ p hp
    have h3 := sumA_upd Pp.len s.P _ p p' hp
    have h4 := r.sumh
    have e3 : Pp.len p' = Pp.len p := by unfold Pp.len; rw [hd]
    rw [hP]
    omega
  sumo := by rw [hP, updA_len]; exact r.sumo
  wrs j q h hw := by
    rw [hL]
    rw [hP, findA_upd s.P _ _ p' (by rw [hp]; rfl)] at h
    by_cases e : j = (bb : Int)
    · rw [if_pos e] at h
      injection h with h
      subst h
      obtain ⟨hw1, hw2⟩ := hwr hw
      obtain ⟨i, z, eb, h1, h2⟩ := r.wrs _ p hp hw1
      refine ⟨i, z, eb, ?_, by rw [h2, hb]⟩
      rw [findA_del s.L id i hn, if_neg (fun e2 => ?_)]
      · exact h1
      · rw [e2, hy] at h1
        injection h1 with h1
        exact hw2 _ _ (by rw [h1]; exact h2)
    · rw [if_neg e] at h
      obtain ⟨i, z, eb, h1, h2⟩ := r.wrs j q h hw
      refine ⟨i, z, eb, ?_, h2⟩
      rw [findA_del s.L id i hn, if_neg (fun e2 => ?_)]
      · exact h1
      · rw [e2, hy] at h1
        injection h1 with h1
        have := hyb q.bb eb (.inr (by rw [h1]; exact h2))
        have := hky j q h
        omega
  rds j q h hw := by
    rw [hL]
    rw [hP, findA_upd s.P _ _ p' (by rw [hp]; rfl)] at h
    by_cases e : j = (bb : Int)
    · rw [if_pos e] at h
      injection h with h
      subst h
      obtain ⟨hw1, hw2⟩ := hrd hw
      obtain ⟨i, z, eb, h1, h2⟩ := r.rds _ p hp hw1
      refine ⟨i, z, eb, ?_, by rw [h2, hb]⟩
      rw [findA_del s.L id i hn, if_neg (fun e2 => ?_)]
      · exact h1
      · rw [e2, hy] at h1
        injection h1 with h1
        exact hw2 _ _ (by rw [h1]; exact h2)
    · rw [if_neg e] at h
      obtain ⟨i, z, eb, h1, h2⟩ := r.rds j q h hw
      refine ⟨i, z, eb, ?_, h2⟩
      rw [findA_del s.L id i hn, if_neg (fun e2 => ?_)]
      · exact h1
      · rw [e2, hy] at h1
        injection h1 with h1
        have := hyb q.bb eb (.inl (by rw [h1]; exact h2))
        have := hky j q h
        omega
  small x hx := by rw [hT]; exact r.small x hx
/-- The last end is closed. -/
theorem PR.close (r : PR s B) (hky : Keyd s.P) (hn : NodupK s.L) (hpn : (s.P.map Prod.fst).Nodup) {bb k rb : Nat} {pre : List UInt8} {id : Int} {y : Hn} {p : Pp} (hk : k < B.length) (hB : B[k] = ⟨bb, rb, false, pre, p.data⟩) (hp : findA s.P (bb : Int) = some p) (hy : findA s.L id = some y)
    (hyb : ∀ b2 eb, (y.t = .reader b2 eb ∨ y.t = .writer b2 eb) → b2 = bb)
    (hP : s'.P = delA s.P (bb : Int)) (hL : s'.L = delA s.L id) (hT : s'.tot = s.tot) : PR s' (B.set k ⟨bb, rb, true, pre, p.data⟩) where
  fwd j q h := by
    rw [hP, findA_del s.P _ _ hpn] at h
    by_cases e : j = (bb : Int)
    · rw [if_pos e] at h; cases h
    · rw [if_neg e] at h
      obtain ⟨i, rb2, pre2, hi, h1, h2⟩ := r.fwd j q h
      have hq := hky j q h
      refine ⟨i, rb2, pre2, by rw [List.length_set]; exact hi, ?_, h2⟩
      rw [List.getElem_set_ne (fun e2 => ?_), h1]
      subst e2
      rw [hB] at h1
      injection h1 with h1
      omega
  inj i j hi hj h1 h2 h3 := by
    have hi' : i < B.length := by rw [List.length_set] at hi; exact hi
    have hj' : j < B.length := by rw [List.length_set] at hj; exact hj
    have ki : k ≠ i := fun e => by subst e; rw [List.getElem_set_self] at h1; cases h1
    have kj : k ≠ j := fun e => by subst e; rw [List.getElem_set_self] at h2; cases h2
    rw [List.getElem_set_ne ki] at h1 h3
    rw [List.getElem_set_ne kj] at h2 h3
    exact r.inj i j hi' hj' h1 h2 h3
  fro i hi h := by
    have hi' : i < B.length := by rw [List.length_set] at hi; exact hi
    have ki : k ≠ i := fun e => by subst e; rw [List.getElem_set_self] at h; cases h
    rw [List.getElem_set_ne ki] at h ⊢
    rw [hP, findA_del s.P _ _ hpn, if_neg (fun e => ki (r.inj k i hk hi' (by rw [hB]) h (by rw [hB]; dsimp only; omega)))]
    exact r.fro i hi' h
  sumh := by
    have h1 := Spill.sumOf_set Spill.Bf.h B k hk ⟨bb, rb, true, pre, p.data⟩
    rw [hB] at h1
    have h2 := sumA_get Pp.len s.P _ p hp
    have h4 := r.sumh
    have e1 : Spill.Bf.h ⟨bb, rb, false, pre, p.data⟩ = p.data.length := rfl
    have e2 : Spill.Bf.h ⟨bb, rb, true, pre, p.data⟩ = 0 := rfl
    have e3 : Pp.len p = p.data.length := rfl
    rw [hP]
    omega
  sumo := by
    have h1 := Spill.sumOf_set Spill.Bf.o B k hk ⟨bb, rb, true, pre, p.data⟩
    rw [hB] at h1
    have h4 := r.sumo
    have e1 : Spill.Bf.o ⟨bb, rb, false, pre, p.data⟩ = 1 := rfl
    have e2 : Spill.Bf.o ⟨bb, rb, true, pre, p.data⟩ = 0 := rfl
    have h5 := delA_len s.P (bb : Int) (by rw [hp]; rfl)
    rw [hP]
    omega
  wrs j q h hw := by
    rw [hL]
    rw [hP, findA_del s.P _ _ hpn] at h
    by_cases e : j = (bb : Int)
    · rw [if_pos e] at h; cases h
    · rw [if_neg e] at h
      obtain ⟨i, z, eb, h1, h2⟩ := r.wrs j q h hw
      refine ⟨i, z, eb, ?_, h2⟩
      rw [findA_del s.L id i hn, if_neg (fun e2 => ?_)]
      · exact h1
      · rw [e2, hy] at h1
        injection h1 with h1
        have := hyb q.bb eb (.inr (by rw [h1]; exact h2))
        have := hky j q h
        omega
  rds j q h hw := by
    rw [hL]
    rw [hP, findA_del s.P _ _ hpn] at h
    by_cases e : j = (bb : Int)
    · rw [if_pos e] at h; cases h
    · rw [if_neg e] at h
      obtain ⟨i, z, eb, h1, h2⟩ := r.rds j q h hw
      refine ⟨i, z, eb, ?_, h2⟩
      rw [findA_del s.L id i hn, if_neg (fun e2 => ?_)]
      · exact h1
      · rw [e2, hy] at h1
        injection h1 with h1
        have := hyb q.bb eb (.inl (by rw [h1]; exact h2))
        have := hky j q h
        omega
  small x hx := by
    rw [hT]
    rcases List.mem_or_eq_of_mem_set hx with e | e
    · exact r.small x e
    · have := r.small _ (List.getElem_mem hk)
      rw [hB] at this
      rw [e]; exact this
/-- A new pipe. -/
theorem PR.new (r : PR s B) (hky : Keyd s.P) {bb eb rb h1 x1 h2 x2 g1 g2 : Nat} (hno : findA s.P (bb : Int) = none) (n1 : findA s.L (g1 : Int) = none) (n2 : findA s.L (g2 : Int) = none) (hg : g2 ≠ g1)
    (hP : s'.P = ((bb : Int), ⟨bb, eb, 0, [], true, true⟩) :: s.P) (hL : s'.L = ((g2 : Int), ⟨h2, 1, x2, .writer bb eb⟩) :: ((g1 : Int), ⟨h1, 1, x1, .reader bb eb⟩) :: s.L) (hT : s'.tot = s.tot) : PR s' (B ++ [⟨bb, rb, false, [], []⟩]) := by
  have hB : ∀ i (hi : i < (B ++ [⟨bb, rb, false, [], []⟩] : BL).length), (∃ hi' : i < B.length, (B ++ [⟨bb, rb, false, [], []⟩] : BL)[i] = B[i]) ∨ (i = B.length ∧ (B ++ [⟨bb, rb, false, [], []⟩] : BL)[i] = ⟨bb, rb, false, [], []⟩) := by
    intro i hi
    by_cases e : i < B.length
    · exact .inl ⟨e, List.getElem_append_left e⟩
    · rw [List.length_append, List.length_singleton] at hi
      obtain rfl : i = B.length := by omega
      exact .inr ⟨rfl, by rw [List.getElem_append_right (Nat.le_refl _)]; simp⟩
  have hlast : ∃ hi : B.length < (B ++ [⟨bb, rb, false, [], []⟩] : BL).length, (B ++ [⟨bb, rb, false, [], []⟩] : BL)[B.length] = ⟨bb, rb, false, [], []⟩ := ⟨by simp, by simp⟩
  have hold : ∀ i (hi : i < B.length), B[i].closed = false → B[i].ba ≠ bb := fun i hi hc e => by
    have := r.fro i hi hc
    rw [e, hno] at this; cases this
  exact {
    fwd := fun j q h => by
      rw [hP, findA_cons] at h
      by_cases e : j = (bb : Int)
      · rw [if_pos e] at h
        injection h with h
        subst h
        obtain ⟨hi, e2⟩ := hlast
        exact ⟨B.length, rb, [], hi, e2, rfl⟩
      · rw [if_neg e] at h
        obtain ⟨i, rb2, pre2, hi, e1, e2⟩ := r.fwd j q h
        exact ⟨i, rb2, pre2, by rw [List.length_append]; omega, by rw [List.getElem_append_left hi, e1], e2⟩
    inj := fun i j hi hj c1 c2 e => by
      rcases hB i hi with ⟨hi', e1⟩ | ⟨e0, e1⟩ <;> rcases hB j hj with ⟨hj', e2⟩ | ⟨e3, e2⟩
      · rw [e1] at c1 e; rw [e2] at c2 e; exact r.inj i j hi' hj' c1 c2 e
      · rw [e1] at c1 e; rw [e2] at c2 e; exact absurd e (hold i hi' c1)
      · rw [e1] at c1 e; rw [e2] at c2 e; exact absurd e.symm (hold j hj' c2)
      · omega
    fro := fun i hi c1 => by
      rw [hP, findA_cons]
      split
      · rfl
      · rename_i hne
        rcases hB i hi with ⟨hi', e1⟩ | ⟨e0, e1⟩
        · rw [e1] at c1 ⊢; exact r.fro i hi' c1
        · rw [e1] at hne; exact absurd rfl hne
    sumh := by
      rw [Spill.sumOf_snoc, hP]
      show _ + 0 = 0 + sumA Pp.len s.P
      rw [r.sumh]; omega
    sumo := by
      rw [Spill.sumOf_snoc, hP, r.sumo]; rfl
    wrs := fun j q h hw => by
      rw [hL]
      rw [hP, findA_cons] at h
      by_cases e : j = (bb : Int)
      · rw [if_pos e] at h
        injection h with h
        subst h
        exact ⟨(g2 : Int), _, eb, by rw [findA_cons, if_pos rfl], rfl⟩
      · rw [if_neg e] at h
        obtain ⟨i, z, eb2, e1, e2⟩ := r.wrs j q h hw
        refine ⟨i, z, eb2, ?_, e2⟩
        rw [findA_cons, if_neg (fun e3 => by rw [e3, n2] at e1; cases e1), findA_cons, if_neg (fun e3 => by rw [e3, n1] at e1; cases e1)]
        exact e1
    rds := fun j q h hw => by
      rw [hL]
      rw [hP, findA_cons] at h
      by_cases e : j = (bb : Int)
      · rw [if_pos e] at h
        injection h with h
        subst h
        exact ⟨(g1 : Int), _, eb, by rw [findA_cons, if_neg (by omega), findA_cons, if_pos rfl], rfl⟩
      · rw [if_neg e] at h
        obtain ⟨i, z, eb2, e1, e2⟩ := r.rds j q h hw
        refine ⟨i, z, eb2, ?_, e2⟩
        rw [findA_cons, if_neg (fun e3 => by rw [e3, n2] at e1; cases e1), findA_cons, if_neg (fun e3 => by rw [e3, n1] at e1; cases e1)]
        exact e1
    small := fun x hx => by
      rw [hT]
      rcases List.mem_append.1 hx with e | e
      · exact r.small x e
      · rw [List.mem_singleton] at e
        rw [e]; exact Nat.zero_le _ }
end
section
variable {s : Sg} {B : BL} {H : List DH} {n : Nat}
/-- Another handle of a pipe stands in the row. -/
theorem oth_true (r : LR (HR B) s.L H) (pr : PR s B) {id j : Int} {i k bb : Nat} {y : Hn} (hi : i < H.length) (hid : H[i].id = id) (hk : isO B bb k) (hj : findA s.L j = some y) (hne : j ≠ id) (hy : ∃ eb, y.t = .reader bb eb ∨ y.t = .writer bb eb) : othN ((k : Int) + 1) (H.eraseIdx i) = true := by
  obtain ⟨x, hx, e1, hr⟩ := r.fwd j y hj
  have hp : x.pipe = (k : Int) + 1 := by
    obtain ⟨hk1, k1, k2⟩ := hk
    obtain ⟨b, rf, xb, t⟩ := y
    obtain ⟨eb, e | e⟩ := hy
    · cases e
      obtain ⟨q, ⟨hq, q1, q2⟩, h2⟩ := hr
      rw [h2]
      show (q : Int) + 1 = _
      rw [pr.inj q k hq hk1 q2 k2 (by rw [q1, k1])]
    · cases e
      obtain ⟨q, ⟨hq, q1, q2⟩, h2⟩ := hr
      rw [h2]
      show (q : Int) + 1 = _
      rw [pr.inj q k hq hk1 q2 k2 (by rw [q1, k1])]
  obtain ⟨a, ha, e2⟩ := List.mem_iff_getElem.1 hx
  unfold othN
  refine List.any_eq_true.2 ⟨x, (List.mem_eraseIdx_iff_getElem).2 ⟨a, ha, fun e3 => hne (by subst e3; rw [← e1, ← e2, hid]), e2⟩, ?_⟩
  rw [hp]
  simp
theorem oth_false (r : LR (HR B) s.L H) {id : Int} {i k bb : Nat} (hi : i < H.length) (hid : H[i].id = id) (hk : isO B bb k)
    (hno : ∀ j y eb, findA s.L j = some y → j ≠ id → ¬ (y.t = .reader bb eb ∨ y.t = .writer bb eb)) : othN ((k : Int) + 1) (H.eraseIdx i) = false := by
  unfold othN
  refine List.any_eq_false.2 fun x hx => ?_
  obtain ⟨a, ha, hne, e⟩ := (List.mem_eraseIdx_iff_getElem).1 hx
  obtain ⟨y, e1, hr⟩ := r.fro x (by rw [← e]; exact List.getElem_mem ha)
  have hne2 : x.id ≠ id := fun e3 => hne (srt_at r.srt ha hi (by rw [e, e3, hid]))
  have hn := fun eb => hno x.id y eb e1 hne2
  obtain ⟨hk1, k1, k2⟩ := hk
  have hp : x.pipe ≠ (k : Int) + 1 := by
    obtain ⟨b, rf, xb, t⟩ := y
    intro e4
    cases t with
    | file j a m => rw [hr] at e4; dsimp only at e4; omega
    | text s a => rw [hr] at e4; dsimp only at e4; omega
    | sink a b c l most => rw [hr] at e4; dsimp only at e4; omega
    | reader b2 eb =>
      obtain ⟨q, ⟨hq, q1, q2⟩, h2⟩ := hr
      rw [h2] at e4; dsimp only at e4
      obtain rfl : q = k := by omega
      refine hn eb (.inl ?_)
      rw [← q1, k1]
    | writer b2 eb =>
      obtain ⟨q, ⟨hq, q1, q2⟩, h2⟩ := hr
      rw [h2] at e4; dsimp only at e4
      obtain rfl : q = k := by omega
      refine hn eb (.inr ?_)
      rw [← q1, k1]
  simp [hp]
end
end Go.Proofs.YtljlpkeddbfpaaaGreatDoor.Hd

namespace Go.Proofs.YtljlpkeddbfpaaaGreatDoor.Hd
open Go.RowKit Go.Maps Go.Proofs.YtljlpkeddbfpaaaGreatDoor Go.Proofs.YtljlpkeddbfpaaaGreatDoor.Hp
set_option linter.unusedVariables false

theorem HR.head {B : BL} {k : Int} {y : Hn} {h : DH} (r : HR B k y h) : h.id = k ∧ h.refs = y.refs := by
  obtain ⟨b, rf, xb, t⟩ := y
  cases t with
  | file j a m => rw [show h = _ from r]; exact ⟨rfl, rfl⟩
  | text s a => rw [show h = _ from r]; exact ⟨rfl, rfl⟩
  | sink a b c l most => rw [show h = _ from r]; exact ⟨rfl, rfl⟩
  | reader bb eb => obtain ⟨i, _, h2⟩ := r; rw [h2]; exact ⟨rfl, rfl⟩
  | writer bb eb => obtain ⟨i, _, h2⟩ := r; rw [h2]; exact ⟨rfl, rfl⟩
theorem HR.setRefs {B : BL} {k : Int} {y : Hn} {h : DH} (r : HR B k y h) (v : Int) : HR B k { y with refs := v } { h with refs := v } := by
  obtain ⟨b, rf, xb, t⟩ := y
  cases t with
  | file j a m => rw [show h = _ from r]; exact rfl
  | text s a => rw [show h = _ from r]; exact rfl
  | sink a b c l most => rw [show h = _ from r]; exact rfl
  | reader bb eb => obtain ⟨i, h1, h2⟩ := r; rw [h2]; exact ⟨i, h1, rfl⟩
  | writer bb eb => obtain ⟨i, h1, h2⟩ := r; rw [h2]; exact ⟨i, h1, rfl⟩
section
variable {n : Nat} {s s' : Sg} {d : Dg} {o : Opr} {r er : Int} {t : ByteArray} {w : World} {R : Hp}
def AfterD (n : Nat) (s' : Sg) (d : Dg) (w : World) (R : Hp) (w' : World) : Prop := ∃ d', Rel n s' d' ∧ d'.c.tb = d.c.tb ∧ Sat w' (DgHp d' * R) ∧ Ran w w'
theorem dg_open (h : Sat w (DgHp d * R)) : Sat w (rtHp d.c d.H d.B.length * (rfHp d.cf d.N * (pqHp d.c d.B * (Spill.rpool d.c.rp 40 3 4 d.cap d.p d.B * (all Spill.rbuf d.B * (enA d.kp d.kc kidsE * R)))))) := h.perm (by unfold DgHp; ac_rfl)
theorem dg_pipes (h : Sat w (DgHp d * R)) : Sat w (rtHp d.c d.H d.B.length * (pqHp d.c d.B * (Spill.rpool d.c.rp 40 3 4 d.cap d.p d.B * (all Spill.rbuf d.B * (rfHp d.cf d.N * (enA d.kp d.kc kidsE * R)))))) := h.perm (by unfold DgHp; ac_rfl)
theorem dg_shut {c : RT} {cf : RF} {H : List DH} {N : List DN} {B : BL} {cap : Nat} {p : Option Addr} {kp : Option Addr} {kc : Nat} (h : Sat w (rtHp c H B.length * (rfHp cf N * (pqHp c B * (Spill.rpool c.rp 40 3 4 cap p B * (all Spill.rbuf B * (enA kp kc kidsE * R))))))) : Sat w (DgHp ⟨c, cf, H, N, B, cap, p, kp, kc⟩ * R) := h.perm (by unfold DgHp; ac_rfl)
theorem dg_shutP {c : RT} {cf : RF} {H : List DH} {N : List DN} {B : BL} {cap : Nat} {p : Option Addr} {kp : Option Addr} {kc : Nat} (h : Sat w (rtHp c H B.length * (pqHp c B * (Spill.rpool c.rp 40 3 4 cap p B * (all Spill.rbuf B * (rfHp cf N * (enA kp kc kidsE * R))))))) : Sat w (DgHp ⟨c, cf, H, N, B, cap, p, kp, kc⟩ * R) := h.perm (by unfold DgHp; ac_rfl)
theorem Rel.more (h : Rel n s d) : Rel (n + 1) s d := ⟨h.hl, h.pl, h.nl, h.rf, Nat.le_succ_of_le h.lenB, h.kids⟩
/-- Nothing changed. -/
theorem after_id (h : Rel n s d) {w' : World} (hS : Sat w' (DgHp d * R)) (hR : Ran w w') : AfterD (n + 1) s d w R w' := ⟨d, h.more, rfl, hS, hR⟩
theorem node_at (hT : TreeOk s.F) (h : Rel n s d) {k : Int} {x : Nd} (hx : find s.F.L k = some x) : ∃ j : Nat, k = (j : Int) ∧ 1 ≤ j ∧ j < 6 ∧ ∃ hj : j < d.N.length, NdR x d.N[j] ∧ d.N[j].text.size ≤ 4096 ∧ d.N[j].kn ≤ 4 := by
  have h1 := (hT.only k).1 (by rw [hx]; rfl)
  obtain ⟨j, rfl⟩ : ∃ j : Nat, k = (j : Int) := ⟨k.toNat, by omega⟩
  have hj : j < d.N.length := by rw [h.nl.len]; omega
  have h2 := h.nl.at' j x hj hx
  refine ⟨j, rfl, by omega, by omega, hj, h2, by rw [h2.text]; exact hT.text _ x hx, ?_⟩
  rw [h.nl.kn j hj]
  split <;> omega
theorem node_none (hT : TreeOk s.F) (h : Rel n s d) {k : Int} (hx : find s.F.L k = none) : kindD d.N k = 0 := by
  unfold kindD
  cases hg : dget d.N k with
  | none => rfl
  | some x =>
    obtain ⟨i, rfl, h1, hi, e⟩ := dget_some hg
    dsimp only
    rw [← e]
    refine h.nl.no i hi ?_
    have := (hT.only (i : Int)).2
    rw [hx] at this
    by_cases h6 : 6 ≤ i
    · exact h6
    · exact absurd (this (by omega)) (by simp)
theorem holds_small (hI : Inv n s) {k : Int} {x : Nd} (hx : find s.F.L k = some x) : 0 ≤ x.holds ∧ x.holds ≤ 2 * (n : Int) := by
  have h1 := hI.holds k x hx
  have h2 := sumA_le (cF k) 1 (fun z => by unfold cF; split <;> (try split) <;> omega) s.L
  have h3 := hI.lenL
  omega
theorem lenH (hI : Inv n s) (h : Rel n s d) : d.H.length ≤ 2 * n := by rw [h.hl.len hI.nd]; exact hI.lenL
theorem kids_set (hr : Rel n s d) {j : Nat} (hj : j < d.N.length) (y : DN) (hy : y.kp = d.N[j].kp ∧ y.kc = d.N[j].kc) (h1 : 1 < (d.N.set j y).length) : (d.N.set j y)[1].kp = d.kp ∧ (d.N.set j y)[1].kc = d.kc := by
  have h2 : 1 < d.N.length := by rw [List.length_set] at h1; exact h1
  by_cases e : j = 1
  · subst e; rw [List.getElem_set_self, hy.1, hy.2]; exact hr.kids h2
  · rw [List.getElem_set_ne (by omega)]; exact hr.kids h2
theorem rop_File (hN : n ≤ 100) (hI : Inv n s) (hr : Rel n s d) (ha : askI o = 0) (hs : Step s o r t er s') (h : Sat w (DgHp d * R)) :
    Calls Tryz.prog 48 #[pp d.c.tb, .int .i64 o.node, .bool o.m.r, .bool o.m.w, .bool o.m.m] w fun e w' => e = .returned (.tuple #[.int .i64 r, .int .i64 er]) ∧ t = ⟨#[]⟩ ∧ AfterD (n + 1) s' d w R w' := by
  have hT := hI.tree
  have hH := lenH hI hr
  have hl := hI.lenL
  cases hs with
  | file_no _ he =>
    cases hx : find s.F.L o.node with
    | none =>
      have hE : fileE s.F o.node o.m = 10 := by unfold fileE; rw [hx]; unfold statE; rw [hx]
      refine (RFile_none o.node o.m.r o.m.w o.m.m hr.rf (node_none hT hr hx) (dg_open h)).mono ?_
      rintro e w' ⟨⟨rfl, S⟩, hR⟩
      exact ⟨by rw [hE], rfl, after_id hr (dg_shut S) hR⟩
    | some x =>
      have hE : fileE s.F o.node o.m = if x.kind = 1 then 13 else if x.kind = 3 then 1 else if o.m.r = false ∧ o.m.w = false then 1 else 0 := by unfold fileE; rw [hx]
      obtain ⟨j, hj, hj1, hj6, hjl, hnd, hts, hkn⟩ := node_at hT hr hx
      have hk := hT.kinds _ x hx
      have hb : d.N[j].kind = 1 ∨ d.N[j].kind = 3 ∨ (d.N[j].kind = 2 ∧ o.m.r = false ∧ o.m.w = false) := by
        rw [hnd.kind]
        rcases hk with h1 | h1 | h1
        · exact .inl h1
        · rw [hE, if_neg (by omega), if_neg (by omega)] at he
          by_cases h2 : o.m.r = false ∧ o.m.w = false
          · exact .inr (.inr ⟨h1, h2⟩)
          · rw [if_neg h2] at he; exact absurd rfl he
        · exact .inr (.inl h1)
      rw [hj]
      refine (RFile_bad o.m.r o.m.w o.m.m hr.rf hj1 hjl (by rw [hnd.kind]; omega) (by omega) hb (dg_open h)).mono ?_
      rintro e w' ⟨⟨rfl, S⟩, hR⟩
      refine ⟨?_, rfl, after_id hr (dg_shut S) hR⟩
      have : (if d.N[j].kind = 1 then (13 : Int) else 1) = fileE s.F (j : Int) o.m := by
        rw [← hj, hE, hnd.kind]
        rcases hk with h1 | h1 | h1
        · rw [if_pos h1, if_pos h1]
        · rw [if_neg (by omega), if_neg (by omega), if_neg (by omega)]
          by_cases h2 : o.m.r = false ∧ o.m.w = false
          · rw [if_pos h2]
          · exfalso
            rcases hb with e | e | e
            · rw [hnd.kind] at e; omega
            · rw [hnd.kind] at e; omega
            · exact h2 e.2
        · rw [if_neg (by omega), if_neg (by omega), if_pos h1]
      rw [this]
  | file_ok x g hb xb _ hx hk hm hg =>
    obtain ⟨j, hj, hj1, hj6, hjl, hnd, hts, hkn⟩ := node_at hT hr hx
    have hho := holds_small hI hx
    rw [hj]
    refine (RFile_ok (g := g) o.m.r o.m.w o.m.m hr.rf hj1 hjl (by rw [hnd.kind]; exact hk) (by omega) (by rw [hnd.holds]; omega) (by rcases hm with e | e <;> simp [e]) (by omega) (hr.hl.free hg (by omega)) (dg_open h)).mono ?_
    rintro e w' ⟨⟨rfl, lp, lc, S⟩, hR⟩
    refine ⟨rfl, rfl, ⟨{ d.c with lp := lp, lc := lc }, d.cf, _, _, d.B, d.cap, d.p, d.kp, d.kc⟩, ⟨?_, ?_, ?_, hr.rf, Nat.le_succ_of_le hr.lenB, fun h1 => ?_⟩, rfl, dg_shut S, hR⟩
    · refine hr.hl.put hg.none rfl ?_
      rw [← hj]
      exact rfl
    · refine hr.pl.frame rfl (Nat.le_refl _) fun k y bb eb hy _ => ⟨y, ?_, rfl⟩
      show findA ((_, _) :: s.L) k = _
      rw [findA_cons, if_neg (fun e => by rw [e, hg.none] at hy; cases hy)]
      exact hy
    · rw [hj] at hx
      refine hr.nl.holds hj1 hjl hj6 hx (x.holds + 1) (d.N[j].holds + 1) (by rw [hnd.holds]) _ ?_
      show holdP s.F (j : Int) = _
      unfold holdP
      rw [hx]
    · exact kids_set hr hjl { d.N[j] with holds := d.N[j].holds + 1 } ⟨rfl, rfl⟩ h1
  | _ => exfalso; omega
theorem pl_cons (hr : PR s d.B) {g : Nat} {y : Hn} (hg : findA s.L (g : Int) = none) (k2 : Nat) : PR { s with L := ((g : Int), y) :: s.L, n := k2 } d.B := by
  refine hr.frame rfl (Nat.le_refl _) fun k z bb eb hz _ => ⟨z, ?_, rfl⟩
  show findA ((_, _) :: s.L) k = _
  rw [findA_cons, if_neg (fun e => by rw [e, hg] at hz; cases hz)]
  exact hz
theorem rop_Text (hN : n ≤ 100) (hI : Inv n s) (hr : Rel n s d) (hd : o.d.size ≤ 100) (ha : askI o = 1) (hs : Step s o r t er s') (h : Sat w (DgHp d * R)) :
    Calls Tryz.prog 49 #[pp d.c.tb, .string o.d] w fun e w' => e = .returned (.tuple #[.int .i64 r, .int .i64 er]) ∧ t = ⟨#[]⟩ ∧ AfterD (n + 1) s' d w R w' := by
  have hH := lenH hI hr
  have hl := hI.lenL
  cases hs with
  | text g hb xb _ hg =>
    refine (RText_ok (g := g) o.d (by omega) (by omega) (hr.hl.free hg (by omega)) (dg_open h)).mono ?_
    rintro e w' ⟨⟨rfl, lp, lc, S⟩, hR⟩
    exact ⟨rfl, rfl, ⟨{ d.c with lp := lp, lc := lc }, d.cf, _, _, d.B, d.cap, d.p, d.kp, d.kc⟩, ⟨hr.hl.put hg.none rfl rfl, pl_cons hr.pl hg.none _, hr.nl, hr.rf, Nat.le_succ_of_le hr.lenB, hr.kids⟩, rfl, dg_shut S, hR⟩
  | _ => exfalso; omega
theorem rop_Sink (hN : n ≤ 100) (hI : Inv n s) (hr : Rel n s d) (ho : OkOp o) (ha : askI o = 2) (hs : Step s o r t er s') (h : Sat w (DgHp d * R)) :
    Calls Tryz.prog 50 #[pp d.c.tb, .int .i64 o.n] w fun e w' => e = .returned (.tuple #[.int .i64 r, .int .i64 er]) ∧ t = ⟨#[]⟩ ∧ AfterD (n + 1) s' d w R w' := by
  have hH := lenH hI hr
  have hl := hI.lenL
  cases hs with
  | sink_no _ hb =>
    refine (RSink_bad (c := d.c) o.n ho.2.2.2.1 hb).mono ?_
    rintro e w' ⟨rfl, rfl⟩
    exact ⟨rfl, rfl, after_id hr h (Below.refl 0 w)⟩
  | sink_ok most g hb xb _ hm hm2 hg =>
    refine (RSink_ok (g := g) o.n (by omega) (by omega) (by omega) (hr.hl.free hg (by omega)) (dg_open h)).mono ?_
    rintro e w' ⟨⟨rfl, lp, lc, S⟩, hR⟩
    refine ⟨rfl, rfl, ⟨{ d.c with lp := lp, lc := lc }, d.cf, _, _, d.B, d.cap, d.p, d.kp, d.kc⟩, ⟨hr.hl.put hg.none rfl ?_, pl_cons hr.pl hg.none _, hr.nl, hr.rf, Nat.le_succ_of_le hr.lenB, hr.kids⟩, rfl, dg_shut S, hR⟩
    rw [hm]
    exact rfl
  | _ => exfalso; omega
theorem all_ba (rb b1 b2 : Nat) : ∀ B : BL, all Spill.rbuf (B ++ [⟨b1, rb, false, [], []⟩]) = all Spill.rbuf (B ++ [⟨b2, rb, false, [], []⟩])
  | [] => rfl
  | x :: B => by
    show Spill.rbuf x * all Spill.rbuf (B ++ [⟨b1, rb, false, [], []⟩]) = Spill.rbuf x * all Spill.rbuf (B ++ [⟨b2, rb, false, [], []⟩])
    rw [all_ba rb b1 b2 B]
theorem map_ba (rb b1 b2 : Nat) (B : BL) : (B ++ [(⟨b1, rb, false, [], []⟩ : Spill.Bf)]).map Spill.rptr = (B ++ [(⟨b2, rb, false, [], []⟩ : Spill.Bf)]).map Spill.rptr := by
  rw [List.map_append, List.map_append]; rfl
theorem rop_Pipe (hN : n ≤ 100) (hI : Inv n s) (hr : Rel n s d) (ha : askI o = 3) (hs : Step s o r t er s') (h : Sat w (DgHp d * R)) :
    Calls Tryz.prog 51 #[pp d.c.tb] w fun e w' => ∃ a b : Int, e = .returned (.tuple #[.int .i64 a, .int .i64 b]) ∧ (0 ≤ a ∧ a ≤ 1000000) ∧ (0 ≤ b ∧ b ≤ 1000000) ∧ r = 100 * a + b ∧ er = 0 ∧ t = ⟨#[]⟩ ∧ AfterD (n + 1) s' d w R w' := by
  have hH := lenH hI hr
  have hl := hI.lenL
  have hlb := hr.lenB
  cases hs with
  | pipe g1 g2 h1 x1 h2 x2 bb eb _ hg1 hg2 hno =>
    have g2n : findA (((g1 : Int), (⟨h1, 1, x1, .reader bb eb⟩ : Hn)) :: s.L) (g2 : Int) = none := (hg2 _).none
    have hne : g2 ≠ g1 := fun e => by
      rw [findA_cons, if_pos (by rw [e])] at g2n; cases g2n
    have g2n' : findA s.L (g2 : Int) = none := by
      rw [findA_cons, if_neg (by omega)] at g2n; exact g2n
    have f1 := hr.hl.free hg1 (by omega)
    have r1 : LR (fun _ _ _ => True) (((g1 : Int), (⟨h1, 1, x1, .reader bb eb⟩ : Hn)) :: s.L) (insN ⟨(g1 : Int), 4, 1, 0, 0, false, false, false, ⟨#[]⟩, 0, (d.B.length : Int) + 1⟩ d.H false) := (hr.hl.imp (Q := fun _ _ _ => True) fun _ _ _ _ _ _ => trivial).put hg1.none rfl trivial
    have f2 := r1.free (hg2 _) (by rw [List.length_cons]; omega)
    have hl1 := hg1.le
    have hl2 := (hg2 ⟨h1, 1, x1, .reader bb eb⟩).le
    rw [List.length_cons] at hl2
    refine (RPipe_calls d.cap d.p g1 g2 (by omega) (by omega) f1 f2 (by rw [insN_len]; omega) (dg_pipes h)).mono ?_
    rintro e w' ⟨⟨rfl, rb, cap', p', lp, lc, qp, qc, S⟩, hR⟩
    refine ⟨g1, g2, rfl, by omega, by omega, rfl, rfl, rfl, ⟨{ d.c with lp := lp, lc := lc, qp := qp, qc := qc }, d.cf, insN ⟨(g2 : Int), 5, 1, 0, 0, false, false, false, ⟨#[]⟩, 0, (d.B.length : Int) + 1⟩ (insN ⟨(g1 : Int), 4, 1, 0, 0, false, false, false, ⟨#[]⟩, 0, (d.B.length : Int) + 1⟩ d.H false) false, d.N, d.B ++ [⟨bb, rb, false, [], []⟩], cap', p', d.kp, d.kc⟩, ⟨?_, ?_, hr.nl, hr.rf, by rw [List.length_append, List.length_singleton]; omega, hr.kids⟩, rfl, dg_shutP ?_, hR⟩
    · have hO : isO (d.B ++ [⟨bb, rb, false, [], []⟩]) bb d.B.length := ⟨by simp, by simp, by simp⟩
      have r0 : LR (HR (d.B ++ [⟨bb, rb, false, [], []⟩])) s.L d.H := hr.hl.imp fun k y hh hy _ hp => hp.move fun b2 i _ _ hi => by
        obtain ⟨q, q1, q2⟩ := hi
        exact ⟨by rw [List.length_append]; omega, by rw [List.getElem_append_left q]; exact q1, by rw [List.getElem_append_left q]; exact q2⟩
      refine (r0.put hg1.none rfl ?_).put g2n rfl ?_
      · exact ⟨d.B.length, hO, rfl⟩
      · exact ⟨d.B.length, hO, rfl⟩
    · exact PR.new (h1 := h1) (x1 := x1) (h2 := h2) (x2 := x2) (eb := eb) hr.pl (fun k p hp => (hI.pk k p hp).1) hno hg1.none g2n' hne rfl rfl rfl
    · have S' : Sat w' (rtHp { d.c with lp := lp, lc := lc, qp := qp, qc := qc } (insN ⟨(g2 : Int), 5, 1, 0, 0, false, false, false, ⟨#[]⟩, 0, (d.B.length : Int) + 1⟩ (insN ⟨(g1 : Int), 4, 1, 0, 0, false, false, false, ⟨#[]⟩, 0, (d.B.length : Int) + 1⟩ d.H false) false) (d.B.length + 1) * (pqHp { d.c with lp := lp, lc := lc, qp := qp, qc := qc } (d.B ++ [⟨bb, rb, false, [], []⟩]) * (Spill.rpool d.c.rp 40 3 4 cap' p' (d.B ++ [⟨bb, rb, false, [], []⟩]) * (all Spill.rbuf (d.B ++ [⟨bb, rb, false, [], []⟩]) * (rfHp d.cf d.N * (enA d.kp d.kc kidsE * R)))))) := by
        unfold pqHp Spill.rpool at S ⊢
        rw [map_ba rb bb 0, all_ba rb bb 0]
        rw [List.length_append, List.length_singleton] at S ⊢
        exact S
      have e1 : (d.B ++ [(⟨bb, rb, false, [], []⟩ : Spill.Bf)]).length = d.B.length + 1 := by simp
      rw [e1]
      exact S'
  | _ => exfalso; omega
theorem rop_Ref (hN : n ≤ 100) (hI : Inv n s) (hr : Rel n s d) (ha : askI o = 4) (hs : Step s o r t er s') (h : Sat w (DgHp d * R)) :
    Calls Tryz.prog 52 #[pp d.c.tb, .int .i64 o.id] w fun e w' => e = .returned (.int .i64 er) ∧ r = 0 ∧ t = ⟨#[]⟩ ∧ AfterD (n + 1) s' d w R w' := by
  have hH := lenH hI hr
  have hl := hI.lenL
  have hrf : ∀ x ∈ d.H, 0 ≤ x.refs ∧ x.refs ≤ 1000000 := fun x hx => by
    obtain ⟨y, e1, e2⟩ := hr.hl.fro x hx
    have := hI.refs _ y e1
    rw [e2.head.2]; omega
  refine (RRef_calls d.c d.H d.B.length o.id (by omega) hrf w _ (dg_open h)).mono ?_
  rintro e w' ⟨hc, hR⟩
  cases hs with
  | ref_no _ hy =>
    have hp := hr.hl.no hy
    rcases hc with ⟨_, rfl, S⟩ | ⟨i, hi, hp2, rfl, S⟩
    · exact ⟨rfl, rfl, rfl, after_id hr (dg_shut S) hR⟩
    · exfalso; omega
  | ref_ok y _ hy =>
    obtain ⟨i, hi, hp, hid, hrel⟩ := hr.hl.at hy
    rcases hc with ⟨hp2, rfl, S⟩ | ⟨i2, hi2, hp2, rfl, S⟩
    · exfalso; omega
    · obtain rfl : i2 = i := by omega
      refine ⟨rfl, rfl, rfl, ⟨d.c, d.cf, d.H.set i2 { d.H[i2] with refs := d.H[i2].refs + 1 }, d.N, d.B, d.cap, d.p, d.kp, d.kc⟩, ⟨hr.hl.upd (h' := { d.H[i2] with refs := d.H[i2].refs + 1 }) hy hi hid hid ?_, ?_, hr.nl, hr.rf, Nat.le_succ_of_le hr.lenB, hr.kids⟩, rfl, dg_shut S, hR⟩
      · rw [hrel.head.2]
        exact hrel.setRefs _
      · refine hr.pl.frame rfl (Nat.le_refl _) fun k z bb eb hz _ => ?_
        by_cases e : k = o.id
        · subst e
          rw [hy] at hz
          injection hz with hz
          exact ⟨_, by show findA (updA s.L _ _) _ = _; rw [findA_upd s.L _ _ _ (by rw [hy]; rfl), if_pos rfl], by rw [← hz]⟩
        · exact ⟨z, by show findA (updA s.L _ _) _ = _; rw [findA_upd s.L _ _ _ (by rw [hy]; rfl), if_neg e]; exact hz, rfl⟩
  | _ => exfalso; omega
end
end Go.Proofs.YtljlpkeddbfpaaaGreatDoor.Hd

