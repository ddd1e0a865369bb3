/- Plain: what stands behind a text does not turn a thing that ends ahead of its end. -/
import Derived.Test.YtlhkochpokhncaaDoorLxAE
namespace Go.Proofs.YtlhkochpokhncaaDoor.Lexer
open Go.RowKit Go.Proofs.YtlhkochpokhncaaDoor Go.Proofs.YtlhkochpokhncaaDoor.Hp
set_option linter.unusedVariables false

/-- The bytes that begin an op. -/
def opB : List UInt8 := [38, 124, 59, 60, 62, 40, 41]
theorem opN_pos (c : UInt8) (l : Bytes) : 0 < opN (c :: l) ↔ c ∈ opB := by
  constructor
  · intro h
    unfold opN at h
    cases hf : opsL.find? (fun o => o.isPrefixOf (c :: l)) with
    | none => rw [hf] at h; exact absurd h (by decide)
    | some o =>
      have h1 := List.mem_of_find?_eq_some hf
      have h2 : o.isPrefixOf (c :: l) = true := List.find?_some (p := fun o : Bytes => o.isPrefixOf (c :: l)) hf
      have hall : ∀ o ∈ opsL, ∀ c l, o.isPrefixOf (c :: l) = true → c ∈ opB := by
        intro o ho c l hp
        have hb : ∀ o ∈ opsL, ∃ d t, o = d :: t ∧ d ∈ opB := by
          intro o ho
          simp only [opsL, List.mem_cons, List.not_mem_nil, or_false] at ho
          rcases ho with rfl | rfl | rfl | rfl | rfl | rfl | rfl | rfl | rfl | rfl | rfl | rfl | rfl | rfl | rfl | rfl | rfl <;> exact ⟨_, _, rfl, by decide⟩
        obtain ⟨d, t, rfl, hd⟩ := hb o ho
        simp only [List.isPrefixOf, Bool.and_eq_true] at hp
        rw [← eq_of_beq hp.1]; exact hd
      exact hall o h1 c l h2
  · intro h
    rw [← opP_eq]
    have h1 : [c] ∈ opsL := by
      simp only [opB, List.mem_cons, List.not_mem_nil, or_false] at h
      rcases h with rfl | rfl | rfl | rfl | rfl | rfl | rfl <;> decide
    unfold opP
    split
    · omega
    · split
      · omega
      · rw [if_pos ⟨by simp, h1⟩]; omega
theorem stops_byte (c : UInt8) (l : Bytes) : stops (c :: l) = (blankB c || decide (c ∈ opB)) := by
  rw [stops_cons]
  congr 1
  rw [decide_eq_decide]; exact opN_pos c l
theorem opN_app (l t : Bytes) (h0 : 0 < opN l) (h : opN l < l.length) : opN (l ++ t) = opN l := by
  rw [← opP_eq] at h0 h ⊢
  rw [← opP_eq]
  match l with
  | [] => exact absurd h (by simp)
  | [a] => simp at h; omega
  | [a, b] =>
    have h1 : opP [a, b] = 1 := by simp at h; omega
    have hn2 : ¬ ([a, b] ∈ opsL) := by
      intro hin
      have : opP [a, b] = 2 := by unfold opP; rw [if_neg (by simp), if_pos ⟨by simp, hin⟩]
      omega
    have hy1 : [a] ∈ opsL := by
      by_cases hy : [a] ∈ opsL
      · exact hy
      · have : opP [a, b] = 0 := by unfold opP; rw [if_neg (by simp), if_neg (fun h => hn2 h.2), if_neg (fun h => hy h.2)]
        omega
    rw [h1]
    unfold opP
    have h3 : ¬ (3 ≤ ([a, b] ++ t).length ∧ ([a, b] ++ t).take 3 ∈ opsL) := by
      rintro ⟨h4, h5⟩
      match t, h4 with
      | c :: t, _ =>
        have h6 : [a, b, c] ∈ opsL := h5
        have hall : ∀ o ∈ opsL, ∀ x y z, o = [x, y, z] → [x, y] ∈ opsL := by
          intro o ho x y z e
          simp only [opsL, List.mem_cons, List.not_mem_nil, or_false] at ho
          rcases ho with rfl | rfl | rfl | rfl | rfl | rfl | rfl | rfl | rfl | rfl | rfl | rfl | rfl | rfl | rfl | rfl | rfl <;> simp at e
          obtain ⟨rfl, rfl, rfl⟩ := e; decide
        exact hn2 (hall _ h6 a b c rfl)
    rw [if_neg h3, if_neg (by rintro ⟨_, h5⟩; exact hn2 h5), if_pos ⟨by simp, hy1⟩]
  | a :: b :: c :: l =>
    unfold opP
    simp [show 3 ≤ l.length + t.length + 3 by omega, show 2 ≤ l.length + t.length + 3 by omega, show 1 ≤ l.length + t.length + 3 by omega, show 3 ≤ l.length + 3 by omega, show 2 ≤ l.length + 3 by omega, show 1 ≤ l.length + 3 by omega]
theorem stp_app {a c : UInt8} {l r t : Bytes} {fs : List UInt8} (h : stp a (c :: l) = some (fs, r)) (hl : l ≠ [] ∨ a = 39 ∨ c ≠ 36) : stp a (c :: (l ++ t)) = some (fs, r ++ t) := by
  rw [stp_cons] at h ⊢
  by_cases h1 : a = 39
  · rw [if_pos h1] at h ⊢
    obtain ⟨e1, e2⟩ := Prod.mk.inj (Option.some.inj h)
    rw [e1, e2]
  · rw [if_neg h1] at h ⊢
    by_cases h2 : c = 92
    · rw [if_pos h2] at h ⊢
      cases l with
      | nil => cases h
      | cons d l => obtain ⟨e1, e2⟩ := Prod.mk.inj (Option.some.inj h); rw [← e1, ← e2]; rfl
    · rw [if_neg h2] at h ⊢
      by_cases h3 : a = 96 ∨ (a = 34 ∧ c = 34)
      · rw [if_pos h3] at h ⊢
        obtain ⟨e1, e2⟩ := Prod.mk.inj (Option.some.inj h)
        rw [e1, e2]
      · rw [if_neg h3] at h ⊢
        have hhd : (c = 36 ∧ ((l ++ t).head? = some 40 ∨ (l ++ t).head? = some 123)) ↔ (c = 36 ∧ (l.head? = some 40 ∨ l.head? = some 123)) := by
          cases l with
          | nil =>
            have : c ≠ 36 := by rcases hl with h | h | h; exact absurd rfl h; exact absurd h h1; exact h
            exact ⟨fun h => absurd h.1 this, fun h => absurd h.1 this⟩
          | cons d l => exact Iff.rfl
        by_cases h4 : c = 36 ∧ (l.head? = some 40 ∨ l.head? = some 123)
        · rw [if_pos h4] at h
          rw [if_pos (hhd.2 h4)]
          cases l with
          | nil => rcases h4.2 with h | h <;> cases h
          | cons d l => obtain ⟨e1, e2⟩ := Prod.mk.inj (Option.some.inj h); rw [← e1, ← e2]; rfl
        · rw [if_neg h4] at h
          rw [if_neg (fun h => h4 (hhd.1 h))]
          by_cases h5 : c = 96 ∨ (a ≠ 34 ∧ (c = 39 ∨ c = 34)) ∨ (a = 40 ∧ c = 40)
          · rw [if_pos h5] at h ⊢
            obtain ⟨e1, e2⟩ := Prod.mk.inj (Option.some.inj h); rw [e1, e2]
          · rw [if_neg h5] at h ⊢
            obtain ⟨e1, e2⟩ := Prod.mk.inj (Option.some.inj h); rw [e1, e2]
theorem M_app (t : Bytes) (st : List UInt8) (l r : Bytes) (h : M st l = some r) : M st (l ++ t) = some (r ++ t) := by
  have key : ∀ (n : Nat) (st : List UInt8) (l r : Bytes), l.length ≤ n → M st l = some r → M st (l ++ t) = some (r ++ t) := by
    intro n
    induction n with
    | zero =>
      intro st l r hl h
      have : l = [] := List.eq_nil_of_length_eq_zero (by omega)
      subst this
      cases st with
      | nil => rw [M_nil] at h ⊢; cases h; rfl
      | cons a st => rw [M_frame_nil] at h; cases h
    | succ n ih =>
      intro st l r hl h
      cases st with
      | nil => rw [M_nil] at h ⊢; cases h; rfl
      | cons a st =>
        cases l with
        | nil => rw [M_frame_nil] at h; cases h
        | cons c l =>
          match hs : stp a (c :: l) with
          | none => rw [M_none _ _ hs] at h; cases h
          | some (fs, r') =>
            have hlt := stp_len hs
            rw [M_some _ _ hs] at h
            have hcond : l ≠ [] ∨ a = 39 ∨ c ≠ 36 := by
              by_cases h1 : l = []
              · by_cases h2 : a = 39
                · exact .inr (.inl h2)
                · by_cases h3 : c = 36
                  · exfalso
                    subst h1 h3
                    rw [stp_cons, if_neg h2, if_neg (by decide)] at hs
                    by_cases h4 : a = 96 ∨ (a = 34 ∧ (36 : UInt8) = 34)
                    · rw [if_pos h4] at hs
                      have ha : a = 96 := by rcases h4 with h | h; exact h; exact absurd h.2 (by decide)
                      rw [if_neg (by rw [ha]; decide)] at hs
                      obtain ⟨e1, e2⟩ := Prod.mk.inj (Option.some.inj hs)
                      rw [← e1, ← e2, List.singleton_append, M_frame_nil] at h; cases h
                    · rw [if_neg h4, if_neg (by simp), if_neg (by simp)] at hs
                      obtain ⟨e1, e2⟩ := Prod.mk.inj (Option.some.inj hs)
                      rw [if_neg (by simp)] at e1
                      rw [← e1, ← e2, List.singleton_append, M_frame_nil] at h; cases h
                  · exact .inr (.inr h3)
              · exact .inl h1
            have hs2 := stp_app (t := t) hs hcond
            rw [List.cons_append, M_some _ _ hs2]
            exact ih _ _ _ (by omega) h
  exact key l.length st l r (Nat.le_refl _) h
theorem hol_app {c : UInt8} {l : Bytes} (t : Bytes) (hl : l ≠ []) : hol (c :: (l ++ t)) = hol (c :: l) := by
  cases l with
  | nil => exact absurd rfl hl
  | cons d l => rfl
theorem holeL_app {l r : Bytes} (t : Bytes) (hh : hol l = true) (h : holeL l = some r) : hol (l ++ t) = true ∧ holeL (l ++ t) = some (r ++ t) := by
  cases l with
  | nil => cases h
  | cons c l =>
    rw [holeL_cons] at h
    rw [List.cons_append, holeL_cons]
    by_cases h1 : c = 96
    · rw [if_pos h1] at h ⊢
      exact ⟨by unfold hol; rw [h1]; rfl, M_app t _ _ _ h⟩
    · rw [if_neg h1] at h ⊢
      cases l with
      | nil => unfold hol at hh; simp [h1] at hh
      | cons d l => exact ⟨hh, M_app t _ _ _ h⟩
theorem wh_app {l r : Bytes} (t : Bytes) (h : wh l = some (some r)) : wh (l ++ t) = some (some (r ++ t)) := by
  cases l with
  | nil => cases h
  | cons c l =>
    rw [wh_cons] at h
    rw [List.cons_append, wh_cons]
    by_cases h1 : c = 92
    · rw [if_pos h1] at h ⊢
      cases l with
      | nil => cases h
      | cons d l => have := Option.some.inj (Option.some.inj h); rw [← this]; rfl
    · rw [if_neg h1] at h ⊢
      by_cases h2 : c = 39
      · rw [if_pos h2] at h ⊢; rw [M_app t _ _ _ (Option.some.inj h)]
      · rw [if_neg h2] at h ⊢
        by_cases h3 : c = 34
        · rw [if_pos h3] at h ⊢; rw [M_app t _ _ _ (Option.some.inj h)]
        · rw [if_neg h3] at h ⊢
          by_cases h4 : hol (c :: l) = true
          · rw [if_pos h4] at h
            obtain ⟨e1, e2⟩ := holeL_app t h4 (Option.some.inj h)
            rw [List.cons_append] at e1 e2
            rw [if_pos e1, e2]
          · rw [if_neg h4] at h; cases h
theorem wh_none_app {c : UInt8} {l : Bytes} (t : Bytes) (hl : l ≠ []) (h : wh (c :: l) = none) : wh (c :: (l ++ t)) = none := by
  rw [wh_cons] at h ⊢
  by_cases h1 : c = 92
  · rw [if_pos h1] at h; cases h
  · rw [if_neg h1] at h ⊢
    by_cases h2 : c = 39
    · rw [if_pos h2] at h; cases h
    · rw [if_neg h2] at h ⊢
      by_cases h3 : c = 34
      · rw [if_pos h3] at h; cases h
      · rw [if_neg h3] at h ⊢
        by_cases h4 : hol (c :: l) = true
        · rw [if_pos h4] at h; cases h
        · rw [hol_app t hl, if_neg h4]
theorem Wd_app (t : Bytes) (l q : Bytes) (hq : q ≠ []) (h : Wd l = some q) : Wd (l ++ t) = some (q ++ t) := by
  have key : ∀ (n : Nat) (l q : Bytes), l.length ≤ n → q ≠ [] → Wd l = some q → Wd (l ++ t) = some (q ++ t) := by
    intro n
    induction n with
    | zero =>
      intro l q hl hq h
      have : l = [] := List.eq_nil_of_length_eq_zero (by omega)
      subst this
      rw [Wd_nil] at h; exact absurd (Option.some.inj h).symm hq
    | succ n ih =>
      intro l q hl hq h
      cases l with
      | nil => rw [Wd_nil] at h; exact absurd (Option.some.inj h).symm hq
      | cons c l =>
        simp only [List.length_cons] at hl
        have hsb : stops (c :: (l ++ t)) = stops (c :: l) := by rw [stops_byte, stops_byte]
        by_cases hs : stops (c :: l) = true
        · rw [Wd_stop hs] at h
          rw [List.cons_append, Wd_stop (by rw [hsb]; exact hs), ← Option.some.inj h]; rfl
        · have hs : stops (c :: l) = false := by simpa using hs
          match hw : wh (c :: l) with
          | none =>
            rw [Wd_none hs hw] at h
            have hl0 : l ≠ [] := by rintro rfl; rw [Wd_nil] at h; exact hq (Option.some.inj h).symm
            rw [List.cons_append, Wd_none (by rw [hsb]; exact hs) (wh_none_app t hl0 hw)]
            exact ih l q (by omega) hq h
          | some none => rw [Wd_some hs hw] at h; cases h
          | some (some r') =>
            rw [Wd_some hs hw] at h
            have h1 := wh_len hw
            have h2 := wh_app t hw
            rw [List.cons_append] at h2 ⊢
            rw [Wd_some (by rw [hsb]; exact hs) h2]
            simp only [List.length_cons] at h1
            exact ih r' q (by omega) hq h
  exact key l.length l q (Nat.le_refl _) hq h
theorem Sk_app (t : Bytes) (l : Bytes) (h1 : Sk l ≠ []) (h2 : Sk l ≠ [92]) : Sk (l ++ t) = Sk l ++ t := by
  have key : ∀ (n : Nat) (l : Bytes), l.length ≤ n → Sk l ≠ [] → Sk l ≠ [92] → Sk (l ++ t) = Sk l ++ t := by
    intro n
    induction n with
    | zero =>
      intro l hl h1 h2
      have : l = [] := List.eq_nil_of_length_eq_zero (by omega)
      subst this
      exact absurd Sk_nil h1
    | succ n ih =>
      intro l hl h1 h2
      cases l with
      | nil => exact absurd Sk_nil h1
      | cons c l =>
        simp only [List.length_cons] at hl
        rw [List.cons_append]
        rw [Sk_cons] at h1 h2 ⊢
        rw [Sk_cons]
        by_cases hb : c = 32 ∨ c = 9
        · rw [if_pos hb] at h1 h2 ⊢
          rw [if_pos hb]
          exact ih l (by omega) h1 h2
        · rw [if_neg hb] at h1 h2 ⊢
          rw [if_neg hb]
          by_cases hn : c = 92 ∧ l.head? = some 10
          · rw [if_pos hn] at h1 h2 ⊢
            cases l with
            | nil => cases hn.2
            | cons d l =>
              rw [if_pos (show c = 92 ∧ (d :: l ++ t).head? = some 10 from hn)]
              exact ih l (by simp only [List.length_cons] at hl; omega) h1 h2
          · rw [if_neg hn] at h1 h2 ⊢
            have hn2 : ¬ (c = 92 ∧ (l ++ t).head? = some 10) := by
              cases l with
              | nil =>
                rintro ⟨rfl, _⟩
                rw [if_neg (by decide)] at h2
                exact h2 rfl
              | cons d l => exact hn
            rw [if_neg hn2]
            by_cases h35 : c = 35
            · rw [if_pos h35] at h1 ⊢
              rw [if_pos h35]
              rw [List.dropWhile_append]
              cases hd : l.dropWhile (fun x => x != 10) with
              | nil => exact absurd hd h1
              | cons a b => rfl
            · rw [if_neg h35, if_neg h35]; rfl
  exact key l.length l (Nat.le_refl _) h1 h2
/-- What Next answers is wrong in one way alone. -/
theorem nextR_err (n : Nat) (R : Bytes) : (nextR n R).2 = 0 ∨ (nextR n R).2 = 30 := by
  cases R with
  | nil => exact .inl rfl
  | cons c t =>
    rw [nextR_cons]
    dsimp only
    split
    · exact .inl rfl
    · split
      · exact .inl rfl
      · cases Wd (c :: t) with
        | none => exact .inr rfl
        | some q => exact .inl rfl
theorem nextA_err (s : ByteArray) (k : Nat) (hk : k ≤ s.size) (hs : s.size ≤ 4096) : (nextA s (k : Int)).2 = 0 ∨ (nextA s (k : Int)).2 = 30 := by
  have hm : mayE s.size (k : Int) = 0 := by unfold mayE; rw [if_neg (by omega), if_neg (by omega)]
  unfold nextA
  rw [if_neg (by rw [hm]; decide), nextL_eq]
  exact nextR_err _ _
theorem nextR_app (n m : Nat) (R t : Bytes) (hn : R.length ≤ n) (hm : m = n + t.length) (h : (nextR n R).2 = 0) (hk : (nextR n R).1.kind ≠ 0) (hs : (nextR n R).1.stop < (n : Int)) : nextR m (R ++ t) = nextR n R := by
  cases R with
  | nil => exact absurd rfl hk
  | cons c l =>
    rw [List.cons_append]
    rw [nextR_cons] at h hk hs ⊢
    rw [nextR_cons]
    dsimp only at h hk hs ⊢
    have hlen : (c :: (l ++ t)).length = (c :: l).length + t.length := by simp; omega
    have hat : (m : Int) - (((c :: (l ++ t)).length : Nat) : Int) = (n : Int) - (((c :: l).length : Nat) : Int) := by rw [hlen, hm]; omega
    rw [hat]
    by_cases c10 : c = 10
    · rw [if_pos c10, if_pos c10]
    · rw [if_neg c10] at h hk hs ⊢
      rw [if_neg c10]
      by_cases hop : 0 < opN (c :: l)
      · rw [if_pos hop] at hs ⊢
        have hlt : opN (c :: l) < (c :: l).length := by
          have hs : (n : Int) - (((c :: l).length : Nat) : Int) + (opN (c :: l) : Int) < n := hs
          omega
        have ha := opN_app (c :: l) t hop hlt
        rw [List.cons_append] at ha
        rw [ha, if_pos hop]
        rw [← List.cons_append, List.take_append_of_le_length (Nat.le_of_lt hlt)]
      · rw [if_neg hop] at h hk hs ⊢
        have hop2 : ¬ 0 < opN (c :: (l ++ t)) := fun h => hop ((opN_pos c l).2 ((opN_pos c _).1 h))
        rw [if_neg hop2]
        cases hW : Wd (c :: l) with
        | none => rw [hW] at h; exact absurd (show (30 : Int) = 0 from h) (by decide)
        | some q =>
          rw [hW] at hs
          have hs : (n : Int) - (q.length : Int) < n := hs
          have hq : q ≠ [] := by rintro rfl; simp at hs
          have ha := Wd_app t _ _ hq hW
          rw [List.cons_append] at ha
          rw [ha]
          dsimp only
          have hql := Wd_len hW
          have e1 : (c :: (l ++ t)).length - (q ++ t).length = (c :: l).length - q.length := by rw [hlen, List.length_append]; omega
          have e2 : (q ++ t).head? = q.head? := by cases q with
            | nil => exact absurd rfl hq
            | cons a b => rfl
          have e3 : (m : Int) - ((q ++ t).length : Int) = (n : Int) - (q.length : Int) := by rw [List.length_append, hm]; omega
          rw [e1, e2, e3, ← List.cons_append, List.take_append_of_le_length (by omega)]
theorem nextR_92 (n : Nat) : (nextR n [92]).2 = 30 := by
  have hW : Wd ([92] : Bytes) = none := by
    rw [Wd_some (r := none) (by decide) (by rw [wh_cons, if_pos rfl])]; rfl
  rw [nextR_cons]
  dsimp only
  rw [if_neg (by decide), if_neg (by decide), hW]
theorem nextA_app (s t : ByteArray) (k : Nat) (hk : k ≤ s.size) (hst : s.size + t.size ≤ 4096) (h : (nextA s (k : Int)).2 = 0) (hkd : (nextA s (k : Int)).1.kind ≠ 0) (hs : (nextA s (k : Int)).1.stop < (s.size : Int)) : nextA (s ++ t) (k : Int) = nextA s (k : Int) := by
  have hz : (s ++ t).size = s.size + t.size := by rw [← bs_length, bs_app, List.length_append, bs_length, bs_length]
  have hm : mayE s.size (k : Int) = 0 := by unfold mayE; rw [if_neg (by omega), if_neg (by omega)]
  have hm2 : mayE (s ++ t).size (k : Int) = 0 := by unfold mayE; rw [hz, if_neg (by omega), if_neg (by omega)]
  unfold nextA at h hkd hs ⊢
  rw [if_neg (by rw [hm]; decide), nextL_eq, show ((k : Int)).toNat = k from rfl] at h hkd hs
  rw [if_neg (by rw [hm2]; decide), nextL_eq, if_neg (by rw [hm]; decide), nextL_eq, show ((k : Int)).toNat = k from rfl]
  have hR1 : Sk ((bs s).drop k) ≠ [] := by intro e; rw [e] at hkd; exact hkd rfl
  have hR2 : Sk ((bs s).drop k) ≠ [92] := by
    intro e; rw [e] at h
    rw [nextR_92] at h; exact absurd h (by decide)
  rw [bs_app, List.drop_append_of_le_length (by rw [bs_length]; exact hk), Sk_app _ _ hR1 hR2]
  have hle := (Sk_suf ((bs s).drop k)).length_le
  rw [List.length_drop, bs_length] at hle
  exact nextR_app _ _ _ _ (by omega) (by rw [hz, bs_length]) h hkd hs
end Go.Proofs.YtlhkochpokhncaaDoor.Lexer
