/- Plain: what is quoted is one word; a word within $( and ). -/
import Derived.Test.YtlhkochpokhncaaDoorLxAH
namespace Go.Proofs.YtlhkochpokhncaaDoor.Lexer
open Go.RowKit Go.Proofs.YtlhkochpokhncaaDoor Go.Proofs.YtlhkochpokhncaaDoor.Hp
set_option linter.unusedVariables false

def sgl (l : Bytes) : Bool := l.all fun c => c != 39
def dbl (l : Bytes) : Bool := l.all fun c => c != 34 && c != 92 && c != 36 && c != 96
theorem sgl_snoc (l : Bytes) (c : UInt8) : sgl (l ++ [c]) = (sgl l && c != 39) := by unfold sgl; rw [List.all_append]; simp
theorem dbl_snoc (l : Bytes) (c : UInt8) : dbl (l ++ [c]) = (dbl l && (c != 34 && c != 92 && c != 36 && c != 96)) := by unfold dbl; rw [List.all_append]; simp
theorem M_sgl (l r : Bytes) (h : sgl l = true) : M [39] (l ++ 39 :: r) = some r := by
  induction l with
  | nil => rw [List.nil_append, M_single, if_pos rfl]
  | cons c l ih =>
    unfold sgl at h
    rw [List.all_cons, Bool.and_eq_true] at h
    have hc : c ≠ 39 := by simpa using h.1
    rw [List.cons_append, M_single, if_neg hc]
    exact ih h.2
theorem M_dbl (l r : Bytes) (h : dbl l = true) : M [34] (l ++ 34 :: r) = some r := by
  induction l with
  | nil => rw [List.nil_append, M_quote, if_pos rfl]
  | cons c l ih =>
    unfold dbl at h
    rw [List.all_cons, Bool.and_eq_true] at h
    obtain ⟨hc, h2⟩ := h
    simp only [Bool.and_eq_true, bne_iff_ne] at hc
    obtain ⟨⟨⟨h34, h92⟩, h36⟩, h96⟩ := hc
    have hh : hol (c :: (l ++ 34 :: r)) = false := by
      show (c == 96 || (c == 36 && _)) = false
      rw [beq_eq_false_iff_ne.2 h96, beq_eq_false_iff_ne.2 h36]; rfl
    rw [List.cons_append, M_quote, if_neg h34, if_neg h92, if_neg (by rw [hh]; decide)]
    exact ih h2
theorem hol_no {c : UInt8} (t : Bytes) (h96 : c ≠ 96) (h36 : c ≠ 36) : ¬ hol (c :: t) = true := by
  intro h
  have h : (c == 96 || (c == 36 && (t.head? == some 40 || t.head? == some 123))) = true := h
  rw [beq_eq_false_iff_ne.2 h96, beq_eq_false_iff_ne.2 h36] at h
  cases h
theorem Wd_121 : Wd [121] = some [] := by
  rw [Wd_none (by rw [stops_byte]; decide) (by rw [wh_cons]; decide), Wd_nil]
theorem one_quoted (s : ByteArray) (q : UInt8) (hs : s.size ≤ 1000) (x : ByteArray) (hx : bs x = 120 :: q :: (bs s ++ q :: [121])) (hz : x.size ≤ 4096) (hq : q = 39 ∨ q = 34)
    (hM : M [q] (bs s ++ q :: [121]) = some [121]) : One x := by
  refine one_word x hz 120 _ hx ?_ (by decide) (by decide) ?_
  · rw [Sk_cons, if_neg (by decide), if_neg (by rintro ⟨h, _⟩; exact absurd h (by decide)), if_neg (by decide)]
  · have hst : ∀ t, stops (120 :: t) = false := fun t => by rw [stops_byte]; decide
    have hsq : ∀ t, stops (q :: t) = false := fun t => by rw [stops_byte]; rcases hq with rfl | rfl <;> decide
    have hw : wh (120 :: q :: (bs s ++ q :: [121])) = none := by
      rw [wh_cons, if_neg (by decide), if_neg (by decide), if_neg (by decide), if_neg (hol_no _ (by decide) (by decide))]
    have hw2 : wh (q :: (bs s ++ q :: [121])) = some (some [121]) := by
      rw [wh_cons]
      rcases hq with rfl | rfl
      · rw [if_neg (by decide), if_pos rfl, hM]
      · rw [if_neg (by decide), if_neg (by decide), if_pos rfl, hM]
    rw [Wd_none (hst _) hw, Wd_some (hsq _) hw2]
    show Wd [121] = _
    exact Wd_121
theorem one_single (s : ByteArray) (hs : s.size ≤ 1000) (h : sgl (bs s) = true) : One (⟨#[120, 39]⟩ ++ s ++ ⟨#[39, 121]⟩) :=
  one_quoted s 39 hs _ (by rw [bs_app, bs_app]; show [120, 39] ++ bs s ++ [39, 121] = _; simp) (by rw [ByteArray.size_append, ByteArray.size_append]; show 2 + s.size + 2 ≤ 4096; omega) (.inl rfl) (M_sgl _ _ h)
theorem one_double (s : ByteArray) (hs : s.size ≤ 1000) (h : dbl (bs s) = true) : One (⟨#[120, 34]⟩ ++ s ++ ⟨#[34, 121]⟩) :=
  one_quoted s 34 hs _ (by rw [bs_app, bs_app]; show [120, 34] ++ bs s ++ [34, 121] = _; simp) (by rw [ByteArray.size_append, ByteArray.size_append]; show 2 + s.size + 2 ≤ 4096; omega) (.inr rfl) (M_dbl _ _ h)
theorem word_frame (l : Bytes) (h : Wd l = some []) (st : List UInt8) (r : Bytes) : M (40 :: st) (l ++ 41 :: r) = M st r := by
  have key : ∀ (n : Nat) (l : Bytes), l.length ≤ n → Wd l = some [] → M (40 :: st) (l ++ 41 :: r) = M st r := by
    intro n
    have h0 : M (40 :: st) (41 :: r) = M st r := by
      rw [M_frame 40 (.inl rfl)]
      have : wh (41 :: r) = none := by
        rw [wh_cons, if_neg (by decide), if_neg (by decide), if_neg (by decide), if_neg (hol_no _ (by decide) (by decide))]
      rw [this]
      rfl
    induction n with
    | zero =>
      intro l hl _
      have : l = [] := List.eq_nil_of_length_eq_zero (by omega)
      subst this
      exact h0
    | succ n ih =>
      intro l hl h
      cases l with
      | nil => exact h0
      | cons c t =>
        simp only [List.length_cons] at hl
        cases hs : stops (c :: t) with
        | true => rw [Wd_stop hs] at h; exact absurd (Option.some.inj h) (List.cons_ne_nil _ _)
        | false =>
          cases hw : wh (c :: t) with
          | none =>
            rw [Wd_none hs hw] at h
            have hw2 : wh (c :: (t ++ 41 :: r)) = none := by
              cases t with
              | cons d t => exact wh_none_app (41 :: r) (List.cons_ne_nil _ _) hw
              | nil =>
                rw [wh_cons] at hw ⊢
                by_cases h1 : c = 92
                · rw [if_pos h1] at hw; cases hw
                · rw [if_neg h1] at hw ⊢
                  by_cases h2 : c = 39
                  · rw [if_pos h2] at hw; cases hw
                  · rw [if_neg h2] at hw ⊢
                    by_cases h3 : c = 34
                    · rw [if_pos h3] at hw; cases hw
                    · rw [if_neg h3] at hw ⊢
                      have h4 : c ≠ 96 := by
                        rintro rfl
                        cases hw
                      refine if_neg ?_
                      show ¬ (c == 96 || (c == 36 && (some (41 : UInt8) == some 40 || some (41 : UInt8) == some 123))) = true
                      rw [beq_eq_false_iff_ne.2 h4]; simp
            have hop : c ∉ opB := by
              intro hm
              rw [stops_byte, decide_eq_true hm, Bool.or_true] at hs
              cases hs
            have h40 : c ≠ 40 := by rintro rfl; exact hop (by decide)
            have h41 : c ≠ 41 := by rintro rfl; exact hop (by decide)
            rw [List.cons_append, M_frame 40 (.inl rfl), hw2]
            dsimp only
            rw [if_neg (by rintro ⟨_, h⟩; exact h40 h), if_neg (by rintro (⟨_, h⟩ | ⟨h, _⟩); exact h41 h; exact absurd h (by decide))]
            exact ih t (by omega) h
          | some q =>
            rw [Wd_some hs hw] at h
            cases q with
            | none => cases h
            | some q =>
              have hql := wh_len hw
              simp only [List.length_cons] at hql
              have hw2 := wh_app (41 :: r) hw
              rw [List.cons_append] at hw2 ⊢
              rw [M_frame 40 (.inl rfl), hw2]
              exact ih q (by omega) h
  exact key l.length l (Nat.le_refl _) h
/-- When a text is its only thing, a word, that word is the text. -/
theorem word_whole (s : ByteArray) (kd a m : Int) (f : Int × Int) (h : allP s = ([⟨kd, s, a, m⟩], f)) (hk : kd = 4) : Wd (bs s) = some [] := by
  have hst := allAt_start s
  rw [h] at hst
  have h0 : (nextA s ((0 : Nat) : Int)).2 = 0 := by
    by_cases he : (nextA s ((0 : Nat) : Int)).2 = 0
    · exact he
    · have := (hst.bad he).1; cases this
  have h1 : (nextA s ((0 : Nat) : Int)).1.kind ≠ 0 := by
    intro hk0
    have := (hst.stop h0 hk0).1; cases this
  obtain ⟨h4, hks, a', m', e1, e2, e3, e4, e5, e6, e7, -⟩ := nextA_prog s 0 h0 h1
  obtain ⟨_, m2, post, f1, f2, f3, _⟩ := hst.next h0 h1
  have ht : (nextA s ((0 : Nat) : Int)).1 = ⟨kd, s, a, m⟩ := by
    rw [List.nil_append] at f2
    exact (List.cons.inj f2).1.symm
  have hsz : s = s.extract a' m' := by rw [← e7, ht]
  have hz : s.size = m' - a' := by
    have := congrArg ByteArray.size hsz
    rw [ByteArray.size_extract] at this
    omega
  have ha : a' = 0 := by omega
  have hm : m' = s.size := by omega
  subst ha
  rw [List.drop_zero] at e6
  have hm0 : mayE s.size ((0 : Nat) : Int) = 0 := by unfold mayE; rw [if_neg (by omega), if_neg (by omega)]
  unfold nextA at ht e2
  rw [if_neg (by rw [hm0]; decide), nextL_eq, show (((0 : Nat) : Int)).toNat = 0 from rfl, List.drop_zero, ← e6] at ht e2
  cases hR : bs s with
  | nil => exact Wd_nil
  | cons c t =>
    rw [hR, nextR_cons] at ht e2
    dsimp only at ht e2
    by_cases c10 : c = 10
    · rw [if_pos c10] at ht
      exact absurd (show (1 : Int) = 4 from ((Tok.mk.inj ht).1).trans hk) (by decide)
    · rw [if_neg c10] at ht e2
      by_cases hop : 0 < opN (c :: t)
      · rw [if_pos hop] at ht
        exact absurd (show (2 : Int) = 4 from ((Tok.mk.inj ht).1).trans hk) (by decide)
      · rw [if_neg hop] at ht e2
        cases hW : Wd (c :: t) with
        | none =>
          rw [hW] at ht
          exact absurd (show (0 : Int) = 4 from ((Tok.mk.inj ht).1).trans hk) (by decide)
        | some q =>
          rw [hW] at e2
          have e3 : (s.size : Int) - (q.length : Int) = (m' : Int) := e2
          have : q = [] := List.eq_nil_of_length_eq_zero (by omega)
          rw [this]
theorem hole_one (s : ByteArray) (hs : s.size ≤ 1000) (h : Wd (bs s) = some []) : holeA (⟨#[36, 40]⟩ ++ s ++ ⟨#[41]⟩) 0 = ((s.size : Int) + 3, 0) := by
  have hz : (⟨#[36, 40]⟩ ++ s ++ ⟨#[41]⟩ : ByteArray).size = s.size + 3 := by rw [ByteArray.size_append, ByteArray.size_append]; show 2 + s.size + 1 = _; omega
  have hb : bs (⟨#[36, 40]⟩ ++ s ++ ⟨#[41]⟩) = 36 :: 40 :: (bs s ++ 41 :: []) := by rw [bs_app, bs_app]; show [36, 40] ++ bs s ++ [41] = _; simp
  unfold holeA
  have hm0 : mayE (s.size + 3) 0 = 0 := by unfold mayE; rw [if_neg (by omega), if_neg (by omega)]
  rw [hz, if_neg (by rw [hm0]; decide), show (0 : Int).toNat = 0 from rfl, List.drop_zero, hb, if_pos (by rfl), holeL_cons, if_neg (by decide)]
  show (match M [40] (bs s ++ 41 :: []) with | none => _ | some r => _) = _
  rw [word_frame _ h, M_nil]
  show (((s.size + 3 : Nat) : Int) - 0, (0 : Int)) = _
  simp
theorem hole_two (s : ByteArray) (hs : s.size ≤ 1000) (h : Wd (bs s) = some []) : holeA (⟨#[36, 40, 40]⟩ ++ s ++ ⟨#[41, 32]⟩ ++ s ++ ⟨#[41, 122]⟩) 0 = (2 * (s.size : Int) + 6, 0) := by
  have hz : (⟨#[36, 40, 40]⟩ ++ s ++ ⟨#[41, 32]⟩ ++ s ++ ⟨#[41, 122]⟩ : ByteArray).size = 2 * s.size + 7 := by rw [ByteArray.size_append, ByteArray.size_append, ByteArray.size_append, ByteArray.size_append]; show 3 + s.size + 2 + s.size + 2 = _; omega
  have hb : bs (⟨#[36, 40, 40]⟩ ++ s ++ ⟨#[41, 32]⟩ ++ s ++ ⟨#[41, 122]⟩) = 36 :: 40 :: 40 :: (bs s ++ 41 :: (32 :: (bs s ++ 41 :: [122]))) := by rw [bs_app, bs_app, bs_app, bs_app]; show [36, 40, 40] ++ bs s ++ [41, 32] ++ bs s ++ [41, 122] = _; simp
  unfold holeA
  have hm0 : mayE (2 * s.size + 7) 0 = 0 := by unfold mayE; rw [if_neg (by omega), if_neg (by omega)]
  have hpl : ∀ (c : UInt8) (t : Bytes), c = 40 ∨ c = 32 → wh (c :: t) = none := by
    intro c t hc
    rw [wh_cons]
    rcases hc with rfl | rfl
    · rw [if_neg (by decide), if_neg (by decide), if_neg (by decide), if_neg (hol_no _ (by decide) (by decide))]
    · rw [if_neg (by decide), if_neg (by decide), if_neg (by decide), if_neg (hol_no _ (by decide) (by decide))]
  rw [hz, if_neg (by rw [hm0]; decide), show (0 : Int).toNat = 0 from rfl, List.drop_zero, hb, if_pos (by rfl), holeL_cons, if_neg (by decide)]
  show (match M [40] (40 :: (bs s ++ 41 :: (32 :: (bs s ++ 41 :: [122])))) with | none => _ | some r => _) = _
  rw [M_frame 40 (.inl rfl), hpl 40 _ (.inl rfl)]
  show (match M (40 :: [40]) (bs s ++ 41 :: (32 :: (bs s ++ 41 :: [122]))) with | none => _ | some r => _) = _
  rw [word_frame _ h, M_frame 40 (.inl rfl), hpl 32 _ (.inr rfl)]
  show (match M (40 :: []) (bs s ++ 41 :: [122]) with | none => _ | some r => _) = _
  rw [word_frame _ h, M_nil]
  show (((2 * s.size + 7 : Nat) : Int) - 1, (0 : Int)) = _
  congr 1; omega
end Go.Proofs.YtlhkochpokhncaaDoor.Lexer
