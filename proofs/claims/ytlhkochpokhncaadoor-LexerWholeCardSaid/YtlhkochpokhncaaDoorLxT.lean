/- All things of a text, plain: one behind the other. -/
import Derived.Test.YtlhkochpokhncaaDoorLxS
namespace Go.Proofs.YtlhkochpokhncaaDoor.Lexer
open Go.RowKit Go.Proofs.YtlhkochpokhncaaDoor Go.Proofs.YtlhkochpokhncaaDoor.Hp
set_option linter.unusedVariables false

/-- The things from a place on; what is wrong at the end, and where. -/
def allA (s : ByteArray) : Nat → Int → List Tok × (Int × Int)
  | 0, _ => ([], (0, 0))
  | g + 1, z => if (nextA s z).2 ≠ 0 then ([], ((nextA s z).1.at_, (nextA s z).2)) else if (nextA s z).1.kind = 0 then ([], (0, 0)) else ((nextA s z).1 :: (allA s g (nextA s z).1.stop).1, (allA s g (nextA s z).1.stop).2)
def allP (s : ByteArray) : List Tok × (Int × Int) := allA s (s.size + 1) 0
theorem allA_bad {s : ByteArray} {g : Nat} {z : Int} (h : (nextA s z).2 ≠ 0) : allA s (g + 1) z = ([], ((nextA s z).1.at_, (nextA s z).2)) := by rw [allA, if_pos h]
theorem allA_end {s : ByteArray} {g : Nat} {z : Int} (h : (nextA s z).2 = 0) (hk : (nextA s z).1.kind = 0) : allA s (g + 1) z = ([], (0, 0)) := by rw [allA, if_neg (by rw [h]; decide), if_pos hk]
theorem allA_cons {s : ByteArray} {g : Nat} {z : Int} (h : (nextA s z).2 = 0) (hk : (nextA s z).1.kind ≠ 0) : allA s (g + 1) z = ((nextA s z).1 :: (allA s g (nextA s z).1.stop).1, (allA s g (nextA s z).1.stop).2) := by rw [allA, if_neg (by rw [h]; decide), if_neg hk]
theorem Wd_lt {l r : Bytes} (h0 : l ≠ []) (hs : stops l = false) (h : Wd l = some r) : r.length < l.length := by
  cases l with
  | nil => exact absurd rfl h0
  | cons c t =>
    cases hw : wh (c :: t) with
    | none =>
      rw [Wd_none hs hw] at h
      have := Wd_len h
      simp; omega
    | some o =>
      rw [Wd_some hs hw] at h
      cases o with
      | none => cases h
      | some r' =>
        have h1 := wh_len hw
        have := Wd_len (show Wd r' = some r from h)
        omega
/-- What Next answers, told from what is left ahead of it. -/
theorem nextR_prog (n : Nat) (R : Bytes) (hn : R.length ≤ n) (hsp : R.head? ≠ some 32 ∧ R.head? ≠ some 9) (h : (nextR n R).2 = 0) (hk : (nextR n R).1.kind ≠ 0) : ∃ m : Nat, (nextR n R).1.stop = (m : Int) ∧ n - R.length < m ∧ m ≤ n ∧ (nextR n R).1.at_ = ((n - R.length : Nat) : Int) ∧ (nextR n R).1.text = ⟨(R.take (m - (n - R.length))).toArray⟩ ∧ (nextR n R).1.kind ≤ 4 ∧ 1 ≤ (nextR n R).1.kind := by
  cases R with
  | nil => exact absurd rfl hk
  | cons c t =>
    rw [nextR_cons] at h hk ⊢
    dsimp only at h hk ⊢
    have hlen : (c :: t).length = t.length + 1 := rfl
    have hat : (n : Int) - (((c :: t).length : Nat) : Int) = ((n - (c :: t).length : Nat) : Int) := by omega
    by_cases c10 : c = 10
    · rw [if_pos c10]
      refine ⟨n - (c :: t).length + 1, by show _ - _ + (1 : Int) = _; omega, by omega, by omega, hat, ?_, by show (1 : Int) ≤ 4; decide, by show (1 : Int) ≤ 1; decide⟩
      rw [show n - (c :: t).length + 1 - (n - (c :: t).length) = 1 by omega, c10]; rfl
    · rw [if_neg c10] at h hk ⊢
      by_cases hop : 0 < opN (c :: t)
      · rw [if_pos hop]
        have := opN_le (c :: t)
        refine ⟨n - (c :: t).length + opN (c :: t), by show _ - _ + _ = _; omega, by omega, by omega, hat, ?_, by show (2 : Int) ≤ 4; decide, by show (1 : Int) ≤ 2; decide⟩
        rw [show n - (c :: t).length + opN (c :: t) - (n - (c :: t).length) = opN (c :: t) by omega]
      · rw [if_neg hop] at h hk ⊢
        cases hW : Wd (c :: t) with
        | none => rw [hW] at h; exact absurd (show (30 : Int) = 0 from h) (by decide)
        | some q =>
          have hst : stops (c :: t) = false := by
            rw [stops_cons, Bool.or_eq_false_iff]
            refine ⟨?_, decide_eq_false hop⟩
            unfold blankB
            have h1 : c ≠ 32 := fun e => hsp.1 (by rw [e]; rfl)
            have h2 : c ≠ 9 := fun e => hsp.2 (by rw [e]; rfl)
            simp [h1, h2, c10]
          have hlt := Wd_lt (by simp) hst hW
          refine ⟨n - q.length, by show (n : Int) - _ = _; omega, by omega, by omega, hat, ?_, ?_, ?_⟩
          · show (⟨((c :: t).take ((c :: t).length - q.length)).toArray⟩ : ByteArray) = _
            rw [show n - q.length - (n - (c :: t).length) = (c :: t).length - q.length by omega]
          · dsimp only; split <;> decide
          · dsimp only; split <;> decide
theorem Sk_head (l : Bytes) : (Sk l).head? ≠ some 32 ∧ (Sk l).head? ≠ some 9 := by
  have key : ∀ (n : Nat) (l : Bytes), l.length ≤ n → (Sk l).head? ≠ some 32 ∧ (Sk l).head? ≠ some 9 := by
    intro n
    induction n with
    | zero =>
      intro l hl
      have : l = [] := List.eq_nil_of_length_eq_zero (by omega)
      subst this
      rw [Sk_nil]; exact ⟨by simp, by simp⟩
    | succ n ih =>
      intro l hl
      cases l with
      | nil => rw [Sk_nil]; exact ⟨by simp, by simp⟩
      | cons c t =>
        rw [Sk_cons]
        simp only [List.length_cons] at hl
        split
        · exact ih t (by omega)
        · next h1 =>
          split
          · exact ih t.tail (by rw [List.length_tail]; omega)
          · split
            · rcases drop_ixb t with ⟨h, _⟩ | ⟨m, _, _, h, h2⟩
              · rw [h]; exact ⟨by simp, by simp⟩
              · rw [h, h2]; exact ⟨by decide, by decide⟩
            · refine ⟨fun h => h1 (.inl (Option.some.inj h)), fun h => h1 (.inr (Option.some.inj h))⟩
  exact key l.length l (Nat.le_refl _)
theorem nextA_prog (s : ByteArray) (k : Nat) (h : (nextA s (k : Int)).2 = 0) (hk : (nextA s (k : Int)).1.kind ≠ 0) :
    s.size ≤ 4096 ∧ k ≤ s.size ∧ ∃ a m : Nat, (nextA s (k : Int)).1.at_ = (a : Int) ∧ (nextA s (k : Int)).1.stop = (m : Int) ∧ k ≤ a ∧ a < m ∧ m ≤ s.size ∧ (bs s).drop a = Sk ((bs s).drop k) ∧ (nextA s (k : Int)).1.text = s.extract a m ∧ (nextA s (k : Int)).1.kind ≤ 4 ∧ 1 ≤ (nextA s (k : Int)).1.kind := by
  unfold nextA at h hk ⊢
  by_cases hm : mayE s.size (k : Int) ≠ 0
  · rw [if_pos hm] at hk; exact absurd rfl hk
  · rw [if_neg hm, nextL_eq, show ((k : Int)).toNat = k from rfl] at h hk ⊢
    obtain ⟨h1, h2, h3⟩ := mayE_ok (show mayE s.size (k : Int) = 0 by omega)
    obtain ⟨R, hR⟩ : ∃ R, R = Sk ((bs s).drop k) := ⟨_, rfl⟩
    have hsp := Sk_head ((bs s).drop k)
    rw [← hR] at h hk hsp ⊢
    obtain ⟨p, hp, hps, hRp⟩ := p_of s k hR
    have hkR : R.length ≤ s.size - k := by
      have := (Sk_suf ((bs s).drop k)).length_le
      rw [← hR, List.length_drop, bs_length] at this; exact this
    obtain ⟨m, e1, e2, e3, e4, e5, e6, e7⟩ := nextR_prog s.size R (by omega) hsp h hk
    have hpp : s.size - R.length = p := by omega
    rw [hpp] at e2 e4 e5
    refine ⟨by omega, by omega, p, m, e4, e1, by omega, e2, e3, by rw [← hRp], ?_, e6, e7⟩
    rw [e5]
    refine bs_ext ?_
    rw [bs_mk, bs_extract, ← hRp]
/-- A loop's place among all things. -/
def AllAt (s : ByteArray) (xs : List Tok) (fin : Int × Int) (g : Nat) (pre : List Tok) (k : Nat) : Prop :=
  k ≤ s.size ∧ s.size - k + 1 ≤ g ∧ xs = pre ++ (allA s g (k : Int)).1 ∧ fin = (allA s g (k : Int)).2
theorem allAt_start (s : ByteArray) : AllAt s (allP s).1 (allP s).2 (s.size + 1) [] 0 := ⟨Nat.zero_le _, Nat.le_refl _, rfl, rfl⟩
theorem AllAt.bad {s : ByteArray} {xs : List Tok} {fin : Int × Int} {g k : Nat} {pre : List Tok} (h : AllAt s xs fin g pre k) (he : (nextA s (k : Int)).2 ≠ 0) : xs = pre ∧ fin = ((nextA s (k : Int)).1.at_, (nextA s (k : Int)).2) := by
  obtain ⟨h1, h2, h3, h4⟩ := h
  obtain ⟨g, rfl⟩ : ∃ f, g = f + 1 := ⟨g - 1, by omega⟩
  rw [allA_bad he] at h3 h4
  exact ⟨by rw [h3, List.append_nil], h4⟩
theorem AllAt.stop {s : ByteArray} {xs : List Tok} {fin : Int × Int} {g k : Nat} {pre : List Tok} (h : AllAt s xs fin g pre k) (he : (nextA s (k : Int)).2 = 0) (hk : (nextA s (k : Int)).1.kind = 0) : xs = pre ∧ fin = (0, 0) := by
  obtain ⟨h1, h2, h3, h4⟩ := h
  obtain ⟨g, rfl⟩ : ∃ f, g = f + 1 := ⟨g - 1, by omega⟩
  rw [allA_end he hk] at h3 h4
  exact ⟨by rw [h3, List.append_nil], h4⟩
theorem AllAt.next {s : ByteArray} {xs : List Tok} {fin : Int × Int} {g k : Nat} {pre : List Tok} (h : AllAt s xs fin g pre k) (he : (nextA s (k : Int)).2 = 0) (hk : (nextA s (k : Int)).1.kind ≠ 0) :
    0 < g ∧ ∃ (m : Nat) (post : List Tok), (nextA s (k : Int)).1.stop = (m : Int) ∧ xs = pre ++ (nextA s (k : Int)).1 :: post ∧ AllAt s xs fin (g - 1) (pre ++ [(nextA s (k : Int)).1]) m ∧ k < m := by
  obtain ⟨_, _, a, m, e1, e2, e3, e4, e5, _⟩ := nextA_prog s k he hk
  obtain ⟨h1, h2, h3, h4⟩ := h
  obtain ⟨g, rfl⟩ : ∃ f, g = f + 1 := ⟨g - 1, by omega⟩
  rw [allA_cons he hk, e2] at h3 h4
  refine ⟨by omega, m, _, e2, h3, ⟨by omega, by omega, ?_, h4⟩, by omega⟩
  rw [h3, List.append_assoc]; rfl
end Go.Proofs.YtlhkochpokhncaaDoor.Lexer
