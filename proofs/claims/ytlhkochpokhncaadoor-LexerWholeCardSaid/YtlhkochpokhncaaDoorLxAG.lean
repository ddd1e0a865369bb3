/- Plain: a thing's own bytes are one thing; what stands between things. -/
import Derived.Test.YtlhkochpokhncaaDoorLxAF
namespace Go.Proofs.YtlhkochpokhncaaDoor.Lexer
open Go.RowKit Go.Proofs.YtlhkochpokhncaaDoor Go.Proofs.YtlhkochpokhncaaDoor.Hp
set_option linter.unusedVariables false

theorem stp_pre {a c : UInt8} {p q r' : Bytes} {fs : List UInt8} (h : stp a (c :: (p ++ q)) = some (fs, r')) (hq : q.length ≤ r'.length) : ∃ r'', r' = r'' ++ q ∧ stp a (c :: p) = some (fs, r'') := by
  rw [stp_cons] at h
  rw [stp_cons]
  have short : ∀ {x : Bytes}, x = (p ++ q).tail → q.length ≤ x.length → p ++ q ≠ [] → ∃ d p', p = d :: p' ∧ x = p' ++ q := by
    intro x hx hl hne
    cases p with
    | nil =>
      cases q with
      | nil => exact absurd rfl hne
      | cons d q => rw [hx] at hl; simp at hl; omega
    | cons d p => exact ⟨d, p, rfl, hx⟩
  by_cases h1 : a = 39
  · rw [if_pos h1] at h ⊢
    obtain ⟨e1, e2⟩ := Prod.mk.inj (Option.some.inj h)
    exact ⟨p, e2.symm, by rw [e1]⟩
  · rw [if_neg h1] at h ⊢
    by_cases h2 : c = 92
    · rw [if_pos h2] at h ⊢
      cases hpq : p ++ q with
      | nil => rw [hpq] at h; cases h
      | cons d l =>
        rw [hpq] at h
        obtain ⟨e1, e2⟩ := Prod.mk.inj (Option.some.inj h)
        obtain ⟨d', p', rfl, hx⟩ := short (x := r') (by rw [hpq, ← e2]; rfl) hq (by rw [hpq]; simp)
        exact ⟨p', hx, by rw [e1]⟩
    · rw [if_neg h2] at h ⊢
      by_cases h3 : a = 96 ∨ (a = 34 ∧ c = 34)
      · rw [if_pos h3] at h ⊢
        obtain ⟨e1, e2⟩ := Prod.mk.inj (Option.some.inj h)
        exact ⟨p, e2.symm, by rw [e1]⟩
      · rw [if_neg h3] at h ⊢
        by_cases h4 : c = 36 ∧ ((p ++ q).head? = some 40 ∨ (p ++ q).head? = some 123)
        · rw [if_pos h4] at h
          obtain ⟨e1, e2⟩ := Prod.mk.inj (Option.some.inj h)
          have hne : p ++ q ≠ [] := by intro e; rw [e] at h4; rcases h4.2 with h | h <;> cases h
          obtain ⟨d, p', rfl, hx⟩ := short e2.symm hq hne
          rw [if_pos (show c = 36 ∧ ((d :: p').head? = some 40 ∨ (d :: p').head? = some 123) from h4)]
          exact ⟨p', hx, by rw [← e1]; rfl⟩
        · rw [if_neg h4] at h
          have h4' : ¬ (c = 36 ∧ (p.head? = some 40 ∨ p.head? = some 123)) := by
            cases p with
            | nil => rintro ⟨_, h | h⟩ <;> cases h
            | cons d p => exact h4
          rw [if_neg h4']
          by_cases h5 : c = 96 ∨ (a ≠ 34 ∧ (c = 39 ∨ c = 34)) ∨ (a = 40 ∧ c = 40)
          · rw [if_pos h5] at h ⊢
            obtain ⟨e1, e2⟩ := Prod.mk.inj (Option.some.inj h)
            exact ⟨p, e2.symm, by rw [e1]⟩
          · rw [if_neg h5] at h ⊢
            obtain ⟨e1, e2⟩ := Prod.mk.inj (Option.some.inj h)
            exact ⟨p, e2.symm, by rw [e1]⟩
theorem M_pre (q : Bytes) (st : List UInt8) (p r : Bytes) (h : M st (p ++ q) = some (r ++ q)) : M st p = some r := by
  have key : ∀ (n : Nat) (st : List UInt8) (p r : Bytes), p.length ≤ n → M st (p ++ q) = some (r ++ q) → M st p = some r := by
    intro n
    induction n with
    | zero =>
      intro st p r hl h
      have : p = [] := List.eq_nil_of_length_eq_zero (by omega)
      subst this
      cases st with
      | nil => rw [M_nil] at h ⊢; rw [List.append_cancel_right (Option.some.inj h)]
      | cons a st =>
        have := (M_len h).2 (by simp)
        simp at this; omega
    | succ n ih =>
      intro st p r hl h
      cases st with
      | nil => rw [M_nil] at h ⊢; rw [List.append_cancel_right (Option.some.inj h)]
      | cons a st =>
        cases p with
        | nil =>
          have := (M_len h).2 (by simp)
          simp at this; omega
        | cons c p =>
          rw [List.cons_append] at h
          match hs : stp a (c :: (p ++ q)) with
          | none => rw [M_none _ _ hs] at h; cases h
          | some (fs, r') =>
            rw [M_some _ _ hs] at h
            have hl2 := (M_len h).1
            rw [List.length_append] at hl2
            obtain ⟨r'', e1, e2⟩ := stp_pre hs (by omega)
            rw [M_some _ _ e2]
            rw [e1] at h
            have := stp_len e2
            exact ih _ _ _ (by omega) h
  exact key p.length st p r (Nat.le_refl _) h
theorem hol_pre1 {c : UInt8} {p q : Bytes} (h : hol (c :: (p ++ q)) = false) : hol (c :: p) = false := by
  cases p with
  | nil =>
    unfold hol at h ⊢
    rw [Bool.or_eq_false_iff] at h
    show (c == 96 || (c == 36 && ((none : Option UInt8) == some 40 || (none : Option UInt8) == some 123))) = false
    rw [h.1]; simp
  | cons d p => exact h
theorem wh_pre {c : UInt8} {p q r : Bytes} (h : wh (c :: (p ++ q)) = some (some (r ++ q))) : wh (c :: p) = some (some r) := by
  rw [wh_cons] at h ⊢
  by_cases h1 : c = 92
  · rw [if_pos h1] at h ⊢
    cases p with
    | nil =>
      cases q with
      | nil => cases h
      | cons d q =>
        have := congrArg List.length (Option.some.inj (Option.some.inj h))
        simp at this; omega
    | cons d p =>
      have := Option.some.inj (Option.some.inj h)
      rw [List.append_cancel_right this]
  · rw [if_neg h1] at h ⊢
    by_cases h2 : c = 39
    · rw [if_pos h2] at h ⊢; rw [M_pre q _ _ _ (Option.some.inj h)]
    · rw [if_neg h2] at h ⊢
      by_cases h3 : c = 34
      · rw [if_pos h3] at h ⊢; rw [M_pre q _ _ _ (Option.some.inj h)]
      · rw [if_neg h3] at h ⊢
        by_cases h4 : hol (c :: (p ++ q)) = true
        · rw [if_pos h4, holeL_cons] at h
          have h := Option.some.inj h
          by_cases h5 : c = 96
          · rw [if_pos h5] at h
            rw [if_pos (by unfold hol; rw [h5]; rfl), holeL_cons, if_pos h5, M_pre q _ _ _ h]
          · rw [if_neg h5] at h
            cases p with
            | nil =>
              have hl := (M_len h).2 (by simp)
              cases q with
              | nil => unfold hol at h4; simp [h5] at h4
              | cons d q => simp at hl; omega
            | cons d p =>
              rw [if_pos (show hol (c :: d :: p) = true from h4), holeL_cons, if_neg h5]
              have h : M [d] (p ++ q) = some (r ++ q) := h
              rw [show M [(d :: p).headD 0] (d :: p).tail = M [d] p from rfl, M_pre q _ _ _ h]
        · rw [if_neg h4] at h; cases h
theorem wh_pre_none {c : UInt8} {p q : Bytes} (h : wh (c :: (p ++ q)) = none) : wh (c :: p) = none := by
  rw [wh_cons] at h ⊢
  by_cases h1 : c = 92
  · rw [if_pos h1] at h; cases h
  · rw [if_neg h1] at h ⊢
    by_cases h2 : c = 39
    · rw [if_pos h2] at h; cases h
    · rw [if_neg h2] at h ⊢
      by_cases h3 : c = 34
      · rw [if_pos h3] at h; cases h
      · rw [if_neg h3] at h ⊢
        by_cases h4 : hol (c :: (p ++ q)) = true
        · rw [if_pos h4] at h; cases h
        · rw [if_neg (by rw [hol_pre1 (by simpa using h4)]; decide)]
theorem Wd_pre (q : Bytes) (p : Bytes) (h : Wd (p ++ q) = some q) : Wd p = some [] := by
  have key : ∀ (n : Nat) (p : Bytes), p.length ≤ n → Wd (p ++ q) = some q → Wd p = some [] := by
    intro n
    induction n with
    | zero =>
      intro p hl h
      have : p = [] := List.eq_nil_of_length_eq_zero (by omega)
      subst this; exact Wd_nil
    | succ n ih =>
      intro p hl h
      cases p with
      | nil => exact Wd_nil
      | cons c p =>
        simp only [List.length_cons] at hl
        rw [List.cons_append] at h
        have hsb : stops (c :: (p ++ q)) = stops (c :: p) := by rw [stops_byte, stops_byte]
        by_cases hs : stops (c :: p) = true
        · rw [Wd_stop (by rw [hsb]; exact hs)] at h
          have := congrArg List.length (Option.some.inj h)
          simp at this; omega
        · have hs : stops (c :: p) = false := by simpa using hs
          have hs2 : stops (c :: (p ++ q)) = false := by rw [hsb]; exact hs
          match hw : wh (c :: (p ++ q)) with
          | none =>
            rw [Wd_none hs2 hw] at h
            rw [Wd_none hs (wh_pre_none hw)]
            exact ih p (by omega) h
          | some none => rw [Wd_some hs2 hw] at h; cases h
          | some (some r') =>
            rw [Wd_some hs2 hw] at h
            have hsuf := Wd_suf (show Wd r' = some q from h)
            obtain ⟨r'', e⟩ := hsuf
            rw [← e] at hw h
            have h2 := wh_pre hw
            rw [Wd_some hs h2]
            have := wh_len h2
            simp only [List.length_cons] at this
            exact ih r'' (by omega) h
  exact key p.length p (Nat.le_refl _) h
theorem Sk_idem (l : Bytes) : Sk (Sk l) = Sk l := by
  have key : ∀ (n : Nat) (l : Bytes), l.length ≤ n → Sk (Sk l) = Sk l := by
    intro n
    induction n with
    | zero =>
      intro l hl
      have : l = [] := List.eq_nil_of_length_eq_zero (by omega)
      subst this; rw [Sk_nil, Sk_nil]
    | succ n ih =>
      intro l hl
      cases l with
      | nil => rw [Sk_nil, Sk_nil]
      | cons c t =>
        simp only [List.length_cons] at hl
        rw [Sk_cons]
        by_cases h1 : c = 32 ∨ c = 9
        · rw [if_pos h1]; exact ih t (by omega)
        · rw [if_neg h1]
          by_cases h2 : c = 92 ∧ t.head? = some 10
          · rw [if_pos h2]; exact ih t.tail (by rw [List.length_tail]; omega)
          · rw [if_neg h2]
            by_cases h3 : c = 35
            · rw [if_pos h3]
              rcases drop_ixb t with ⟨h, _⟩ | ⟨m, _, _, h, h4⟩
              · rw [h, Sk_nil]
              · rw [h]
                cases hd : t.drop m with
                | nil => exact Sk_nil
                | cons x y =>
                  rw [hd] at h4
                  rw [Option.some.inj h4]; exact Sk_lf y
            · rw [if_neg h3, Sk_cons, if_neg h1, if_neg h2, if_neg h3]
  exact key l.length l (Nat.le_refl _)
theorem Sk_fix {c : UInt8} {l : Bytes} (h : Sk (c :: l) = c :: l) : ¬ (c = 32 ∨ c = 9) ∧ ¬ (c = 92 ∧ l.head? = some 10) ∧ c ≠ 35 := by
  have hlen : (Sk (c :: l)).length = l.length + 1 := by rw [h]; rfl
  rw [Sk_cons] at hlen
  refine ⟨fun h1 => ?_, fun h2 => ?_, fun h3 => ?_⟩
  · rw [if_pos h1] at hlen
    have := (Sk_suf l).length_le; omega
  · rw [if_neg (by rw [h2.1]; decide), if_pos h2] at hlen
    have h5 := (Sk_suf l.tail).length_le
    rw [List.length_tail] at h5; omega
  · rw [if_neg (by rw [h3]; decide), if_neg (by rw [h3]; intro h; exact absurd h.1 (by decide)), if_pos h3] at hlen
    have h5 := (List.dropWhile_suffix (fun x => x != 10) (l := l)).length_le
    omega
theorem Sk_word {c : UInt8} {p q : Bytes} (h : Sk (c :: (p ++ q)) = c :: (p ++ q)) : Sk (c :: p) = c :: p := by
  obtain ⟨h1, h2, h3⟩ := Sk_fix h
  rw [Sk_cons, if_neg h1, if_neg, if_neg h3]
  rintro ⟨e1, e2⟩
  apply h2
  cases p with
  | nil => cases e2
  | cons d p => exact ⟨e1, e2⟩
/-- A text that is one thing. -/
def One (x : ByteArray) : Prop := ∃ k : Int, allP x = ([⟨k, x, 0, (x.size : Int)⟩], (0, 0))
theorem one_word (x : ByteArray) (hs : x.size ≤ 4096) (c : UInt8) (p : Bytes) (hx : bs x = c :: p) (h1 : Sk (c :: p) = c :: p) (h10 : c ≠ 10) (hop : c ∉ opB) (hW : Wd (c :: p) = some []) : One x := by
  have hz : x.size = (c :: p).length := by rw [← bs_length, hx]
  have hm : ∀ k : Nat, k ≤ x.size → mayE x.size (k : Int) = 0 := fun k hk => by unfold mayE; rw [if_neg (by omega), if_neg (by omega)]
  have hn : nextA x ((0 : Nat) : Int) = (⟨4, x, 0, (x.size : Int)⟩, 0) := by
    unfold nextA
    rw [if_neg (by rw [hm 0 (Nat.zero_le _)]; decide), nextL_eq, show (((0 : Nat) : Int)).toNat = 0 from rfl, List.drop_zero, hx, h1, nextR_cons]
    dsimp only
    rw [if_neg h10, if_neg (fun h => hop ((opN_pos c p).1 h)), hW]
    dsimp only
    rw [if_neg (by rintro ⟨_, h | h⟩ <;> cases h)]
    have e1 : (c :: p).take ((c :: p).length - ([] : Bytes).length) = bs x := by rw [hx]; exact List.take_of_length_le (by simp)
    rw [e1, show (⟨(bs x).toArray⟩ : ByteArray) = x from (bs_eq rfl).symm, ← hz]
    simp
  have he : nextA x ((x.size : Nat) : Int) = (⟨0, ⟨#[]⟩, (x.size : Int), (x.size : Int)⟩, 0) := by
    unfold nextA
    rw [if_neg (by rw [hm x.size (Nat.le_refl _)]; decide), nextL_eq, show (((x.size : Nat) : Int)).toNat = x.size from rfl, drop_end x x.size (Nat.le_refl _), Sk_nil]
    rfl
  refine ⟨4, ?_⟩
  obtain ⟨g, hg⟩ : ∃ g, x.size = g + 1 := ⟨x.size - 1, by rw [hz]; simp⟩
  unfold allP
  have e0 : allA x (x.size + 1) ((0 : Nat) : Int) = ((nextA x ((0 : Nat) : Int)).1 :: (allA x x.size (nextA x ((0 : Nat) : Int)).1.stop).1, (allA x x.size (nextA x ((0 : Nat) : Int)).1.stop).2) := allA_cons (by rw [hn]) (by rw [hn]; show (4 : Int) ≠ 0; decide)
  show allA x (x.size + 1) ((0 : Nat) : Int) = _
  rw [e0, hn]
  dsimp only
  have e1 : allA x x.size ((x.size : Nat) : Int) = ([], (0, 0)) := by
    conv => lhs; arg 2; rw [hg]
    exact allA_end (by rw [he]) (by rw [he])
  rw [e1]
theorem one_ops : ∀ o ∈ opsL, One ⟨o.toArray⟩ := by
  intro o ho
  simp only [opsL, List.mem_cons, List.not_mem_nil, or_false] at ho
  rcases ho with rfl | rfl | rfl | rfl | rfl | rfl | rfl | rfl | rfl | rfl | rfl | rfl | rfl | rfl | rfl | rfl | rfl <;> exact ⟨2, by kernel_rfl⟩
theorem one_lf : One ⟨#[10]⟩ := ⟨1, by kernel_rfl⟩
theorem op_mem (l : Bytes) (h : 0 < opN l) : l.take (opN l) ∈ opsL := by
  rw [← opP_eq] at h ⊢
  unfold opP at h ⊢
  split
  · next h1 => exact h1.2
  · split
    · next h1 => exact h1.2
    · split
      · next h1 => exact h1.2
      · next h3 h2 h1 => rw [if_neg h3, if_neg h2, if_neg h1] at h; omega
/-- Each thing's own bytes are one thing. -/
theorem nextA_one (s : ByteArray) (k : Nat) (h : (nextA s (k : Int)).2 = 0) (hk : (nextA s (k : Int)).1.kind ≠ 0) : One (nextA s (k : Int)).1.text := by
  obtain ⟨h4, hks, _⟩ := nextA_prog s k h hk
  have hm : mayE s.size (k : Int) = 0 := by unfold mayE; rw [if_neg (by omega), if_neg (by omega)]
  unfold nextA at h hk ⊢
  rw [if_neg (by rw [hm]; decide), nextL_eq, show ((k : Int)).toNat = k from rfl] at h hk ⊢
  have hid := Sk_idem ((bs s).drop k)
  have hle := (Sk_suf ((bs s).drop k)).length_le
  rw [List.length_drop, bs_length] at hle
  obtain ⟨R, hR⟩ : ∃ R, R = Sk ((bs s).drop k) := ⟨_, rfl⟩
  rw [← hR] at h hk hid hle ⊢
  cases R with
  | nil => exact absurd rfl hk
  | cons c l =>
    rw [nextR_cons] at h hk ⊢
    dsimp only at h hk ⊢
    by_cases c10 : c = 10
    · rw [if_pos c10]; exact one_lf
    · rw [if_neg c10] at h hk ⊢
      by_cases hop : 0 < opN (c :: l)
      · rw [if_pos hop]; exact one_ops _ (op_mem _ hop)
      · rw [if_neg hop] at h hk ⊢
        cases hW : Wd (c :: l) with
        | none => rw [hW] at h; exact absurd (show (30 : Int) = 0 from h) (by decide)
        | some q =>
          dsimp only
          obtain ⟨p, hp⟩ := Wd_suf hW
          have hcB : c ∉ opB := fun hin => hop ((opN_pos c l).2 hin)
          obtain ⟨hb1, _, _⟩ := Sk_fix hid
          have hst : stops (c :: l) = false := by
            rw [stops_byte, Bool.or_eq_false_iff]
            refine ⟨?_, decide_eq_false hcB⟩
            unfold blankB
            have h1 : c ≠ 32 := fun e => hb1 (.inl e)
            have h2 : c ≠ 9 := fun e => hb1 (.inr e)
            simp [h1, h2, c10]
          have hlt := Wd_lt (by simp) hst hW
          cases p with
          | nil => rw [List.nil_append] at hp; rw [hp] at hlt; omega
          | cons d p =>
            rw [List.cons_append] at hp
            obtain ⟨rfl, hp2⟩ := List.cons.inj hp
            have htk : (d :: l).take ((d :: l).length - q.length) = d :: p := by
              rw [← hp2, ← List.cons_append, List.length_append, Nat.add_sub_cancel, List.take_left']; rfl
            rw [htk]
            have hW2 : Wd (d :: p) = some [] := Wd_pre q (d :: p) (by rw [List.cons_append, hp2]; exact hW)
            refine one_word _ ?_ d p (bs_mk _) (Sk_word (q := q) (by rw [hp2]; exact hid)) c10 hcB hW2
            rw [← bs_length, bs_mk]
            have : (d :: p).length ≤ (d :: l).length := by rw [← hp2]; simp
            omega
/-- Bytes in which no thing begins. -/
def nothL : Bytes → Bool
  | [] => true
  | c :: t => if c = 92 ∧ t.head? = some 10 then nothL t.tail else if c = 35 then t.dropWhile (fun x => x != 10) == [] else if c = 32 ∨ c = 9 then nothL t else false
termination_by l => l.length
decreasing_by
  · simp; omega
  · simp
theorem nothL_nil : nothL [] = true := by rw [nothL]
theorem nothL_cons (c : UInt8) (t : Bytes) : nothL (c :: t) = if c = 92 ∧ t.head? = some 10 then nothL t.tail else if c = 35 then t.dropWhile (fun x => x != 10) == [] else if c = 32 ∨ c = 9 then nothL t else false := by rw [nothL]
theorem noth_pre (p r : Bytes) (h : Sk (p ++ r) = r) (hr : Sk r = r) : nothL p = true := by
  have key : ∀ (n : Nat) (p : Bytes), p.length ≤ n → Sk (p ++ r) = r → nothL p = true := by
    intro n
    induction n with
    | zero =>
      intro p hl h
      have : p = [] := List.eq_nil_of_length_eq_zero (by omega)
      subst this; exact nothL_nil
    | succ n ih =>
      intro p hl h
      cases p with
      | nil => exact nothL_nil
      | cons c p =>
        simp only [List.length_cons] at hl
        rw [List.cons_append, Sk_cons] at h
        rw [nothL_cons]
        by_cases h1 : c = 32 ∨ c = 9
        · rw [if_pos h1] at h
          rw [if_neg (by rintro ⟨e, _⟩; rw [e] at h1; rcases h1 with h | h <;> exact absurd h (by decide)), if_neg (by rintro e; rw [e] at h1; rcases h1 with h | h <;> exact absurd h (by decide)), if_pos h1]
          exact ih p (by omega) h
        · rw [if_neg h1] at h
          by_cases h2 : c = 92 ∧ (p ++ r).head? = some 10
          · rw [if_pos h2] at h
            cases p with
            | nil =>
              rw [List.nil_append] at h h2
              cases r with
              | nil => cases h2.2
              | cons d r =>
                have := congrArg List.length h
                have h5 := (Sk_suf (d :: r).tail).length_le
                simp at this h5; omega
            | cons d p =>
              rw [if_pos (show c = 92 ∧ (d :: p).head? = some 10 from h2)]
              exact ih p (by simp only [List.length_cons] at hl; omega) h
          · rw [if_neg h2] at h
            have h2' : ¬ (c = 92 ∧ p.head? = some 10) := by
              rintro ⟨e1, e2⟩
              apply h2
              cases p with
              | nil => cases e2
              | cons d p => exact ⟨e1, e2⟩
            rw [if_neg h2']
            by_cases h3 : c = 35
            · rw [if_pos h3] at h ⊢
              rw [List.dropWhile_append] at h
              cases hd : p.dropWhile (fun x => x != 10) with
              | nil => rfl
              | cons a b =>
                rw [hd] at h
                have h := congrArg List.length h
                simp at h; omega
            · rw [if_neg h3] at h
              have := congrArg List.length h
              simp at this; omega
  exact key p.length p (Nat.le_refl _) h
/-- What stands between two things is nothing. -/
theorem noth_gap (s : ByteArray) (k a : Nat) (hk : k ≤ a) (ha : a ≤ s.size) (h : (bs s).drop a = Sk ((bs s).drop k)) : nothL (bs (s.extract k a)) = true := by
  rw [bs_extract]
  have e : ((bs s).drop k).take (a - k) ++ (bs s).drop a = (bs s).drop k := by
    rw [show (bs s).drop a = ((bs s).drop k).drop (a - k) by rw [List.drop_drop]; congr 1; omega]
    exact List.take_append_drop _ _
  refine noth_pre _ ((bs s).drop a) (by rw [e]; exact h.symm) ?_
  rw [h]; exact Sk_idem _
theorem nextA_zero (s : ByteArray) (k : Nat) (hk : k ≤ s.size) (hs : s.size ≤ 4096) (h : (nextA s (k : Int)).2 = 0) (hkd : (nextA s (k : Int)).1.kind = 0) : Sk ((bs s).drop k) = [] := by
  have hm : mayE s.size (k : Int) = 0 := by unfold mayE; rw [if_neg (by omega), if_neg (by omega)]
  unfold nextA at h hkd
  rw [if_neg (by rw [hm]; decide), nextL_eq, show ((k : Int)).toNat = k from rfl] at h hkd
  cases hR : Sk ((bs s).drop k) with
  | nil => rfl
  | cons c l =>
    exfalso
    rw [hR, nextR_cons] at h hkd
    dsimp only at h hkd
    by_cases c10 : c = 10
    · rw [if_pos c10] at hkd; exact absurd (show (1 : Int) = 0 from hkd) (by decide)
    · rw [if_neg c10] at h hkd
      by_cases hop : 0 < opN (c :: l)
      · rw [if_pos hop] at hkd; exact absurd (show (2 : Int) = 0 from hkd) (by decide)
      · rw [if_neg hop] at h hkd
        cases hW : Wd (c :: l) with
        | none => rw [hW] at h; exact absurd (show (30 : Int) = 0 from h) (by decide)
        | some q =>
          rw [hW] at hkd
          dsimp only at hkd
          split at hkd <;> exact absurd hkd (by decide)
theorem nextA_open (s : ByteArray) (k : Nat) (hk : k ≤ s.size) (hs : s.size ≤ 4096) (h : (nextA s (k : Int)).2 ≠ 0) : (nextA s (k : Int)).2 = 30 ∧ ∃ a : Nat, (nextA s (k : Int)).1.at_ = (a : Int) ∧ k ≤ a ∧ a < s.size ∧ (bs s).drop a = Sk ((bs s).drop k) := by
  refine ⟨(nextA_err s k hk hs).resolve_left h, ?_⟩
  have hm : mayE s.size (k : Int) = 0 := by unfold mayE; rw [if_neg (by omega), if_neg (by omega)]
  unfold nextA at h ⊢
  rw [if_neg (by rw [hm]; decide), nextL_eq, show ((k : Int)).toNat = k from rfl] at h ⊢
  obtain ⟨R, hR⟩ : ∃ R, R = Sk ((bs s).drop k) := ⟨_, rfl⟩
  obtain ⟨p, hp, hps, hRp⟩ := p_of s k hR
  have hle := (Sk_suf ((bs s).drop k)).length_le
  rw [List.length_drop, bs_length, ← hR] at hle
  rw [← hR] at h ⊢
  refine ⟨p, ?_, by omega, ?_, hRp.symm⟩
  · cases R with
    | nil => exact absurd rfl h
    | cons c l =>
      rw [nextR_cons] at h ⊢
      dsimp only at h ⊢
      rw [← hp] at h ⊢
      split
      · rfl
      · split
        · rfl
        · cases Wd (c :: l) <;> rfl
  · cases R with
    | nil => exact absurd rfl h
    | cons c l => simp at hps; omega
end Go.Proofs.YtlhkochpokhncaaDoor.Lexer
