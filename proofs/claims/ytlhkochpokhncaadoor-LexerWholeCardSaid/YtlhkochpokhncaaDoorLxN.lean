/- The document's stack: what stands for it; an append of a byte. -/
import Derived.Test.YtlhkochpokhncaaDoorLxM
namespace Go.Proofs.YtlhkochpokhncaaDoor.Lexer
open Go.RowKit Go.Proofs.YtlhkochpokhncaaDoor Go.Proofs.YtlhkochpokhncaaDoor.Hp
set_option linter.unusedVariables false
attribute [local go_sem] Oper.semAt_some

abbrev u8V (c : UInt8) : Value := .int .u8 ((c.toNat : Nat) : Int)
def frames : List UInt8 := [34, 39, 40, 96, 123]
def DSt (wd : Bool) (st : List UInt8) (T : Option Bytes) (l : Bytes) : Prop :=
  (wd = false → (∀ x ∈ st, x ∈ frames) ∧ T = M st l) ∧ (wd = true → ∃ fr, st = fr ++ [119] ∧ (∀ x ∈ fr, x ∈ frames) ∧ T = (M fr l).bind Wd)
theorem not119 {a : UInt8} (h : a ∈ frames) : a ≠ 119 := by
  rintro rfl; revert h; decide
theorem dst_step {wd : Bool} {a : UInt8} {rest fs : List UInt8} {T : Option Bytes} {l r : Bytes} (h : DSt wd (a :: rest) T l) (ha : a ≠ 119) (hs : stp a l = some (fs, r)) (hf : ∀ x ∈ fs, x ∈ frames) : DSt wd (fs ++ rest) T r := by
  refine ⟨fun e => ?_, fun e => ?_⟩
  · obtain ⟨h1, h2⟩ := h.1 e
    refine ⟨fun x hx => ?_, by rw [h2, M_some _ _ hs]⟩
    rcases List.mem_append.1 hx with hx | hx
    · exact hf x hx
    · exact h1 x (List.mem_cons_of_mem _ hx)
  · obtain ⟨fr, h1, h2, h3⟩ := h.2 e
    cases fr with
    | nil => exact absurd (List.cons.inj h1).1 ha
    | cons b fr =>
      obtain ⟨rfl, rfl⟩ := List.cons.inj h1
      refine ⟨fs ++ fr, by rw [List.append_assoc]; rfl, fun x hx => ?_, by rw [h3, M_some _ _ hs]⟩
      rcases List.mem_append.1 hx with hx | hx
      · exact hf x hx
      · exact h2 x (List.mem_cons_of_mem _ hx)
theorem dst_none {wd : Bool} {a : UInt8} {rest : List UInt8} {T : Option Bytes} {l : Bytes} (h : DSt wd (a :: rest) T l) (ha : a ≠ 119) (hs : stp a l = none) : T = none := by
  cases wd with
  | false => rw [(h.1 rfl).2, M_none _ _ hs]
  | true =>
    obtain ⟨fr, h1, h2, h3⟩ := h.2 rfl
    cases fr with
    | nil => exact absurd (List.cons.inj h1).1 ha
    | cons b fr =>
      obtain ⟨rfl, rfl⟩ := List.cons.inj h1
      rw [h3, M_none _ _ hs]; rfl
theorem dst_word {wd : Bool} {rest : List UInt8} {T : Option Bytes} {l : Bytes} (h : DSt wd (119 :: rest) T l) : wd = true ∧ rest = [] ∧ T = Wd l := by
  cases wd with
  | false => exact absurd rfl (not119 ((h.1 rfl).1 119 (List.mem_cons_self ..)))
  | true =>
    obtain ⟨fr, h1, h2, h3⟩ := h.2 rfl
    cases fr with
    | nil => exact ⟨rfl, (List.cons.inj h1).2, by rw [h3, M_nil]; rfl⟩
    | cons b fr =>
      obtain ⟨rfl, _⟩ := List.cons.inj h1
      exact absurd rfl (not119 (h2 119 (List.mem_cons_self ..)))
theorem dst_wstep {T : Option Bytes} {c : UInt8} {l r : Bytes} {f : List UInt8} (hT : T = Wd (c :: l)) (hs : stops (c :: l) = false) (h : stp 119 (c :: l) = some (f ++ [119], r)) (hf : ∀ x ∈ f, x ∈ frames) : DSt true (f ++ [119]) T r :=
  ⟨fun e => (by cases e), fun _ => ⟨f, rfl, hf, by rw [hT, Wd_stp hs, h]; simp⟩⟩
theorem dst_wnone {T : Option Bytes} {c : UInt8} {l : Bytes} (hT : T = Wd (c :: l)) (hs : stops (c :: l) = false) (h : stp 119 (c :: l) = none) : T = none := by rw [hT, Wd_stp hs, h]; rfl
theorem dst_empty {wd : Bool} {T : Option Bytes} {l : Bytes} (h : DSt wd [] T l) : T = some l := by
  cases wd with
  | false => rw [(h.1 rfl).2, M_nil]
  | true => obtain ⟨fr, h1, _⟩ := h.2 rfl; cases fr <;> cases h1
theorem dst_end {wd : Bool} {a : UInt8} {rest : List UInt8} {T : Option Bytes} (h : DSt wd (a :: rest) T []) : (a = 119 ∧ rest = [] ∧ T = some []) ∨ ((a ≠ 119 ∨ rest ≠ []) ∧ T = none) := by
  by_cases ha : a = 119
  · subst ha
    obtain ⟨rfl, rfl, h3⟩ := dst_word h
    exact .inl ⟨rfl, rfl, by rw [h3, Wd_nil]⟩
  · exact .inr ⟨.inl ha, dst_none h ha rfl⟩
theorem dst_mem {wd : Bool} {a : UInt8} {rest : List UInt8} {T : Option Bytes} {l : Bytes} (h : DSt wd (a :: rest) T l) : a = 119 ∨ a = 39 ∨ a = 34 ∨ a = 40 ∨ a = 96 ∨ a = 123 := by
  by_cases ha : a = 119
  · exact .inl ha
  · right
    have : a ∈ frames := by
      cases wd with
      | false => exact (h.1 rfl).1 a (List.mem_cons_self ..)
      | true =>
        obtain ⟨fr, h1, h2, h3⟩ := h.2 rfl
        cases fr with
        | nil => exact absurd (List.cons.inj h1).1 ha
        | cons b fr => rw [(List.cons.inj h1).1]; exact h2 b (List.mem_cons_self ..)
    unfold frames at this
    simp only [List.mem_cons, List.not_mem_nil, or_false] at this
    rcases this with h | h | h | h | h <;> simp [h]
abbrev stk (p : Option Addr) (cap : Nat) (st : List UInt8) : Hp := arr 5 1 p st.length cap (st.reverse.map u8V)
theorem infoU8 : (Tryd.prog.info? 5).map (fun i => (i.zero, i.size, i.bytes)) = some (some (.int .u8 0), 1, 1) := by kernel_rfl
theorem appU8 {w : World} {H : Hp} {ops : Array Oper} {rest : List Oper} {o : Oper} {a : Act} {Q : Exit → Act → World → Prop} (hgd : o.guard = none) (s x : Operand)
    (ho : o.op = .call { callee := .builtin .append, args := #[s, x], argTypes := #[56, 56] })
    (p : Option Addr) (n cap : Nat) (xs : List Value) (hp : a.eval s = .slice p n cap) (b : Nat) (hvx : a.eval x = .slice (some ⟨b, 0, none⟩) 1 1) (h : Sat w (arr 5 1 p n cap xs * H)) (v : Value) (hb : w.heap[b]? = some (.cells #[v] 5 (0, 0))) (h0 : v.oneCell' = true) (hn : n ≤ 1000000000)
    (hk : ∀ p' cap' w', Sat w' (arr 5 1 p' (n + 1) cap' (xs ++ [v]) * H) → Ran w w' → wpList Tryd.prog ops Q rest (a.put o.dst (.slice p' (n + 1) cap')) w') : wpList Tryd.prog ops Q (o :: rest) a w := by
  obtain ⟨i0, hi, hz0, hz1, hz2⟩ := info_parts infoU8
  refine wpList_append_arr hgd s x _ _ ho 5 i0 _ 1 1 Tryd.underlying56 hi hz0 hz1 hz2 rfl p n cap xs hp h _ hvx 1 [v] (Src.ofSlice w Tryd.underlying56 ⟨b, 0, none⟩ 1 1 [v] (by rw [hz1]; rfl) ?_ (by simp [h0])) (by omega) (by unfold maxLen; omega) (fun p' cap' w' h1 h2 _ => hk p' cap' w' h1 h2)
  intro j u hj
  rw [Addr.add_lit, Nat.zero_add, cell_at hb, ← hj]
  simp
def ScRel (s : ByteArray) (wd : Bool) (T : Option Bytes) (w : World) (g : Nat) (iv wv : Value) (wr : World) : Prop :=
  ∃ (k : Nat) (st : List UInt8) (p : Option Addr) (cap : Nat), iv = .int .i64 (k : Int) ∧ wv = .slice p st.length cap ∧ k ≤ s.size ∧ st ≠ [] ∧ st.length ≤ k + 1 ∧ Sat wr (stk p cap st * keep w) ∧ Ran w wr ∧ DSt wd st T ((bs s).drop k) ∧ s.size - k + 1 ≤ g
theorem stk_top {w : World} {b o cap : Nat} {a : UInt8} {rest : List UInt8} {R : Hp} (h : Sat w (stk (some ⟨b, o, none⟩) cap (a :: rest) * R)) : w.cell? ⟨b, o + rest.length, none⟩ = some (u8V a) := by
  have hl : rest.length < ((a :: rest).reverse.map u8V).length := by simp
  rw [h.arr_cell rest.length hl]
  congr 1
  simp
theorem stk_pop {w : World} {p : Option Addr} {cap : Nat} {a : UInt8} {rest : List UInt8} {R : Hp} (h : Sat w (stk p cap (a :: rest) * R)) : Sat w (stk p cap rest * R) := by
  have := h.arr_take rest.length (by simp)
  rw [Nat.mul_one] at this
  have e : ((a :: rest).reverse.map u8V).take rest.length = rest.reverse.map u8V := by
    rw [List.reverse_cons, List.map_append, List.take_append_of_le_length (by simp)]
    exact List.take_of_length_le (by simp)
  rw [e] at this
  exact this
theorem stk_push {w : World} {p : Option Addr} {cap : Nat} {c : UInt8} {st : List UInt8} {R : Hp} (h : Sat w (arr 5 1 p (st.length + 1) cap (st.reverse.map u8V ++ [u8V c]) * R)) : Sat w (stk p cap (c :: st) * R) := by
  have e : (c :: st).reverse.map u8V = st.reverse.map u8V ++ [u8V c] := by rw [List.reverse_cons, List.map_append]; rfl
  show Sat w (arr 5 1 p (c :: st).length cap ((c :: st).reverse.map u8V) * R)
  rw [e]; exact h
theorem stk_addr {w : World} {p : Option Addr} {cap : Nat} {a : UInt8} {rest : List UInt8} {R : Hp} (h : Sat w (stk p cap (a :: rest) * R)) : ∃ b o, p = some ⟨b, o, none⟩ ∧ rest.length + 1 ≤ cap := by
  have h2 := h.arr_len.2.1
  simp only [List.length_cons] at h2
  obtain ⟨b, o, e⟩ := h.arr_addr (by omega)
  exact ⟨b, o, e, h2⟩
theorem pre2' (d : UInt8) (c : UInt8) (t : Bytes) : ([36, d] : Bytes).isPrefixOf (c :: t) = (c == 36 && t.head? == some d) := by
  simp only [List.isPrefixOf]
  rw [bq 36 c]
  cases t with
  | nil => simp
  | cons e t =>
    simp only [List.isPrefixOf, List.head?_cons, Bool.and_true]
    rw [bq d e]; rfl
end Go.Proofs.YtlhkochpokhncaaDoor.Lexer
