/- Things that lie in memory, one by one. -/
import Derived.Test.YtlhkochpokhncaaDoorLxAB
namespace Go.Proofs.YtlhkochpokhncaaDoor.Lexer
open Go.RowKit Go.Proofs.YtlhkochpokhncaaDoor Go.Proofs.YtlhkochpokhncaaDoor.Hp
set_option linter.unusedVariables false

theorem tks_get (l : List Tok) (i : Nat) (hi : i < l.length) (j : Nat) (hj : j < 4) : (tks l)[i * 4 + j]? = (tkC l[i])[j]? := by
  induction l generalizing i with
  | nil => cases hi
  | cons a l ih =>
    show (tkC a ++ tks l)[_]? = _
    cases i with
    | zero =>
      rw [List.getElem?_append_left (by show 0 * 4 + j < 4; omega), Nat.zero_mul, Nat.zero_add]; rfl
    | succ i =>
      rw [List.getElem?_append_right (by show 4 ≤ _; omega)]
      show (tks l)[(i + 1) * 4 + j - 4]? = _
      rw [show (i + 1) * 4 + j - 4 = i * 4 + j by omega]
      exact ih i (Nat.lt_of_succ_lt_succ hi)
theorem tok_at {w : World} {E : Nat} {p : Option Addr} {cap : Nat} {l : List Tok} {R : Hp} (h : Sat w (arr E 4 p l.length cap (tks l) * R)) (i : Nat) (hi : i < l.length) :
    ∃ b o, p = some ⟨b, o, none⟩ ∧ l.length ≤ cap ∧ b < w.heap.size ∧ w.cell? ⟨b, o + i * 4, none⟩ = some (.int .i64 l[i].kind) ∧ w.cell? ⟨b, o + i * 4 + 1, none⟩ = some (.string l[i].text) ∧ w.cell? ⟨b, o + i * 4 + 2, none⟩ = some (.int .i64 l[i].at_) ∧ w.cell? ⟨b, o + i * 4 + 3, none⟩ = some (.int .i64 l[i].stop) := by
  have h2 := h.arr_len.2.1
  obtain ⟨b, o, rfl⟩ := h.arr_addr (by omega)
  have hb : b < w.heap.size := by
    obtain ⟨cur, h1, _, _, _, _, _, hh⟩ := h.arr_some
    exact (Array.getElem?_eq_some_iff.1 hh.get).1
  have hc : ∀ j, (hj : j < 4) → w.cell? ⟨b, o + i * 4 + j, none⟩ = (tkC l[i])[j]? := by
    intro j hj
    have hl : i * 4 + j < (tks l).length := by rw [tks_len]; omega
    rw [← tks_get l i hi j hj, Nat.add_assoc, h.arr_cell _ hl, List.getElem?_eq_getElem hl]
  exact ⟨b, o, rfl, h2, hb, hc 0 (by decide), hc 1 (by decide), hc 2 (by decide), hc 3 (by decide)⟩
end Go.Proofs.YtlhkochpokhncaaDoor.Lexer
