/- Undo walked: the notes behind the last mark are done from the last one on. -/
import Derived.Test.YtibgpkcklneloaaUnC
import Derived.Lib.SliceRun
namespace Go.Proofs.Ytibgpkcklneloaa.Undo
open Go.RowKit Go.Proofs.Ytibgpkcklneloaa Go.Proofs.Ytibgpkcklneloaa.Hp
set_option linter.unusedVariables false
attribute [local go_sem] Oper.semAt_some

def tailA (ao : Option Addr) (n cap sz : Nat) : Option Addr := if cap = n then ao else ao.map (·.add (n * sz))
theorem run_slice_from {P : Program} (t e : TypeId) (i : TypeInfo) (sz : Nat) (ht : P.underlying t = some (.slice e)) (hi : P.info? e = some i) (hs : i.size = sz) (ao : Option Addr) (len cap n : Nat) (hn : n ≤ len) (w : World) :
    (Instr.slice t (.slice ao len cap) (some (.int .i64 n)) none none).run P w = .ok (.slice (tailA ao n cap sz) (len - n) (cap - n)) w := by
  subst hs
  have h1 : (0 : Int) ≤ n := by omega
  simp [Instr.slice, Instr.sliceBounds, Instr.sliceBound, run_underlying ht, asIntOf, sizeOf, typeInfo, hi, h1, hn, tailA]
theorem fn_from (ao : Option Addr) (len cap n : Nat) (hn : n ≤ len) (w : World) :
    (Instr.slice 77 (.slice ao len cap) (some (.int .i64 n)) none none).run Try.prog w = .ok (.slice (tailA ao n cap 1) (len - n) (cap - n)) w := by
  obtain ⟨i0, hi, hz0, hz1, hz2⟩ := info_parts infoFn
  exact run_slice_from _ _ i0 1 Try.underlying77 hi hz1 ao len cap n hn w
theorem backs_get (fs : List Value) (n j : Nat) (h : j < n) : (backs fs n)[j]? = some (n - 1 - j, fs.getD (n - 1 - j) undef) := by
  induction n generalizing j with
  | zero => omega
  | succ n ih =>
    show ((n, fs.getD n undef) :: backs fs n)[j]? = _
    cases j with
    | zero => simp
    | succ j => rw [List.getElem?_cons_succ, ih j (by omega), show n + 1 - 1 - (j + 1) = n - 1 - j by omega]
theorem backs_at {fs : List Value} {n : Nat} {pre post : List (Nat × Value)} {x : Nat × Value} (h : backs fs n = pre ++ x :: post) : pre.length < n ∧ x = (n - 1 - pre.length, fs.getD (n - 1 - pre.length) undef) := by
  have h1 := congrArg List.length h
  rw [backs_length, List.length_append, List.length_cons] at h1
  have hlt : pre.length < n := by omega
  have h2 := backs_get fs n pre.length hlt
  rw [h, List.getElem?_append_right (Nat.le_refl _), Nat.sub_self] at h2
  exact ⟨hlt, by simpa using h2⟩
theorem fn_zero (w : World) : (zeroValue 1).run Try.prog w = .ok Value.nilFunc w := by kernel_rfl
/-- clear of the notes behind a place: those ahead of it stay. -/
theorem clear_notes {w : World} {S : Hp} {np : Option Addr} {nc m : Nat} {fs : List Value} (h : Sat w (notes np fs.length nc fs * S)) (hm : m ≤ fs.length) (ty : TypeId) :
    ∃ (v : Value) (w' : World) (fs' : List Value), (Builtin.clear_ #[77] ty #[.slice (tailA np m nc 1) (fs.length - m) (nc - m)]).run Try.prog w = .ok v w' ∧ fs'.length = fs.length ∧ fs'.take m = fs.take m ∧ Sat w' (notes np fs'.length nc fs' * S) ∧ Ran w w' := by
  obtain ⟨hl, hc1, hc2⟩ := h.arr_len
  by_cases e : fs.length - m = 0
  · refine ⟨.tuple #[], w, fs, ?_, rfl, rfl, h, Below.refl _ _⟩
    rw [e]
    cases hq : tailA np m nc 1 <;> simp [Builtin.clear_, run_underlying Try.underlying77]
  · obtain ⟨b, o, rfl⟩ := h.arr_addr (by omega)
    obtain ⟨cur, h1, h2, h3, h4, h5, h6, hh⟩ := h.arr_some
    simp only [Nat.mul_one] at h4 h5
    have hta : tailA (some ⟨b, o, none⟩) m nc 1 = some ⟨b, o + m, none⟩ := by unfold tailA; rw [if_neg (by omega)]; simp [Addr.add]
    rw [hta]
    have hg := hh.get
    have hrun := Lib.run_clear_slice (P := Try.prog) w 77 1 ty Value.nilFunc Try.underlying77 fn_zero rfl rfl b (o + m) (fs.length - m) (nc - m) (by omega)
      (fun j hj => by rw [cell_at hg]; have : o + m + j < cur.size := by omega
                      simp [this]) (fun j hj => free_at hg _)
    obtain ⟨⟨cur', g1, g2, g3⟩, g4, g5⟩ := heap_setCells b (List.replicate (fs.length - m) Value.nilFunc) (o + m) w cur 1 (0, 0) hg (by rw [List.length_replicate]; omega)
    have hlen : (fs.take m ++ List.replicate (fs.length - m) Value.nilFunc).length = fs.length := by rw [List.length_append, List.length_take, List.length_replicate]; omega
    refine ⟨_, _, fs.take m ++ List.replicate (fs.length - m) Value.nilFunc, hrun, hlen, by rw [List.take_append_of_le_length (by rw [List.length_take]; omega), List.take_take, Nat.min_self], ?_, g5⟩
    refine Sat.arr_mk (by rw [hlen]; exact h2) h3 (by omega) (by omega) (fun j hj => ?_) (hh.put g1 fun k _ hk => g4 k hk)
    rw [hlen] at hj
    rw [g3, List.length_replicate]
    by_cases hj2 : j < m
    · rw [if_neg (by omega), h6 j (by omega), List.getElem?_append_left (by rw [List.length_take]; omega), List.getElem?_take_of_lt hj2]
    · rw [if_pos (by omega), List.getElem?_append_right (by rw [List.length_take]; omega), List.length_take]
      exact congrArg (fun i => (List.replicate (fs.length - m) Value.nilFunc)[i]?) (by show o + j - (o + m) = j - min m fs.length; omega)
theorem notes_at {np : Option Addr} {nc m : Nat} {fs : List Value} (hm : m ≤ fs.length) (W : World) (S : Hp) (h : Sat W (notes np fs.length nc fs * S)) (k : Nat) (hk : k < fs.length - m) :
    ∃ nb no, tailA np m nc 1 = some ⟨nb, no, none⟩ ∧ W.cell? ⟨nb, no + k, none⟩ = some ((fs.drop m).getD k undef) := by
  obtain ⟨hl, hc1, hc2⟩ := h.arr_len
  obtain ⟨b, o, rfl⟩ := h.arr_addr (by omega)
  refine ⟨b, o + m, by unfold tailA; rw [if_neg (by omega)]; simp [Addr.add], ?_⟩
  rw [Nat.add_assoc, h.arr_cell (m + k) (by omega), List.getD_eq_getElem?_getD, List.getElem?_drop, List.getElem?_eq_getElem (by omega)]; rfl
end Go.Proofs.Ytibgpkcklneloaa.Undo
