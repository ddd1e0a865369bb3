/- A strings.Builder's String; Escape walked. -/
import Derived.Test.YtlpfcnpdecoblaaDoorMkG
namespace Go.Proofs.YtlpfcnpdecoblaaDoor.Marks
open Go.RowKit Go.Proofs.YtlpfcnpdecoblaaDoor Go.Proofs.YtlpfcnpdecoblaaDoor.Hp
set_option linter.unusedVariables false
attribute [local go_sem] Oper.semAt_some

theorem cell_freeze (w : World) (a : Addr) (n : Nat) (p : Addr) (h : p.block ≠ a.block) : (w.freeze a n).cell? p = w.cell? p := by
  have hh : (w.freeze a n).heap[p.block]? = w.heap[p.block]? := by
    unfold World.freeze
    split
    · rfl
    · simp only [Array.getElem?_modify]
      rw [if_neg (fun e => h e.symm)]
  obtain ⟨b, o, s⟩ := p
  simp only at hh
  simp [World.cell?, hh]
set_option maxRecDepth 100000 in
set_option maxHeartbeats 2000000 in
theorem string_calls (bb : Nat) (u : Bool) (q : Option Addr) (cap : Nat) (l : List UInt8) (w w0 : World) (hq : BSt q l) (hl : l.length ≤ 1000000) (h : Sat w (BldA bb u q cap l * keep w0)) (hsz : w0.heap.size ≤ w.heap.size) :
    Calls Tryd.prog 38 #[.pointer (some ⟨bb, 0, none⟩)] w fun e w' => e = .returned (.string ⟨l.toArray⟩) ∧ Below w0.heap.size w w' := by
  unfold BldA at h
  rw [sep_assoc] at h
  have c1 : w.cell? ⟨bb, 1, none⟩ = some (.slice q l.length cap) := by rw [cell_at h.get]; rfl
  rcases hq with ⟨rfl, rfl⟩ | ⟨g, rfl, hne⟩
  · have hSD : ∀ W, (Builtin.unsafeSliceData_ #[68] 84 #[.slice none 0 cap]).run Tryd.prog W = .ok (.pointer none) W := fun W => rfl
    have hUS : ∀ W, (Builtin.unsafeString_ #[84, 3] 9 #[.pointer none, .int .i64 0]).run Tryd.prog W = .ok (.string .empty) W := fun W => Lib.run_unsafeString_none W _ _ _ _
    clear h
    go_enter Tryd.func38, Tryd.ntmps38
    go_wp2_with fail
    refine Go.Proofs.YtlpfcnpdecoblaaDoor.region_plan (S := (fun w' => w'.cell? ⟨bb, 1, none⟩ = some (.slice none 0 cap))) [(0, true), (1, true), (2, true), (3, true), (4, true), (5, true), (6, true), (7, true), (8, true), (9, true), (10, false), (11, true)] (by kernel_rfl) (by kernel_rfl) (by kernel_rfl) ?_ ?_
    · ((try dsimp only); (first | done | (exact c1)))
    simp only [Go.Proofs.YtlpfcnpdecoblaaDoor.planOps, List.map_cons, List.map_nil, List.getElem?_toArray, List.getElem?_cons_zero, List.getElem?_cons_succ]
    repeat (first
      | ((refine Go.Proofs.YtlpfcnpdecoblaaDoor.plan_yes (v := ?_) (by rfl) ?_ ?_); rotate_left; (focus (intro w hSw; (try dsimp only at hSw); go_simp; try (with_reducible rfl))); (try simp only [Act.put, List.setIfInBounds_toArray, List.set_cons_zero, List.set_cons_succ]))
      | ((refine Go.Proofs.YtlpfcnpdecoblaaDoor.plan_no (by rfl) ?_); (try simp only [Act.put, List.setIfInBounds_toArray, List.set_cons_zero, List.set_cons_succ]))
      | ((refine Go.Proofs.YtlpfcnpdecoblaaDoor.plan_step (fun K hK => ?_)); (first | (fail) | (go_simp; (fail); (try go_wp2_with fail)) | go_simp); (refine hK.out _ _ ?_ (fun hHeld => ?_)); (focus ((try dsimp only); (first | done | (exact c1)))); clear hK K; (try simp only [Act.put, List.setIfInBounds_toArray, List.set_cons_zero, List.set_cons_succ])))
    refine Go.Proofs.YtlpfcnpdecoblaaDoor.plan_done ?_
    go_wp2_with fail
    go_ret
    exact ⟨rfl, Below.drew (Below.refl _ _)⟩
  · have hA := h.right
    obtain ⟨cur, h1, h2, h3, h4, h5, h6, hh⟩ := hA.arr_some
    simp only at h4 h6 hh
    have hln : 0 < l.length := List.length_pos_iff.2 hne
    have hfr := Sat.keep_fresh hA
    have hbg : bb ≠ g := by
      obtain ⟨cur', _, _, _, _, _, _, hh'⟩ := (h.perm (show _ = arr 5 1 (some ⟨g, 0, none⟩) l.length cap (Lib.byteCells l) * (pts bb (bldO bb u (some ⟨g, 0, none⟩) l.length cap) * keep w0) by ac_rfl)).arr_some
      exact fun e => hh'.ne e.symm
    have hcm : l.length ≤ cur.size := by omega
    have hsh : w.drew.shape? g = some (5, cur.size) := by have := hh.drew.get; simp [World.shape?, this]
    have hSD : ∀ W, (Builtin.unsafeSliceData_ #[68] 84 #[.slice (some ⟨g, 0, none⟩) l.length cap]).run Tryd.prog W = .ok (.pointer (some ⟨g, 0, none⟩)) W := fun W => Lib.run_unsafeSliceData_row W _ _ _ _ _ (by omega)
    have hUS : (Builtin.unsafeString_ #[84, 3] 9 #[.pointer (some ⟨g, 0, none⟩), .int .i64 l.length]).run Tryd.prog w.drew = .ok (.string ⟨l.toArray⟩) (w.drew.freeze ⟨g, 0, none⟩ l.length) := by
      refine Lib.run_unsafeString_row w.drew _ _ _ 5 Tryd.underlying84 cellsU8 g cur.size hsh l hne hcm (by omega) (fun j x hx => ?_)
      have hj : j < l.length := (List.getElem?_eq_some_iff.1 hx).1
      rw [Addr.add_lit]
      show w.cell? _ = _
      rw [hA.arr_cell j (by rw [Lib.byteCells_length]; exact hj)]
      simp only [Lib.byteCells, List.getElem_map]
      rw [List.getElem?_eq_getElem hj] at hx
      simp only [Option.some.injEq] at hx
      rw [hx]
    obtain ⟨w2, hw2⟩ : ∃ w2, w2 = w.drew.freeze ⟨g, 0, none⟩ l.length := ⟨_, rfl⟩
    have c2 : w2.cell? ⟨bb, 1, none⟩ = some (.slice (some ⟨g, 0, none⟩) l.length cap) := by rw [hw2, cell_freeze _ _ _ _ hbg]; exact c1
    have hB : Below w0.heap.size w w2 := by rw [hw2]; exact Lib.below_freeze (Below.drew (Below.refl _ _)) hfr _
    rw [← hw2] at hUS
    clear h hA hh h1 h2 h3 h4 h5 h6 hw2 hsh hcm hne hbg hfr
    obtain ⟨n, hn⟩ : ∃ n, n = l.length := ⟨_, rfl⟩
    rw [← hn] at c1 c2 hSD hUS
    clear hn hln hl
    go_enter Tryd.func38, Tryd.ntmps38
    go_wp2_with fail
    refine Go.Proofs.YtlpfcnpdecoblaaDoor.region_plan (S := (fun w' => w'.cell? ⟨bb, 1, none⟩ = some (.slice (some ⟨g, 0, none⟩) n cap))) [(0, true), (1, true), (2, true), (3, true), (4, true), (5, true), (6, true), (7, true), (8, true), (9, true), (10, false), (11, true)] (by kernel_rfl) (by kernel_rfl) (by kernel_rfl) ?_ ?_
    · ((try dsimp only); (first | done | (first | exact c1 | exact c2)))
    simp only [Go.Proofs.YtlpfcnpdecoblaaDoor.planOps, List.map_cons, List.map_nil, List.getElem?_toArray, List.getElem?_cons_zero, List.getElem?_cons_succ]
    repeat (first
      | ((refine Go.Proofs.YtlpfcnpdecoblaaDoor.plan_yes (v := ?_) (by rfl) ?_ ?_); rotate_left; (focus (intro w hSw; (try dsimp only at hSw); go_simp; try (with_reducible rfl))); (try simp only [Act.put, List.setIfInBounds_toArray, List.set_cons_zero, List.set_cons_succ]))
      | ((refine Go.Proofs.YtlpfcnpdecoblaaDoor.plan_no (by rfl) ?_); (try simp only [Act.put, List.setIfInBounds_toArray, List.set_cons_zero, List.set_cons_succ]))
      | ((refine Go.Proofs.YtlpfcnpdecoblaaDoor.plan_step (fun K hK => ?_)); (first | (fail) | (go_simp; (fail); (try go_wp2_with fail)) | go_simp); (refine hK.out _ _ ?_ (fun hHeld => ?_)); (focus ((try dsimp only); (first | done | (first | exact c1 | exact c2)))); clear hK K; (try simp only [Act.put, List.setIfInBounds_toArray, List.set_cons_zero, List.set_cons_succ])))
    refine Go.Proofs.YtlpfcnpdecoblaaDoor.plan_done ?_
    go_wp2_with fail
    go_ret
    exact ⟨rfl, hB⟩
/-- A bare \ or '. -/
def badC (c : Ch) : Bool := !c.q && (c.b == 92 || c.b == 39)
def escB (c : Ch) : List UInt8 := if (c.q && c.b == 10) = true then [39, 10, 39] else if c.q = true then [92, c.b] else [c.b]
def escL (t : List Ch) : List UInt8 := if t.any badC = true then [] else t.flatMap escB
theorem esc_bad {t : List Ch} {i : Nat} (hi : i < t.length) (h : badC t[i] = true) : escL t = [] := by
  unfold escL
  rw [if_pos (List.any_eq_true.2 ⟨_, List.getElem_mem hi, h⟩)]
theorem esc_len (t : List Ch) : (t.flatMap escB).length ≤ t.length * 3 := by
  induction t with
  | nil => simp
  | cons c t ih =>
    simp only [List.flatMap_cons, List.length_append, List.length_cons]
    have : (escB c).length ≤ 3 := by unfold escB; split <;> (try split) <;> simp
    omega
def EsRel (t : List Ch) (w : World) (bb : Nat) (g : Nat) (iv : Value) (wr : World) : Prop :=
  ∃ (i : Nat) (u : Bool) (q : Option Addr) (cap : Nat), i + g = t.length ∧ iv = .int .i64 (i : Int) ∧ (t.take i).any badC = false ∧ BSt q ((t.take i).flatMap escB) ∧ Sat wr (BldA bb u q cap ((t.take i).flatMap escB) * keep w) ∧ Ran w wr
def EscPost (t : List Ch) (w : World) (e : Ending) (w' : World) : Prop := e = .returned (.string ⟨(escL t).toArray⟩) ∧ Below w.heap.size w w'
theorem bld_drop {bb : Nat} {u : Bool} {q : Option Addr} {cap : Nat} {l : List UInt8} {w w' : World} {A : Hp} (h : Sat w' (A * keep w)) (hr : Ran w w') : Below w.heap.size w w' := hr.whole h
end Go.Proofs.YtlpfcnpdecoblaaDoor.Marks
