/- A strings.Builder of a call's own: copyCheck, WriteString, String walked. -/
import Derived.Test.YtlhkochpokhncaaDoorLxW
import Derived.Lib.Builder
import Derived.Lib.UnsafeStr
import Derived.Laws.Externs
namespace Go.Proofs.YtlhkochpokhncaaDoor.Lexer
open Go.RowKit Go.Proofs.YtlhkochpokhncaaDoor Go.Proofs.YtlhkochpokhncaaDoor.Hp
set_option linter.unusedVariables false
attribute [local go_sem] Oper.semAt_some


/-- An append leaves the slice where it was, or lays it at the beginning of a new block. -/
theorem append_off {P : Program} {w w' : World} {R : Hp} (t tx ty e : TypeId) (i : TypeInfo) (z : Value) (sz bytes : Nat) (ht : P.underlying t = some (.slice e)) (hi : P.info? e = some i) (hz : i.zero = some z) (hsize : i.size = sz) (hby : i.bytes = bytes)
    (p p' : Option Addr) (n cap cap' : Nat) (xs : List Value) (h : Sat w (arr e sz p n cap xs * R)) (x : Value) (m : Nat) (news : List Value) (hs : Src P i.size tx x m news w) (hm : 0 < m) (hbytes : (n + m) * bytes ≤ 140737488355328) (h63 : n + m ≤ maxLen)
    (hrun : (Builtin.append_ #[t, tx] ty #[.slice p n cap, x]).run P w = .ok (.slice p' (n + m) cap') w') : p' = p ∨ p' = some ⟨w.heap.size, 0, none⟩ := by
  subst hsize; subst hby
  have hsm : n + m ≤ 9223372036854775807 := by unfold maxLen at h63; omega
  obtain ⟨hxl, hnc, hcm⟩ := h.arr_len
  by_cases hr : n + m ≤ cap
  · obtain ⟨b, o, rfl⟩ := h.arr_addr (by omega)
    obtain ⟨cur, h1, h2, h3, h4, h5, h6, hh⟩ := h.arr_some
    simp at h4 h6 hh
    have hfit : (n + m) * i.size ≤ cap * i.size := Nat.mul_le_mul_right _ hr
    have hnl := hs.newsLen
    rw [Nat.add_mul] at hfit
    have hg := hh.get
    have hrun2 := run_append_room_src (P := P) w t tx ty e i ht hi b o n cap x m news hs hr
      (fun j hj => by rw [cell_at hg]; have : o + n * i.size + j < cur.size := by omega
                      simp [this]) (fun j hj => free_at hg _)
    rw [hrun] at hrun2
    simp only [Result.ok.injEq, Value.slice.injEq] at hrun2
    exact .inl hrun2.1.1
  · have hold : (Builtin.firstCells i.size n (.slice p n cap)).run P w.drew = .ok xs.toArray w.drew := by
      cases p with
      | none => obtain ⟨rfl, rfl, rfl⟩ := h.arr_none; exact run_firstCells_none w.drew i.size 0 0 0
      | some a =>
        obtain ⟨b, o, s⟩ := a
        obtain ⟨cur, h1, _⟩ := h.arr_some
        simp at h1; subst h1
        refine run_firstCells_some w.drew i.size n ⟨b, o, none⟩ n cap xs hxl fun j v hj => ?_
        have hj' : j < xs.length := (List.getElem?_eq_some_iff.1 hj).1
        rw [Addr.add_lit]
        show w.cell? _ = _
        rw [h.arr_cell j hj']
        rw [List.getElem?_eq_getElem hj'] at hj; exact hj
    have hfit : Builtin.nextslicecap (n + m) cap * i.bytes ≤ 281474976710656 := growslice_fits (by omega) hbytes
    have hrun2 := run_append_grow_src (P := P) w t tx ty e i z ht hi hz p n cap xs hold x m news hs (by omega) (by omega) hfit
    rw [hrun] at hrun2
    simp only [Result.ok.injEq, Value.slice.injEq] at hrun2
    exact .inr hrun2.1.1
theorem appBy {w : World} {H : Hp} {ops : Array Oper} {rest : List Oper} {o : Oper} {a : Act} {Q : Exit → Act → World → Prop} (hgd : o.guard = none) (s x : Operand) (tx : TypeId)
    (ho : o.op = .call { callee := .builtin .append, args := #[s, x], argTypes := #[56, tx] })
    (p : Option Addr) (n cap : Nat) (xs : List Value) (hp : a.eval s = .slice p n cap) (vx : Value) (hvx : a.eval x = vx) (m : Nat) (news : List Value) (hs : Src Tryd.prog 1 tx vx m news w) (h : Sat w (arr 5 1 p n cap xs * H)) (hm : 0 < m) (hn : n + m ≤ 1000000000)
    (hk : ∀ p' cap' w', Sat w' (arr 5 1 p' (n + m) cap' (xs ++ news) * H) → Ran w w' → (p' = p ∨ p' = some ⟨w.heap.size, 0, none⟩) → wpList Tryd.prog ops Q rest (a.put o.dst (.slice p' (n + m) cap')) w') : wpList Tryd.prog ops Q (o :: rest) a w := by
  obtain ⟨i0, hi, hz0, hz1, hz2⟩ := info_parts infoU8
  refine wpList_plain hgd fun _ hK => ?_
  obtain ⟨p', cap', w', hr, h1, h2, _⟩ := run_append_arr (P := Tryd.prog) 56 tx o.type 5 i0 _ 1 1 Tryd.underlying56 hi hz0 hz1 hz2 rfl p n cap xs h vx m news (by rw [hz1]; exact hs) (by omega) (by unfold maxLen; omega)
  have hoff := append_off 56 tx o.type 5 i0 _ 1 1 Tryd.underlying56 hi hz0 hz1 hz2 p p' n cap cap' xs h vx m news (by rw [hz1]; exact hs) hm (by omega) (by unfold maxLen; omega) hr
  unfold Oper.wp execOp
  simp only [ho, resolve, invoke, builtin, Sem.run_bind, Sem.run_pure, Result.andThen_ok, List.map_toArray, List.map_cons, List.map_nil, hp, hvx, hr]
  exact hK _ _ (hk p' cap' w' h1 h2 hoff)
abbrev bldO (bb : Nat) (u : Bool) (q : Option Addr) (n cap : Nat) : Obj := .cells #[.pointer (if u = true then some ⟨bb, 0, none⟩ else none), .slice q n cap] 58 (0, 0)
def BldA (bb : Nat) (u : Bool) (q : Option Addr) (cap : Nat) (l : List UInt8) : Hp := pts bb (bldO bb u q l.length cap) * arr 5 1 q l.length cap (Lib.byteCells l)
def BSt (q : Option Addr) (l : List UInt8) : Prop := (q = none ∧ l = []) ∨ ∃ g, q = some ⟨g, 0, none⟩ ∧ l ≠ []
theorem infoBld : (Tryd.prog.info? 58).map (fun i => i.size) = some 2 := by kernel_rfl
theorem info_size {T : TypeId} {n : Nat} (h : (Tryd.prog.info? T).map (fun i => i.size) = some n) : ∃ i, Tryd.prog.info? T = some i ∧ i.size = n := by
  cases e : Tryd.prog.info? T with
  | none => rw [e] at h; cases h
  | some i => rw [e] at h; exact ⟨i, rfl, by simpa using h⟩
set_option maxRecDepth 100000 in
set_option maxHeartbeats 2000000 in
theorem copycheck_new (bb : Nat) (v : Value) (w : World) (S : Hp) (h : Sat w (pts bb (.cells #[.pointer none, v] 58 (0, 0)) * S)) :
    Calls Tryd.prog 44 #[.pointer (some ⟨bb, 0, none⟩)] w fun e w' => (e = .returned (.tuple #[]) ∧ Sat w' (pts bb (.cells #[.pointer (some ⟨bb, 0, none⟩), v] 58 (0, 0)) * S)) ∧ Ran w w' := by
  obtain ⟨i0, hi, hsz⟩ := info_size infoBld
  have c0 : w.cell? ⟨bb, 0, none⟩ = some (.pointer none) := by rw [cell_at h.get]; rfl
  have cz : ∀ i, w.frozen? ⟨bb, i, none⟩ = false := fun i => free_at h.get i
  have hsh : w.shape? bb = some (58, 2) := by simp [World.shape?, h.get]
  have H := Lib.hid h
  clear h
  go_enter Tryd.func44, Tryd.ntmps44
  go_wp2_with fail
  rw [Lib.run_to_unsafe w ⟨bb, 0, none⟩ Tryd.underlying55 Tryd.underlying91 hi (by rw [hsz]; decide) hsh (Nat.zero_lt_succ 1)]
  simp only [Result.andThen]
  rw [Oper.upon_value]
  go_wp2_with fail
  rw [run_callFunc_extern Tryd.func57 (by kernel_rfl) (by kernel_rfl) (by kernel_rfl) (e := Extern.AbiNoEscape.same) (by kernel_rfl)]
  rw [Lib.run_noEscape]
  simp only [Result.andThen]
  rw [Oper.upon_value]
  go_wp2_with fail
  rw [Lib.run_from_unsafe w ⟨bb, 0, none⟩ Tryd.underlying91 Tryd.underlying55 hi hsh (by kernel_rfl)]
  simp only [Result.andThen]
  rw [Oper.upon_value]
  go_wp2_with fail
  go_end0
  exact ⟨⟨rfl, H.out.set (i := 0) (.pointer (some ⟨bb, 0, none⟩))⟩, Ran.set (Below.refl 0 w) _ _⟩
set_option maxRecDepth 100000 in
set_option maxHeartbeats 2000000 in
theorem copycheck_used (bb : Nat) (v : Value) (w : World) (S : Hp) (h : Sat w (pts bb (.cells #[.pointer (some ⟨bb, 0, none⟩), v] 58 (0, 0)) * S)) :
    Calls Tryd.prog 44 #[.pointer (some ⟨bb, 0, none⟩)] w fun e w' => e = .returned (.tuple #[]) ∧ w = w' := by
  obtain ⟨i0, hi, hsz⟩ := info_size infoBld
  have c0 : w.cell? ⟨bb, 0, none⟩ = some (.pointer (some ⟨bb, 0, none⟩)) := by rw [cell_at h.get]; rfl
  clear h
  have hq := fun W => Lib.run_neq_ptr_same (P := Tryd.prog) W ⟨bb, 0, none⟩ Tryd.underlying55 hi
  go_enter Tryd.func44, Tryd.ntmps44
  go_wp2_with fail
  go_end0
  exact ⟨rfl, rfl⟩
theorem copycheck_any (bb : Nat) (u : Bool) (v : Value) (w : World) (S : Hp) (h : Sat w (pts bb (.cells #[.pointer (if u = true then some ⟨bb, 0, none⟩ else none), v] 58 (0, 0)) * S)) :
    Calls Tryd.prog 44 #[.pointer (some ⟨bb, 0, none⟩)] w fun e w' => (e = .returned (.tuple #[]) ∧ Sat w' (pts bb (.cells #[.pointer (some ⟨bb, 0, none⟩), v] 58 (0, 0)) * S)) ∧ Ran w w' := by
  cases u with
  | false => exact copycheck_new bb v w S h
  | true =>
    refine (copycheck_used bb v w S h).mono ?_
    rintro e w' ⟨rfl, rfl⟩
    exact ⟨⟨rfl, h⟩, Below.refl 0 _⟩
def BldPost (bb : Nat) (l : List UInt8) (S : Hp) (w' : World) : Prop := ∃ q cap, BSt q l ∧ Sat w' (BldA bb true q cap l * S)
theorem bst_app {q p' : Option Addr} {l : List UInt8} {n : Nat} (h : BSt q l) {c : List UInt8} (hc : c ≠ []) (hp : p' = q ∨ p' = some ⟨n, 0, none⟩) (hs : p'.isSome = true) : BSt p' (l ++ c) := by
  refine .inr ?_
  have hne : l ++ c ≠ [] := by simp [hc]
  rcases hp with rfl | rfl
  · rcases h with ⟨rfl, _⟩ | ⟨g, rfl, _⟩
    · cases hs
    · exact ⟨g, rfl, hne⟩
  · exact ⟨n, rfl, hne⟩
set_option maxRecDepth 100000 in
set_option maxHeartbeats 2000000 in
theorem writestring_calls (bb : Nat) (u : Bool) (q : Option Addr) (cap : Nat) (l : List UInt8) (s : ByteArray) (w : World) (S : Hp) (hq : BSt q l) (hl : l.length ≤ 1000000) (hs0 : 0 < s.size) (hs1 : s.size ≤ 1000000) (h : Sat w (BldA bb u q cap l * S)) :
    Calls Tryd.prog 27 #[.pointer (some ⟨bb, 0, none⟩), .string s] w fun e w' => (e = .returned (.tuple #[.int .i64 (s.size : Int), .nilIface]) ∧ BldPost bb (l ++ bs s) S w') ∧ Ran w w' := by
  unfold BldA at h
  rw [sep_assoc] at h
  have hcc := Lib.hid (copycheck_any bb u _ w _ h)
  have hl1 : l.length + s.size ≤ 1000000000 := by omega
  have Hq := Lib.hid hq
  have Hs0 := Lib.hid hs0
  clear h hq
  go_enter Tryd.func27, Tryd.ntmps27
  go_wp2_with fail
  refine hcc.out.mono ?_
  rintro e w1 ⟨⟨rfl, H1⟩, R1⟩
  have c1 : w1.cell? ⟨bb, 1, none⟩ = some (.slice q l.length cap) := by rw [cell_at H1.get]; rfl
  have HSB := H1.perm (show _ = arr 5 1 q l.length cap (Lib.byteCells l) * (pts bb (.cells #[.pointer (some ⟨bb, 0, none⟩), .slice q l.length cap] 58 (0, 0)) * S) by ac_rfl)
  have Hsrc := Lib.hid (Src.ofString (P := Tryd.prog) w1 Tryd.underlying9 s)
  obtain ⟨nl, hnl⟩ : ∃ n, n = l.length := ⟨_, rfl⟩
  rw [← hnl] at HSB c1 hl1
  have Hnl := Lib.hid hnl
  clear H1 hcc hnl
  go_wp2_with (at_builtin; go_loud (refine appBy rfl _ _ _ rfl q nl cap _ rfl _ rfl s.size _ Hsrc.out HSB Hs0.out hl1 ?_; intro p' cap' w6 T6 R6 O6; clear HSB c1; have T7 := T6.perm (show _ = pts bb (.cells #[.pointer (some ⟨bb, 0, none⟩), .slice q nl cap] 58 (0, 0)) * (arr 5 1 p' (nl + s.size) cap' (Lib.byteCells l ++ byteCells s) * S) by ac_rfl); have c1 : w6.cell? ⟨bb, 1, none⟩ = some (.slice q nl cap) := (by rw [cell_at T7.get]; rfl); have cz : ∀ i, w6.frozen? ⟨bb, i, none⟩ = false := fun i => free_at T7.get i))
  go_ret2
  refine ⟨⟨rfl, p', cap', bst_app Hq.out (fun e => by have := bs_length s; rw [e] at this; have := Hs0.out; simp at *; omega) O6 ?_, ?_⟩, Ran.set (Below.trans R1 R6) _ _⟩
  · cases hp : p' with
    | some a => rfl
    | none => rw [hp] at T6; have := T6.arr_none.1; have := Hs0.out; omega
  · have e1 : (l ++ bs s).length = nl + s.size := by rw [List.length_append, Hnl.out, bs_length]
    have e2 : Lib.byteCells (l ++ bs s) = Lib.byteCells l ++ byteCells s := by unfold Lib.byteCells byteCells; rw [List.map_append]
    unfold BldA
    rw [sep_assoc, e1, e2]
    exact T7.set (i := 1) (.slice p' (nl + s.size) cap')

theorem cell_freeze (w : World) (a : Addr) (n : Nat) (p : Addr) (h : p.block ≠ a.block) : (w.freeze a n).cell? p = w.cell? p := by
  have hh : (w.freeze a n).heap[p.block]? = w.heap[p.block]? := by
    unfold World.freeze
    split
    · rfl
    · simp only [Array.getElem?_modify]
      rw [if_neg (fun e => h e.symm)]
  obtain ⟨b, o, s⟩ := p
  simp only at hh
  simp [World.cell?, hh]
set_option maxRecDepth 100000 in
set_option maxHeartbeats 2000000 in
theorem string_calls (bb : Nat) (u : Bool) (q : Option Addr) (cap : Nat) (l : List UInt8) (w w0 : World) (hq : BSt q l) (hl : l.length ≤ 1000000) (h : Sat w (BldA bb u q cap l * keep w0)) (hsz : w0.heap.size ≤ w.heap.size) :
    Calls Tryd.prog 26 #[.pointer (some ⟨bb, 0, none⟩)] w fun e w' => e = .returned (.string ⟨l.toArray⟩) ∧ Below w0.heap.size w w' := by
  unfold BldA at h
  rw [sep_assoc] at h
  have c1 : w.cell? ⟨bb, 1, none⟩ = some (.slice q l.length cap) := by rw [cell_at h.get]; rfl
  rcases hq with ⟨rfl, rfl⟩ | ⟨g, rfl, hne⟩
  · have hSD : ∀ W, (Builtin.unsafeSliceData_ #[56] 81 #[.slice none 0 cap]).run Tryd.prog W = .ok (.pointer none) W := fun W => rfl
    have hUS : ∀ W, (Builtin.unsafeString_ #[81, 3] 9 #[.pointer none, .int .i64 0]).run Tryd.prog W = .ok (.string .empty) W := fun W => Lib.run_unsafeString_none W _ _ _ _
    clear h
    go_enter Tryd.func26, Tryd.ntmps26
    go_wp2_with fail
    refine Go.Proofs.YtlhkochpokhncaaDoor.region_plan (S := (fun w' => w'.cell? ⟨bb, 1, none⟩ = some (.slice none 0 cap))) [(0, true), (1, true), (2, true), (3, true), (4, true), (5, true), (6, true), (7, true), (8, true), (9, true), (10, false), (11, true)] (by kernel_rfl) (by kernel_rfl) (by kernel_rfl) ?_ ?_
    · ((try dsimp only); (first | done | (exact c1)))
    simp only [Go.Proofs.YtlhkochpokhncaaDoor.planOps, List.map_cons, List.map_nil, List.getElem?_toArray, List.getElem?_cons_zero, List.getElem?_cons_succ]
    repeat (first
      | ((refine Go.Proofs.YtlhkochpokhncaaDoor.plan_yes (v := ?_) (by rfl) ?_ ?_); rotate_left; (focus (intro w hSw; (try dsimp only at hSw); go_simp; try (with_reducible rfl))); (try simp only [Act.put, List.setIfInBounds_toArray, List.set_cons_zero, List.set_cons_succ]))
      | ((refine Go.Proofs.YtlhkochpokhncaaDoor.plan_no (by rfl) ?_); (try simp only [Act.put, List.setIfInBounds_toArray, List.set_cons_zero, List.set_cons_succ]))
      | ((refine Go.Proofs.YtlhkochpokhncaaDoor.plan_step (fun K hK => ?_)); (first | (fail) | (go_simp; (fail); (try go_wp2_with fail)) | go_simp); (refine hK.out _ _ ?_ (fun hHeld => ?_)); (focus ((try dsimp only); (first | done | (exact c1)))); clear hK K; (try simp only [Act.put, List.setIfInBounds_toArray, List.set_cons_zero, List.set_cons_succ])))
    refine Go.Proofs.YtlhkochpokhncaaDoor.plan_done ?_
    go_wp2_with fail
    go_ret
    exact ⟨rfl, Below.drew (Below.refl _ _)⟩
  · have hA := h.right
    obtain ⟨cur, h1, h2, h3, h4, h5, h6, hh⟩ := hA.arr_some
    simp only at h4 h6 hh
    have hln : 0 < l.length := List.length_pos_iff.2 hne
    have hfr := Sat.keep_fresh hA
    have hbg : bb ≠ g := by
      obtain ⟨cur', _, _, _, _, _, _, hh'⟩ := (h.perm (show _ = arr 5 1 (some ⟨g, 0, none⟩) l.length cap (Lib.byteCells l) * (pts bb (bldO bb u (some ⟨g, 0, none⟩) l.length cap) * keep w0) by ac_rfl)).arr_some
      exact fun e => hh'.ne e.symm
    have hcm : l.length ≤ cur.size := by omega
    have hsh : w.drew.shape? g = some (5, cur.size) := by have := hh.drew.get; simp [World.shape?, this]
    have hSD : ∀ W, (Builtin.unsafeSliceData_ #[56] 81 #[.slice (some ⟨g, 0, none⟩) l.length cap]).run Tryd.prog W = .ok (.pointer (some ⟨g, 0, none⟩)) W := fun W => Lib.run_unsafeSliceData_row W _ _ _ _ _ (by omega)
    have hUS : (Builtin.unsafeString_ #[81, 3] 9 #[.pointer (some ⟨g, 0, none⟩), .int .i64 l.length]).run Tryd.prog w.drew = .ok (.string ⟨l.toArray⟩) (w.drew.freeze ⟨g, 0, none⟩ l.length) := by
      refine Lib.run_unsafeString_row w.drew _ _ _ 5 Tryd.underlying81 cellsU8 g cur.size hsh l hne hcm (by omega) (fun j x hx => ?_)
      have hj : j < l.length := (List.getElem?_eq_some_iff.1 hx).1
      rw [Addr.add_lit]
      show w.cell? _ = _
      rw [hA.arr_cell j (by rw [Lib.byteCells_length]; exact hj)]
      simp only [Lib.byteCells, List.getElem_map]
      rw [List.getElem?_eq_getElem hj] at hx
      simp only [Option.some.injEq] at hx
      rw [hx]
    obtain ⟨w2, hw2⟩ : ∃ w2, w2 = w.drew.freeze ⟨g, 0, none⟩ l.length := ⟨_, rfl⟩
    have c2 : w2.cell? ⟨bb, 1, none⟩ = some (.slice (some ⟨g, 0, none⟩) l.length cap) := by rw [hw2, cell_freeze _ _ _ _ hbg]; exact c1
    have hB : Below w0.heap.size w w2 := by rw [hw2]; exact Lib.below_freeze (Below.drew (Below.refl _ _)) hfr _
    rw [← hw2] at hUS
    clear h hA hh h1 h2 h3 h4 h5 h6 hw2 hsh hcm hne hbg hfr
    obtain ⟨n, hn⟩ : ∃ n, n = l.length := ⟨_, rfl⟩
    rw [← hn] at c1 c2 hSD hUS
    clear hn hln hl
    go_enter Tryd.func26, Tryd.ntmps26
    go_wp2_with fail
    refine Go.Proofs.YtlhkochpokhncaaDoor.region_plan (S := (fun w' => w'.cell? ⟨bb, 1, none⟩ = some (.slice (some ⟨g, 0, none⟩) n cap))) [(0, true), (1, true), (2, true), (3, true), (4, true), (5, true), (6, true), (7, true), (8, true), (9, true), (10, false), (11, true)] (by kernel_rfl) (by kernel_rfl) (by kernel_rfl) ?_ ?_
    · ((try dsimp only); (first | done | (first | exact c1 | exact c2)))
    simp only [Go.Proofs.YtlhkochpokhncaaDoor.planOps, List.map_cons, List.map_nil, List.getElem?_toArray, List.getElem?_cons_zero, List.getElem?_cons_succ]
    repeat (first
      | ((refine Go.Proofs.YtlhkochpokhncaaDoor.plan_yes (v := ?_) (by rfl) ?_ ?_); rotate_left; (focus (intro w hSw; (try dsimp only at hSw); go_simp; try (with_reducible rfl))); (try simp only [Act.put, List.setIfInBounds_toArray, List.set_cons_zero, List.set_cons_succ]))
      | ((refine Go.Proofs.YtlhkochpokhncaaDoor.plan_no (by rfl) ?_); (try simp only [Act.put, List.setIfInBounds_toArray, List.set_cons_zero, List.set_cons_succ]))
      | ((refine Go.Proofs.YtlhkochpokhncaaDoor.plan_step (fun K hK => ?_)); (first | (fail) | (go_simp; (fail); (try go_wp2_with fail)) | go_simp); (refine hK.out _ _ ?_ (fun hHeld => ?_)); (focus ((try dsimp only); (first | done | (first | exact c1 | exact c2)))); clear hK K; (try simp only [Act.put, List.setIfInBounds_toArray, List.set_cons_zero, List.set_cons_succ])))
    refine Go.Proofs.YtlhkochpokhncaaDoor.plan_done ?_
    go_wp2_with fail
    go_ret
    exact ⟨rfl, hB⟩
end Go.Proofs.YtlhkochpokhncaaDoor.Lexer
