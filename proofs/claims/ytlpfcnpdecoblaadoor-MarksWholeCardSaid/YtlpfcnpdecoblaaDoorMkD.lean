/- Hard, Clone, Part, Grow walked. -/
import Derived.Test.YtlpfcnpdecoblaaDoorMkC
import Derived.Shelf.Abstract
namespace Go.Proofs.YtlpfcnpdecoblaaDoor.Marks
open Go.RowKit Go.Proofs.YtlpfcnpdecoblaaDoor Go.Proofs.YtlpfcnpdecoblaaDoor.Hp
set_option linter.unusedVariables false
attribute [local go_sem] Oper.semAt_some

def IfRel (n : Nat) (w : World) (g : Nat) (iv : Value) (wr : World) : Prop := ∃ i : Nat, i + g = n ∧ 0 < g ∧ iv = .int .i64 (i : Int) ∧ Below w.heap.size w wr
set_option maxRecDepth 100000 in
set_option maxHeartbeats 2000000 in
theorem indexfunc_calls (fn : Nat) (p : Ch → Bool) (hen : ∀ args w, (callFunc fn args).run Tryd.prog w = .ok (.enter fn args) w) (hcl : ∀ (x : Ch) (w : World), Calls Tryd.prog fn #[chV x] w (FPost (p x) w)) (t : List Ch) (ao : Option Addr) (cap : Nat) (w : World) (h : CharsAt w ao cap t) (hm : t.length ≤ 100000) :
    Calls Tryd.prog 55 #[.slice ao t.length cap, .func (.func fn) #[] #[]] w (IdxPost (idxI p t) w) := by
  have hmm : (t.length : Int) ≤ 100000 := by omega
  have H := Lib.hid h
  have Hcl := Lib.hid hcl
  clear h hcl
  have key : ∀ (n : Nat) (r : Int), n ≤ t.length → (∀ i (hi : i < t.length), i < n → p t[i] = false) → ((n = t.length ∧ r = -1) ∨ ∃ hn : n < t.length, p t[n] = true ∧ r = (n : Int)) → Calls Tryd.prog 55 #[.slice ao t.length cap, .func (.func fn) #[] #[]] w (IdxPost r w) := by
    intro n r hn hno hend
    have Hno := Lib.hid hno
    have Hend := Lib.hid hend
    clear hno hend
    go_enter Tryd.func55, Tryd.ntmps55
    go_wp2_with fail
    go_loopg [5, 8] (n + 1) (fun (g : Nat) (_ : Value) (iv : Value) (wr : World) => IfRel (n + 1) w g iv wr)
    case atStart => exact ⟨0, by omega, by omega, rfl, Below.refl _ _⟩
    case round =>
      obtain ⟨i, hig, hg0, rfl, hbel⟩ := hrel
      have hi0 : (0 : Int) ≤ i := by omega
      have K1 := Kept.below hbel
      have Hig := Lib.hid hig
      by_cases hin : i < n
      · have hi : i < t.length := by omega
        have hil : (i : Int) < (t.length : Int) := by omega
        obtain ⟨tb, o, rfl, htb, x0, x1⟩ := (H.out.keep K1).2.2 i hi
        have hne := Hno.out i hi hin
        obtain ⟨x, hx⟩ : ∃ x, x = t[i] := ⟨_, rfl⟩
        rw [← hx] at x0 x1 hne
        have hcall := Hcl.out x wr
        rw [hne] at hcall
        have Hcall := Lib.hid hcall
        clear hne hx hig hcall
        go_wp2_with fail
        refine Hcall.out.mono ?_
        rintro e w2 ⟨rfl, hb2⟩
        go_wp2_with fail
        go_roundg (gk - 1)
        case measure => omega
        case rel => exact ⟨i + 1, by have := Hig.out; omega, by have := Hig.out; omega, rfl, hbel.trans (hb2.mono hbel.size)⟩
      · have hin2 : i = n := by omega
        subst hin2
        rcases Hend.out with ⟨h1, h2⟩ | ⟨hi, h1, h2⟩
        · have hge : ¬ ((i : Int) < (t.length : Int)) := by omega
          rw [h2]
          clear hig Hend
          go_wp2_with fail
          go_ret
          exact ⟨rfl, hbel⟩
        · have hil : (i : Int) < (t.length : Int) := by omega
          obtain ⟨tb, o, rfl, htb, x0, x1⟩ := (H.out.keep K1).2.2 i hi
          have hcall := Hcl.out t[i] wr
          rw [h1] at hcall
          obtain ⟨x, hx⟩ : ∃ x, x = t[i] := ⟨_, rfl⟩
          rw [← hx] at x0 x1 hcall
          have Hcall := Lib.hid hcall
          rw [h2]
          clear hig Hend h1 h2 hx hcall
          go_wp2_with fail
          refine Hcall.out.mono ?_
          rintro e w2 ⟨rfl, hb2⟩
          go_wp2_with fail
          go_ret
          exact ⟨rfl, hbel.trans (hb2.mono hbel.size)⟩
  rcases idx_cases p t with h | ⟨j, hj, h1, h2⟩
  · rw [idx_none h]
    exact key t.length (-1) (Nat.le_refl _) (fun i hi _ => h _ (List.getElem_mem hi)) (.inl ⟨rfl, rfl⟩)
  · rw [idx_some hj h1 h2]
    exact key j j (Nat.le_of_lt hj) h2 (.inr ⟨hj, h1, rfl⟩)
theorem idx_any (p : Ch → Bool) (t : List Ch) : decide (0 ≤ idxI p t) = t.any p := by
  rcases idx_cases p t with h | ⟨j, hj, h1, h2⟩
  · rw [idx_none h]
    have : t.any p = false := by
      rw [List.any_eq_false]
      exact fun x hx => by rw [h x hx]; decide
    rw [this]; rfl
  · rw [idx_some hj h1 h2]
    have : t.any p = true := List.any_eq_true.2 ⟨_, List.getElem_mem hj, h1⟩
    rw [this]
    exact decide_eq_true (by omega)
set_option maxHeartbeats 1000000 in
theorem contains_calls (fn : Nat) (p : Ch → Bool) (hen : ∀ args w, (callFunc fn args).run Tryd.prog w = .ok (.enter fn args) w) (hcl : ∀ (x : Ch) (w : World), Calls Tryd.prog fn #[chV x] w (FPost (p x) w)) (t : List Ch) (ao : Option Addr) (cap : Nat) (w : World) (h : CharsAt w ao cap t) (hm : t.length ≤ 100000) :
    Calls Tryd.prog 42 #[.slice ao t.length cap, .func (.func fn) #[] #[]] w (FPost (t.any p) w) := by
  have hc := Lib.hid (indexfunc_calls fn p hen hcl t ao cap w h hm)
  have ha := idx_any p t
  obtain ⟨r, hr⟩ : ∃ r, r = idxI p t := ⟨_, rfl⟩
  rw [← hr] at hc ha
  have Ha := Lib.hid ha
  clear h ha hr hcl
  go_enter Tryd.func42, Tryd.ntmps42
  go_wp2_with fail
  refine hc.out.mono ?_
  rintro e w' ⟨rfl, hb⟩
  by_cases h0 : 0 ≤ r
  · have hq : t.any p = true := by rw [← Ha.out]; exact decide_eq_true h0
    have Hq := Lib.hid hq
    clear hq
    go_wp2_with fail
    go_ret
    exact ⟨congrArg (fun x => Ending.returned (.bool x)) Hq.out.symm, hb⟩
  · have hq : t.any p = false := by rw [← Ha.out]; exact decide_eq_false h0
    have Hq := Lib.hid hq
    clear hq
    go_wp2_with fail
    go_ret
    exact ⟨congrArg (fun x => Ending.returned (.bool x)) Ha.out, hb⟩
theorem hard1_calls (x : Ch) (w : World) : Calls Tryd.prog 40 #[chV x] w (FPost x.q w) := by
  go_enter Tryd.func40, Tryd.ntmps40
  go_wp2_with fail
  go_ret
  exact ⟨rfl, (Below.refl _ _).alloc (Nat.le_refl _) _⟩
theorem hard2_calls (x : Ch) (w : World) : Calls Tryd.prog 41 #[chV x] w (FPost (!x.q) w) := by
  go_enter Tryd.func41, Tryd.ntmps41
  go_wp2_with fail
  go_ret
  exact ⟨rfl, (Below.refl _ _).alloc (Nat.le_refl _) _⟩
def HardPost (t : List Ch) (w : World) (e : Ending) (w' : World) : Prop := e = .returned (.tuple #[.bool (t.any (·.q)), .bool (t.all (·.q))]) ∧ Below w.heap.size w w'
set_option maxHeartbeats 1000000 in
theorem hard_calls (t : List Ch) (ao : Option Addr) (cap : Nat) (w : World) (h : CharsAt w ao cap t) (hm : t.length ≤ 100000) :
    Calls Tryd.prog 19 #[.slice ao t.length cap] w (HardPost t w) := by
  have h1 := Lib.hid (contains_calls 40 (·.q) (enters_of Tryd.func40 (by kernel_rfl) rfl) hard1_calls t ao cap w h hm)
  have h2 := Lib.hid (fun w' (k : Kept w w') => contains_calls 41 (fun c => !c.q) (enters_of Tryd.func41 (by kernel_rfl) rfl) hard2_calls t ao cap w' (h.keep k) hm)
  have h3 : (!t.any fun c => !c.q) = t.all (·.q) := by rw [List.all_eq_not_any_not]
  have H3 := Lib.hid h3
  clear h h3
  go_enter Tryd.func19, Tryd.ntmps19
  go_wp2_with fail
  refine h1.out.mono ?_
  rintro e w2 ⟨rfl, hb2⟩
  go_wp2_with fail
  refine (h2.out w2 (Kept.below hb2)).mono ?_
  rintro e w3 ⟨rfl, hb3⟩
  go_wp2_with fail
  go_ret2
  exact ⟨by rw [← H3.out]; rfl, hb2.trans (hb3.mono hb2.size)⟩
/-- A marked text of a call's own. -/
abbrev chA (p : Option Addr) (cap : Nat) (t : List Ch) : Hp := arr 37 2 p t.length cap (chCells t)
theorem chA_at {w : World} {p : Option Addr} {cap : Nat} {l : List Ch} {S : Hp} (h : Sat w (chA p cap l * S)) : CharsAt w p cap l := by
  obtain ⟨h1, h2, h3⟩ := h.arr_len
  refine ⟨h2, by unfold maxLen at h3; omega, fun j hj => ?_⟩
  obtain ⟨b, o, rfl⟩ := h.arr_addr (by omega)
  obtain ⟨g0, g1⟩ := chCells_get l j hj
  have hl := chCells_length l
  refine ⟨b, o, rfl, ?_, ?_, ?_⟩
  · obtain ⟨cur, _, _, _, _, _, _, h'⟩ := h.arr_some; exact h'.lt
  · rw [h.arr_cell (j * 2) (by omega)]; rw [List.getElem?_eq_getElem (by omega)] at g0; exact g0
  · rw [Nat.add_assoc, h.arr_cell (j * 2 + 1) (by omega)]; rw [List.getElem?_eq_getElem (by omega)] at g1; exact g1
theorem srcCh {w : World} {ao : Option Addr} {cap : Nat} {t : List Ch} (h : CharsAt w ao cap t) : Src Tryd.prog 2 22 (.slice ao t.length cap) t.length (chCells t) w := by
  cases ao with
  | none =>
    have h0 : t = [] := by
      cases t with
      | nil => rfl
      | cons c t => obtain ⟨b, o, e, _⟩ := h.2.2 0 (by simp); cases e
    subst h0
    exact Src.ofNil w Tryd.underlying22 cap
  | some a =>
    refine Src.ofSlice w Tryd.underlying22 a t.length cap (chCells t) (chCells_length t) (fun j u hj => ?_) (fun u hu => ?_)
    · have hl := chCells_length t
      have hj2 : j < t.length * 2 := by rw [← hl]; exact (List.getElem?_eq_some_iff.1 hj).1
      obtain ⟨b, o, e, hb, c0, c1⟩ := h.2.2 (j / 2) (by omega)
      simp only [Option.some.injEq] at e
      subst e
      rw [Addr.add_lit]
      obtain ⟨g0, g1⟩ := chCells_get t (j / 2) (by omega)
      rcases Nat.mod_two_eq_zero_or_one j with m | m
      · have ej : j = j / 2 * 2 := by omega
        rw [ej] at hj
        rw [hj] at g0
        rw [ej, c0]; exact g0.symm
      · have ej : j = j / 2 * 2 + 1 := by omega
        rw [ej] at hj
        rw [hj] at g1
        rw [ej, ← Nat.add_assoc, c1]; exact g1.symm
    · unfold chCells at hu
      obtain ⟨c, _, hc⟩ := List.mem_flatMap.1 hu
      simp only [List.mem_cons, List.not_mem_nil, or_false] at hc
      rcases hc with rfl | rfl <;> rfl
theorem appCh {w : World} {H : Hp} {ops : Array Oper} {rest : List Oper} {o : Oper} {a : Act} {Q : Exit → Act → World → Prop} (hgd : o.guard = none) (s x : Operand)
    (ho : o.op = .call { callee := .builtin .append, args := #[s, x], argTypes := #[22, 22] })
    (p : Option Addr) (n cap : Nat) (xs : List Value) (hp : a.eval s = .slice p n cap) (vx : Value) (hvx : a.eval x = vx) (m : Nat) (news : List Value) (hs : Src Tryd.prog 2 22 vx m news w) (h : Sat w (arr 37 2 p n cap xs * H)) (hn : n + m ≤ 1000000000)
    (hk : ∀ p' cap' w', Sat w' (arr 37 2 p' (n + m) cap' (xs ++ news) * H) → Ran w w' → wpList Tryd.prog ops Q rest (a.put o.dst (.slice p' (n + m) cap')) w') : wpList Tryd.prog ops Q (o :: rest) a w := by
  obtain ⟨i0, hi, hz0, hz1, hz2⟩ := info_parts infoCh
  exact wpList_append_arr hgd s x _ _ ho 37 i0 _ 2 2 Tryd.underlying22 hi hz0 hz1 hz2 rfl p n cap xs hp h _ hvx m news (by rw [hz1]; exact hs) (by omega) (by unfold maxLen; omega) (fun p' cap' w' h1 h2 _ => hk p' cap' w' h1 h2)
theorem src1 {w : World} {b : Nat} {c : Ch} (hb : w.heap[b]? = some (.cells #[.int .u8 c.b.toNat, .bool c.q] 37 (0, 0))) : Src Tryd.prog 2 22 (.slice (some ⟨b, 0, none⟩) 1 1) 1 [.int .u8 c.b.toNat, .bool c.q] w := by
  refine Src.ofSlice w Tryd.underlying22 ⟨b, 0, none⟩ 1 1 _ rfl (fun j u hj => ?_) (by simp [Value.oneCell'])
  rw [Addr.add_lit, Nat.zero_add, cell_at hb, ← hj]
  simp
def OwnPost (t : List Ch) (S : Hp) (e : Ending) (w' : World) : Prop := ∃ p cap, e = .returned (.slice p t.length cap) ∧ Sat w' (chA p cap t * S)
set_option maxRecDepth 100000 in
set_option maxHeartbeats 1000000 in
theorem clone_calls (t : List Ch) (ao : Option Addr) (cap : Nat) (w : World) (S : Hp) (hrd : ∀ W S', Sat W (S * S') → CharsAt W ao cap t) (h : Sat w S) (hm : t.length ≤ 1000000) :
    Calls Tryd.prog 44 #[.slice ao t.length cap] w fun e w' => OwnPost t S e w' ∧ Ran w w' := by
  have hat := hrd w emp (h.perm (by rw [sep_emp]))
  cases ao with
  | none =>
    have h0 : t = [] := by
      cases t with
      | nil => rfl
      | cons c t => obtain ⟨b, o, e, _⟩ := hat.2.2 0 (by simp); cases e
    subst h0
    have H := Lib.hid h
    have hq := fun W => Lib.run_eql_slice_nil (P := Tryd.prog) W 22 37 none 0 cap 0 0 Tryd.underlying22
    clear h hrd hat
    go_enter Tryd.func44, Tryd.ntmps44
    go_wp2_with fail
    go_ret
    exact ⟨⟨none, 0, rfl, by show Sat _ (arr 37 2 none 0 0 [] * S); exact H.out.nil_arr _ _⟩, Below.refl 0 w⟩
  | some a =>
    have hq := fun W => Lib.run_eql_slice_nil (P := Tryd.prog) W 22 37 (some a) t.length cap 0 0 Tryd.underlying22
    have H1 := h.alloc (.cells #[] 37 (0, 0))
    have H2 : Sat (w.alloc (.cells #[] 37 (0, 0))) (arr 37 2 (some ⟨w.heap.size, 0, none⟩) 0 0 [] * S) := Sat.arr_mk (Nat.le_refl _) (Nat.zero_le _) (by simp) (by simp) (fun j hj => by simp at hj) H1
    have hsrc := Lib.hid (srcCh (hrd _ _ (H2.perm (show _ = S * arr 37 2 (some ⟨w.heap.size, 0, none⟩) 0 0 [] by ac_rfl))))
    have R1 := Ran.new (Below.refl 0 w) (.cells #[] 37 (0, 0))
    have hm2 : 0 + t.length ≤ 1000000000 := by omega
    have hl : 0 + t.length = t.length := Nat.zero_add _
    have Hl := Lib.hid hl
    clear h hrd hat H1 hl
    go_enter Tryd.func44, Tryd.ntmps44
    go_wp2_with (at_builtin; go_loud (refine appCh rfl _ _ rfl _ 0 0 [] rfl _ rfl t.length _ hsrc.out H2 hm2 ?_; intro p' cap' w6 T6 R6; clear H2))
    go_ret
    refine ⟨⟨p', cap', ?_, ?_⟩, Below.trans R1 R6⟩
    · rfl
    · rw [Hl.out, List.nil_append] at T6
      exact T6
end Go.Proofs.YtlpfcnpdecoblaaDoor.Marks
