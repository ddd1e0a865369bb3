/- HandlesPlays, part 9 of 26: the texts GlL PaP PaB PaC PaD, joined by a program. -/
import Derived.Test.YtndjgeohkfenfaaGreatDoorPq8
import Derived.Test.YtndjgeohkfenfaaGreatDoorPq1
import Derived.Test.YtndjgeohkfenfaaGreatDoorPq2
import Derived.Deep.CutBlock
import Derived.Deep.RegionLaw
import Derived.Shelf.Abstract
namespace Go.Proofs.YtndjgeohkfenfaaGreatDoor.Globs
open Go.RowKit Go.Proofs.YtndjgeohkfenfaaGreatDoor Go.Proofs.YtndjgeohkfenfaaGreatDoor.Hp
set_option linter.unusedVariables false

def specialB (p : List Itm) : Bool := p.any fun x => !(x.kind == 1)
theorem specialB_no {p : List Itm} (h : ∀ i (h : i < p.length), p[i].kind = 1) : specialB p = false := by
  unfold specialB
  rw [List.any_eq_false]
  intro x hx
  obtain ⟨i, hi, rfl⟩ := List.mem_iff_getElem.1 hx
  simp [h i hi]
theorem specialB_yes {p : List Itm} {i : Nat} (hi : i < p.length) (h : p[i].kind ≠ 1) : specialB p = true := by
  unfold specialB
  rw [List.any_eq_true]
  exact ⟨p[i], List.getElem_mem hi, by simpa using h⟩
def SpRel (p : List Itm) (w : World) (g : Nat) (iv : Value) (wr : World) : Prop :=
  ∃ i : Nat, i + g = p.length ∧ iv = .int .i64 (i : Int) ∧ (∀ j (h : j < p.length), j < i → p[j].kind = 1) ∧ Below w.heap.size w wr
set_option maxHeartbeats 1000000 in
theorem special_calls (p : List Itm) (ao : Option Addr) (cap : Nat) (w : World) (h : ItemsAt w ao p) :
    Calls Tryz.prog 45 #[.slice ao p.length cap] w (FPost (specialB p) w) := by
  have hpl := h.1
  go_enter Tryz.func45, Tryz.ntmps45
  go_wp2_with fail
  go_loopg [7] (p.length) (SpRel p w)
  case atStart => exact ⟨0, by omega, rfl, fun j _ hj => absurd hj (Nat.not_lt_zero j), Below.refl _ _⟩
  case round =>
    obtain ⟨i, hig, rfl, hno, hbel⟩ := hrel
    have hi0 : (0 : Int) ≤ i := by omega
    have hW := h.keep (Kept.below hbel)
    by_cases hi : i < p.length
    · have hil : (i : Int) < p.length := by omega
      obtain ⟨b, o, ra, rc, rfl, hb, c0, c1, c2, c3, hr⟩ := hW.2 i hi
      obtain ⟨x, hx⟩ : ∃ x, x = p[i] := ⟨_, rfl⟩
      rw [← hx] at c0 c1 c2 c3
      have Hx := Lib.hid hx
      have Hig := Lib.hid hig
      have Hno := Lib.hid hno
      have hB2 := hbel.alloc hbel.size (.cells #[.int .i64 x.kind, .int .u8 x.b.toNat, .bool x.neg, .slice ra x.rs.length rc] 118)
      clear hx hig hno h hW hr
      by_cases hk : x.kind = 1
      · have hkb : (x.kind == 1) = true := by rw [beq_iff_eq]; exact hk
        have Hk := Lib.hid hk
        clear hk
        go_wp2_with fail
        go_roundg (gk - 1)
        case measure => have := Hig.out; omega
        case rel => exact ⟨i + 1, by have := Hig.out; omega, by go_num, fun j hj hj2 => by
          rcases Nat.lt_or_ge j i with h4 | h4
          · exact Hno.out j hj h4
          · obtain rfl : j = i := by omega
            rw [← Hx.out]; exact Hk.out, hB2⟩
      · have hkb : (x.kind == 1) = false := by rw [beq_eq_false_iff_ne]; exact hk
        have hfin := specialB_yes hi (by rw [← Hx.out]; exact hk)
        have Hfin := Lib.hid hfin
        clear hk hfin
        go_wp2_with fail
        go_ret
        exact ⟨show Ending.returned (.bool true) = _ by rw [Hfin.out], hB2⟩
    · have hge : ¬ ((i : Int) < p.length) := by omega
      have Hfin := Lib.hid (specialB_no fun j hj => hno j hj (by omega))
      clear hno h hW
      go_wp2_with fail
      go_ret
      exact ⟨show Ending.returned (.bool false) = _ by rw [Hfin.out], hbel⟩

end Go.Proofs.YtndjgeohkfenfaaGreatDoor.Globs

namespace Go.Proofs.YtndjgeohkfenfaaGreatDoor.Globs
set_option linter.unusedVariables false

/-- What stands between strokes; now: what stands ahead. -/
def partsA (now : List Ch) : List Ch → List (List Ch)
  | [] => if now = [] then [] else [now]
  | c :: t => if (c.b == 47) = true then (if now = [] then partsA [] t else now :: partsA [] t) else partsA (now ++ [c]) t
def partsL (t : List Ch) : List (List Ch) := partsA [] t
theorem partsA_none : ∀ (t now : List Ch), (∀ x ∈ t, (x.b == 47) = false) → partsA now t = if now ++ t = [] then [] else [now ++ t]
  | [], now, _ => by rw [List.append_nil]; rfl
  | c :: t, now, h => by
    show (if (c.b == 47) = true then _ else partsA (now ++ [c]) t) = _
    rw [h c List.mem_cons_self, if_neg (by decide), partsA_none t (now ++ [c]) fun x hx => h x (List.mem_cons_of_mem _ hx), List.append_assoc]
    rfl
theorem partsA_some : ∀ (t now : List Ch) (j : Nat) (hj : j < t.length), (t[j].b == 47) = true → (∀ i (hi : i < t.length), i < j → (t[i].b == 47) = false) →
    partsA now t = (if now ++ t.take j = [] then [] else [now ++ t.take j]) ++ partsL (t.drop (j + 1))
  | [], _, j, hj, _, _ => by simp at hj
  | c :: t, now, 0, hj, h1, _ => by
    have h1' : (c.b == 47) = true := h1
    show (if (c.b == 47) = true then (if now = [] then partsA [] t else now :: partsA [] t) else _) = _
    rw [if_pos h1', List.take_zero, List.append_nil]
    by_cases hn : now = []
    · rw [if_pos hn, if_pos hn]; rfl
    · rw [if_neg hn, if_neg hn]; rfl
  | c :: t, now, j + 1, hj, h1, h2 => by
    have h0 : (c.b == 47) = false := h2 0 (by simp) (by omega)
    show (if (c.b == 47) = true then _ else partsA (now ++ [c]) t) = _
    rw [h0, if_neg (by decide), partsA_some t (now ++ [c]) j (by simpa using hj) (by simpa using h1) (fun i hi hij => by have := h2 (i + 1) (by simpa using hi) (by omega); simpa using this), List.append_assoc]
    rfl
theorem parts_none (t : List Ch) (h : ∀ x ∈ t, (x.b == 47) = false) : partsL t = if t = [] then [] else [t] := by
  have := partsA_none t [] h
  rw [List.nil_append] at this
  exact this
theorem parts_some (t : List Ch) (j : Nat) (hj : j < t.length) (h1 : (t[j].b == 47) = true) (h2 : ∀ i (hi : i < t.length), i < j → (t[i].b == 47) = false) :
    partsL t = (if j = 0 then [] else [t.take j]) ++ partsL (t.drop (j + 1)) := by
  have := partsA_some t [] j hj h1 h2
  rw [List.nil_append] at this
  rw [show partsL t = partsA [] t from rfl, this]
  congr 1
  by_cases h0 : j = 0
  · rw [if_pos h0, if_pos (by rw [h0]; rfl)]
  · rw [if_neg h0, if_neg (by
      intro e
      have := congrArg List.length e
      rw [List.length_take, Nat.min_eq_left (by omega)] at this
      exact h0 this)]
/-- Rows of strokes are one; b: does a stroke stand ahead? -/
def sgA (b : Bool) : List Ch → List Ch
  | [] => []
  | c :: t => if (b && (c.b == 47)) = true then sgA true t else c :: sgA (c.b == 47) t
def singleL (t : List Ch) : List Ch := sgA false t
theorem sgA_len : ∀ (t : List Ch) (b : Bool), (sgA b t).length ≤ t.length
  | [], _ => Nat.le_refl _
  | c :: t, b => by
    show (if (b && (c.b == 47)) = true then sgA true t else c :: sgA (c.b == 47) t).length ≤ t.length + 1
    split
    · have := sgA_len t true; omega
    · have := sgA_len t (c.b == 47); rw [List.length_cons]; omega
/-- The same of bytes. -/
def sgB (b : Bool) : List UInt8 → List UInt8
  | [] => []
  | c :: t => if (b && (c == 47)) = true then sgB true t else c :: sgB (c == 47) t
theorem sg_marks : ∀ (l : List UInt8) (b q : Bool), (sgA b (l.map fun x => (⟨x, q⟩ : Ch))).map (·.b) = sgB b l
  | [], _, _ => rfl
  | c :: t, b, q => by
    show (if (b && (c == 47)) = true then sgA true (t.map fun x => (⟨x, q⟩ : Ch)) else (⟨c, q⟩ : Ch) :: sgA (c == 47) (t.map fun x => (⟨x, q⟩ : Ch))).map (·.b) = if (b && (c == 47)) = true then sgB true t else c :: sgB (c == 47) t
    split
    · exact sg_marks t true q
    · rw [List.map_cons, sg_marks t (c == 47) q]
/-- What is left of a text whose beginning has been gone through. -/
theorem sgA_snoc : ∀ (t : List Ch) (b : Bool) (c : Ch), sgA b (t ++ [c]) = sgA b t ++ if ((match t.getLast? with | none => b | some d => d.b == 47) && (c.b == 47)) = true then [] else [c]
  | [], b, c => by
    show (if (b && (c.b == 47)) = true then [] else [c]) = [] ++ _
    rfl
  | d :: t, b, c => by
    have e : (match (d :: t).getLast? with | none => b | some d => d.b == 47) = (match t.getLast? with | none => (d.b == 47) | some d => d.b == 47) := by
      cases t with
      | nil => rfl
      | cons x l => rw [List.getLast?_cons_cons]; rw [List.getLast?_cons]
    rw [e]
    show (if (b && (d.b == 47)) = true then sgA true (t ++ [c]) else d :: sgA (d.b == 47) (t ++ [c])) = (if (b && (d.b == 47)) = true then sgA true t else d :: sgA (d.b == 47) t) ++ _
    by_cases h : (b && (d.b == 47)) = true
    · rw [if_pos h, if_pos h, sgA_snoc t true c]
      have hd : (d.b == 47) = true := by simp at h; simpa using h.2
      rw [hd]
    · rw [if_neg h, if_neg h, sgA_snoc t (d.b == 47) c, List.cons_append]
end Go.Proofs.YtndjgeohkfenfaaGreatDoor.Globs

namespace Go.Proofs.YtndjgeohkfenfaaGreatDoor.Globs
open Go.RowKit Go.Proofs.YtndjgeohkfenfaaGreatDoor Go.Proofs.YtndjgeohkfenfaaGreatDoor.Hp
set_option linter.unusedVariables false
attribute [local go_sem] Oper.semAt_some

/-- Two marked bytes, compared. -/
abbrev chV (c : Ch) : Value := .agg #[.int .u8 c.b.toNat, .bool c.q]
/-- The place of the first that fits. -/
def idxI (p : Ch → Bool) (t : List Ch) : Int := match t.findIdx? p with
  | none => -1
  | some i => (i : Int)
theorem idx_none {p : Ch → Bool} {t : List Ch} (h : ∀ x ∈ t, p x = false) : idxI p t = -1 := by
  unfold idxI
  rw [List.findIdx?_eq_none_iff.2 h]
theorem idx_some {p : Ch → Bool} {t : List Ch} {j : Nat} (hj : j < t.length) (h1 : p t[j] = true) (h2 : ∀ i (hi : i < t.length), i < j → p t[i] = false) : idxI p t = (j : Int) := by
  unfold idxI
  rw [List.findIdx?_eq_some_iff_getElem.2 ⟨hj, h1, fun i hi => by simpa using h2 i (by omega) hi⟩]
theorem idx_cases (p : Ch → Bool) (t : List Ch) : (∀ x ∈ t, p x = false) ∨ ∃ j, ∃ hj : j < t.length, p t[j] = true ∧ ∀ i (hi : i < t.length), i < j → p t[i] = false := by
  cases h : t.findIdx? p with
  | none => exact .inl (List.findIdx?_eq_none_iff.1 h)
  | some j =>
    obtain ⟨hj, h1, h2⟩ := List.findIdx?_eq_some_iff_getElem.1 h
    exact .inr ⟨j, hj, h1, fun i hi hij => by simpa using h2 i hij⟩
def IdxPost (r : Int) (w : World) (e : Ending) (w' : World) : Prop := e = .returned (.int .i64 r) ∧ Below w.heap.size w w'
def IfRel (n : Nat) (w : World) (g : Nat) (iv : Value) (wr : World) : Prop := ∃ i : Nat, i + g = n ∧ 0 < g ∧ iv = .int .i64 (i : Int) ∧ Below w.heap.size w wr
set_option maxRecDepth 100000 in
set_option maxHeartbeats 2000000 in
theorem indexfunc_calls (fn : Nat) (p : Ch → Bool) (hen : ∀ args w, (callFunc fn args).run Tryz.prog w = .ok (.enter fn args) w) (hcl : ∀ (x : Ch) (w : World), Calls Tryz.prog fn #[chV x] w (FPost (p x) w)) (t : List Ch) (ao : Option Addr) (cap : Nat) (w : World) (h : CharsAt w ao cap t) (hm : t.length ≤ 100000) :
    Calls Tryz.prog 28 #[.slice ao t.length cap, .func (.func fn) #[] #[]] w (IdxPost (idxI p t) w) := by
  have hmm : (t.length : Int) ≤ 100000 := by omega
  have H := Lib.hid h
  have Hcl := Lib.hid hcl
  clear h hcl
  have key : ∀ (n : Nat) (r : Int), n ≤ t.length → (∀ i (hi : i < t.length), i < n → p t[i] = false) → ((n = t.length ∧ r = -1) ∨ ∃ hn : n < t.length, p t[n] = true ∧ r = (n : Int)) → Calls Tryz.prog 28 #[.slice ao t.length cap, .func (.func fn) #[] #[]] w (IdxPost r w) := by
    intro n r hn hno hend
    have Hno := Lib.hid hno
    have Hend := Lib.hid hend
    clear hno hend
    go_enter Tryz.func28, Tryz.ntmps28
    go_wp2_with fail
    go_loopg [5, 8] (n + 1) (fun (g : Nat) (_ : Value) (iv : Value) (wr : World) => IfRel (n + 1) w g iv wr)
    case atStart => exact ⟨0, by omega, by omega, rfl, Below.refl _ _⟩
    case round =>
      obtain ⟨i, hig, hg0, rfl, hbel⟩ := hrel
      have hi0 : (0 : Int) ≤ i := by omega
      have K1 := Kept.below hbel
      have Hig := Lib.hid hig
      by_cases hin : i < n
      · have hi : i < t.length := by omega
        have hil : (i : Int) < (t.length : Int) := by omega
        obtain ⟨tb, o, rfl, htb, x0, x1⟩ := (H.out.keep K1).2.2 i hi
        have hne := Hno.out i hi hin
        obtain ⟨x, hx⟩ : ∃ x, x = t[i] := ⟨_, rfl⟩
        rw [← hx] at x0 x1 hne
        have hcall := Hcl.out x wr
        rw [hne] at hcall
        have Hcall := Lib.hid hcall
        clear hne hx hig hcall
        go_wp2_with fail
        refine Hcall.out.mono ?_
        rintro e w2 ⟨rfl, hb2⟩
        go_wp2_with fail
        go_roundg (gk - 1)
        case measure => omega
        case rel => exact ⟨i + 1, by have := Hig.out; omega, by have := Hig.out; omega, rfl, hbel.trans (hb2.mono hbel.size)⟩
      · have hin2 : i = n := by omega
        subst hin2
        rcases Hend.out with ⟨h1, h2⟩ | ⟨hi, h1, h2⟩
        · have hge : ¬ ((i : Int) < (t.length : Int)) := by omega
          rw [h2]
          clear hig Hend
          go_wp2_with fail
          go_ret
          exact ⟨rfl, hbel⟩
        · have hil : (i : Int) < (t.length : Int) := by omega
          obtain ⟨tb, o, rfl, htb, x0, x1⟩ := (H.out.keep K1).2.2 i hi
          have hcall := Hcl.out t[i] wr
          rw [h1] at hcall
          obtain ⟨x, hx⟩ : ∃ x, x = t[i] := ⟨_, rfl⟩
          rw [← hx] at x0 x1 hcall
          have Hcall := Lib.hid hcall
          rw [h2]
          clear hig Hend h1 h2 hx hcall
          go_wp2_with fail
          refine Hcall.out.mono ?_
          rintro e w2 ⟨rfl, hb2⟩
          go_wp2_with fail
          go_ret
          exact ⟨rfl, hbel.trans (hb2.mono hbel.size)⟩
  rcases idx_cases p t with h | ⟨j, hj, h1, h2⟩
  · rw [idx_none h]
    exact key t.length (-1) (Nat.le_refl _) (fun i hi _ => h _ (List.getElem_mem hi)) (.inl ⟨rfl, rfl⟩)
  · rw [idx_some hj h1 h2]
    exact key j j (Nat.le_of_lt hj) h2 (.inr ⟨hj, h1, rfl⟩)
/-- A marked text of a call's own. -/
abbrev chA (p : Option Addr) (cap : Nat) (t : List Ch) : Hp := arr 63 2 p t.length cap (chCells t)
theorem chA_at {w : World} {p : Option Addr} {cap : Nat} {l : List Ch} {S : Hp} (h : Sat w (chA p cap l * S)) : CharsAt w p cap l := by
  obtain ⟨h1, h2, h3⟩ := h.arr_len
  refine ⟨h2, by unfold maxLen at h3; omega, fun j hj => ?_⟩
  obtain ⟨b, o, rfl⟩ := h.arr_addr (by omega)
  obtain ⟨g0, g1⟩ := chCells_get l j hj
  have hl := chCells_length l
  refine ⟨b, o, rfl, ?_, ?_, ?_⟩
  · obtain ⟨cur, _, _, _, _, _, _, h'⟩ := h.arr_some; exact h'.lt
  · rw [h.arr_cell (j * 2) (by omega)]; rw [List.getElem?_eq_getElem (by omega)] at g0; exact g0
  · rw [Nat.add_assoc, h.arr_cell (j * 2 + 1) (by omega)]; rw [List.getElem?_eq_getElem (by omega)] at g1; exact g1
theorem srcCh {w : World} {ao : Option Addr} {cap : Nat} {t : List Ch} (h : CharsAt w ao cap t) : Src Tryz.prog 2 22 (.slice ao t.length cap) t.length (chCells t) w := by
  cases ao with
  | none =>
    have h0 : t = [] := by
      cases t with
      | nil => rfl
      | cons c t => obtain ⟨b, o, e, _⟩ := h.2.2 0 (by simp); cases e
    subst h0
    exact Src.ofNil w Tryz.underlying22 cap
  | some a =>
    refine Src.ofSlice w Tryz.underlying22 a t.length cap (chCells t) (chCells_length t) (fun j u hj => ?_) (fun u hu => ?_)
    · have hl := chCells_length t
      have hj2 : j < t.length * 2 := by rw [← hl]; exact (List.getElem?_eq_some_iff.1 hj).1
      obtain ⟨b, o, e, hb, c0, c1⟩ := h.2.2 (j / 2) (by omega)
      simp only [Option.some.injEq] at e
      subst e
      rw [Addr.add_lit]
      obtain ⟨g0, g1⟩ := chCells_get t (j / 2) (by omega)
      rcases Nat.mod_two_eq_zero_or_one j with m | m
      · have ej : j = j / 2 * 2 := by omega
        rw [ej] at hj
        rw [hj] at g0
        rw [ej, c0]; exact g0.symm
      · have ej : j = j / 2 * 2 + 1 := by omega
        rw [ej] at hj
        rw [hj] at g1
        rw [ej, ← Nat.add_assoc, c1]; exact g1.symm
    · unfold chCells at hu
      obtain ⟨c, _, hc⟩ := List.mem_flatMap.1 hu
      simp only [List.mem_cons, List.not_mem_nil, or_false] at hc
      rcases hc with rfl | rfl <;> rfl
theorem appCh {w : World} {H : Hp} {ops : Array Oper} {rest : List Oper} {o : Oper} {a : Act} {Q : Exit → Act → World → Prop} (hgd : o.guard = none) (s x : Operand)
    (ho : o.op = .call { callee := .builtin .append, args := #[s, x], argTypes := #[22, 22] })
    (p : Option Addr) (n cap : Nat) (xs : List Value) (hp : a.eval s = .slice p n cap) (vx : Value) (hvx : a.eval x = vx) (m : Nat) (news : List Value) (hs : Src Tryz.prog 2 22 vx m news w) (h : Sat w (arr 63 2 p n cap xs * H)) (hn : n + m ≤ 1000000000)
    (hk : ∀ p' cap' w', Sat w' (arr 63 2 p' (n + m) cap' (xs ++ news) * H) → Ran w w' → wpList Tryz.prog ops Q rest (a.put o.dst (.slice p' (n + m) cap')) w') : wpList Tryz.prog ops Q (o :: rest) a w := by
  obtain ⟨i0, hi, hz0, hz1, hz2⟩ := info_parts infoCh
  exact wpList_append_arr hgd s x _ _ ho 63 i0 _ 2 2 Tryz.underlying22 hi hz0 hz1 hz2 rfl p n cap xs hp h _ hvx m news (by rw [hz1]; exact hs) (by omega) (by unfold maxLen; omega) (fun p' cap' w' h1 h2 _ => hk p' cap' w' h1 h2)
def OwnPost (t : List Ch) (S : Hp) (e : Ending) (w' : World) : Prop := ∃ p cap, e = .returned (.slice p t.length cap) ∧ Sat w' (chA p cap t * S)
set_option maxRecDepth 100000 in
set_option maxHeartbeats 1000000 in
theorem clone_calls (t : List Ch) (ao : Option Addr) (cap : Nat) (w : World) (S : Hp) (hrd : ∀ W S', Sat W (S * S') → CharsAt W ao cap t) (h : Sat w S) (hm : t.length ≤ 1000000) :
    Calls Tryz.prog 30 #[.slice ao t.length cap] w fun e w' => OwnPost t S e w' ∧ Ran w w' := by
  have hat := hrd w emp (h.perm (by rw [sep_emp]))
  cases ao with
  | none =>
    have h0 : t = [] := by
      cases t with
      | nil => rfl
      | cons c t => obtain ⟨b, o, e, _⟩ := hat.2.2 0 (by simp); cases e
    subst h0
    have H := Lib.hid h
    have hq := fun W => Lib.run_eql_slice_nil (P := Tryz.prog) W 22 63 none 0 cap 0 0 Tryz.underlying22
    clear h hrd hat
    go_enter Tryz.func30, Tryz.ntmps30
    go_wp2_with fail
    go_ret
    exact ⟨⟨none, 0, rfl, by show Sat _ (arr 63 2 none 0 0 [] * S); exact H.out.nil_arr _ _⟩, Below.refl 0 w⟩
  | some a =>
    have hq := fun W => Lib.run_eql_slice_nil (P := Tryz.prog) W 22 63 (some a) t.length cap 0 0 Tryz.underlying22
    have H1 := h.alloc (.cells #[] 63 (0, 0))
    have H2 : Sat (w.alloc (.cells #[] 63 (0, 0))) (arr 63 2 (some ⟨w.heap.size, 0, none⟩) 0 0 [] * S) := Sat.arr_mk (Nat.le_refl _) (Nat.zero_le _) (by simp) (by simp) (fun j hj => by simp at hj) H1
    have hsrc := Lib.hid (srcCh (hrd _ _ (H2.perm (show _ = S * arr 63 2 (some ⟨w.heap.size, 0, none⟩) 0 0 [] by ac_rfl))))
    have R1 := Ran.new (Below.refl 0 w) (.cells #[] 63 (0, 0))
    have hm2 : 0 + t.length ≤ 1000000000 := by omega
    have hl : 0 + t.length = t.length := Nat.zero_add _
    have Hl := Lib.hid hl
    clear h hrd hat H1 hl
    go_enter Tryz.func30, Tryz.ntmps30
    go_wp2_with (at_builtin; go_loud (refine appCh rfl _ _ rfl _ 0 0 [] rfl _ rfl t.length _ hsrc.out H2 hm2 ?_; intro p' cap' w6 T6 R6; clear H2))
    go_ret
    refine ⟨⟨p', cap', ?_, ?_⟩, Below.trans R1 R6⟩
    · rfl
    · rw [Hl.out, List.nil_append] at T6
      exact T6
theorem kept_of {w W : World} {S : Hp} (h : Sat W (S * keep w)) : Kept w W := by
  have hk := h.right.kept
  refine ⟨?_, hk⟩
  rcases Nat.lt_or_ge W.heap.size w.heap.size with hlt | hge
  · exfalso
    have h1 := hk W.heap.size hlt
    rw [Array.getElem?_eq_none (Nat.le_refl _), Array.getElem?_eq_getElem hlt] at h1
    cases h1
  · exact hge
/-- A marked text and where it lies. -/
structure Rw where
  p : Option Addr
  cap : Nat
  L : List Ch
def rwV (x : Rw) : Value := .slice x.p x.L.length x.cap
def rwA (x : Rw) : Hp := chA x.p x.cap x.L
theorem infoRw : (Tryz.prog.info? 22).map (fun i => (i.zero, i.size, i.bytes)) = some (some (.slice none 0 0), 1, 24) := by kernel_rfl
theorem appRw {w : World} {H : Hp} {ops : Array Oper} {rest : List Oper} {o : Oper} {a : Act} {Q : Exit → Act → World → Prop} (hgd : o.guard = none) (s x : Operand)
    (ho : o.op = .call { callee := .builtin .append, args := #[s, x], argTypes := #[24, 24] })
    (p : Option Addr) (n cap : Nat) (xs : List Value) (hp : a.eval s = .slice p n cap) (b : Nat) (hvx : a.eval x = .slice (some ⟨b, 0, none⟩) 1 1) (h : Sat w (arr 22 1 p n cap xs * H)) (v : Value) (hb : w.heap[b]? = some (.cells #[v] 22 (0, 0))) (h0 : v.oneCell' = true) (hn : n ≤ 1000000000)
    (hk : ∀ p' cap' w', Sat w' (arr 22 1 p' (n + 1) cap' (xs ++ [v]) * H) → Ran w w' → wpList Tryz.prog ops Q rest (a.put o.dst (.slice p' (n + 1) cap')) w') : wpList Tryz.prog ops Q (o :: rest) a w := by
  obtain ⟨i0, hi, hz0, hz1, hz2⟩ := info_parts infoRw
  refine wpList_append_arr hgd s x _ _ ho 22 i0 _ 1 24 Tryz.underlying24 hi hz0 hz1 hz2 rfl p n cap xs hp h _ hvx 1 [v] (Src.ofSlice w Tryz.underlying24 ⟨b, 0, none⟩ 1 1 [v] (by rw [hz1]; rfl) ?_ (by simp [h0])) (by omega) (by unfold maxLen; omega) (fun p' cap' w' h1 h2 _ => hk p' cap' w' h1 h2)
  intro j u hj
  rw [Addr.add_lit, Nat.zero_add, cell_at hb, ← hj]
  simp
/-- Rows of a call's own, in a slice of its own. -/
def rowsA (p : Option Addr) (cap : Nat) (rs : List Rw) : Hp := arr 22 1 p rs.length cap (rs.map rwV) * all rwA rs
/-- Rows that lie in memory. -/
def RowsAt (w : World) (lo : Option Addr) (rs : List Rw) : Prop := ∀ i (h : i < rs.length), ∃ b o, lo = some ⟨b, o, none⟩ ∧ w.cell? ⟨b, o + i, none⟩ = some (rwV rs[i]) ∧ CharsAt w rs[i].p rs[i].cap rs[i].L
theorem RowsAt.keep {w W : World} {lo : Option Addr} {rs : List Rw} (h : RowsAt w lo rs) (k : Kept w W) : RowsAt W lo rs := fun i hi => by
  obtain ⟨b, o, e, hc, hr⟩ := h i hi
  exact ⟨b, o, e, (k.cell (World.block_lt_of_cell? w _ hc) _).trans hc, hr.keep k⟩
theorem rows_of {w : World} {p : Option Addr} {cap : Nat} {rs : List Rw} {S : Hp} (h : Sat w (rowsA p cap rs * S)) : RowsAt w p rs := fun i hi => by
  unfold rowsA at h
  rw [sep_assoc] at h
  have hl := h.arr_len
  obtain ⟨b, o, rfl⟩ := h.arr_addr (by omega)
  refine ⟨b, o, rfl, ?_, ?_⟩
  · rw [h.arr_cell i (by rw [List.length_map]; exact hi), List.getElem_map]
  · have h2 := h.right
    rw [all_split rwA rs i hi, sep_assoc] at h2
    exact chA_at h2
end Go.Proofs.YtndjgeohkfenfaaGreatDoor.Globs

namespace Go.Proofs.YtndjgeohkfenfaaGreatDoor.Globs
open Go.RowKit Go.Proofs.YtndjgeohkfenfaaGreatDoor Go.Proofs.YtndjgeohkfenfaaGreatDoor.Hp
set_option linter.unusedVariables false
attribute [local go_sem] Oper.semAt_some

theorem parts1_calls (x : Ch) (w : World) : Calls Tryz.prog 29 #[chV x] w (FPost (x.b == 47) w) := by
  have h := u8_lit x.b 47 (by omega)
  have h2 : (((x.b.toNat : Nat) : Int) == 47) = (x.b == 47) := h
  go_enter Tryz.func29, Tryz.ntmps29
  go_wp2_with fail
  go_ret
  exact ⟨by rw [← h2]; rfl, (Below.refl _ _).alloc (Nat.le_refl _) _⟩
/-- A marked text that can be read wherever S is true. -/
def Rd (S : Hp) (ao : Option Addr) (cap : Nat) (t : List Ch) : Prop := ∀ W S', Sat W (S * S') → CharsAt W ao cap t
def PsRel (t : List Ch) (S : Hp) (w : World) (g : Nat) (tv ov : Value) (wr : World) : Prop :=
  ∃ (ao : Option Addr) (cap : Nat) (u : List Ch) (p : Option Addr) (pc : Nat) (rs : List Rw), u.length = g ∧ tv = .slice ao u.length cap ∧ ov = .slice p rs.length pc ∧ Rd S ao cap u ∧ partsL t = rs.map Rw.L ++ partsL u ∧ rs.length + u.length ≤ t.length ∧ Sat wr (rowsA p pc rs * S) ∧ Ran w wr
def PartsPost (t : List Ch) (S : Hp) (w : World) (e : Ending) (w' : World) : Prop := (∃ p cap rs, e = .returned (.slice p (List.length rs) cap) ∧ rs.map Rw.L = partsL t ∧ Sat w' (rowsA p cap rs * S)) ∧ Ran w w'
theorem rows_snoc {w : World} {p : Option Addr} {cap : Nat} {rs : List Rw} {q : Option Addr} {qc m : Nat} {u : List Ch} {S : Hp} (hu : u.length = m) (h : Sat w (arr 22 1 p (rs.length + 1) cap (rs.map rwV ++ [.slice q m qc]) * (all rwA rs * (chA q qc u * S)))) : Sat w (rowsA p cap (rs ++ [⟨q, qc, u⟩]) * S) := by
  subst hu
  unfold rowsA
  rw [List.length_append, List.map_append, all_append]
  exact h.perm (by show arr 22 1 p (rs.length + 1) cap (rs.map rwV ++ [.slice q u.length qc]) * _ = (arr 22 1 p (rs.length + 1) cap (rs.map rwV ++ [.slice q u.length qc]) * (_ * (chA q qc u * emp))) * _; rw [sep_emp]; ac_rfl)
set_option maxRecDepth 100000 in
set_option maxHeartbeats 4000000 in
theorem parts_calls (t : List Ch) (ao : Option Addr) (cap : Nat) (w : World) (S : Hp) (hrd : Rd S ao cap t) (h : Sat w S) (hm : t.length ≤ 100000) :
    Calls Tryz.prog 8 #[.slice ao t.length cap] w (PartsPost t S w) := by
  have H0 : Sat w (rowsA none 0 [] * S) := by
    have h1 : Sat w (arr 22 1 none 0 0 [] * S) := h.nil_arr _ _
    exact h1.perm (by unfold rowsA; show _ = (_ * emp) * _; rw [sep_emp]; rfl)
  have Hrd := Lib.hid hrd
  have H0 := Lib.hid H0
  clear h hrd
  go_enter Tryz.func8, Tryz.ntmps8
  go_wp2_with fail
  go_loopg [0, 3] (t.length) (fun (g : Nat) (tv ov : Value) (wr : World) => PsRel t S w g tv ov wr)
  case atStart => exact ⟨ao, cap, t, none, 0, [], rfl, rfl, rfl, Hrd.out, rfl, by simp, H0.out, Below.refl _ _⟩
  case round =>
    clear H0
    obtain ⟨ao', cap', u, p, pc, rs, hg, rfl, rfl, hC, hpl, hlen, HS, HR⟩ := hrel
    by_cases hu : u.length = 0
    · have hu0 : u = [] := List.eq_nil_of_length_eq_zero hu
      subst hu0
      have Hpl := Lib.hid hpl
      have HS0 := Lib.hid HS
      clear hpl HS hg hC hlen hu
      go_wp2_with fail
      go_ret
      exact ⟨⟨p, pc, rs, rfl, by rw [Hpl.out]; exact (List.append_nil _).symm, HS0.out⟩, HR⟩
    have huI : (0 : Int) < (u.length : Int) := by omega
    have hum : (u.length : Int) ≤ 100000 := by omega
    have hat := hC wr (rowsA p pc rs) (HS.perm (by ac_rfl))
    have hfind := Lib.hid (indexfunc_calls 29 (fun c => c.b == 47) (enters_of Tryz.func29 (by kernel_rfl) rfl) parts1_calls u ao' cap' wr hat (by omega))
    have hrsl : rs.length ≤ 1000000000 := by omega
    have HC := Lib.hid hC
    have HS0 := Lib.hid HS
    have Hlen := Lib.hid hlen
    have Hg := Lib.hid hg
    have hcapI : (u.length : Int) ≤ (cap' : Int) := by have := hat.1; omega
    rcases idx_cases (fun c : Ch => c.b == 47) u with hno | ⟨j, hj, h1, h2⟩
    · rw [idx_none hno] at hfind
      have hfin := parts_none u hno
      rw [if_neg (fun e => hu (by rw [e]; rfl))] at hfin
      rw [hfin] at hpl
      have Hpl := Lib.hid hpl
      clear hno hfin hpl hC HS hg hlen hat hu
      have hmin : min ((u.length : Int) + 1) (u.length : Int) = (u.length : Int) := by omega
      have hsl : ∀ W, (Instr.slice 22 (.slice ao' u.length cap') (some (.int .i64 (u.length : Int))) none none).run Tryz.prog W = .ok (.slice (tailA ao' u.length cap' 2) (u.length - u.length) (cap' - u.length)) W := fun W => slice_from ao' u.length cap' u.length (Nat.le_refl _) W
      go_wp2_with fail
      refine hfind.out.mono ?_
      rintro e w2 ⟨rfl, hb2⟩
      have HS2 := HS0.out.below hb2
      have R2 : Ran w w2 := Below.trans HR (hb2.mono (Nat.zero_le _))
      have hcl := Lib.hid (clone_calls u ao' cap' w2 _ (fun W S' hs => HC.out W (rowsA p pc rs * S') (hs.perm (by ac_rfl))) HS2 (by have := Hlen.out; omega))
      clear HS2
      go_wp2_with fail
      refine hcl.out.mono ?_
      rintro e w3 ⟨⟨q, qc, rfl, HS3⟩, R3⟩
      have R4 := Below.trans R2 R3
      have HSB := (HS3.perm (show _ = arr 22 1 p rs.length pc (rs.map rwV) * (all rwA rs * (chA q qc u * S)) by unfold rowsA; ac_rfl)).old (.cells #[.slice q u.length qc] 22 (0, 0))
      have RB := Ran.new R4 (.cells #[.slice q u.length qc] 22 (0, 0))
      clear HS3 R3 hcl
      go_wp2_with (at_builtin; go_loud (refine appRw rfl _ _ rfl p rs.length pc _ rfl _ rfl HSB _ (block_new rfl) rfl hrsl ?_; intro p' cap2 w6 T6 R6; clear HSB))
      have Hrel := Lib.hid (show PsRel t S w 0 (.slice (tailA ao' u.length cap' 2) 0 (cap' - u.length)) (.slice p' (rs.length + 1) cap2) w6 from by
        refine ⟨_, _, [], p', cap2, rs ++ [⟨q, qc, u⟩], rfl, rfl, by rw [List.length_append]; rfl, fun W S' hs => ?_, ?_, ?_, rows_snoc rfl T6, Below.trans RB R6⟩
        · have := (HC.out W S' hs).tail u.length (Nat.le_refl _)
          rwa [List.drop_length] at this
        · rw [Hpl.out, List.map_append]; exact (List.append_nil _).symm
        · rw [List.length_append]; have := Hlen.out; simp; omega)
      clear T6 R6 RB
      go_roundg 0
      case measure => have := Hg.out; omega
      case rel => exact Hrel.out
    · rw [idx_some hj h1 h2] at hfind
      have hfin := parts_some u j hj h1 h2
      rw [hfin] at hpl
      have Hpl := Lib.hid hpl
      have hj0 : (0 : Int) ≤ (j : Int) := by omega
      have hj1 : ¬ ((j : Int) < 0) := by omega
      have hjl : (j : Int) < (u.length : Int) := by omega
      have hjc : (j : Int) ≤ (cap' : Int) := by omega
      have hjm : (j : Int) ≤ 100000 := by omega
      have htk : (u.take j).length = j := by rw [List.length_take]; omega
      have hmin : min ((j : Int) + 1) (u.length : Int) = (j : Int) + 1 := by omega
      have hsl : ∀ W, (Instr.slice 22 (.slice ao' u.length cap') (some (.int .i64 ((j : Int) + 1))) none none).run Tryz.prog W = .ok (.slice (tailA ao' (j + 1) cap' 2) (u.length - (j + 1)) (cap' - (j + 1))) W := fun W => slice_from ao' u.length cap' (j + 1) (by omega) W
      have hdl : (u.drop (j + 1)).length = u.length - (j + 1) := List.length_drop
      have Htk := Lib.hid htk
      have Hdl := Lib.hid hdl
      have Hj := Lib.hid hj
      clear h1 h2 hfin hpl hC HS hg hlen hat hu htk hdl hj
      by_cases hz : j = 0
      · have hjp : ¬ (0 : Int) < (j : Int) := by omega
        rw [if_pos hz] at Hpl
        have Hz := Lib.hid hz
        clear hz
        go_wp2_with fail
        refine hfind.out.mono ?_
        rintro e w2 ⟨rfl, hb2⟩
        have Hrel := Lib.hid (show PsRel t S w (u.length - (j + 1)) (.slice (tailA ao' (j + 1) cap' 2) (u.length - (j + 1)) (cap' - (j + 1))) (.slice p rs.length pc) w2 from by
          refine ⟨_, _, u.drop (j + 1), p, pc, rs, by rw [Hdl.out], by rw [Hdl.out], rfl, fun W S' hs => (HC.out W S' hs).tail (j + 1) (by have := Hj.out; omega), ?_, ?_, HS0.out.below hb2, Below.trans HR (hb2.mono (Nat.zero_le _))⟩
          · rw [Hpl.out]; rfl
          · rw [Hdl.out]; have := Hlen.out; omega)
        clear hb2
        go_wp2_with fail
        go_roundg (u.length - (j + 1))
        case measure => have := Hg.out; have := Hj.out; omega
        case rel => exact Hrel.out
      · have hjp : (0 : Int) < (j : Int) := by omega
        rw [if_neg hz] at Hpl
        clear hz
        go_wp2_with fail
        refine hfind.out.mono ?_
        rintro e w2 ⟨rfl, hb2⟩
        have HS2 := HS0.out.below hb2
        have R2 : Ran w w2 := Below.trans HR (hb2.mono (Nat.zero_le _))
        have hcl := clone_calls (u.take j) ao' cap' w2 _ (fun W S' hs => (HC.out W (rowsA p pc rs * S') (hs.perm (by ac_rfl))).take j) HS2 (by rw [Htk.out]; have := Hlen.out; omega)
        rw [Htk.out] at hcl
        have hcl := Lib.hid hcl
        clear HS2
        go_wp2_with fail
        refine hcl.out.mono ?_
        rintro e w3 ⟨⟨q, qc, he, HS3⟩, R3⟩
        rw [Htk.out] at he
        subst he
        have R4 := Below.trans R2 R3
        have HSB := (HS3.perm (show _ = arr 22 1 p rs.length pc (rs.map rwV) * (all rwA rs * (chA q qc (u.take j) * S)) by unfold rowsA; ac_rfl)).old (.cells #[.slice q j qc] 22 (0, 0))
        have RB := Ran.new R4 (.cells #[.slice q j qc] 22 (0, 0))
        clear HS3 R3 hcl
        go_wp2_with (at_builtin; go_loud (refine appRw rfl _ _ rfl p rs.length pc _ rfl _ rfl HSB _ (block_new rfl) rfl hrsl ?_; intro p' cap2 w6 T6 R6; clear HSB))
        have Hrel := Lib.hid (show PsRel t S w (gk - (j + 1)) (.slice (tailA ao' (j + 1) cap' 2) (u.length - (j + 1)) (cap' - (j + 1))) (.slice p' (rs.length + 1) cap2) w6 from by
          refine ⟨_, _, u.drop (j + 1), p', cap2, rs ++ [⟨q, qc, u.take j⟩], by rw [Hdl.out, Hg.out], by rw [Hdl.out], by rw [List.length_append]; rfl, fun W S' hs => (HC.out W S' hs).tail (j + 1) (by have := Hj.out; omega), ?_, ?_, rows_snoc Htk.out T6, Below.trans RB R6⟩
          · rw [Hpl.out, List.map_append, List.append_assoc]; rfl
          · rw [List.length_append, Hdl.out]; have := Hlen.out; have := Hj.out; simp; omega)
        clear T6 R6 RB
        go_roundg (gk - (j + 1))
        case measure => have := Hg.out; have := Hj.out; omega
        case rel => exact Hrel.out
end Go.Proofs.YtndjgeohkfenfaaGreatDoor.Globs

namespace Go.Proofs.YtndjgeohkfenfaaGreatDoor.Globs
open Go.RowKit Go.Proofs.YtndjgeohkfenfaaGreatDoor Go.Proofs.YtndjgeohkfenfaaGreatDoor.Hp
set_option linter.unusedVariables false
attribute [local go_sem] Oper.semAt_some

def two47 (x y : Ch) : Bool := x.b == 47 && y.b == 47
theorem single1_calls (x y : Ch) (w : World) : Calls Tryz.prog 60 #[chV x, chV y] w (FPost (two47 x y) w) := by
  have h1 : (((x.b.toNat : Nat) : Int) == 47) = (x.b == 47) := u8_lit x.b 47 (by omega)
  have h2 : (((y.b.toNat : Nat) : Int) == 47) = (y.b == 47) := u8_lit y.b 47 (by omega)
  unfold two47
  obtain ⟨u, hu⟩ : ∃ u, u = (x.b == 47) := ⟨_, rfl⟩
  obtain ⟨v, hv⟩ : ∃ v, v = (y.b == 47) := ⟨_, rfl⟩
  rw [← hu] at h1 ⊢
  rw [← hv] at h2 ⊢
  clear hu hv
  cases u with
  | false =>
    go_enter Tryz.func60, Tryz.ntmps60
    go_wp2_with fail
    go_ret
    exact ⟨rfl, ((Below.refl _ _).alloc (Nat.le_refl _) _).alloc (by simp) _⟩
  | true =>
    cases v with
    | false =>
      go_enter Tryz.func60, Tryz.ntmps60
      go_wp2_with fail
      go_ret
      exact ⟨rfl, ((Below.refl _ _).alloc (Nat.le_refl _) _).alloc (by simp) _⟩
    | true =>
      go_enter Tryz.func60, Tryz.ntmps60
      go_wp2_with fail
      go_ret
      exact ⟨rfl, ((Below.refl _ _).alloc (Nat.le_refl _) _).alloc (by simp) _⟩
/-- No two strokes stand beside one another ahead of k. -/
theorem sg_none : ∀ (t : List Ch) (b : Bool), (∀ c, t.head? = some c → (b && (c.b == 47)) = false) → (∀ j (h : j + 1 < t.length), two47 (t[j + 1]) (t[j]) = false) → sgA b t = t
  | [], _, _, _ => rfl
  | c :: t, b, h1, h2 => by
    have h0 := h1 c rfl
    show (if (b && (c.b == 47)) = true then sgA true t else c :: sgA (c.b == 47) t) = _
    rw [h0, if_neg (by decide), sg_none t (c.b == 47) (fun d hd => ?_) (fun j hj => ?_)]
    · cases t with
      | nil => cases hd
      | cons e t =>
        injection hd with hd
        subst hd
        have := h2 0 (by simp)
        unfold two47 at this
        rw [Bool.and_comm]
        exact this
    · have := h2 (j + 1) (by simpa using hj)
      exact this
theorem sg_take (t : List Ch) (k : Nat) (hk : k < t.length) (h0 : 0 < k) : singleL (t.take (k + 1)) = singleL (t.take k) ++ if two47 t[k] (t[k - 1]) = true then [] else [t[k]] := by
  unfold singleL
  rw [List.take_succ_eq_append_getElem hk, sgA_snoc]
  congr 1
  have hl : (t.take k).getLast? = some t[k - 1] := by
    rw [List.getLast?_eq_getElem?, List.length_take, Nat.min_eq_left (by omega), List.getElem?_take, if_pos (by omega), List.getElem?_eq_getElem (by omega)]
  rw [hl]
  dsimp only
  unfold two47
  rw [Bool.and_comm]
theorem single_len (t : List Ch) : (singleL t).length ≤ t.length := sgA_len t false
theorem below_cell {B : Nat} {w w' : World} (h : Below B w w') {b : Nat} (hb : b < B) (j : Nat) : w'.cell? ⟨b, j, none⟩ = w.cell? ⟨b, j, none⟩ := World.cell?_of_block (w := w) (h.block b hb)
end Go.Proofs.YtndjgeohkfenfaaGreatDoor.Globs

