/- The document's Find, Hard, in walked; Strip's closure. -/
import Derived.Test.YtlpfcnpdecoblaaDoorMkN
namespace Go.Proofs.YtlpfcnpdecoblaaDoor.Marks
open Go.RowKit Go.Proofs.YtlpfcnpdecoblaaDoor Go.Proofs.YtlpfcnpdecoblaaDoor.Hp
set_option linter.unusedVariables false
attribute [local go_sem] Oper.semAt_some

theorem ch_facts2 {x : Ch} {b : UInt8} (h : (⟨b, false⟩ == x) = false) : ((x.b.toNat : Int) == (b.toNat : Int)) = false ∨ (((x.b.toNat : Int) == (b.toNat : Int)) = true ∧ x.q = true) := by
  rw [show ((x.b.toNat : Int) == (b.toNat : Int)) = ((b.toNat : Int) == (x.b.toNat : Int)) from Bool.eq_iff_iff.2 (by rw [beq_iff_eq, beq_iff_eq]; exact ⟨Eq.symm, Eq.symm⟩)]
  exact ch_facts h
def RfRel (n : Nat) (w : World) (g : Nat) (iv : Value) (wr : World) : Prop := ∃ i : Nat, i + g = n ∧ 0 < g ∧ iv = .int .i64 (i : Int) ∧ w = wr
set_option maxRecDepth 100000 in
set_option maxHeartbeats 2000000 in
theorem rfind_calls (t : List Ch) (ao : Option Addr) (cap : Nat) (b : UInt8) (w : World) (h : CharsAt w ao cap t) (hm : t.length ≤ 100000) :
    Calls Tryd.prog 26 #[.slice ao t.length cap, .int .u8 b.toNat] w (IdxPost (idxI (⟨b, false⟩ == ·) t) w) := by
  have hmm : (t.length : Int) ≤ 100000 := by omega
  have H := Lib.hid h
  clear h
  have key : ∀ (n : Nat) (r : Int), n ≤ t.length → (∀ i (hi : i < t.length), i < n → (⟨b, false⟩ == t[i]) = false) → ((n = t.length ∧ r = -1) ∨ ∃ hn : n < t.length, (⟨b, false⟩ == t[n]) = true ∧ r = (n : Int)) → Calls Tryd.prog 26 #[.slice ao t.length cap, .int .u8 b.toNat] w (IdxPost r w) := by
    intro n r hn hno hend
    have Hno := Lib.hid hno
    have Hend := Lib.hid hend
    clear hno hend
    go_enter Tryd.func26, Tryd.ntmps26
    go_wp2_with fail
    go_loopg [5] (n + 1) (fun (g : Nat) (iv : Value) (wr : World) => RfRel (n + 1) w g iv wr)
    case atStart => exact ⟨0, by omega, by omega, rfl, rfl⟩
    case round =>
      obtain ⟨i, hig, hg0, rfl, rfl⟩ := hrel
      have hi0 : (0 : Int) ≤ i := by omega
      have Hig := Lib.hid hig
      by_cases hin : i < n
      · have hi : i < t.length := by omega
        have hil : (i : Int) < (t.length : Int) := by omega
        obtain ⟨tb, o, rfl, htb, x0, x1⟩ := H.out.2.2 i hi
        have hne := Hno.out i hi hin
        obtain ⟨x, hx⟩ : ∃ x, x = t[i] := ⟨_, rfl⟩
        rw [← hx] at x0 x1 hne
        rcases ch_facts2 hne with e1 | ⟨e1, e2⟩
        · clear hne hx hig
          go_wp2_with fail
          go_roundg (gk - 1)
          case measure => omega
          case rel => exact ⟨i + 1, by have := Hig.out; omega, by have := Hig.out; omega, rfl, rfl⟩
        · rw [e2] at x1
          clear hne hx hig e2
          go_wp2_with fail
          go_roundg (gk - 1)
          case measure => omega
          case rel => exact ⟨i + 1, by have := Hig.out; omega, by have := Hig.out; omega, rfl, rfl⟩
      · have hin2 : i = n := by omega
        subst hin2
        rcases Hend.out with ⟨h1, h2⟩ | ⟨hi, h1, h2⟩
        · have hge : ¬ ((i : Int) < (t.length : Int)) := by omega
          rw [h2]
          clear hig Hend
          go_wp2_with fail
          go_ret
          exact ⟨rfl, Below.refl _ _⟩
        · have hil : (i : Int) < (t.length : Int) := by omega
          obtain ⟨tb, o, rfl, htb, x0, x1⟩ := H.out.2.2 i hi
          rw [← eq_of_beq h1] at x0 x1
          rw [h2]
          clear hig Hend h1 h2
          go_wp2_with fail
          go_ret
          exact ⟨rfl, Below.refl _ _⟩
  rcases idx_cases (⟨b, false⟩ == ·) t with h | ⟨j, hj, h1, h2⟩
  · rw [idx_none h]
    exact key t.length (-1) (Nat.le_refl _) (fun i hi _ => h _ (List.getElem_mem hi)) (.inl ⟨rfl, rfl⟩)
  · rw [idx_some hj h1 h2]
    exact key j j (Nat.le_of_lt hj) h2 (.inr ⟨hj, h1, rfl⟩)
def RhRel (t : List Ch) (w : World) (g : Nat) (av bv iv : Value) (wr : World) : Prop := ∃ i : Nat, i + g = t.length ∧ iv = .int .i64 (i : Int) ∧ av = .bool ((t.take i).any (·.q)) ∧ bv = .bool ((t.take i).all (·.q)) ∧ w = wr
set_option maxRecDepth 100000 in
set_option maxHeartbeats 2000000 in
theorem rhard_calls (t : List Ch) (ao : Option Addr) (cap : Nat) (w : World) (h : CharsAt w ao cap t) (hm : t.length ≤ 100000) :
    Calls Tryd.prog 24 #[.slice ao t.length cap] w (HardPost t w) := by
  have hmm : (t.length : Int) ≤ 100000 := by omega
  have H := Lib.hid h
  clear h
  go_enter Tryd.func24, Tryd.ntmps24
  go_wp2_with fail
  go_loopg [4, 5, 6] (t.length) (fun (g : Nat) (av bv iv : Value) (wr : World) => RhRel t w g av bv iv wr)
  case atStart => exact ⟨0, by omega, rfl, rfl, rfl, rfl⟩
  case round =>
    obtain ⟨i, hig, rfl, rfl, rfl, rfl⟩ := hrel
    have hi0 : (0 : Int) ≤ i := by omega
    by_cases hi : i < t.length
    · have hil : (i : Int) < (t.length : Int) := by omega
      obtain ⟨tb, o, rfl, htb, x0, x1⟩ := H.out.2.2 i hi
      have htk : t.take (i + 1) = t.take i ++ [t[i]] := List.take_succ_eq_append_getElem hi
      obtain ⟨x, hx⟩ : ∃ x, x = t[i] := ⟨_, rfl⟩
      rw [← hx] at x0 x1 htk
      have ha : (t.take (i + 1)).any (·.q) = ((t.take i).any (·.q) || x.q) := by rw [htk, List.any_append]; simp
      have hb : (t.take (i + 1)).all (·.q) = ((t.take i).all (·.q) && x.q) := by rw [htk, List.all_append]; simp
      obtain ⟨a, haa⟩ : ∃ a, a = (t.take i).any (·.q) := ⟨_, rfl⟩
      obtain ⟨b, hbb⟩ : ∃ a, a = (t.take i).all (·.q) := ⟨_, rfl⟩
      rw [← haa] at ha
      rw [← hbb] at hb
      rw [← haa, ← hbb]
      have Hm := Lib.hid (show gk - 1 < gk by omega)
      have hrel := Lib.hid (show RhRel t w (gk - 1) (.bool (a || x.q)) (.bool (b && x.q)) (.int .i64 ((i : Int) + 1)) w from ⟨i + 1, by omega, rfl, by rw [ha], by rw [hb], rfl⟩)
      clear ha hb haa hbb htk hx hig x0
      obtain ⟨xb, xq⟩ := x
      dsimp only at x1 hrel
      cases a <;> cases b <;>
        (simp only [Bool.false_or, Bool.true_or, Bool.false_and, Bool.true_and] at hrel
         go_wp2_with fail
         go_roundg (gk - 1)
         case measure => exact Hm.out
         case rel => exact hrel.out)
    · have hge : ¬ ((i : Int) < (t.length : Int)) := by omega
      have hta : t.take i = t := List.take_of_length_le (by omega)
      rw [hta]
      obtain ⟨a, haa⟩ : ∃ a, a = t.any (·.q) := ⟨_, rfl⟩
      obtain ⟨b, hbb⟩ : ∃ a, a = t.all (·.q) := ⟨_, rfl⟩
      rw [← haa, ← hbb]
      have Ha := Lib.hid haa
      have Hb := Lib.hid hbb
      clear hta hig hi haa hbb
      go_wp2_with fail
      go_ret2
      exact ⟨by rw [← Ha.out, ← Hb.out]; rfl, Below.refl _ _⟩
/-- Is a byte in a text? -/
def inL (s : ByteArray) (b : UInt8) : Bool := (bs s).any (· == b)
theorem in_ixb (s : ByteArray) (b : UInt8) : decide (0 ≤ Lib.indexByte (bs s) b) = inL s b := by
  unfold inL
  rcases ixb_cases (bs s) b with ⟨h1, h2⟩ | ⟨a, t, h1, h2, h3⟩
  · rw [h2]
    have : (bs s).any (· == b) = false := by
      rw [List.any_eq_false]
      intro x hx e
      exact h1 (by have := eq_of_beq e; rw [← this]; exact hx)
    rw [this]; rfl
  · rw [h3]
    have : (bs s).any (· == b) = true := List.any_eq_true.2 ⟨b, by rw [h1]; simp, by simp⟩
    rw [this]
    exact decide_eq_true (by omega)
def InRel (s : ByteArray) (b : UInt8) (w : World) (g : Nat) (iv : Value) (wr : World) : Prop := ∃ i : Nat, i + g = s.size ∧ iv = .int .i64 (i : Int) ∧ inL s b = ((bs s).drop i).any (· == b) ∧ w = wr
set_option maxHeartbeats 1000000 in
theorem rin_calls (s : ByteArray) (b : UInt8) (w : World) (hm : s.size ≤ 100000) :
    Calls Tryd.prog 47 #[.string s, .int .u8 b.toNat] w fun e w' => e = .returned (.bool (inL s b)) ∧ w = w' := by
  have hmm : (s.size : Int) ≤ 100000 := by omega
  have Hm := Lib.hid hm
  clear hm
  go_enter Tryd.func47, Tryd.ntmps47
  go_wp2_with fail
  go_loopg [5] (s.size) (fun (g : Nat) (iv : Value) (wr : World) => InRel s b w g iv wr)
  case atStart => exact ⟨0, by omega, rfl, rfl, rfl⟩
  case round =>
    obtain ⟨i, hig, rfl, hin, rfl⟩ := hrel
    have hi0 : (0 : Int) ≤ i := by omega
    have Hm2 := Hm.out
    by_cases hi : i < s.size
    · have hil : (i : Int) < (s.size : Int) := by omega
      have hd := bs_drop s i hi
      rw [hd, List.any_cons] at hin
      have hbq := u8_beq s[i] b
      by_cases e : (s[i] == b) = true
      · rw [e] at hbq hin
        have Hin := Lib.hid hin
        clear hin hd e hig
        go_wp2_with fail
        go_ret
        exact ⟨by rw [Hin.out]; rfl, rfl⟩
      · have e2 : (s[i] == b) = false := by simpa using e
        rw [e2] at hbq hin
        have hrel := Lib.hid (show InRel s b w (gk - 1) (.int .i64 ((i : Int) + 1)) w from ⟨i + 1, by omega, rfl, by rw [hin]; rfl, rfl⟩)
        have Hms := Lib.hid (show gk - 1 < gk by omega)
        clear hin hd e e2 hig
        go_wp2_with fail
        go_roundg (gk - 1)
        case measure => exact Hms.out
        case rel => exact hrel.out
    · have hge : ¬ ((i : Int) < (s.size : Int)) := by omega
      have hd : (bs s).drop i = [] := List.drop_eq_nil_of_le (by rw [bs_length]; omega)
      rw [hd] at hin
      have Hin := Lib.hid hin
      clear hin hd hig hi
      go_wp2_with fail
      go_ret
      exact ⟨by rw [Hin.out]; rfl, rfl⟩
/-- A bare byte of a set. -/
def goC (s : ByteArray) (c : Ch) : Bool := !c.q && inL s c.b
set_option maxHeartbeats 1000000 in
theorem goes_calls (s : ByteArray) (sb : Nat) (c : Ch) (w : World) (hs : w.cell? ⟨sb, 0, none⟩ = some (.string s)) :
    Calls Tryd.prog 46 #[chV c, .pointer (some ⟨sb, 0, none⟩)] w (FPost (goC s c) w) := by
  have hlt := World.block_lt_of_cell? w _ hs
  have hs2 : ∀ o, (w.alloc o).cell? ⟨sb, 0, none⟩ = some (.string s) := fun o => ((kept_alloc w o).cell hlt 0).trans hs
  have hB : ∀ o, Below w.heap.size w (w.alloc o) := fun o => (Below.refl _ _).alloc (Nat.le_refl _) o
  have HB := Lib.hid hB
  have hi := in_ixb s c.b
  have hix := fun w => six_calls s (c.b.toNat : Int) w
  rw [show ((c.b.toNat : Int)).toNat.toUInt8 = c.b by simp] at hix
  obtain ⟨r, hr⟩ : ∃ r, r = Lib.indexByte (bs s) c.b := ⟨_, rfl⟩
  have Hix : Hid (∀ w, Calls Tryd.prog 35 #[.string s, .int .u8 c.b.toNat] w fun e w' => e = .returned (.int .i64 r) ∧ w = w') := Lib.hid (by rw [hr]; exact hix)
  rw [← hr] at hi
  clear hr hlt hB hix
  obtain ⟨cb, cq⟩ := c
  dsimp only at hi Hix ⊢
  unfold goC
  dsimp only
  cases cq with
  | true =>
    simp only [Bool.not_true, Bool.false_and]
    clear hi Hix
    go_enter Tryd.func46, Tryd.ntmps46
    go_wp2_with fail
    go_ret
    exact ⟨rfl, HB.out _⟩
  | false =>
    simp only [Bool.not_false, Bool.true_and]
    rw [← hi]
    by_cases h0 : 0 ≤ r
    · rw [decide_eq_true h0]
      clear hi
      go_enter Tryd.func46, Tryd.ntmps46
      go_wp2_with fail
      refine (Hix.out _).mono ?_
      rintro e w2 ⟨rfl, rfl⟩
      go_wp2_with fail
      go_ret
      exact ⟨rfl, HB.out _⟩
    · rw [decide_eq_false h0]
      clear hi
      go_enter Tryd.func46, Tryd.ntmps46
      go_wp2_with fail
      refine (Hix.out _).mono ?_
      rintro e w2 ⟨rfl, rfl⟩
      go_wp2_with fail
      go_ret
      exact ⟨congrArg (fun x => Ending.returned (.bool x)) (decide_eq_false (by omega)), HB.out _⟩
end Go.Proofs.YtlpfcnpdecoblaaDoor.Marks
