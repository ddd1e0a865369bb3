/- The iterator of all texts out of an alphabet: what it hands on. -/
import Derived.Test.YtjbdpahdhlmanaaRange
import Derived.Test.YtjbdpahdhlmanaaGlF
import Derived.Deep.CutBlock
import Derived.OwnWalkIn
import Derived.TacticsInMore
import Derived.LoopNIn
import Derived.LoopIn
namespace Go.Proofs.Ytjbdpahdhlmanaa.Globs
open Go.RowKit Go.Proofs.Ytjbdpahdhlmanaa Go.Proofs.Ytjbdpahdhlmanaa.Hp
set_option linter.unusedVariables false

abbrev extS (al s : ByteArray) (i : Nat) : ByteArray := s ++ al.extract i (i + 1)
def nxtL (al s : ByteArray) : List ByteArray := (List.range al.size).map (extS al s)
/-- The texts of n bytes. -/
def levL (al : ByteArray) : Nat → List ByteArray
  | 0 => [⟨#[]⟩]
  | n + 1 => (levL al n).flatMap (nxtL al)
/-- The texts of less than n bytes, the shorter ones first. -/
def txtL (al : ByteArray) : Nat → List ByteArray
  | 0 => []
  | n + 1 => txtL al n ++ levL al n
theorem txtL_le (al : ByteArray) {m n : Nat} (h : m ≤ n) : ∃ r, txtL al n = txtL al m ++ r := by
  induction n with
  | zero => obtain rfl : m = 0 := by omega
            exact ⟨[], by simp⟩
  | succ n ih =>
    by_cases e : m = n + 1
    · subst e; exact ⟨[], by simp⟩
    · obtain ⟨r, hr⟩ := ih (by omega)
      exact ⟨r ++ levL al n, by show txtL al n ++ levL al n = _; rw [hr, List.append_assoc]⟩
theorem levL_len (al : ByteArray) {m n : Nat} (h : m < n) : (levL al m).length ≤ (txtL al n).length := by
  obtain ⟨r, hr⟩ := txtL_le al (show m + 1 ≤ n from h)
  rw [hr]
  show _ ≤ ((txtL al m ++ levL al m) ++ r).length
  rw [List.length_append, List.length_append]; omega
theorem nxtL_len (al s : ByteArray) : (nxtL al s).length = al.size := by unfold nxtL; simp
theorem flat_len (al : ByteArray) (l : List ByteArray) : (l.flatMap (nxtL al)).length = l.length * al.size := by
  induction l with
  | nil => simp
  | cons x l ih => rw [List.flatMap_cons, List.length_append, ih, nxtL_len, List.length_cons, Nat.add_mul]; omega
theorem ext_size (al s : ByteArray) (i : Nat) (h : i < al.size) : (extS al s i).size = s.size + 1 := by
  unfold extS
  rw [ByteArray.size_append, ByteArray.size_extract]
  omega
theorem levL_size (al : ByteArray) {n : Nat} : ∀ x ∈ levL al n, x.size = n := by
  induction n with
  | zero => intro x hx; simp [levL] at hx; subst hx; rfl
  | succ n ih =>
    intro x hx
    simp only [levL, List.mem_flatMap, nxtL, List.mem_map, List.mem_range] at hx
    obtain ⟨y, hy, i, hi, rfl⟩ := hx
    rw [ext_size al y i hi, ih y hy]
theorem txtL_size (al : ByteArray) {n : Nat} : ∀ x ∈ txtL al n, x.size ≤ n := by
  induction n with
  | zero => intro x hx; simp [txtL] at hx
  | succ n ih =>
    intro x hx
    rcases List.mem_append.1 hx with h | h
    · have := ih x h; omega
    · have := levL_size al x h; omega
def strCells (l : List ByteArray) : List Value := l.map Value.string
theorem infoStr : (Try.prog.info? 9).map (fun i => (i.zero, i.size, i.bytes)) = some (some (.string ⟨#[]⟩), 1, 16) := by kernel_rfl
theorem appStr {w : World} {H : Hp} {ops : Array Oper} {rest : List Oper} {o : Oper} {a : Act} {Q : Exit → Act → World → Prop} (hgd : o.guard = none) (s x : Operand)
    (ho : o.op = .call { callee := .builtin .append, args := #[s, x], argTypes := #[47, 47] })
    (p : Option Addr) (n cap : Nat) (xs : List Value) (hp : a.eval s = .slice p n cap) (b : Nat) (hvx : a.eval x = .slice (some ⟨b, 0, none⟩) 1 1) (h : Sat w (arr 9 1 p n cap xs * H)) (v : Value) (hb : w.heap[b]? = some (.cells #[v] 9 (0, 0))) (h0 : v.oneCell' = true) (hn : n ≤ 1000000000)
    (hk : ∀ p' cap' w', Sat w' (arr 9 1 p' (n + 1) cap' (xs ++ [v]) * H) → Ran w w' → wpList Try.prog ops Q rest (a.put o.dst (.slice p' (n + 1) cap')) w') : wpList Try.prog ops Q (o :: rest) a w := by
  obtain ⟨i0, hi, hz0, hz1, hz2⟩ := info_parts infoStr
  refine wpList_append_arr hgd s x _ _ ho 9 i0 _ 1 16 Try.underlying47 hi hz0 hz1 hz2 rfl p n cap xs hp h _ hvx 1 [v] (Src.ofSlice w Try.underlying47 ⟨b, 0, none⟩ 1 1 [v] (by rw [hz1]; rfl) ?_ (by simp [h0])) (by omega) (by unfold maxLen; omega) (fun p' cap' w' h1 h2 _ => hk p' cap' w' h1 h2)
  intro j u hj
  rw [Addr.add_lit, Nat.zero_add, cell_at hb, ← hj]
  simp
end Go.Proofs.Ytjbdpahdhlmanaa.Globs
