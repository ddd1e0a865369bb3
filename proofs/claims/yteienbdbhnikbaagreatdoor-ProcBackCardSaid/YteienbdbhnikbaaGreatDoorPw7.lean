/- HandlesPlays, part 7 of 31: the texts SpX, joined by a program. -/
import Derived.Laws.CopyOwn
import Derived.Test.YteienbdbhnikbaaGreatDoorPw1
import Derived.Test.YteienbdbhnikbaaGreatDoorRows
import Derived.Deep.QuietTactic
import Derived.BigQuiet
import Derived.Deep.RegionHeld3
import Derived.Deep.DeepCutAuto
import Derived.Deep.LoopGhost
import Derived.Deep.DeepFit
import Derived.Lib.Hide
import Derived.Laws.IdiomStrings
import Derived.StillTailTactics
namespace Go.Proofs.YteienbdbhnikbaaGreatDoor.Spill
set_option linter.unusedVariables false

/-- How many chunks were used up ahead of a place. -/
def gn (m c frm : Nat) : Nat := (frm - m) / c
/-- How many chunks it takes up to a place. -/
def cl (m c til : Nat) : Nat := (til - m + c - 1) / c
/-- What stands at a place. -/
def atp (m c g : Nat) (fs : List Value) (L : List (Nat × List Value)) (p : Nat) : Option Value :=
  if p < m then fs[p]? else (L[(p - m) / c - g]?).bind fun x => x.2[(p - m) % c]?

theorem div_add_of_lt {c K r : Nat} (h : r < c) : (K * c + r) / c = K := by
  rw [Nat.mul_comm, Nat.mul_add_div (by omega), Nat.div_eq_of_lt h]; omega
theorem split_at (d c : Nat) (hc : 0 < c) : d = d / c * c + d % c ∧ d % c < c := ⟨by rw [Nat.mul_comm]; exact (Nat.div_add_mod d c).symm, Nat.mod_lt _ hc⟩
theorem cl_step {m c til n : Nat} (hc : 0 < c) (hm : m ≤ til) (h1 : 1 ≤ n) (hn : (til - m) % c + n ≤ c) : cl m c (til + n) = (til - m) / c + 1 := by
  obtain ⟨e, _⟩ := split_at (til - m) c hc
  unfold cl
  rw [show til + n - m + c - 1 = ((til - m) / c + 1) * c + ((til - m) % c + n - 1) by rw [Nat.add_mul]; omega]
  exact div_add_of_lt (by omega)
theorem cl_in {m c til : Nat} (hc : 0 < c) (hm : m ≤ til) (h : (til - m) % c ≠ 0) : cl m c til = (til - m) / c + 1 := by
  obtain ⟨e, hl⟩ := split_at (til - m) c hc
  unfold cl
  rw [show til - m + c - 1 = ((til - m) / c + 1) * c + ((til - m) % c - 1) by rw [Nat.add_mul]; omega]
  exact div_add_of_lt (by omega)
theorem cl_on {m c til : Nat} (hc : 0 < c) (h : (til - m) % c = 0) : cl m c til = (til - m) / c := by
  obtain ⟨e, hl⟩ := split_at (til - m) c hc
  unfold cl
  rw [show til - m + c - 1 = (til - m) / c * c + (c - 1) by omega]
  exact div_add_of_lt (by omega)
theorem cl_low {m c til : Nat} (hc : 0 < c) (h : til ≤ m) : cl m c til = 0 := by
  unfold cl; rw [show til - m = 0 by omega]; exact Nat.div_eq_of_lt (by omega)
theorem gn_low {m c frm : Nat} (h : frm ≤ m) : gn m c frm = 0 := by
  unfold gn; rw [show frm - m = 0 by omega]; exact Nat.zero_div c
theorem gn_le {m c a b : Nat} (h : a ≤ b) : gn m c a ≤ gn m c b := Nat.div_le_div_right (by omega)
theorem gn_le_cl {m c a b : Nat} (hc : 0 < c) (h : a ≤ b) : gn m c a ≤ cl m c b := by
  refine Nat.le_trans (gn_le h) ?_
  unfold gn cl
  exact Nat.div_le_div_right (by omega)
theorem cl_mono {m c a b : Nat} (h : a ≤ b) : cl m c a ≤ cl m c b := Nat.div_le_div_right (by omega)
theorem cl_le {m c a : Nat} (hc : 0 < c) : cl m c a ≤ a + 1 := by
  unfold cl
  refine Nat.le_trans (Nat.div_le_div_right (show a - m + c - 1 ≤ a + (c - 1) by omega)) ?_
  have := Nat.div_le_self a c
  have h2 : (a + (c - 1)) / c ≤ a + 1 := by
    apply Nat.div_le_of_le_mul
    have : a ≤ c * a := Nat.le_mul_of_pos_left a hc
    rw [Nat.mul_add]; omega
  exact h2
theorem splice_lt {α : Type} {L vs : List α} {o p : Nat} (h : p < o) (ho : o ≤ L.length) : (splice L o vs)[p]? = L[p]? := by
  unfold splice
  rw [List.getElem?_append_left (by rw [List.length_take]; omega), List.getElem?_take, if_pos h]
theorem splice_in {α : Type} {L vs : List α} {o p : Nat} (h : o ≤ p) (h2 : p < o + vs.length) (ho : o + vs.length ≤ L.length) : (splice L o vs)[p]? = vs[p - o]? := by
  unfold splice
  have hl : (L.take o).length = o := by rw [List.length_take]; omega
  rw [List.getElem?_append_right (by omega), hl, List.getElem?_append_left (by omega)]
theorem atp_first {m c g til p : Nat} {fs vs : List Value} {L : List (Nat × List Value)} (hf : fs.length = m) (hn : til + vs.length ≤ m) (hp : p < til + vs.length) :
    atp m c g (splice fs til vs) L p = if p < til then atp m c g fs L p else vs[p - til]? := by
  unfold atp
  rw [if_pos (by omega)]
  by_cases h : p < til
  · rw [if_pos h, if_pos (by omega), splice_lt h (by omega)]
  · rw [if_neg h, splice_in (by omega) hp (by omega)]
theorem atp_chunk {m c frm til k p : Nat} {fs vs : List Value} {L : List (Nat × List Value)} {x : Nat × List Value} (hc : 0 < c) (hm : m ≤ til) (hk : gn m c frm + k = (til - m) / c) (hx : L[k]? = some x) (hxl : x.2.length = c) (hn : (til - m) % c + vs.length ≤ c) (hfp : frm ≤ p) (hp : p < til + vs.length) :
    atp m c (gn m c frm) fs (L.set k (x.1, splice x.2 ((til - m) % c) vs)) p = if p < til then atp m c (gn m c frm) fs L p else vs[p - til]? := by
  have hkl : k < L.length := (List.getElem?_eq_some_iff.1 hx).1
  unfold atp
  by_cases hpm : p < m
  · rw [if_pos hpm, if_pos (by omega), if_pos hpm]
  rw [if_neg hpm, if_neg hpm]
  have hg : gn m c frm ≤ (p - m) / c := gn_le hfp
  obtain ⟨ep, hpl⟩ := split_at (p - m) c hc
  obtain ⟨et, htl⟩ := split_at (til - m) c hc
  by_cases h : p < til
  · rw [if_pos h]
    by_cases hq : (p - m) / c - gn m c frm = k
    · have e : (p - m) / c = (til - m) / c := by omega
      rw [e] at ep
      rw [hq, List.getElem?_set_self hkl, hx]
      exact splice_lt (by omega) (by omega)
    · rw [List.getElem?_set_ne (by omega)]
  · rw [if_neg h]
    have e : (p - m) / c = (til - m) / c := by
      rw [show p - m = (til - m) / c * c + ((til - m) % c + (p - til)) by omega]
      exact div_add_of_lt (by omega)
    rw [e] at ep
    rw [e, show (til - m) / c - gn m c frm = k by omega, List.getElem?_set_self hkl]
    show (splice x.2 _ _)[(p - m) % c]? = _
    rw [splice_in (by omega) (by omega) (by omega)]
    congr 1; omega
theorem atp_snoc {m c g p : Nat} {fs : List Value} {L : List (Nat × List Value)} (x : Nat × List Value) (h : (atp m c g fs L p).isSome = true) : atp m c g fs (L ++ [x]) p = atp m c g fs L p := by
  unfold atp at h ⊢
  by_cases hp : p < m
  · rw [if_pos hp, if_pos hp]
  · rw [if_neg hp] at h ⊢
    rw [if_neg hp]
    have : (p - m) / c - g < L.length := by
      rcases Nat.lt_or_ge ((p - m) / c - g) L.length with h' | h'
      · exact h'
      · rw [List.getElem?_eq_none h'] at h; cases h
    rw [List.getElem?_append_left this]
theorem atp_tail {m c g p : Nat} {fs : List Value} {x : Nat × List Value} {L : List (Nat × List Value)} (h : p < m ∨ g + 1 ≤ (p - m) / c) : atp m c (g + 1) fs L p = atp m c g fs (x :: L) p := by
  unfold atp
  by_cases hp : p < m
  · rw [if_pos hp, if_pos hp]
  · rw [if_neg hp, if_neg hp, show (p - m) / c - g = ((p - m) / c - (g + 1)) + 1 by omega, List.getElem?_cons_succ]

/-- Bytes, as cells. -/
def bytes (l : List UInt8) : List Value := l.map fun b => .int .u8 b.toNat
@[simp] theorem bytes_length (l : List UInt8) : (bytes l).length = l.length := List.length_map ..
theorem bytes_append (l k : List UInt8) : bytes (l ++ k) = bytes l ++ bytes k := List.map_append ..
theorem bytes_one (l : List UInt8) : ∀ v ∈ bytes l, v.oneCell' = true := by
  intro v h; obtain ⟨_, _, rfl⟩ := List.mem_map.1 h; rfl
/-- The bytes from a place on stand there. -/
def Holds (m c g frm : Nat) (fs : List Value) (L : List (Nat × List Value)) (l : List UInt8) : Prop := ∀ i, i < l.length → atp m c g fs L (frm + i) = (bytes l)[i]?
theorem holds_write {frm til : Nat} {l ys : List UInt8} {A : Nat → Option Value} (ht : frm + l.length = til) (hA : ∀ i, i < l.length → A (frm + i) = (bytes l)[i]?) (i : Nat) (hi : i < (l ++ ys).length) :
    (if frm + i < til then A (frm + i) else (bytes ys)[frm + i - til]?) = (bytes (l ++ ys))[i]? := by
  rw [bytes_append]
  by_cases h : frm + i < til
  · rw [if_pos h, hA i (by omega), List.getElem?_append_left (by rw [bytes_length]; omega)]
  · rw [if_neg h, List.getElem?_append_right (by rw [bytes_length]; omega), bytes_length]
    congr 1; omega
theorem str_drop (l : List UInt8) (n : Nat) : (ByteArray.mk l.toArray).extract n l.length = ⟨(l.drop n).toArray⟩ := by
  apply ByteArray.ext
  simp
  exact List.take_of_length_le (by rw [List.length_drop]; exact Nat.le_refl _)
theorem gn_same {m c fr k : Nat} (hc : 0 < c) (hm : m ≤ fr) (hk : (fr - m) % c + k < c) : gn m c (fr + k) = gn m c fr := by
  obtain ⟨e, _⟩ := split_at (fr - m) c hc
  unfold gn
  rw [show fr + k - m = (fr - m) / c * c + ((fr - m) % c + k) by omega]
  exact div_add_of_lt hk
theorem gn_next {m c fr k : Nat} (hc : 0 < c) (hm : m ≤ fr) (hk : (fr - m) % c + k = c) : gn m c (fr + k) = gn m c fr + 1 := by
  obtain ⟨e, _⟩ := split_at (fr - m) c hc
  unfold gn
  have := div_add_of_lt (c := c) (K := (fr - m) / c + 1) (r := 0) hc
  rw [show fr + k - m = ((fr - m) / c + 1) * c + 0 by rw [Nat.add_mul]; omega]
  exact this
theorem mod_same {m c fr k : Nat} (hc : 0 < c) (hm : m ≤ fr) (hk : (fr - m) % c + k < c) : (fr + k - m) % c = (fr - m) % c + k := by
  obtain ⟨e, _⟩ := split_at (fr - m) c hc
  rw [show fr + k - m = ((fr - m) % c + k) + (fr - m) / c * c by omega, Nat.add_mul_mod_self_right]
  exact Nat.mod_eq_of_lt hk
theorem holds_drop {m c g fr : Nat} {fs : List Value} {L : List (Nat × List Value)} {l : List UInt8} (h : Holds m c g fr fs L l) (k : Nat) : Holds m c g (fr + k) fs L (l.drop k) := by
  intro i hi
  rw [List.length_drop] at hi
  rw [Nat.add_assoc, h (k + i) (by omega)]
  unfold bytes
  rw [List.map_drop, List.getElem?_drop]
theorem holds_tail {m c g fr : Nat} {fs : List Value} {x : Nat × List Value} {L : List (Nat × List Value)} {l : List UInt8} (h : Holds m c g fr fs (x :: L) l) (hg : g + 1 ≤ (fr - m) / c) : Holds m c (g + 1) fr fs L l := by
  intro i hi
  rw [← h i hi]
  exact atp_tail (.inr (Nat.le_trans hg (Nat.div_le_div_right (by omega))))
/-- What stands in memory from a place on. -/
theorem holds_first {m c g fr k : Nat} {fs : List Value} {L : List (Nat × List Value)} {l : List UInt8} (h : Holds m c g fr fs L l) (hk : fr + k ≤ m) (hl : k ≤ l.length) (j : Nat) (hj : j < k) : fs[fr + j]? = (bytes (l.take k))[j]? := by
  have := h j (by omega)
  unfold atp at this
  rw [if_pos (by omega)] at this
  rw [this]; unfold bytes; rw [List.map_take, List.getElem?_take, if_pos hj]
/-- What stands in the first chunk. -/
theorem holds_chunk {m c fr k : Nat} {fs : List Value} {x : Nat × List Value} {L : List (Nat × List Value)} {l : List UInt8} (hc : 0 < c) (h : Holds m c (gn m c fr) fr fs (x :: L) l) (hm : m ≤ fr) (hk : (fr - m) % c + k ≤ c) (hl : k ≤ l.length) (j : Nat) (hj : j < k) : x.2[(fr - m) % c + j]? = (bytes (l.take k))[j]? := by
  have := h j (by omega)
  unfold atp at this
  have h1 := gn_same (k := j) hc hm (by omega)
  have h2 := mod_same (k := j) hc hm (by omega)
  unfold gn at this h1
  rw [if_neg (by omega), h1, h2, Nat.sub_self] at this
  simp only [List.getElem?_cons_zero, Option.bind_some] at this
  rw [this]; unfold bytes; rw [List.map_take, List.getElem?_take, if_pos hj]
/-- Behind a copy the first bytes of the row are what was taken so far. -/
theorem took_more {cur : List Value} {data : List UInt8} {g k N : Nat} (hcur : cur.length = N) (ht : cur.take g = bytes (data.take g)) (hg : g + k ≤ N) (hd : N ≤ data.length) : (splice cur g (bytes ((data.drop g).take k))).take (g + k) = bytes (data.take (g + k)) := by
  have hl : (bytes ((data.drop g).take k)).length = k := by rw [bytes_length, List.length_take, List.length_drop]; omega
  unfold splice
  rw [← List.append_assoc, List.take_left' (by rw [List.length_append, List.length_take, hl]; omega), ht, ← bytes_append, List.take_add]
end Go.Proofs.YteienbdbhnikbaaGreatDoor.Spill
namespace Go.Proofs.YteienbdbhnikbaaGreatDoor
open Go.RowKit Go.Proofs.YteienbdbhnikbaaGreatDoor.Hp

section
variable {P : Program}
theorem run_copy_sat {w : World} {R : Hp} (dT sT ty elem : TypeId) (hu : P.underlying dT = some (.slice elem)) (hsz : (P.info? elem).map (·.size) = some 1) (g off dLen dCap : Nat) (x : Value) (cur vs : List Value) (T : TypeId)
    (h : Sat w (pts g (.cells cur.toArray T (0, 0)) * R)) (sl : Nat) (hl : (Builtin.lenOf x).run P w = .ok sl w) (hc : (Builtin.firstCells 1 (Nat.min sl dLen) x).run P w = .ok vs.toArray w) (hn : vs.length = Nat.min sl dLen) (hfit : off + vs.length ≤ cur.length) (h1 : ∀ v ∈ vs, v.oneCell' = true) :
    (Builtin.copy_ #[dT, sT] ty #[.slice (some ⟨g, off, none⟩) dLen dCap, x]).run P w = .ok (.int .i64 (vs.length : Int)) (w.setRow g (splice cur off vs).toArray) := by
  have hst := run_storeCells_at P g off T vs 0 cur.toArray w h.get (by simpa using hfit) h1
  simp only [Nat.add_zero] at hst
  obtain ⟨i, hi, his⟩ := Option.map_eq_some_iff.1 hsz
  have hst' : (storeCells ⟨g, off, none⟩ vs).run P w = .ok () (w.setRow g (splice cur off vs).toArray) := by
    rw [hst]; simp [splice, List.append_assoc]
  simp [Builtin.copy_, run_underlying hu, sizeOf, typeInfo, hi, his, hl, hc, hst', goInt]
  rw [hn]

theorem lenOf_string (s : ByteArray) (w : World) : (Builtin.lenOf (.string s)).run P w = .ok s.size w := rfl
theorem firstCells_str (s : ByteArray) (n : Nat) (w : World) : (Builtin.firstCells 1 n (.string s)).run P w = .ok ((s.data.toList.take n).map fun b => Value.int .u8 b.toNat).toArray w := by
  simp [Builtin.firstCells]
  apply Array.ext'
  simp
theorem lenOf_slice (a : Option Addr) (n c : Nat) (w : World) : (Builtin.lenOf (.slice a n c)).run P w = .ok n w := rfl

theorem wp_copy_sat {w : World} {R : Hp} {o : Oper} {a : Act} {K : Act → World → Prop} {Q : Exit → Act → World → Prop} (d s : Operand) (dT sT : TypeId)
    (ho : o.op = .call { callee := .builtin .copy, args := #[d, s], argTypes := #[dT, sT] }) (elem : TypeId) (hu : P.underlying dT = some (.slice elem)) (hsz : (P.info? elem).map (·.size) = some 1) (g off dLen dCap : Nat) (x : Value) (hd : a.eval d = .slice (some ⟨g, off, none⟩) dLen dCap) (hx : a.eval s = x) (cur vs : List Value) (T : TypeId)
    (h : Sat w (pts g (.cells cur.toArray T (0, 0)) * R)) (sl : Nat) (hl : (Builtin.lenOf x).run P w = .ok sl w) (hc : (Builtin.firstCells 1 (Nat.min sl dLen) x).run P w = .ok vs.toArray w) (hn : vs.length = Nat.min sl dLen) (hfit : off + vs.length ≤ cur.length) (h1 : ∀ v ∈ vs, v.oneCell' = true)
    (hk : ∀ w', Sat w' (pts g (.cells (splice cur off vs).toArray T (0, 0)) * R) → Ran w w' → K (a.put o.dst (.int .i64 (vs.length : Int))) w') : o.wp P a w K Q := by
  have hr := run_copy_sat (P := P) dT sT o.type elem hu hsz g off dLen dCap x cur vs T h sl hl hc hn hfit h1
  unfold Oper.wp execOp
  simp only [ho, resolve, invoke, builtin, Sem.run_bind, Sem.run_pure, Result.andThen_ok, List.map_toArray, List.map_cons, List.map_nil, hd, hx, hr]
  exact hk _ h.setRow (Ran.row (Below.refl _ _) _ _)

theorem wpList_copy_sat {w : World} {R : Hp} {ops : Array Oper} {rest : List Oper} {o : Oper} {a : Act} {Q : Exit → Act → World → Prop} (hgd : o.guard = none) (d s : Operand) (dT sT : TypeId)
    (ho : o.op = .call { callee := .builtin .copy, args := #[d, s], argTypes := #[dT, sT] }) (elem : TypeId) (hu : P.underlying dT = some (.slice elem)) (hsz : (P.info? elem).map (·.size) = some 1) (g off dLen dCap : Nat) (x : Value) (hd : a.eval d = .slice (some ⟨g, off, none⟩) dLen dCap) (hx : a.eval s = x) (cur vs : List Value) (T : TypeId)
    (h : Sat w (pts g (.cells cur.toArray T (0, 0)) * R)) (sl : Nat) (hl : (Builtin.lenOf x).run P w = .ok sl w) (hc : (Builtin.firstCells 1 (Nat.min sl dLen) x).run P w = .ok vs.toArray w) (hn : vs.length = Nat.min sl dLen) (hfit : off + vs.length ≤ cur.length) (h1 : ∀ v ∈ vs, v.oneCell' = true)
    (hk : ∀ w', Sat w' (pts g (.cells (splice cur off vs).toArray T (0, 0)) * R) → Ran w w' → wpList P ops Q rest (a.put o.dst (.int .i64 (vs.length : Int))) w') : wpList P ops Q (o :: rest) a w :=
  wpList_plain hgd fun _ hK => wp_copy_sat d s dT sT ho elem hu hsz g off dLen dCap x hd hx cur vs T h sl hl hc hn hfit h1 fun w' h2 h3 => hK _ _ (hk w' h2 h3)

theorem step_copy_sat {w : World} {R : Hp} {ops : Array Oper} {o : Oper} {a : Act} {K : Act → World → Prop} {Q : Exit → Act → World → Prop} {E : Prop} (hgd : o.guard = none) (d s : Operand) (dT sT : TypeId)
    (ho : o.op = .call { callee := .builtin .copy, args := #[d, s], argTypes := #[dT, sT] }) (elem : TypeId) (hu : P.underlying dT = some (.slice elem)) (hsz : (P.info? elem).map (·.size) = some 1) (g off dLen dCap : Nat) (x : Value) (hd : a.eval d = .slice (some ⟨g, off, none⟩) dLen dCap) (hx : a.eval s = x) (cur vs : List Value) (T : TypeId)
    (h : Sat w (pts g (.cells cur.toArray T (0, 0)) * R)) (sl : Nat) (hl : (Builtin.lenOf x).run P w = .ok sl w) (hc : (Builtin.firstCells 1 (Nat.min sl dLen) x).run P w = .ok vs.toArray w) (hn : vs.length = Nat.min sl dLen) (hfit : off + vs.length ≤ cur.length) (h1 : ∀ v ∈ vs, v.oneCell' = true)
    (hk : ∀ w', Sat w' (pts g (.cells (splice cur off vs).toArray T (0, 0)) * R) → Ran w w' → K (a.put o.dst (.int .i64 (vs.length : Int))) w') :
    if Region.wanted o (yielded ops a.tmps) = true then Oper.wp P o a w K Q else E := by
  rw [if_pos (by simp [Region.wanted, hgd])]
  exact wp_copy_sat d s dT sT ho elem hu hsz g off dLen dCap x hd hx cur vs T h sl hl hc hn hfit h1 hk
end
end Go.Proofs.YteienbdbhnikbaaGreatDoor
namespace Go.Proofs.YteienbdbhnikbaaGreatDoor.Spill
open Go.RowKit Go.Proofs.YteienbdbhnikbaaGreatDoor Go.Proofs.YteienbdbhnikbaaGreatDoor.Hp

theorem info58 : (Tryz.prog.info? 137).map (fun i => (i.zero, i.size, i.bytes)) = some (some (.slice none 0 0), 1, 24) := by kernel_rfl
theorem info5 : (Tryz.prog.info? 5).map (fun i => (i.zero, i.size, i.bytes)) = some (some (.int .u8 0), 1, 1) := by kernel_rfl

/-- A chunk's slice. -/
def bs (c : Nat) (x : Nat × List Value) : Value := .slice (some ⟨x.1, 0, none⟩) c c
/-- A chunk: a block of c cells. -/
def chunk (c : Nat) (x : Nat × List Value) : Hp := fact (x.2.length = c) * pts x.1 (.cells x.2.toArray 5 (0, 0))
/-- A pool's fields. -/
abbrev pf (q m c held used opn : Int) (v : Value) : Obj := .cells #[.int .i64 q, .int .i64 m, .int .i64 c, .int .i64 held, .int .i64 used, .int .i64 opn, v] 129 (0, 0)
/-- A pool: its fields, the chunks that are free. -/
def pool (bp q m c held used opn : Nat) (p : Option Addr) (cap : Nat) (F : List (Nat × List Value)) : Hp :=
  pts bp (pf q m c held used opn (.slice p F.length cap)) * (arr 137 1 p F.length cap (F.map (bs c)) * all (chunk c) F)

theorem cells7 {w : World} {b : Nat} {T : TypeId} {v0 v1 v2 v3 v4 v5 v6 : Value} (h : w.heap[b]? = some (.cells #[v0, v1, v2, v3, v4, v5, v6] T (0, 0))) :
    w.cell? ⟨b, 0, none⟩ = some v0 ∧ w.cell? ⟨b, 1, none⟩ = some v1 ∧ w.cell? ⟨b, 2, none⟩ = some v2 ∧ w.cell? ⟨b, 3, none⟩ = some v3 ∧ w.cell? ⟨b, 4, none⟩ = some v4 ∧ w.cell? ⟨b, 5, none⟩ = some v5 ∧ w.cell? ⟨b, 6, none⟩ = some v6 ∧
      ∀ i, w.frozen? ⟨b, i, none⟩ = false := by
  refine ⟨?_, ?_, ?_, ?_, ?_, ?_, ?_, free_at h⟩ <;> (rw [cell_at h]; rfl)

def TakePost (bp q m c held used opn : Nat) (F : List (Nat × List Value)) (R : Hp) (w : World) (e : Ending) (w' : World) : Prop :=
  ∃ x p' cap' F', e = .returned (.slice (some ⟨x.1, 0, none⟩) c c) ∧ F'.length = F.length - 1 ∧ Sat w' (pool bp q m c held (used + 1) opn p' cap' F' * (chunk c x * R)) ∧ Ran w w'

set_option maxHeartbeats 400000 in
theorem take_some (bp q m c held used opn g o cap : Nat) (F : List (Nat × List Value)) (x : Nat × List Value) (R : Hp) (w : World) (hu : used ≤ 1000000000000)
    (H : Sat w (pool bp q m c held used opn (some ⟨g, o, none⟩) cap (F ++ [x]) * R)) :
    Calls Tryz.prog 182 #[.pointer (some ⟨bp, 0, none⟩)] w (TakePost bp q m c held used opn (F ++ [x]) R w) := by
  have H1 := H.perm (sep_assoc _ _ _)
  obtain ⟨c0, c1, c2, c3, c4, c5, c6, cf⟩ := cells7 H1.get
  have HA : Sat w (arr 137 1 (some ⟨g, o, none⟩) (F ++ [x]).length cap ((F ++ [x]).map (bs c)) * (pts bp (pf q m c held used opn (.slice (some ⟨g, o, none⟩) (F ++ [x]).length cap)) * (all (chunk c) (F ++ [x]) * R))) := H1.perm (by ac_rfl)
  obtain ⟨hne, hx, hl, hm⟩ : bp ≠ g ∧ w.cell? ⟨g, o + F.length, none⟩ = some (.slice (some ⟨x.1, 0, none⟩) c c) ∧ (F.length : Int) + 1 ≤ cap ∧ (cap : Int) ≤ 9223372036854775807 := by
    obtain ⟨cur, _, hl, hm, hsz, _, hcell, Hg⟩ := Sat.arr_some HA
    simp only [List.length_append, List.length_cons, List.length_nil] at hl
    unfold maxLen at hm
    refine ⟨Hg.ne.symm, ?_, by omega, by omega⟩
    rw [cell_at Hg.get, hcell _ (by simp)]; simp [bs]
  simp only [List.length_append, List.length_cons, List.length_nil, Nat.zero_add] at c6
  have hb2 : (0 : Int) ≤ (F.length : Int) := by omega
  go_enter Tryz.func182, Tryz.ntmps182
  go_wp2
  go_ret
  have H2 : Sat ((w.setCell ⟨bp, 4, none⟩ (.int .i64 ((used : Int) + 1))).setCell ⟨bp, 6, none⟩ (.slice (some ⟨g, o, none⟩) F.length cap))
      (pts bp (pf q m c held (used + 1 : Nat) opn (.slice (some ⟨g, o, none⟩) F.length cap)) * (arr 137 1 (some ⟨g, o, none⟩) (F ++ [x]).length cap ((F ++ [x]).map (bs c)) * all (chunk c) (F ++ [x]) * R)) :=
    (H1.set (i := 4) (.int .i64 ((used : Int) + 1))).set (i := 6) (.slice (some ⟨g, o, none⟩) F.length cap)
  rw [all_snoc] at H2
  have H3 := (H2.perm (show _ = arr 137 1 (some ⟨g, o, none⟩) (F ++ [x]).length cap ((F ++ [x]).map (bs c)) * (pts bp (pf q m c held (used + 1 : Nat) opn (.slice (some ⟨g, o, none⟩) F.length cap)) * (all (chunk c) F * (chunk c x * R))) by ac_rfl)).arr_take F.length (by simp)
  have e : List.take (F.length * 1) ((F ++ [x]).map (bs c)) = F.map (bs c) := by simp
  rw [e] at H3
  exact ⟨x, some ⟨g, o, none⟩, cap, F, rfl, by simp, H3.perm (by unfold pool; ac_rfl), Ran.set (Ran.set (Below.refl _ _) _ _) _ _⟩

set_option maxHeartbeats 400000 in
theorem take_none (bp q m c held used opn cap : Nat) (p : Option Addr) (R : Hp) (w : World) (hu : used ≤ 1000000000000) (hc : c ≤ 65536)
    (H : Sat w (pool bp q m c held used opn p cap [] * R)) :
    Calls Tryz.prog 182 #[.pointer (some ⟨bp, 0, none⟩)] w (TakePost bp q m c held used opn [] R w) := by
  have H1 := H.perm (sep_assoc _ _ _)
  obtain ⟨c0, c1, c2, c3, c4, c5, c6, cf⟩ := cells7 H1.get
  simp only [List.length_nil] at c6
  obtain ⟨i0, hi, hz0, hz1, hz2⟩ := info_parts info5
  have hmk : ∀ w' : World, (Instr.makeSlice 137 (.int .i64 (c : Int)) (.int .i64 (c : Int))).run Tryz.prog w' = .ok (.slice (some ⟨w'.heap.size, 0, none⟩) c c) (w'.alloc (.cells (madeCells #[.int .u8 0] c) 5)) := fun w' => by
    have := run_make (P := Tryz.prog) w' _ _ i0 _ Tryz.underlying137 hi hz0 .i64 .i64 (c : Int) (c : Int) (by omega) (by omega) (by rw [hz2]; omega) (by omega)
    simpa [hz1, Value.cells] using this
  clear hi hz0 hz1 hz2
  go_enter Tryz.func182, Tryz.ntmps182
  go_wp2
  go_ret
  have H2 : Sat (w.setCell ⟨bp, 4, none⟩ (.int .i64 ((used : Int) + 1))) (pts bp (pf q m c held (used + 1 : Nat) opn (.slice p 0 cap)) * (arr 137 1 p 0 cap [] * emp * R)) :=
    H1.set (i := 4) (.int .i64 ((used : Int) + 1))
  have H3 := H2.alloc (.cells (madeCells #[.int .u8 0] c) 5)
  have hs : (madeCells #[Value.int .u8 0] c).toList.length = c := by simp [size_madeCells]
  refine ⟨(w.heap.size, (madeCells #[.int .u8 0] c).toList), p, cap, [], rfl, rfl, ?_, Ran.new (Ran.set (Below.refl _ _) _ _) _⟩
  unfold pool chunk
  have H4 : Sat ((w.setCell ⟨bp, 4, none⟩ (.int .i64 ((used : Int) + 1))).alloc (.cells (madeCells #[.int .u8 0] c) 5)) (fact ((madeCells #[Value.int .u8 0] c).toList.length = c) * (pts w.heap.size (.cells (madeCells #[.int .u8 0] c) 5 (0, 0)) * (pts bp (pf q m c held (used + 1 : Nat) opn (.slice p 0 cap)) * (arr 137 1 p 0 cap [] * emp * R)))) := by
    rw [World.size_setCell] at H3
    exact H3.fact_in hs
  exact H4.perm (by show _ = pts bp _ * (arr 137 1 p 0 cap [] * emp) * (fact _ * pts w.heap.size (.cells _ _ (0, 0)) * R); ac_rfl)

theorem take_calls (bp q m c held used opn cap : Nat) (p : Option Addr) (F : List (Nat × List Value)) (R : Hp) (w : World) (hu : used ≤ 1000000000000) (hc : c ≤ 65536)
    (H : Sat w (pool bp q m c held used opn p cap F * R)) :
    Calls Tryz.prog 182 #[.pointer (some ⟨bp, 0, none⟩)] w (TakePost bp q m c held used opn F R w) := by
  rcases List.eq_nil_or_concat F with rfl | ⟨F, x, rfl⟩
  · exact take_none bp q m c held used opn cap p R w hu hc H
  · rw [List.concat_eq_append] at H ⊢
    obtain ⟨b, o, rfl⟩ : ∃ b o, p = some ⟨b, o, none⟩ := by
      have HA : Sat w (arr 137 1 p (F ++ [x]).length cap ((F ++ [x]).map (bs c)) * (pts bp (pf q m c held used opn (.slice p (F ++ [x]).length cap)) * (all (chunk c) (F ++ [x]) * R))) := H.perm (by unfold pool; ac_rfl)
      exact HA.arr_addr (by have := HA.arr_len; simp at this; omega)
    exact take_some bp q m c held used opn b o cap F x R w hu H

/-- append of one chunk's slice that lies in a block of its own. -/
theorem app58 {w : World} {R : Hp} {ops : Array Oper} {rest : List Oper} {o : Oper} {a : Act} {Q : Exit → Act → World → Prop} (hgd : o.guard = none) (s x : Operand)
    (ho : o.op = .call { callee := .builtin .append, args := #[s, x], argTypes := #[127, 127] })
    (p : Option Addr) (n cap : Nat) (xs : List Value) (hp : a.eval s = .slice p n cap) (b : Nat) (v : Value) (hvx : a.eval x = .slice (some ⟨b, 0, none⟩) 1 1) (h : Sat w (arr 137 1 p n cap xs * R)) (hb : w.cell? ⟨b, 0, none⟩ = some v) (hv : v.oneCell' = true) (hn : n ≤ 1000000000000)
    (hk : ∀ p' cap' w', Sat w' (arr 137 1 p' (n + 1) cap' (xs ++ [v]) * R) → Ran w w' → wpList Tryz.prog ops Q rest (a.put o.dst (.slice p' (n + 1) cap')) w') : wpList Tryz.prog ops Q (o :: rest) a w := by
  obtain ⟨i0, hi, hz0, hz1, hz2⟩ := info_parts info58
  refine wpList_append_arr hgd s x _ _ ho 137 i0 _ 1 24 Tryz.underlying127 hi hz0 hz1 hz2 rfl p n cap xs hp h _ hvx 1 [v] (Src.ofSlice _ Tryz.underlying127 ⟨b, 0, none⟩ 1 1 [v] (by simp [hz1]) ?_ (by simpa using hv)) (by omega) (by unfold maxLen; omega) fun p' cap' w' h1 h2 _ => hk p' cap' w' h1 h2
  intro j u hj
  cases j with
  | zero => simp at hj; subst hj; simpa [Addr.add] using hb
  | succ j => simp at hj

/-- The same, as a step of a region that draws its order. -/
theorem stepapp58 {w : World} {R : Hp} {ops : Array Oper} {o : Oper} {a : Act} {K : Act → World → Prop} {Q : Exit → Act → World → Prop} {E : Prop} (hgd : o.guard = none) (s x : Operand)
    (ho : o.op = .call { callee := .builtin .append, args := #[s, x], argTypes := #[127, 127] })
    (p : Option Addr) (n cap : Nat) (xs : List Value) (hp : a.eval s = .slice p n cap) (b : Nat) (v : Value) (hvx : a.eval x = .slice (some ⟨b, 0, none⟩) 1 1) (h : Sat w (arr 137 1 p n cap xs * R)) (hb : w.cell? ⟨b, 0, none⟩ = some v) (hv : v.oneCell' = true) (hn : n ≤ 1000000000000)
    (hk : ∀ p' cap' w', Sat w' (arr 137 1 p' (n + 1) cap' (xs ++ [v]) * R) → Ran w w' → K (a.put o.dst (.slice p' (n + 1) cap')) w') : if Region.wanted o (yielded ops a.tmps) = true then Oper.wp Tryz.prog o a w K Q else E := by
  obtain ⟨i0, hi, hz0, hz1, hz2⟩ := info_parts info58
  refine step_append_arr hgd s x _ _ ho 137 i0 _ 1 24 Tryz.underlying127 hi hz0 hz1 hz2 rfl p n cap xs hp h _ hvx 1 [v] (Src.ofSlice _ Tryz.underlying127 ⟨b, 0, none⟩ 1 1 [v] (by simp [hz1]) ?_ (by simpa using hv)) (by omega) (by unfold maxLen; omega) fun p' cap' w' h1 h2 _ => hk p' cap' w' h1 h2
  intro j u hj
  cases j with
  | zero => simp at hj; subst hj; simpa [Addr.add] using hb
  | succ j => simp at hj

def GivePost (bp q m c held used opn : Nat) (F : List (Nat × List Value)) (R : Hp) (w : World) (e : Ending) (w' : World) : Prop :=
  e = .returned (.tuple #[]) ∧ ∃ p' cap', Sat w' (pool bp q m c held used opn p' cap' F * R) ∧ Ran w w'

set_option maxHeartbeats 400000 in
theorem give_calls (bp q m c held used opn cap : Nat) (p : Option Addr) (F : List (Nat × List Value)) (x : Nat × List Value) (R : Hp) (w : World) (hu : used ≤ 1000000000000) (hF : F.length ≤ 1000000000000)
    (H : Sat w (pool bp q m c held (used + 1) opn p cap F * (chunk c x * R))) :
    Calls Tryz.prog 176 #[.pointer (some ⟨bp, 0, none⟩), .slice (some ⟨x.1, 0, none⟩) c c] w (GivePost bp q m c held used opn (F ++ [x]) R w) := by
  have H1 := H.perm (sep_assoc _ _ _)
  obtain ⟨c0, c1, c2, c3, c4, c5, c6, cf⟩ := cells7 H1.get
  rw [show ((used + 1 : Nat) : Int) = (used : Int) + 1 from rfl] at c4
  have H2 : Sat (w.setCell ⟨bp, 4, none⟩ (.int .i64 (used : Int))) (pts bp (pf q m c held used opn (.slice p F.length cap)) * (arr 137 1 p F.length cap (F.map (bs c)) * all (chunk c) F * (chunk c x * R))) :=
    H1.set (i := 4) (.int .i64 (used : Int))
  have H3 : Sat ((w.setCell ⟨bp, 4, none⟩ (.int .i64 (used : Int))).alloc (.cells #[.slice (some ⟨x.1, 0, none⟩) c c] 137)) (arr 137 1 p F.length cap (F.map (bs c)) * (pts bp (pf q m c held used opn (.slice p F.length cap)) * (all (chunk c) (F ++ [x]) * R))) := by
    rw [all_snoc]
    exact (H2.old _).perm (by ac_rfl)
  have HR3 : Ran w ((w.setCell ⟨bp, 4, none⟩ (.int .i64 (used : Int))).alloc (.cells #[.slice (some ⟨x.1, 0, none⟩) c c] 137)) := Ran.new (Ran.set (Below.refl _ _) _ _) _
  have Hc : ((w.setCell ⟨bp, 4, none⟩ (.int .i64 (used : Int))).alloc (.cells #[.slice (some ⟨x.1, 0, none⟩) c c] 137)).cell? ⟨w.heap.size, 0, none⟩ = some (.slice (some ⟨x.1, 0, none⟩) c c) := by
    have := World.cell?_alloc_new (w.setCell ⟨bp, 4, none⟩ (.int .i64 (used : Int))) #[.slice (some ⟨x.1, 0, none⟩) c c] 137 0
    simpa using this
  have HC := Lib.hid Hc
  clear H1 H2 Hc
  go_enter Tryz.func176, Tryz.ntmps176
  go_wp2_with (at_builtin; refine app58 rfl _ _ rfl p F.length cap _ rfl w.heap.size (.slice (some ⟨x.1, 0, none⟩) c c) rfl H3 HC.out rfl hF ?_; intro p' cap' w' HS' HR'; clear H3 HC; have HB := HS'.perm (show _ = pts bp (pf q m c held used opn (.slice p F.length cap)) * (arr 137 1 p' (F.length + 1) cap' (F.map (bs c) ++ [bs c x]) * (all (chunk c) (F ++ [x]) * R)) by unfold bs; ac_rfl); obtain ⟨d0, d1, d2, d3, d4, d5, d6, df⟩ := cells7 HB.get)
  go_end0
  have H4 : Sat (w'.setCell ⟨bp, 6, none⟩ (.slice p' (F.length + 1) cap')) (pts bp (pf q m c held used opn (.slice p' (F.length + 1) cap')) * (arr 137 1 p' (F.length + 1) cap' (F.map (bs c) ++ [bs c x]) * (all (chunk c) (F ++ [x]) * R))) := HB.set (i := 6) (.slice p' (F.length + 1) cap')
  refine ⟨rfl, p', cap', H4.perm ?_, Ran.set (HR3.trans HR') _ _⟩
  unfold pool
  rw [List.length_append, List.map_append]
  show _ = pts bp (pf q m c held used opn (.slice p' (F.length + 1) cap')) * (arr 137 1 p' (F.length + 1) cap' (F.map (bs c) ++ [bs c x]) * _) * _
  ac_rfl
end Go.Proofs.YteienbdbhnikbaaGreatDoor.Spill
namespace Go.Proofs.YteienbdbhnikbaaGreatDoor.Spill
open Go.RowKit Go.Proofs.YteienbdbhnikbaaGreatDoor Go.Proofs.YteienbdbhnikbaaGreatDoor.Hp

theorem is_nil (w : World) : Calls Tryz.prog 172 #[.pointer none] w fun e w' => e = .returned (.int .i64 2) ∧ w = w' := by
  go_enter Tryz.func172, Tryz.ntmps172
  go_wp2
  go_ret
  exact ⟨rfl, rfl⟩
theorem is_open (w : World) (b : Nat) (hh : w.cell? ⟨b, 1, none⟩ = some (.bool false)) :
    Calls Tryz.prog 172 #[.pointer (some ⟨b, 0, none⟩)] w fun e w' => e = .returned (.int .i64 0) ∧ w = w' := by
  go_enter Tryz.func172, Tryz.ntmps172
  go_wp2
  go_ret
  exact ⟨rfl, rfl⟩
theorem len_nil (w : World) : Calls Tryz.prog 166 #[.pointer none] w fun e w' => e = .returned (.int .i64 0) ∧ w = w' := by
  go_enter Tryz.func166, Tryz.ntmps166
  go_wp2_with (go_at_call 172; refine (is_nil _).mono ?_; rintro e w' ⟨rfl, rfl⟩)
  go_ret
  exact ⟨rfl, rfl⟩
theorem len_open (w : World) (b f t : Nat) (hh : w.cell? ⟨b, 1, none⟩ = some (.bool false)) (hf : w.cell? ⟨b, 5, none⟩ = some (.int .i64 f)) (ht : w.cell? ⟨b, 6, none⟩ = some (.int .i64 t)) (h1 : f ≤ t) (h2 : t ≤ 1000000000000) :
    Calls Tryz.prog 166 #[.pointer (some ⟨b, 0, none⟩)] w fun e w' => e = .returned (.int .i64 ((t : Int) - f)) ∧ ∃ n, w' = w.drewN n := by
  go_enter Tryz.func166, Tryz.ntmps166
  go_wp2_with (go_at_call 172; refine (is_open _ _ hh).mono ?_; rintro e w' ⟨rfl, rfl⟩)
  go_quiet (fail)
  go_wp2
  go_ret
  exact ⟨rfl, _, rfl⟩

def NewPost (q m c : Nat) (R : Hp) (w : World) (e : Ending) (w' : World) : Prop :=
  ∃ bp, e = .returned (.tuple #[.pointer (some ⟨bp, 0, none⟩), .int .i64 0]) ∧ Sat w' (pool bp q m c 0 0 0 none 0 [] * R) ∧ Ran w w'
theorem new_good (q m c : Nat) (w : World) (R : Hp) (H : Sat w R) (h2 : q ≤ 1048576) (h4 : m ≤ 65536) (h5 : 1 ≤ c) (h6 : c ≤ 65536) :
    Calls Tryz.prog 31 #[.int .i64 q, .int .i64 m, .int .i64 c] w (NewPost q m c R w) := by
  have g1 : ¬ ((q : Int) < 0) := by omega
  have g2 : ¬ ((1048576 : Int) < q) := by omega
  have g3 : ¬ ((m : Int) < 0) := by omega
  have g4 : ¬ ((65536 : Int) < m) := by omega
  have g5 : ¬ ((c : Int) < 1) := by omega
  have g6 : ¬ ((65536 : Int) < c) := by omega
  go_enter Tryz.func31, Tryz.ntmps31
  go_wp2
  go_ret2
  refine ⟨w.heap.size, rfl, ?_, Ran.new (Below.refl _ _) _⟩
  have := (H.alloc (pf q m c 0 0 0 (.slice none 0 0)))
  refine (this.perm ?_)
  unfold pool
  show _ = pts w.heap.size (pf q m c 0 0 0 (.slice none 0 0)) * (arr 137 1 none 0 0 [] * emp) * R
  rw [arr_nil, emp_sep, sep_emp]

/-- A buffer's fields. -/
abbrev bf (bp : Nat) (closed : Bool) (first chunks : Value) (gone frm til : Int) : Obj := .cells #[.pointer (some ⟨bp, 0, none⟩), .bool closed, first, chunks, .int .i64 gone, .int .i64 frm, .int .i64 til] 166 (0, 0)
/-- An open buffer: its fields, its first bytes, its chunks. -/
def bufO (bb bp m c fb : Nat) (p : Option Addr) (cap gone frm til : Nat) (fs : List Value) (L : List (Nat × List Value)) : Hp :=
  pts bb (bf bp false (.slice (some ⟨fb, 0, none⟩) m m) (.slice p L.length cap) gone frm til) *
    (fact (fs.length = m) * pts fb (.cells fs.toArray 5 (0, 0)) * (arr 137 1 p L.length cap (L.map (bs c)) * all (chunk c) L))

def OpenPost (bp q m c held used opn cap : Nat) (p : Option Addr) (F : List (Nat × List Value)) (R : Hp) (w : World) (e : Ending) (w' : World) : Prop :=
  ∃ bb fb fs, e = .returned (.pointer (some ⟨bb, 0, none⟩)) ∧ Sat w' (pool bp q m c held used (opn + 1) p cap F * (bufO bb bp m c fb none 0 0 0 0 fs [] * R)) ∧ Ran w w'
set_option maxHeartbeats 400000 in
theorem open_calls (bp q m c held used opn cap : Nat) (p : Option Addr) (F : List (Nat × List Value)) (R : Hp) (w : World) (hu : opn ≤ 1000000000000) (hm : m ≤ 65536) (H : Sat w (pool bp q m c held used opn p cap F * R)) :
    Calls Tryz.prog 69 #[.pointer (some ⟨bp, 0, none⟩)] w (OpenPost bp q m c held used opn cap p F R w) := by
  have H1 := H.perm (sep_assoc _ _ _)
  obtain ⟨c0, c1, c2, c3, c4, c5, c6, cf⟩ := cells7 H1.get
  obtain ⟨i0, hi, hz0, hz1, hz2⟩ := info_parts info5
  have hmk : ∀ w' : World, (Instr.makeSlice 137 (.int .i64 (m : Int)) (.int .i64 (m : Int))).run Tryz.prog w' = .ok (.slice (some ⟨w'.heap.size, 0, none⟩) m m) (w'.alloc (.cells (madeCells #[.int .u8 0] m) 5)) := fun w' => by
    have := run_make (P := Tryz.prog) w' _ _ i0 _ Tryz.underlying137 hi hz0 .i64 .i64 (m : Int) (m : Int) (by omega) (by omega) (by rw [hz2]; omega) (by omega)
    simpa [hz1, Value.cells] using this
  clear hi hz0 hz1 hz2
  go_enter Tryz.func69, Tryz.ntmps69
  go_wp2
  go_ret
  have hs : (madeCells #[Value.int .u8 0] m).toList.length = m := by simp [size_madeCells]
  refine ⟨w.heap.size + 1, w.heap.size, (madeCells #[.int .u8 0] m).toList, rfl, ?_, Ran.new (Ran.new (Ran.set (Below.refl _ _) _ _) _) _⟩
  have H2 : Sat (w.setCell ⟨bp, 5, none⟩ (.int .i64 ((opn : Int) + 1))) (pts bp (pf q m c held used (opn + 1 : Nat) (.slice p F.length cap)) * (arr 137 1 p F.length cap (F.map (bs c)) * all (chunk c) F * R)) :=
    H1.set (i := 5) (.int .i64 ((opn : Int) + 1))
  have H3 := (H2.alloc (.cells (madeCells #[.int .u8 0] m) 5))
  have H4 := H3.alloc (bf bp false (.slice (some ⟨w.heap.size, 0, none⟩) m m) (.slice none 0 0) 0 0 0)
  simp only [World.size_alloc, World.size_setCell] at H4
  have H5 := H4.fact_in hs
  refine H5.perm ?_
  unfold pool bufO
  show _ = pts bp (pf q m c held used (opn + 1 : Nat) (.slice p F.length cap)) * (arr 137 1 p F.length cap (F.map (bs c)) * all (chunk c) F) * (pts (w.heap.size + 1) (bf bp false (.slice (some ⟨w.heap.size, 0, none⟩) m m) (.slice none 0 0) 0 0 0) *
    (fact ((madeCells #[Value.int .u8 0] m).toList.length = m) * pts w.heap.size (.cells (madeCells #[Value.int .u8 0] m) 5 (0, 0)) * (arr 137 1 none 0 0 [] * emp)) * R)
  rw [arr_nil, emp_sep, sep_emp]
  ac_rfl
/-- at, in memory. -/
theorem at_first (w : World) (bb bp fb m pl : Nat) (h0 : w.cell? ⟨bb, 0, none⟩ = some (.pointer (some ⟨bp, 0, none⟩))) (h2 : w.cell? ⟨bb, 2, none⟩ = some (.slice (some ⟨fb, 0, none⟩) m m)) (hm : w.cell? ⟨bp, 1, none⟩ = some (.int .i64 m)) (hl : (pl : Int) < m) :
    Calls Tryz.prog 175 #[.pointer (some ⟨bb, 0, none⟩), .int .i64 pl] w fun e w' => e = .returned (.slice (some ⟨fb, pl, none⟩) (m - pl) (m - pl)) ∧ ∃ n, w' = w.drewN n := by
  go_enter Tryz.func175, Tryz.ntmps175
  go_wp2
  go_ret
  exact ⟨rfl, 0, rfl⟩
set_option maxHeartbeats 400000 in
/-- at, in a chunk. -/
theorem at_chunk (w : World) (bb bp m c b g o n cap gone k off : Nat) (pl : Int) (h0 : w.cell? ⟨bb, 0, none⟩ = some (.pointer (some ⟨bp, 0, none⟩))) (h3 : w.cell? ⟨bb, 3, none⟩ = some (.slice (some ⟨g, o, none⟩) n cap)) (h4 : w.cell? ⟨bb, 4, none⟩ = some (.int .i64 gone))
    (hm : w.cell? ⟨bp, 1, none⟩ = some (.int .i64 m)) (hc : w.cell? ⟨bp, 2, none⟩ = some (.int .i64 c)) (hk : w.cell? ⟨g, o + k, none⟩ = some (.slice (some ⟨b, 0, none⟩) c c)) (hkn : (k : Int) < n) (hoff : (off : Int) < c) (hc1 : c ≤ 65536) (hmp : (m : Int) ≤ pl) (hpl : pl ≤ 1000000000000)
    (e1 : (pl - m) / c = (gone : Int) + k) (e2 : (pl - m) % c = off) (hgk : gone + k ≤ 1000000000000) :
    Calls Tryz.prog 175 #[.pointer (some ⟨bb, 0, none⟩), .int .i64 pl] w fun e w' => e = .returned (.slice (some ⟨b, off, none⟩) (c - off) (c - off)) ∧ ∃ n, w' = w.drewN n := by
  have hc0 : (1 : Int) ≤ c := by omega
  have hlt : ¬ (pl < m) := by omega
  go_enter Tryz.func175, Tryz.ntmps175
  go_wp2_with fail
  go_quiet (fail)
  go_wp2
  go_ret
  exact ⟨rfl, _, rfl⟩
end Go.Proofs.YteienbdbhnikbaaGreatDoor.Spill
namespace Go.Proofs.YteienbdbhnikbaaGreatDoor.Spill
open Go.RowKit Go.Proofs.YteienbdbhnikbaaGreatDoor Go.Proofs.YteienbdbhnikbaaGreatDoor.Hp
set_option linter.unusedVariables false

/-- A pool, its free chunks whatever they are; tot: how many chunks there are at most. -/
def poolX (bp q m c held used opn tot : Nat) : Hp := ex fun x : Option Addr × Nat × List (Nat × List Value) => fact (used + x.2.2.length ≤ tot) * pool bp q m c held used opn x.1 x.2.1 x.2.2
/-- An open buffer that has some bytes, from a place on. -/
def bufX (bb bp m c frm : Nat) (data : List UInt8) : Hp := ex fun x : Nat × Option Addr × Nat × List Value × List (Nat × List Value) =>
  fact (x.2.2.2.2.length + gn m c frm = cl m c (frm + data.length) ∧ Holds m c (gn m c frm) frm x.2.2.2.1 x.2.2.2.2 data) * bufO bb bp m c x.1 x.2.1 x.2.2.1 (gn m c frm) frm (frm + data.length) x.2.2.2.1 x.2.2.2.2

theorem poolX_out {w : World} {R : Hp} {bp q m c held used opn tot : Nat} (h : Sat w (poolX bp q m c held used opn tot * R)) : ∃ p cap F, used + F.length ≤ tot ∧ Sat w (pool bp q m c held used opn p cap F * R) := by
  obtain ⟨⟨p, cap, F⟩, h⟩ := Sat.ex_out h
  rw [sep_assoc] at h
  obtain ⟨h1, h⟩ := h.fact_out
  exact ⟨p, cap, F, h1, h⟩
theorem poolX_in {w : World} {R : Hp} {bp q m c held used opn tot cap : Nat} {p : Option Addr} {F : List (Nat × List Value)} (h1 : used + F.length ≤ tot) (h : Sat w (pool bp q m c held used opn p cap F * R)) : Sat w (poolX bp q m c held used opn tot * R) := by
  refine Sat.ex_in (p, cap, F) ?_
  rw [sep_assoc]
  exact h.fact_in h1
theorem bufX_out {w : World} {R : Hp} {bb bp m c frm : Nat} {data : List UInt8} (h : Sat w (bufX bb bp m c frm data * R)) :
    ∃ fb p cap fs L, L.length + gn m c frm = cl m c (frm + data.length) ∧ Holds m c (gn m c frm) frm fs L data ∧ Sat w (bufO bb bp m c fb p cap (gn m c frm) frm (frm + data.length) fs L * R) := by
  obtain ⟨⟨fb, p, cap, fs, L⟩, h⟩ := Sat.ex_out h
  rw [sep_assoc] at h
  obtain ⟨⟨h1, h2⟩, h⟩ := h.fact_out
  exact ⟨fb, p, cap, fs, L, h1, h2, h⟩
theorem bufX_in {w : World} {R : Hp} {bb bp m c frm til fb cap : Nat} {p : Option Addr} {fs : List Value} {L : List (Nat × List Value)} {data : List UInt8} (ht : til = frm + data.length) (h1 : L.length + gn m c frm = cl m c til) (h2 : Holds m c (gn m c frm) frm fs L data)
    (h : Sat w (bufO bb bp m c fb p cap (gn m c frm) frm til fs L * R)) : Sat w (bufX bb bp m c frm data * R) := by
  subst ht
  refine Sat.ex_in (fb, p, cap, fs, L) ?_
  rw [sep_assoc]
  exact h.fact_in ⟨h1, h2⟩

/-- What the walk reads of a pool and an open buffer. -/
theorem facts {w : World} {R : Hp} {bp q m c held used opn cap bb fb cap' gone frm til : Nat} {p p' : Option Addr} {F L : List (Nat × List Value)} {fs : List Value}
    (h : Sat w (pool bp q m c held used opn p cap F * (bufO bb bp m c fb p' cap' gone frm til fs L * R))) :
    (w.cell? ⟨bp, 0, none⟩ = some (.int .i64 q) ∧ w.cell? ⟨bp, 1, none⟩ = some (.int .i64 m) ∧ w.cell? ⟨bp, 2, none⟩ = some (.int .i64 c) ∧ w.cell? ⟨bp, 3, none⟩ = some (.int .i64 held) ∧ w.cell? ⟨bp, 4, none⟩ = some (.int .i64 used) ∧ w.cell? ⟨bp, 5, none⟩ = some (.int .i64 opn) ∧
      (∀ i, w.frozen? ⟨bp, i, none⟩ = false)) ∧
    (w.cell? ⟨bb, 0, none⟩ = some (.pointer (some ⟨bp, 0, none⟩)) ∧ w.cell? ⟨bb, 1, none⟩ = some (.bool false) ∧ w.cell? ⟨bb, 2, none⟩ = some (.slice (some ⟨fb, 0, none⟩) m m) ∧ w.cell? ⟨bb, 3, none⟩ = some (.slice p' L.length cap') ∧ w.cell? ⟨bb, 4, none⟩ = some (.int .i64 gone) ∧ w.cell? ⟨bb, 5, none⟩ = some (.int .i64 frm) ∧ w.cell? ⟨bb, 6, none⟩ = some (.int .i64 til) ∧
      (∀ i, w.frozen? ⟨bb, i, none⟩ = false)) ∧ bp ≠ bb := by
  have h1 : Sat w (pts bp (pf q m c held used opn (.slice p F.length cap)) * (pts bb (bf bp false (.slice (some ⟨fb, 0, none⟩) m m) (.slice p' L.length cap') gone frm til) * (arr 137 1 p F.length cap (F.map (bs c)) * all (chunk c) F * (fact (fs.length = m) * pts fb (.cells fs.toArray 5 (0, 0)) * (arr 137 1 p' L.length cap' (L.map (bs c)) * all (chunk c) L)) * R))) := h.perm (by unfold pool bufO; ac_rfl)
  obtain ⟨c0, c1, c2, c3, c4, c5, _, cf⟩ := cells7 h1.get
  obtain ⟨b0, b1, b2, b3, b4, b5, b6, bf⟩ := cells7 h1.right.get
  exact ⟨⟨c0, c1, c2, c3, c4, c5, cf⟩, ⟨b0, b1, b2, b3, b4, b5, b6, bf⟩, h1.ne⟩

theorem keepB {w : World} {R : Hp} {bb bp : Nat} {cl : Bool} {f ch : Value} {gone frm til : Int} (h : Sat w (pts bb (bf bp cl f ch gone frm til) * R)) : w.cell? ⟨bb, 0, none⟩ = some (.pointer (some ⟨bp, 0, none⟩)) ∧ w.cell? ⟨bb, 3, none⟩ = some ch ∧ w.frozen? ⟨bb, 3, none⟩ = false :=
  ⟨(cells7 h.get).1, (cells7 h.get).2.2.2.1, free_at h.get 3⟩
/-- What is left of a buffer when its fields and one chunk are taken out. -/
def bufR (m c fb : Nat) (p : Option Addr) (cap : Nat) (fs : List Value) (L : List (Nat × List Value)) (k : Nat) : Hp :=
  fact (fs.length = m) * pts fb (.cells fs.toArray 5 (0, 0)) * (arr 137 1 p L.length cap (L.map (bs c)) * (all (chunk c) (L.take k) * all (chunk c) (L.drop (k + 1))))
theorem buf_focus (bb bp m c fb : Nat) (p : Option Addr) (cap gone frm til : Nat) (fs : List Value) (L : List (Nat × List Value)) (k : Nat) (hk : k < L.length) :
    bufO bb bp m c fb p cap gone frm til fs L = pts bb (bf bp false (.slice (some ⟨fb, 0, none⟩) m m) (.slice p L.length cap) gone frm til) * (fact (L[k].2.length = c) * (pts L[k].1 (.cells L[k].2.toArray 5 (0, 0)) * bufR m c fb p cap fs L k)) := by
  unfold bufO bufR
  rw [all_split (chunk c) L k hk]
  show _ = _
  unfold chunk
  ac_rfl
theorem buf_unfocus (bb bp m c fb : Nat) (p : Option Addr) (cap gone frm til : Nat) (fs : List Value) (L : List (Nat × List Value)) (k : Nat) (hk : k < L.length) (ys : List Value) :
    bufO bb bp m c fb p cap gone frm til fs (L.set k (L[k].1, ys)) = pts bb (bf bp false (.slice (some ⟨fb, 0, none⟩) m m) (.slice p L.length cap) gone frm til) * (fact (ys.length = c) * (pts L[k].1 (.cells ys.toArray 5 (0, 0)) * bufR m c fb p cap fs L k)) := by
  unfold bufO bufR
  rw [all_set (chunk c) L k hk, List.length_set]
  have e : (L.set k (L[k].1, ys)).map (bs c) = L.map (bs c) := by
    rw [List.map_set]
    apply List.ext_getElem?
    intro i
    by_cases hi : i = k
    · subst hi; simp [hk, bs]
    · rw [List.getElem?_set_ne (by omega)]
  rw [e]
  show _ * (_ * (_ * (fact (ys.length = c) * pts L[k].1 (.cells ys.toArray 5 (0, 0)) * _))) = _
  ac_rfl

theorem size5 : (Tryz.prog.info? 5).map (·.size) = some 1 := by kernel_rfl

/-- Behind a copy into the chunk where the end stands. -/
theorem close_chunk {w : World} {R : Hp} {bp bb q m c held u opn frm til fb cap cap' tot n k : Nat} {p p' : Option Addr} {F L : List (Nat × List Value)} {fs : List Value} {l ys : List UInt8} (hc : 1 ≤ c) (hk : k < L.length) (hmt : m ≤ til) (ht : frm + l.length = til) (hn : ys.length = n) (hn1 : 1 ≤ n) (hn3 : (til - m) % c + n ≤ c)
    (hkk : gn m c frm + k = (til - m) / c) (hL : L.length + gn m c frm = cl m c (til + n)) (hxl : L[k].2.length = c) (hH : Holds m c (gn m c frm) frm fs L l) (hF : u + F.length ≤ tot)
    (H : Sat w (pts bb (bf bp false (.slice (some ⟨fb, 0, none⟩) m m) (.slice p' L.length cap') (gn m c frm) frm (til + n : Nat)) * (pts L[k].1 (.cells (splice L[k].2 ((til - m) % c) (bytes ys)).toArray 5 (0, 0)) * (bufR m c fb p' cap' fs L k * (pool bp q m c held u opn p cap F * R))))) :
    Sat w (poolX bp q m c held u opn tot * (bufX bb bp m c frm (l ++ ys) * R)) := by
  have hsl : (splice L[k].2 ((til - m) % c) (bytes ys)).length = c := by rw [length_splice _ _ _ (by rw [bytes_length]; omega)]; exact hxl
  have H2 := H.fact_in hsl
  have H3 := H2.perm (show _ = pts bb (bf bp false (.slice (some ⟨fb, 0, none⟩) m m) (.slice p' L.length cap') (gn m c frm) frm (til + n : Nat)) * (fact ((splice L[k].2 ((til - m) % c) (bytes ys)).length = c) * (pts L[k].1 (.cells (splice L[k].2 ((til - m) % c) (bytes ys)).toArray 5 (0, 0)) * bufR m c fb p' cap' fs L k)) * (pool bp q m c held u opn p cap F * R) by ac_rfl)
  rw [← buf_unfocus bb bp m c fb p' cap' (gn m c frm) frm (til + n) fs L k hk] at H3
  refine poolX_in hF ((bufX_in (data := l ++ ys) (by rw [List.length_append]; omega) (by rw [List.length_set]; exact hL) ?_ H3).perm (show _ = pool bp q m c held u opn p cap F * (bufX bb bp m c frm (l ++ ys) * R) by ac_rfl))
  intro i hi
  rw [atp_chunk hc hmt hkk (List.getElem?_eq_getElem hk) hxl (by rw [bytes_length]; omega) (by omega) (by rw [bytes_length]; rw [List.length_append] at hi; omega)]
  exact holds_write ht hH i hi

/-- Behind 'b.chunks = append(b.chunks, b.p.take())'. -/
def Took (bp bb q m c held u opn fb gone frm til : Nat) (fs : List Value) (F L : List (Nat × List Value)) (R : Hp) (w wx : World) : Prop :=
  ∃ x pp pc F' p2 cap2, F'.length = F.length - 1 ∧ Sat wx (pool bp q m c held (u + 1) opn pp pc F' * (bufO bb bp m c fb p2 cap2 gone frm til fs (L ++ [x]) * R)) ∧ Ran w wx
theorem took_in {w w2 : World} {R : Hp} {bp bb q m c held u opn fb gone frm til cap2 pc : Nat} {pp p2 p' : Option Addr} {cap' : Nat} {fs : List Value} {F F' L : List (Nat × List Value)} {x : Nat × List Value} (hF : F'.length = F.length - 1) (hw : Ran w w2)
    (H : Sat w2 (arr 137 1 p2 (L.length + 1) cap2 (L.map (bs c) ++ [.slice (some ⟨x.1, 0, none⟩) c c]) * (pts bb (bf bp false (.slice (some ⟨fb, 0, none⟩) m m) (.slice p' L.length cap') gone frm til) * (pool bp q m c held (u + 1) opn pp pc F' * (chunk c x * (fact (fs.length = m) * pts fb (.cells fs.toArray 5 (0, 0)) * all (chunk c) L * R)))))) :
    Took bp bb q m c held u opn fb gone frm til fs F L R w (w2.setCell ⟨bb, 3, none⟩ (.slice p2 (L.length + 1) cap2)) := by
  have H1 := H.perm (show _ = pts bb (bf bp false (.slice (some ⟨fb, 0, none⟩) m m) (.slice p' L.length cap') gone frm til) * (arr 137 1 p2 (L.length + 1) cap2 (L.map (bs c) ++ [.slice (some ⟨x.1, 0, none⟩) c c]) * (pool bp q m c held (u + 1) opn pp pc F' * (chunk c x * (fact (fs.length = m) * pts fb (.cells fs.toArray 5 (0, 0)) * all (chunk c) L * R)))) by ac_rfl)
  have H2 : Sat (w2.setCell ⟨bb, 3, none⟩ (.slice p2 (L.length + 1) cap2)) (pts bb (bf bp false (.slice (some ⟨fb, 0, none⟩) m m) (.slice p2 (L.length + 1) cap2) gone frm til) * (arr 137 1 p2 (L.length + 1) cap2 (L.map (bs c) ++ [.slice (some ⟨x.1, 0, none⟩) c c]) * (pool bp q m c held (u + 1) opn pp pc F' * (chunk c x * (fact (fs.length = m) * pts fb (.cells fs.toArray 5 (0, 0)) * all (chunk c) L * R))))) := H1.set (i := 3) _
  refine ⟨x, pp, pc, F', p2, cap2, hF, H2.perm ?_, Ran.set hw _ _⟩
  unfold bufO
  rw [List.length_append, List.map_append, all_snoc]
  show _ = _ * (pts bb (bf bp false (.slice (some ⟨fb, 0, none⟩) m m) (.slice p2 (L.length + 1) cap2) gone frm til) * (_ * (arr 137 1 p2 (L.length + 1) cap2 (L.map (bs c) ++ [.slice (some ⟨x.1, 0, none⟩) c c]) * _)) * _)
  ac_rfl

/-- At the loop's head: some bytes have gone over, the rest is in the slot. -/
def ARel (bp bb q m c held U opn tot frm : Nat) (data dl : List UInt8) (R : Hp) (w : World) (k : Nat) (d : Value) (wr : World) : Prop :=
  ∃ done rest, dl = done ++ rest ∧ k = rest.length ∧ d = .string ⟨rest.toArray⟩ ∧
    Sat wr (poolX bp q m c (held + dl.length) (U + (cl m c (frm + (data ++ done).length) - gn m c frm)) opn (tot + done.length) * (bufX bb bp m c frm (data ++ done) * R)) ∧ Ran w wr

theorem wpList_copy_str {w : World} {R : Hp} {ops : Array Oper} {rest : List Oper} {o : Oper} {a : Act} {Q : Exit → Act → World → Prop} (hgd : o.guard = none) (d s : Operand)
    (ho : o.op = .call { callee := .builtin .copy, args := #[d, s], argTypes := #[137, 9] }) (g off dLen dCap : Nat) (l : List UInt8) (hd : a.eval d = .slice (some ⟨g, off, none⟩) dLen dCap) (hx : a.eval s = .string ⟨l.toArray⟩) (cur : List Value)
    (h : Sat w (pts g (.cells cur.toArray 5 (0, 0)) * R)) (n : Nat) (hn : n = min l.length dLen) (hfit : off + n ≤ cur.length)
    (hk : ∀ w', Sat w' (pts g (.cells (splice cur off (bytes (l.take n))).toArray 5 (0, 0)) * R) → Ran w w' → wpList Tryz.prog ops Q rest (a.put o.dst (.int .i64 (n : Int))) w') : wpList Tryz.prog ops Q (o :: rest) a w := by
  have hlen : (bytes (l.take n)).length = n := by rw [bytes_length, List.length_take]; omega
  have := wpList_copy_sat (P := Tryz.prog) (R := R) (ops := ops) (rest := rest) (Q := Q) hgd d s _ _ ho 5 Tryz.underlying137 size5 g off dLen dCap _ hd hx cur (bytes (l.take n)) 5 h l.length
    (by rw [lenOf_string]; rfl) (by rw [firstCells_str]; subst hn; rfl) (by rw [hlen, hn]) (by omega) (bytes_one _) (by rw [hlen]; exact hk)
  exact this

set_option maxRecDepth 100000 in
set_option maxHeartbeats 2000000 in
theorem append_loop (bp bb q m c held U opn tot frm : Nat) (data dl : List UInt8) (R : Hp) (w : World) (hc : 1 ≤ c) (hc2 : c ≤ 65536) (hm : m ≤ 65536) (hq : q ≤ 1048576) (hh : held + dl.length ≤ q) (hf : frm + data.length + dl.length ≤ 1000000000) (hU : U ≤ 1000000000) (htot : tot ≤ 1000000000)
    (H : Sat w (poolX bp q m c held (U + (cl m c (frm + data.length) - gn m c frm)) opn tot * (bufX bb bp m c frm data * R))) :
    Calls Tryz.prog 181 #[.pointer (some ⟨bb, 0, none⟩), .string ⟨dl.toArray⟩] w fun e w' => e = .returned (.int .i64 0) ∧
      Sat w' (poolX bp q m c (held + dl.length) (U + (cl m c (frm + (data ++ dl).length) - gn m c frm)) opn (tot + dl.length) * (bufX bb bp m c frm (data ++ dl) * R)) ∧ Ran w w' := by
  obtain ⟨p, cap, F, hFt, H1⟩ := poolX_out H
  obtain ⟨fb, p', cap', fs, L, hL, hHolds, H2⟩ := bufX_out (H1.perm (sep_comm _ _) |>.perm (sep_assoc _ _ _))
  obtain ⟨⟨c0, c1, c2, c3, c4, c5, cf⟩, ⟨b0, b1, b2, b3, b4, b5, b6, bz⟩, hne⟩ := facts (H2.perm (show _ = pool bp q m c held (U + (cl m c (frm + data.length) - gn m c frm)) opn p cap F * (bufO bb bp m c fb p' cap' (gn m c frm) frm (frm + data.length) fs L * R) by ac_rfl))
  have g1 : ¬ ((q : Int) - held < dl.length) := by omega
  have g2 : (0 : Int) ≤ (q : Int) - held := by omega
  clear hL
  go_enter Tryz.func181, Tryz.ntmps181
  go_wp2_with (go_at_call 172; refine (is_open _ _ b1).mono ?_; rintro e w' ⟨rfl, rfl⟩)
  go_quiet (fail)
  go_wp2_with fail
  go_loopg [1] (dl.length) (ARel bp bb q m c held U opn tot frm data dl R w)
  case atStart =>
    have H3 : Sat ((w.drewN nq).setCell ⟨bp, 3, none⟩ (.int .i64 ((held : Int) + dl.length))) (pts bp (pf q m c (held + dl.length : Nat) (U + (cl m c (frm + data.length) - gn m c frm) : Nat) opn (.slice p F.length cap)) * (arr 137 1 p F.length cap (F.map (bs c)) * all (chunk c) F * (bufX bb bp m c frm data * R))) :=
      ((H1.perm (sep_assoc _ _ _)).drewN nq).set (i := 3) (.int .i64 ((held : Int) + dl.length))
    refine ⟨[], dl, rfl, rfl, rfl, ?_, Ran.set (Ran.drewN (Below.refl _ _) _) _ _⟩
    rw [List.append_nil]
    exact poolX_in hFt (H3.perm (by unfold pool; ac_rfl))
  case round =>
    clear c0 c1 c2 c3 c4 c5 cf b0 b1 b2 b3 b4 b5 b6 bz hne H1 H2 g1 g2 hFt hHolds H p cap F fb p' cap' fs L
    obtain ⟨done, rest, hdl, rfl, rfl, HS, HR⟩ := hrel
    by_cases hr : rest = []
    · subst hr
      have hdl' := Lib.hid hdl
      clear hdl
      go_wp2
      go_ret
      obtain rfl : dl = done := by have := hdl'.out; simpa using this
      exact ⟨rfl, HS, HR⟩
    · obtain ⟨p, cap, F, hFt, H1⟩ := poolX_out HS
      obtain ⟨fb, p', cap', fs, L, hL, hHolds, H2⟩ := bufX_out (H1.perm (sep_comm _ _) |>.perm (sep_assoc _ _ _))
      have hlen : frm + (data ++ done).length + rest.length ≤ 1000000000 := by subst hdl; simp at hf ⊢; omega
      generalize htil : frm + (data ++ done).length = til at *
      have Htil := Lib.hid htil
      have HL := Lib.hid hL
      have Hdl := Lib.hid hdl
      clear htil hL hdl
      obtain ⟨u, hu⟩ : ∃ u, u = U + (cl m c til - gn m c frm) := ⟨_, rfl⟩
      rw [← hu] at HS H1 H2 hFt
      have Hu := Lib.hid hu
      clear hu
      have HP := H2.perm (show _ = pool bp q m c (held + dl.length) u opn p cap F * (bufO bb bp m c fb p' cap' (gn m c frm) frm til fs L * R) by ac_rfl)
      obtain ⟨⟨c0, c1, c2, c3, c4, c5, cf⟩, ⟨b0, b1, b2, b3, b4, b5, b6, bz⟩, hne⟩ := facts HP
      have hr1 : 0 < rest.length := List.length_pos_iff.2 hr
      have hr2 : rest.isEmpty = false := by simpa using hr
      by_cases hA : (til : Int) < m
      · have HF : Sat wr (pts fb (.cells fs.toArray 5 (0, 0)) * (pool bp q m c (held + dl.length) u opn p cap F * (pts bb (bf bp false (.slice (some ⟨fb, 0, none⟩) m m) (.slice p' L.length cap') (gn m c frm) frm til) * (fact (fs.length = m) * (arr 137 1 p' L.length cap' (L.map (bs c)) * all (chunk c) L) * R)))) := HP.perm (by unfold bufO; ac_rfl)
        have hfs := (HF.right.perm (show _ = fact (fs.length = m) * (pool bp q m c (held + dl.length) u opn p cap F * (pts bb (bf bp false (.slice (some ⟨fb, 0, none⟩) m m) (.slice p' L.length cap') (gn m c frm) frm til) * ((arr 137 1 p' L.length cap' (L.map (bs c)) * all (chunk c) L) * R))) by ac_rfl)).fact_out.1
        have Hfs := Lib.hid hfs
        clear hfs
        obtain ⟨n, hn⟩ : ∃ n, n = min rest.length (m - til) := ⟨_, rfl⟩
        have hn1 : (1 : Int) ≤ n := by omega
        have hn2 : (n : Int) ≤ rest.length := by omega
        have hn3 : (til : Int) + n ≤ m := by omega
        have Hn := Lib.hid hn
        clear hn
        go_wp2_with fail
        go_quiet (fail)
        go_wp2_with (first
          | (go_at_call 175; refine (at_first _ bb bp fb m til (by exact b0) (by exact b2) (by exact c1) hA).mono ?_; rintro e w' ⟨rfl, nq2, rfl⟩)
          | (with_reducible refine wpList_copy_str (o := ⟨some 92, _, _, _, _, _⟩) rfl _ _ rfl fb til (m - til) (m - til) rest rfl rfl fs (Sat.drewN HF _) n Hn.out (by have := Hfs.out; omega) ?_; intro w2 HS2 HR2; have HB := HS2.perm (show _ = pts bb (bf bp false (.slice (some ⟨fb, 0, none⟩) m m) (.slice p' L.length cap') (gn m c frm) frm til) * (pts fb (.cells (splice fs til (bytes (rest.take n))).toArray 5 (0, 0)) * (pool bp q m c (held + dl.length) u opn p cap F * (fact (fs.length = m) * (arr 137 1 p' L.length cap' (L.map (bs c)) * all (chunk c) L) * R))) by ac_rfl); obtain ⟨d0, d1, d2, d3, d4, d5, d6, dz⟩ := cells7 HB.get))
        go_roundg (rest.length - n)
        case measure => omega
        case rel =>
          have HB2 : Sat (w2.setCell ⟨bb, 6, none⟩ (.int .i64 ((til : Int) + n))) (pts bb (bf bp false (.slice (some ⟨fb, 0, none⟩) m m) (.slice p' L.length cap') (gn m c frm) frm (til + n : Nat)) * (pts fb (.cells (splice fs til (bytes (rest.take n))).toArray 5 (0, 0)) * (pool bp q m c (held + dl.length) u opn p cap F * (fact (fs.length = m) * (arr 137 1 p' L.length cap' (L.map (bs c)) * all (chunk c) L) * R)))) := HB.set (i := 6) (.int .i64 ((til : Int) + n))
          have hfs := Hfs.out
          have hvl : (bytes (rest.take n)).length = n := by rw [bytes_length, List.length_take]; omega
          have hsl : (splice fs til (bytes (rest.take n))).length = m := by rw [length_splice _ _ _ (by omega)]; exact hfs
          have ht := Htil.out
          have hl0 : cl m c til = 0 := cl_low hc (by omega)
          have hl1 : cl m c (til + n) = 0 := cl_low hc (by omega)
          have ht2 : frm + (data ++ (done ++ rest.take n)).length = til + n := by rw [← ht]; simp; omega
          refine ⟨done ++ rest.take n, rest.drop n, ?_, by simp, ?_, ?_, ?_⟩
          · rw [Hdl.out, List.append_assoc, List.take_append_drop]
          · rw [str_drop]
          · rw [ht2, hl1]
            have hu := Hu.out
            rw [hl0] at hu
            rw [← hu]
            have HB3 := HB2.perm (show _ = bufO bb bp m c fb p' cap' (gn m c frm) frm (til + n) (splice fs til (bytes (rest.take n))) L * (pool bp q m c (held + dl.length) u opn p cap F * R) by unfold bufO; rw [hfs, hsl]; ac_rfl)
            refine (poolX_in (tot := tot + (done ++ rest.take n).length) (by simp; omega) ((bufX_in (data := data ++ (done ++ rest.take n)) (by omega) (by rw [hl1, ← hl0]; exact HL.out) ?_ HB3).perm (show _ = pool bp q m c (held + dl.length) u opn p cap F * (bufX bb bp m c frm (data ++ (done ++ rest.take n)) * R) by ac_rfl)))
            intro i hi
            rw [← List.append_assoc] at hi ⊢
            rw [atp_first hfs (by omega) (by rw [hvl]; rw [List.length_append, List.length_take] at hi; omega)]
            exact holds_write ht hHolds i hi
          · exact Ran.set ((Ran.drewN HR _).trans HR2) _ _
      · have hmt : m ≤ til := by omega
        obtain ⟨off, hoff⟩ : ∃ off, off = (til - m) % c := ⟨_, rfl⟩
        have e0 : ((til : Int) - m) = ((til - m : Nat) : Int) := by omega
        have e2 : ((til : Int) - m) % c = off := by rw [e0, hoff]; rfl
        have hg : gn m c frm ≤ (til - m) / c := gn_le (by have := Htil.out; omega)
        obtain ⟨k, hk⟩ : ∃ k, gn m c frm + k = (til - m) / c := ⟨(til - m) / c - gn m c frm, by omega⟩
        have e1 : ((til : Int) - m) / c = (gn m c frm : Int) + k := by rw [e0]; have : (((til - m : Nat) : Int) / c) = (((til - m) / c : Nat) : Int) := rfl; rw [this, ← hk]; rfl
        have hoc : (off : Int) < c := by have := Nat.mod_lt (til - m) (show 0 < c by omega); omega
        have hgk : gn m c frm + k ≤ 1000000000000 := by rw [hk]; have := Nat.div_le_self (til - m) c; omega
        obtain ⟨n, hn⟩ : ∃ n, n = min rest.length (c - off) := ⟨_, rfl⟩
        have hn1 : (1 : Int) ≤ n := by omega
        have hn2 : (n : Int) ≤ rest.length := by omega
        have hn3 : (off : Int) + n ≤ c := by omega
        have Hn := Lib.hid hn
        have Hoff := Lib.hid hoff
        have Hk := Lib.hid hk
        clear hn hoff hk e0
        by_cases hB : off = 0
        · have hB' : ((off : Int) == 0) = true := by simp [hB]
          have HB0 := Lib.hid hB
          clear hB
          have HQ : Sat wr (pool bp q m c (held + dl.length) u opn p cap F * (pts bb (bf bp false (.slice (some ⟨fb, 0, none⟩) m m) (.slice p' L.length cap') (gn m c frm) frm til) * (arr 137 1 p' L.length cap' (L.map (bs c)) * (fact (fs.length = m) * pts fb (.cells fs.toArray 5 (0, 0)) * all (chunk c) L * R)))) := HP.perm (by unfold bufO; ac_rfl)
          have hu1 : u ≤ 1000000000000 := by have h1 := Hu.out; have h2 := cl_le (m := m) (a := til) (show 0 < c by omega); omega
          have hLn : L.length ≤ 1000000000000 := by have h1 := HL.out; have h2 := cl_le (m := m) (a := til) (show 0 < c by omega); omega
          go_wp2_with fail
          go_quiet (fail)
          go_upto_region 10 with (fail)
          go_cut [] (fun wx => Took bp bb q m c (held + dl.length) u opn fb (gn m c frm) frm til fs F L R w wx)
          case first =>
            go_region_law (first
              | (go_simp; go_at_call 182; refine (take_calls bp q m c (held + dl.length) u opn cap p F _ _ hu1 hc2 (HQ.drewN _)).mono ?_; rintro e w1 ⟨x, pp, pc, F', rfl, hF', HT, HRT⟩; obtain ⟨k0, k3, kz⟩ := keepB HT.right.right; have kx0 := fun o => (World.cell?_alloc_lt w1 o _ (World.block_lt_of_cell? w1 _ k0)).trans k0; have kx3 := fun o => (World.cell?_alloc_lt w1 o _ (World.block_lt_of_cell? w1 _ k3)).trans k3)
              | (refine stepapp58 (by rfl) _ _ (by rfl) p' L.length cap' (L.map (bs c)) (by rfl) w1.heap.size (.slice (some ⟨x.1, 0, none⟩) c c) (by rfl) (((HT.old _).perm (show _ = arr 137 1 p' L.length cap' (L.map (bs c)) * (pts bb (bf bp false (.slice (some ⟨fb, 0, none⟩) m m) (.slice p' L.length cap') (gn m c frm) frm til) * (pool bp q m c (held + dl.length) (u + 1) opn pp pc F' * (chunk c x * (fact (fs.length = m) * pts fb (.cells fs.toArray 5 (0, 0)) * all (chunk c) L * R)))) by ac_rfl))) (by simp) (by rfl) hLn ?_; intro p2 cap2 w2 HS' HR2'; obtain ⟨j0, j3, jz⟩ := keepB HS'.right))
            all_goals (go_wp2_with (fail); go_meet; exact took_in hF' ((Ran.new (Below.trans (Ran.drewN HR _) HRT) _).trans HR2') HS')
          case rest =>
            clear HQ HP H1 H2 HS HR b0 b1 b2 b3 b4 b5 b6 bz c0 c1 c2 c3 c4 c5 cf
            obtain ⟨x, pp, pc, F', p2, cap2, hF', HP, HR⟩ := hcut
            have hFt' : u + 1 + F'.length ≤ tot + done.length + 1 := by omega
            have hLk0 : L.length = k := by have h1 := HL.out; have h2 := cl_on (m := m) (til := til) (show 0 < c by omega) (by have h4 := Hoff.out; have h5 := HB0.out; omega); have h3 := Hk.out; omega
            have hHolds' : Holds m c (gn m c frm) frm fs (L ++ [x]) (data ++ done) := fun i hi => by
              rw [atp_snoc _ (by rw [hHolds i hi]; simp [bytes] at hi ⊢; omega)]; exact hHolds i hi
            have hLk : (L ++ [x]).length = k + 1 := by simp [hLk0]
            generalize L ++ [x] = L2 at *
            clear hLk0 hHolds L hLn HL hFt hF' F
            have hHolds := hHolds'; clear hHolds'
            obtain ⟨⟨c0, c1, c2, c3, c4, c5, cf⟩, ⟨b0, b1, b2, b3, b4, b5, b6, bz⟩, hne⟩ := facts HP
            have hkL : k < L2.length := by omega
            have HF : Sat wc (pts L2[k].1 (.cells L2[k].2.toArray 5 (0, 0)) * (pts bb (bf bp false (.slice (some ⟨fb, 0, none⟩) m m) (.slice p2 L2.length cap2) (gn m c frm) frm til) * (fact (L2[k].2.length = c) * (bufR m c fb p2 cap2 fs L2 k * (pool bp q m c (held + dl.length) (u + 1) opn pp pc F' * R))))) := HP.perm (by rw [buf_focus bb bp m c fb p2 cap2 _ _ _ fs L2 k hkL]; ac_rfl)
            have hxl := (HF.right.perm (show _ = fact (L2[k].2.length = c) * (pts bb (bf bp false (.slice (some ⟨fb, 0, none⟩) m m) (.slice p2 L2.length cap2) (gn m c frm) frm til) * (bufR m c fb p2 cap2 fs L2 k * (pool bp q m c (held + dl.length) (u + 1) opn pp pc F' * R))) by ac_rfl)).fact_out.1
            have HAr : Sat wc (arr 137 1 p2 L2.length cap2 (L2.map (bs c)) * (pts bb (bf bp false (.slice (some ⟨fb, 0, none⟩) m m) (.slice p2 L2.length cap2) (gn m c frm) frm til) * (fact (fs.length = m) * pts fb (.cells fs.toArray 5 (0, 0)) * all (chunk c) L2 * (pool bp q m c (held + dl.length) (u + 1) opn pp pc F' * R)))) := HP.perm (by unfold bufO; ac_rfl)
            obtain ⟨g, o, rfl⟩ := HAr.arr_addr (by have := HAr.arr_len; omega)
            have hcell : wc.cell? ⟨g, o + k, none⟩ = some (.slice (some ⟨L2[k].1, 0, none⟩) c c) := by
              rw [HAr.arr_cell k (by simpa using hkL)]; simp [bs]
            have hkn : (k : Int) < L2.length := by omega
            have HLk := Lib.hid hLk
            have Hxl := Lib.hid hxl
            obtain ⟨xb, hxb⟩ : ∃ xb, xb = L2[k].1 := ⟨_, rfl⟩
            obtain ⟨xs, hxs⟩ : ∃ xs, xs = L2[k].2 := ⟨_, rfl⟩
            rw [← hxb] at hcell
            rw [← hxb, ← hxs] at HF
            have Hxb := Lib.hid hxb
            have Hxs := Lib.hid hxs
            have Hfit : Hid (off + n ≤ xs.length) := by show off + n ≤ xs.length; have h1 := Hxl.out; have h2 := Hxs.out; rw [h2, h1]; omega
            clear hLk hxl hxb hxs hg
            go_wp2_with (first
              | (go_at_call 175; refine (at_chunk _ bb bp m c xb g o L2.length cap2 (gn m c frm) k off til (by exact b0) (by exact b3) (by exact b4) (by exact c1) (by exact c2) (by exact hcell) hkn hoc hc2 (by omega) (by omega) e1 e2 hgk).mono ?_; rintro e w' ⟨rfl, nq2, rfl⟩)
              | (with_reducible refine wpList_copy_str (o := ⟨some 92, _, _, _, _, _⟩) rfl _ _ rfl xb off (c - off) (c - off) rest rfl rfl xs (Sat.drewN HF _) n Hn.out Hfit.out ?_; intro w2 HS2 HR2; have HB := HS2.perm (show _ = pts bb (bf bp false (.slice (some ⟨fb, 0, none⟩) m m) (.slice (some ⟨g, o, none⟩) L2.length cap2) (gn m c frm) frm til) * (pts xb (.cells (splice xs off (bytes (rest.take n))).toArray 5 (0, 0)) * (fact (xs.length = c) * (bufR m c fb (some ⟨g, o, none⟩) cap2 fs L2 k * (pool bp q m c (held + dl.length) (u + 1) opn pp pc F' * R)))) by ac_rfl); obtain ⟨d0, d1, d2, d3, d4, d5, d6, dz⟩ := cells7 HB.get))
            go_roundg (rest.length - n)
            case measure => omega
            case rel =>
              have HB2 : Sat (w2.setCell ⟨bb, 6, none⟩ (.int .i64 ((til : Int) + n))) (pts bb (bf bp false (.slice (some ⟨fb, 0, none⟩) m m) (.slice (some ⟨g, o, none⟩) L2.length cap2) (gn m c frm) frm (til + n : Nat)) * (pts xb (.cells (splice xs off (bytes (rest.take n))).toArray 5 (0, 0)) * (fact (xs.length = c) * (bufR m c fb (some ⟨g, o, none⟩) cap2 fs L2 k * (pool bp q m c (held + dl.length) (u + 1) opn pp pc F' * R))))) := HB.set (i := 6) (.int .i64 ((til : Int) + n))
              rw [Hxb.out, Hxs.out, Hoff.out] at HB2
              have HB3 := (HB2.perm (show _ = fact (L2[k].2.length = c) * (pts bb (bf bp false (.slice (some ⟨fb, 0, none⟩) m m) (.slice (some ⟨g, o, none⟩) L2.length cap2) (gn m c frm) frm (til + n : Nat)) * (pts L2[k].1 (.cells (splice L2[k].2 ((til - m) % c) (bytes (rest.take n))).toArray 5 (0, 0)) * (bufR m c fb (some ⟨g, o, none⟩) cap2 fs L2 k * (pool bp q m c (held + dl.length) (u + 1) opn pp pc F' * R)))) by ac_rfl)).fact_out.2
              have ht := Htil.out
              have ho := Hoff.out
              have hl1 : cl m c (til + n) = (til - m) / c + 1 := cl_step (by omega) hmt (by omega) (by omega)
              have ht2 : frm + (data ++ (done ++ rest.take n)).length = til + n := by rw [← ht]; simp; omega
              have hb0 := HB0.out
              have hl2 : cl m c til = (til - m) / c := cl_on (by omega) (by omega)
              have hkk := Hk.out
              have hu := Hu.out
              refine ⟨done ++ rest.take n, rest.drop n, ?_, by simp, by rw [str_drop], ?_, Ran.set ((Ran.drewN HR _).trans HR2) _ _⟩
              · rw [Hdl.out, List.append_assoc, List.take_append_drop]
              · rw [ht2, hl1, show U + ((til - m) / c + 1 - gn m c frm) = u + 1 by omega, ← List.append_assoc]
                refine close_chunk (by omega) hkL hmt ht (by rw [List.length_take]; omega) (by omega) (by omega) Hk.out ?_ Hxl.out hHolds (by rw [List.length_append, List.length_take]; omega) HB3
                rw [hl1]; have := HLk.out; omega
        · have hB' : ((off : Int) == 0) = false := by simpa using hB
          have hLk : L.length = k + 1 := by have h1 := HL.out; have h2 := cl_in (show 0 < c by omega) hmt (by rw [← Hoff.out]; exact hB); have h3 := Hk.out; omega
          have hkL : k < L.length := by omega
          have HF : Sat wr (pts L[k].1 (.cells L[k].2.toArray 5 (0, 0)) * (pts bb (bf bp false (.slice (some ⟨fb, 0, none⟩) m m) (.slice p' L.length cap') (gn m c frm) frm til) * (fact (L[k].2.length = c) * (bufR m c fb p' cap' fs L k * (pool bp q m c (held + dl.length) u opn p cap F * R))))) := HP.perm (by rw [buf_focus bb bp m c fb p' cap' _ _ _ fs L k hkL]; ac_rfl)
          have hxl := (HF.right.perm (show _ = fact (L[k].2.length = c) * (pts bb (bf bp false (.slice (some ⟨fb, 0, none⟩) m m) (.slice p' L.length cap') (gn m c frm) frm til) * (bufR m c fb p' cap' fs L k * (pool bp q m c (held + dl.length) u opn p cap F * R))) by ac_rfl)).fact_out.1
          have HAr : Sat wr (arr 137 1 p' L.length cap' (L.map (bs c)) * (pts bb (bf bp false (.slice (some ⟨fb, 0, none⟩) m m) (.slice p' L.length cap') (gn m c frm) frm til) * (fact (fs.length = m) * pts fb (.cells fs.toArray 5 (0, 0)) * all (chunk c) L * (pool bp q m c (held + dl.length) u opn p cap F * R)))) := HP.perm (by unfold bufO; ac_rfl)
          obtain ⟨g, o, rfl⟩ := HAr.arr_addr (by have := HAr.arr_len; omega)
          have hcell : wr.cell? ⟨g, o + k, none⟩ = some (.slice (some ⟨L[k].1, 0, none⟩) c c) := by
            rw [HAr.arr_cell k (by simpa using hkL)]; simp [bs]
          have hkn : (k : Int) < L.length := by omega
          have HLk := Lib.hid hLk
          have Hxl := Lib.hid hxl
          obtain ⟨xb, hxb⟩ : ∃ xb, xb = L[k].1 := ⟨_, rfl⟩
          obtain ⟨xs, hxs⟩ : ∃ xs, xs = L[k].2 := ⟨_, rfl⟩
          rw [← hxb] at hcell
          rw [← hxb, ← hxs] at HF
          have Hxb := Lib.hid hxb
          have Hxs := Lib.hid hxs
          have Hfit : Hid (off + n ≤ xs.length) := by show off + n ≤ xs.length; have h1 := Hxl.out; have h2 := Hxs.out; rw [h2, h1]; omega
          clear hLk hxl hxb hxs hg
          go_wp2_with fail
          go_quiet (fail)
          go_wp2_with (first
            | (go_at_call 175; refine (at_chunk _ bb bp m c xb g o L.length cap' (gn m c frm) k off til (by exact b0) (by exact b3) (by exact b4) (by exact c1) (by exact c2) (by exact hcell) hkn hoc hc2 (by omega) (by omega) e1 e2 hgk).mono ?_; rintro e w' ⟨rfl, nq2, rfl⟩)
            | (with_reducible refine wpList_copy_str (o := ⟨some 92, _, _, _, _, _⟩) rfl _ _ rfl xb off (c - off) (c - off) rest rfl rfl xs (Sat.drewN HF _) n Hn.out Hfit.out ?_; intro w2 HS2 HR2; have HB := HS2.perm (show _ = pts bb (bf bp false (.slice (some ⟨fb, 0, none⟩) m m) (.slice (some ⟨g, o, none⟩) L.length cap') (gn m c frm) frm til) * (pts xb (.cells (splice xs off (bytes (rest.take n))).toArray 5 (0, 0)) * (fact (xs.length = c) * (bufR m c fb (some ⟨g, o, none⟩) cap' fs L k * (pool bp q m c (held + dl.length) u opn p cap F * R)))) by ac_rfl); obtain ⟨d0, d1, d2, d3, d4, d5, d6, dz⟩ := cells7 HB.get))
          go_roundg (rest.length - n)
          case measure => omega
          case rel =>
            have HB2 : Sat (w2.setCell ⟨bb, 6, none⟩ (.int .i64 ((til : Int) + n))) (pts bb (bf bp false (.slice (some ⟨fb, 0, none⟩) m m) (.slice (some ⟨g, o, none⟩) L.length cap') (gn m c frm) frm (til + n : Nat)) * (pts xb (.cells (splice xs off (bytes (rest.take n))).toArray 5 (0, 0)) * (fact (xs.length = c) * (bufR m c fb (some ⟨g, o, none⟩) cap' fs L k * (pool bp q m c (held + dl.length) u opn p cap F * R))))) := HB.set (i := 6) (.int .i64 ((til : Int) + n))
            rw [Hxb.out, Hxs.out, Hoff.out] at HB2
            have HB3 := (HB2.perm (show _ = fact (L[k].2.length = c) * (pts bb (bf bp false (.slice (some ⟨fb, 0, none⟩) m m) (.slice (some ⟨g, o, none⟩) L.length cap') (gn m c frm) frm (til + n : Nat)) * (pts L[k].1 (.cells (splice L[k].2 ((til - m) % c) (bytes (rest.take n))).toArray 5 (0, 0)) * (bufR m c fb (some ⟨g, o, none⟩) cap' fs L k * (pool bp q m c (held + dl.length) u opn p cap F * R)))) by ac_rfl)).fact_out.2
            have ht := Htil.out
            have ho := Hoff.out
            have hl1 : cl m c (til + n) = (til - m) / c + 1 := cl_step (by omega) hmt (by omega) (by omega)
            have ht2 : frm + (data ++ (done ++ rest.take n)).length = til + n := by rw [← ht]; simp; omega
            have hl2 : cl m c til = (til - m) / c + 1 := cl_in (by omega) hmt (by omega)
            refine ⟨done ++ rest.take n, rest.drop n, ?_, by simp, by rw [str_drop], ?_, Ran.set ((Ran.drewN HR _).trans HR2) _ _⟩
            · rw [Hdl.out, List.append_assoc, List.take_append_drop]
            · rw [ht2, hl1, ← hl2, ← Hu.out, ← List.append_assoc]
              refine close_chunk (by omega) hkL hmt ht (by rw [List.length_take]; omega) (by omega) (by omega) Hk.out ?_ Hxl.out hHolds (by rw [List.length_append]; omega) HB3
              rw [hl1, ← hl2]; exact HL.out
end Go.Proofs.YteienbdbhnikbaaGreatDoor.Spill
namespace Go.Proofs.YteienbdbhnikbaaGreatDoor.Spill
open Go.RowKit Go.Proofs.YteienbdbhnikbaaGreatDoor Go.Proofs.YteienbdbhnikbaaGreatDoor.Hp
set_option linter.unusedVariables false

/-- copy of a slice's bytes, as a step of a region that draws its order. -/
theorem stepcopy58 {w : World} {R : Hp} {ops : Array Oper} {o : Oper} {a : Act} {K : Act → World → Prop} {Q : Exit → Act → World → Prop} {E : Prop} (hgd : o.guard = none) (d s : Operand)
    (ho : o.op = .call { callee := .builtin .copy, args := #[d, s], argTypes := #[137, 137] }) (g off dLen dCap sb so sl sc : Nat) (l : List UInt8) (hd : a.eval d = .slice (some ⟨g, off, none⟩) dLen dCap) (hx : a.eval s = .slice (some ⟨sb, so, none⟩) sl sc) (cur : List Value)
    (h : Sat w (pts g (.cells cur.toArray 5 (0, 0)) * R)) (hl : l.length = min sl dLen) (hsrc : ∀ j, j < l.length → w.cell? ⟨sb, so + j, none⟩ = (bytes l)[j]?) (hfit : off + l.length ≤ cur.length)
    (hk : ∀ w', Sat w' (pts g (.cells (splice cur off (bytes l)).toArray 5 (0, 0)) * R) → Ran w w' → K (a.put o.dst (.int .i64 (l.length : Int))) w') : if Region.wanted o (yielded ops a.tmps) = true then Oper.wp Tryz.prog o a w K Q else E := by
  have hb : (bytes l).length = l.length := bytes_length l
  refine step_copy_sat (P := Tryz.prog) (R := R) (ops := ops) (Q := Q) hgd d s _ _ ho 5 Tryz.underlying137 size5 g off dLen dCap _ hd hx cur (bytes l) 5 h sl (lenOf_slice _ _ _ w) ?_ (by rw [hb, hl]) (by omega) (bytes_one _) (by rw [hb]; exact hk)
  have hm : Nat.min sl dLen = l.length := by rw [hl]
  rw [hm]
  refine run_firstCells_some w 1 l.length ⟨sb, so, none⟩ sl sc (bytes l) (by rw [hb, Nat.mul_one]) fun j v hj => ?_
  have hj' : j < l.length := by rw [← hb]; exact (List.getElem?_eq_some_iff.1 hj).1
  rw [Addr.add_lit, hsrc j hj', hj]

theorem keep3 {w : World} {R : Hp} {bb bp ga o n cap : Nat} {cl : Bool} {f : Value} {gone frm til : Int} {v : Value} {vs : List Value} (h : Sat w (pts bb (bf bp cl f (.slice (some ⟨ga, o, none⟩) n cap) gone frm til) * (arr 137 1 (some ⟨ga, o, none⟩) n cap (v :: vs) * R))) :
    w.cell? ⟨bb, 0, none⟩ = some (.pointer (some ⟨bp, 0, none⟩)) ∧ w.cell? ⟨bb, 3, none⟩ = some (.slice (some ⟨ga, o, none⟩) n cap) ∧ w.cell? ⟨ga, o, none⟩ = some v ∧ w.cell? ⟨bb, 4, none⟩ = some (.int .i64 gone) ∧ ∀ i, w.frozen? ⟨bb, i, none⟩ = false := by
  have hc := cells7 h.get
  exact ⟨hc.1, hc.2.2.2.1, h.right.arr_cell 0 (by simp), hc.2.2.2.2.1, hc.2.2.2.2.2.2.2⟩

/-- At the loop's head: g bytes have been taken. -/
def DRel (bp bb q m c held U opn tot frm til N ob : Nat) (data : List UInt8) (R : Hp) (w : World) (k : Nat) (gv : Value) (wr : World) : Prop :=
  ∃ (g : Nat) (cur : List Value), g + k = N ∧ gv = .int .i64 (g : Int) ∧ cur.length = N ∧ cur.take g = bytes (data.take g) ∧
    Sat wr (poolX bp q m c held (U + (cl m c til - gn m c (frm + g))) opn tot * (bufX bb bp m c (frm + g) (data.drop g) * (pts ob (.cells cur.toArray 5 (0, 0)) * R))) ∧ Ran w wr

def DrainPost (bp bb q m c held U opn tot frm til N : Nat) (data : List UInt8) (R : Hp) (w : World) (e : Ending) (w' : World) : Prop :=
  e = .returned (.tuple #[.string ⟨(data.take N).toArray⟩, .int .i64 0]) ∧
    Sat w' (poolX bp q m c (held - N) (U + (cl m c til - gn m c (frm + N))) opn tot * (bufX bb bp m c (frm + N) (data.drop N) * R)) ∧ Ran w w'

set_option maxRecDepth 100000 in
set_option maxHeartbeats 4000000 in
theorem drain_calls (bp bb q m c held U opn tot frm til n N : Nat) (data : List UInt8) (R : Hp) (w : World) (hc : 1 ≤ c) (hc2 : c ≤ 65536) (hm : m ≤ 65536) (hh : held ≤ 1000000000) (hd : data.length ≤ held) (hf : frm + data.length ≤ 1000000000) (hU : U ≤ 1000000000) (htot : tot ≤ 1000000000) (hn : (n : Int) ≤ 9223372036854775807)
    (htil : til = frm + data.length) (hN : N = min n data.length)
    (H : Sat w (poolX bp q m c held (U + (cl m c til - gn m c frm)) opn tot * (bufX bb bp m c frm data * R))) :
    Calls Tryz.prog 173 #[.pointer (some ⟨bb, 0, none⟩), .int .i64 n] w (DrainPost bp bb q m c held U opn tot frm til N data R w) := by
  obtain ⟨p, cap, F, hFt, H1⟩ := poolX_out H
  obtain ⟨fb, p', cap', fs, L, hL, hHolds, H2⟩ := bufX_out (H1.perm (sep_comm _ _) |>.perm (sep_assoc _ _ _))
  rw [← htil] at H2
  obtain ⟨⟨c0, c1, c2, c3, c4, c5, cf⟩, ⟨b0, b1, b2, b3, b4, b5, b6, bz⟩, hne⟩ := facts (H2.perm (show _ = pool bp q m c held (U + (cl m c til - gn m c frm)) opn p cap F * (bufO bb bp m c fb p' cap' (gn m c frm) frm til fs L * R) by ac_rfl))
  have n5 := World.new_ne w _ b5
  have n6 := World.new_ne w _ b6
  have ht2 : (frm : Int) ≤ til := by omega
  have ht3 : (til : Int) ≤ 1000000000 := by omega
  have hmin : (if (til : Int) - frm < n then (til : Int) - frm else (n : Int)) = (N : Int) := by split <;> omega
  have hNle : N ≤ data.length := by omega
  obtain ⟨i0, hi, hz0, hz1, hz2⟩ := info_parts info5
  have hmk : ∀ w' : World, (Instr.makeSlice 137 (.int .i64 (N : Int)) (.int .i64 (N : Int))).run Tryz.prog w' = .ok (.slice (some ⟨w'.heap.size, 0, none⟩) N N) (w'.alloc (.cells (madeCells #[.int .u8 0] N) 5)) := fun w' => by
    have := run_make (P := Tryz.prog) w' _ _ i0 _ Tryz.underlying137 hi hz0 .i64 .i64 (N : Int) (N : Int) (by omega) (by omega) (by rw [hz2]; omega) (by omega)
    simpa [hz1, Value.cells] using this
  have hwr : IntKind.i64.wrap ((til : Int) - frm) = (til : Int) - frm := IntWalk.i64_in _ (by omega)
  have Htil := Lib.hid htil
  have HN := Lib.hid hN
  clear hi hz0 hz1 hz2 hL htil hN
  go_enter Tryz.func173, Tryz.ntmps173
  go_wp2_with (go_at_call 172; refine (is_open _ _ b1).mono ?_; rintro e w' ⟨rfl, rfl⟩)
  go_region_held3 (fun w' => w'.cell? ⟨bb, 5, none⟩ = some (.int .i64 frm) ∧ w'.cell? ⟨bb, 6, none⟩ = some (.int .i64 til)) (go_keep) (fail)
  go_wp2_with fail
  have hmc : (madeCells #[Value.int .u8 0] N).toList.length = N := by simp [size_madeCells]
  have HO : Sat ((w.alloc (.cells (madeCells #[.int .u8 0] N) 5)).drew) (pts w.heap.size (.cells (madeCells #[.int .u8 0] N) 5 (0, 0)) * (poolX bp q m c held (U + (cl m c til - gn m c frm)) opn tot * (bufX bb bp m c frm data * R))) := (H.alloc _).drew
  have Hmc := Lib.hid hmc
  clear H1 H2 c0 c1 c2 c3 c4 c5 cf b0 b1 b2 b3 b4 b5 b6 bz n5 n6 hmk hwr hmin hmc hHolds hFt
  obtain ⟨ob, hob⟩ : ∃ ob, ob = w.heap.size := ⟨_, rfl⟩
  rw [← hob] at HO ⊢
  clear hob
  go_loopg [8] N (DRel bp bb q m c held U opn tot frm til N ob data R w)
  case atStart =>
    refine ⟨0, (madeCells #[.int .u8 0] N).toList, by omega, rfl, Hmc.out, by simp [bytes], ?_, Below.drew (Ran.new (Below.refl _ _) _)⟩
    rw [Nat.add_zero, List.drop_zero]
    exact HO.perm (by show pts ob (.cells (madeCells #[.int .u8 0] N) 5 (0, 0)) * _ = _ * (_ * (pts ob (.cells (madeCells #[.int .u8 0] N) 5 (0, 0)) * _)); ac_rfl)
  case round =>
    clear HO H Hmc p cap F fb p' cap' fs L
    obtain ⟨g, cur, hgk, rfl, hcur, htk, HS, HR⟩ := hrel
    obtain ⟨p, cap, F, hFt, H1⟩ := poolX_out HS
    obtain ⟨fb, p', cap', fs, L, hL, hHolds, H2⟩ := bufX_out (H1.perm (show _ = bufX bb bp m c (frm + g) (data.drop g) * (pool bp q m c held (U + (cl m c til - gn m c (frm + g))) opn p cap F * (pts ob (.cells cur.toArray 5 (0, 0)) * R)) by ac_rfl))
    have Htk := Lib.hid htk
    have Hcur := Lib.hid hcur
    have Hgk := Lib.hid hgk
    have hgN : (g : Int) ≤ N := by omega
    clear htk hcur hgk
    have hfr : frm + g + (data.drop g).length = til := by rw [List.length_drop]; have := Htil.out; omega
    rw [hfr] at H2 hL
    have HL := Lib.hid hL
    obtain ⟨fr, hfr1⟩ : ∃ fr, fr = frm + g := ⟨_, rfl⟩
    rw [← hfr1] at H1 H2 HS hHolds hFt
    have Hfr := Lib.hid hfr
    have Hfr1 := Lib.hid hfr1
    obtain ⟨u, hu⟩ : ∃ u, u = U + (cl m c til - gn m c fr) := ⟨_, rfl⟩
    rw [← hu] at H1 H2 HS hFt
    have Hu := Lib.hid hu
    have hfr2 : (fr : Int) ≤ til := by omega
    have hfr3 : (0 : Int) ≤ fr := by omega
    clear hL hfr hfr1 hu
    have HP : Sat wr (pool bp q m c held u opn p cap F * (bufO bb bp m c fb p' cap' (gn m c fr) fr til fs L * (pts ob (.cells cur.toArray 5 (0, 0)) * R))) := H2.perm (by ac_rfl)
    obtain ⟨⟨c0, c1, c2, c3, c4, c5, cf⟩, ⟨b0, b1, b2, b3, b4, b5, b6, bz⟩, hne⟩ := facts HP
    by_cases hg : g = N
    · have hgl : ¬ ((g : Int) < N) := by omega
      have Hg := Lib.hid hg
      have hN1 : (N : Int) ≤ held := by omega
      clear hg
      have hlen : (data.take N).length = N := by rw [List.length_take]; omega
      have HOb : Sat wr (pts ob (.cells cur.toArray 5 (0, 0)) * (pool bp q m c held u opn p cap F * (bufX bb bp m c fr (data.drop g) * R))) := H1.perm (by ac_rfl)
      have hcv : (convert 137 9 (.slice (some ⟨ob, 0, none⟩) N N)).run Tryz.prog (wr.setCell ⟨bp, 3, none⟩ (.int .i64 ((held : Int) - N))) = .ok (.string ⟨(data.take N).toArray⟩) (wr.setCell ⟨bp, 3, none⟩ (.int .i64 ((held : Int) - N))) := by
        have hne' : bp ≠ ob := (HOb.perm (show _ = pts bp _ * (pts ob (.cells cur.toArray 5 (0, 0)) * ((arr 137 1 p F.length cap (F.map (bs c)) * all (chunk c) F) * (bufX bb bp m c fr (data.drop g) * R))) by unfold pool; ac_rfl)).ne
        have := run_convert_bytes_back (P := Tryz.prog) (wr.setCell ⟨bp, 3, none⟩ (.int .i64 ((held : Int) - N))) 137 9 5 ⟨ob, 0, none⟩ N (data.take N) Tryz.underlying137 Tryz.underlying5 Tryz.underlying9 (fun j hj => by
          have e1 := Htk.out
          have e2 := Hcur.out
          have e3 := Hg.out
          rw [e3, List.take_of_length_le (by omega)] at e1
          rw [Addr.add_lit, World.cell?_setCell_other _ _ _ _ (fun e => hne' (by injection e)), Nat.zero_add, cell_at HOb.get, e1]
          rw [List.getElem?_toArray]
          show (List.map _ (data.take N))[j]? = _
          rw [List.getElem?_map, List.getElem?_eq_getElem hj]; rfl)
        rw [hlen] at this
        exact this
      go_wp2
      go_ret2
      have H3 : Sat (wr.setCell ⟨bp, 3, none⟩ (.int .i64 ((held : Int) - N))) (pts bp (pf q m c (held - N : Nat) u opn (.slice p F.length cap)) * (arr 137 1 p F.length cap (F.map (bs c)) * all (chunk c) F * (bufX bb bp m c fr (data.drop g) * (pts ob (.cells cur.toArray 5 (0, 0)) * R)))) := by
        have := (H1.perm (sep_assoc _ _ _)).set (i := 3) (.int .i64 ((held : Int) - N))
        rw [show ((held : Int) - N) = ((held - N : Nat) : Int) by omega] at this ⊢
        exact this
      refine ⟨rfl, ?_, Ran.set HR _ _⟩
      have e1 := Hfr1.out
      have e3 := Hg.out
      subst e3
      have e4 := Hu.out
      rw [← e1, ← e4]
      have H4 := poolX_in (tot := tot) hFt (H3.perm (show _ = pool bp q m c (held - g) u opn p cap F * (bufX bb bp m c fr (data.drop g) * (pts ob (.cells cur.toArray 5 (0, 0)) * R)) by unfold pool; ac_rfl))
      exact (H4.perm (show _ = poolX bp q m c (held - g) u opn tot * (bufX bb bp m c fr (data.drop g) * R) * pts ob (.cells cur.toArray 5 (0, 0)) by ac_rfl)).left
    · have hgl : (g : Int) < N := by omega
      have hg0 : (0 : Int) ≤ g := by omega
      have hcu := Hcur.out
      have hrl : (data.drop g).length = til - fr := by have h1 := Hfr.out; have h2 := Hfr1.out; omega
      have hNt : N - g ≤ til - fr := by rw [← hrl, List.length_drop]; omega
      have hclt : gn m c fr ≤ cl m c til := gn_le_cl (by omega) (by omega)
      clear hg
      have HOb : Sat wr (pts ob (.cells cur.toArray 5 (0, 0)) * (pool bp q m c held u opn p cap F * (bufO bb bp m c fb p' cap' (gn m c fr) fr til fs L * R))) := HP.perm (by ac_rfl)
      have Hrl := Lib.hid hrl
      have Hcu := Lib.hid hcu
      clear hrl hcu
      by_cases hA : (fr : Int) < m
      · obtain ⟨k, hk⟩ : ∃ k, k = min (N - g) (m - fr) := ⟨_, rfl⟩
        have hk1 : (1 : Int) ≤ k := by omega
        have hk2 : (g : Int) + k ≤ N := by omega
        have hk3 : (fr : Int) + k ≤ m := by omega
        obtain ⟨l, hl⟩ : ∃ l, l = (data.drop g).take k := ⟨_, rfl⟩
        have hll : l.length = k := by have := Hrl.out; rw [hl, List.length_take]; omega
        have hsrc : ∀ j, j < l.length → wr.cell? ⟨fb, fr + j, none⟩ = (bytes l)[j]? := fun j hj => by
          have HF : Sat wr (pts fb (.cells fs.toArray 5 (0, 0)) * (fact (fs.length = m) * (pts bb (bf bp false (.slice (some ⟨fb, 0, none⟩) m m) (.slice p' L.length cap') (gn m c fr) fr til) * ((arr 137 1 p' L.length cap' (L.map (bs c)) * all (chunk c) L) * (pool bp q m c held u opn p cap F * (pts ob (.cells cur.toArray 5 (0, 0)) * R)))))) := HP.perm (by unfold bufO; ac_rfl)
          rw [cell_at HF.get, List.getElem?_toArray, hl]
          exact holds_first hHolds (by omega) (by have := Hrl.out; omega) j (by omega)
        have Hsrc := Lib.hid hsrc
        have Hl := Lib.hid hl
        have Hll := Lib.hid hll
        have Hk := Lib.hid hk
        have Hlm : Hid (l.length = min (m - fr) (N - g)) := by show l.length = min (m - fr) (N - g); omega
        clear hsrc hl hll hk
        go_wp2_with fail
        go_region_held3 (fun w' => w'.cell? ⟨bb, 5, none⟩ = some (.int .i64 fr)) (first | exact (facts (HS2.right)).2.1.2.2.2.2.2.1 | go_keep)
          (first
            | (go_at_call 175; refine (at_first _ bb bp fb m fr (by exact b0) (by exact b2) (by exact c1) hA).mono ?_; rintro e w' ⟨rfl, nq2, rfl⟩)
            | (refine stepcopy58 (by rfl) _ _ (by rfl) ob g (N - g) (N - g) fb fr (m - fr) (m - fr) l (by rfl) (by rfl) cur (HOb.ext fun _ _ => rfl) Hlm.out (by exact Hsrc.out) (by have h1 := Hcu.out; have h2 := Hll.out; omega) ?_; rw [Hll.out]; intro w2 HS2 HR2))
        obtain ⟨⟨e0, e1, e2, e3, e4, e5, ef⟩, ⟨d0, d1, d2, d3, d4, d5, d6, dz⟩, hne2⟩ := facts HS2.right
        have hwr : IntKind.i64.wrap ((fr : Int) + k - m) = (fr : Int) + k - m := IntWalk.i64_in _ (by omega)
        have hkm : ¬ ((m : Int) < (fr : Int) + k) := by omega
        go_wp2_with fail
        go_quiet (fail)
        clear hwr
        go_wp2_with fail
        go_roundg (gk - k)
        case measure => have := Hgk.out; omega
        case rel =>
          have hcl := Hcu.out
          have hll := Hll.out
          have hkg := Hgk.out
          have hfo := Hfr1.out
          have hlo := Hl.out
          have hsl : (splice cur g (bytes l)).length = N := by rw [length_splice _ _ _ (by rw [bytes_length]; omega)]; exact hcl
          have htk2 : (splice cur g (bytes l)).take (g + k) = bytes (data.take (g + k)) := by rw [hlo]; exact took_more hcl Htk.out (by omega) (by omega)
          have g0 : gn m c fr = 0 := gn_low (by omega)
          have g1 : gn m c (fr + k) = 0 := gn_low (by omega)
          have hdl : (data.drop (g + k)).length = til - (fr + k) := by have := Hrl.out; rw [List.length_drop] at this ⊢; omega
          have HB : Sat (w2.setCell ⟨bb, 5, none⟩ (.int .i64 ((fr : Int) + k))) (pts bb (bf bp false (.slice (some ⟨fb, 0, none⟩) m m) (.slice p' L.length cap') (gn m c fr) (fr + k : Nat) til) * (fact (fs.length = m) * pts fb (.cells fs.toArray 5 (0, 0)) * (arr 137 1 p' L.length cap' (L.map (bs c)) * all (chunk c) L) * (pts ob (.cells (splice cur g (bytes l)).toArray 5 (0, 0)) * (pool bp q m c held u opn p cap F * R)))) :=
            (HS2.perm (show _ = pts bb (bf bp false (.slice (some ⟨fb, 0, none⟩) m m) (.slice p' L.length cap') (gn m c fr) fr til) * (fact (fs.length = m) * pts fb (.cells fs.toArray 5 (0, 0)) * (arr 137 1 p' L.length cap' (L.map (bs c)) * all (chunk c) L) * (pts ob (.cells (splice cur g (bytes l)).toArray 5 (0, 0)) * (pool bp q m c held u opn p cap F * R))) by unfold bufO; ac_rfl)).set (i := 5) (.int .i64 ((fr : Int) + k))
          have hgg : gn m c fr = gn m c (fr + k) := by rw [g0, g1]
          rw [hgg] at HB
          have HB2 := bufX_in (data := data.drop (g + k)) (bb := bb) (bp := bp) (c := c) (m := m) (fb := fb) (p := p') (cap := cap') (fs := fs) (L := L) (frm := fr + k) (til := til) (by omega) (by have := HL.out; rw [← hfo] at this; omega)
            (by rw [g1, ← g0, ← List.drop_drop]; exact holds_drop hHolds k) (HB.perm (show _ = bufO bb bp m c fb p' cap' (gn m c (fr + k)) (fr + k) til fs L * (pts ob (.cells (splice cur g (bytes l)).toArray 5 (0, 0)) * (pool bp q m c held u opn p cap F * R)) by unfold bufO; ac_rfl))
          have HB3 := poolX_in (tot := tot) hFt (HB2.perm (show _ = pool bp q m c held u opn p cap F * (bufX bb bp m c (fr + k) (data.drop (g + k)) * (pts ob (.cells (splice cur g (bytes l)).toArray 5 (0, 0)) * R)) by ac_rfl))
          refine ⟨g + k, splice cur g (bytes l), by omega, rfl, hsl, htk2, ?_, Ran.drewN (Ran.set ((Ran.drewN HR _).trans HR2) _ _) _⟩
          rw [← Nat.add_assoc, ← hfo, g1, show U + (cl m c til - 0) = u by have := Hu.out; omega]
          exact HB3.drewN _
      · have hmf : m ≤ fr := by omega
        obtain ⟨off, hoff⟩ : ∃ off, off = (fr - m) % c := ⟨_, rfl⟩
        have hoc : off < c := by rw [hoff]; exact Nat.mod_lt _ (by omega)
        have hgn : gn m c fr = (fr - m) / c := rfl
        have hft : fr < til := by omega
        have hLne : L.length ≠ 0 := by
          have h1 := HL.out
          rw [← Hfr1.out] at h1
          have h2 := cl_step (c := c) (m := m) (til := fr) (n := 1) (by omega) hmf (by omega) (by omega)
          have h3 := cl_mono (m := m) (c := c) (show fr + 1 ≤ til by omega)
          omega
        obtain ⟨x, Lt, rfl⟩ : ∃ x Lt, L = x :: Lt := by cases L with | nil => exact absurd rfl hLne | cons x Lt => exact ⟨x, Lt, rfl⟩
        obtain ⟨k, hk⟩ : ∃ k, k = min (N - g) (c - off) := ⟨_, rfl⟩
        have hk1 : (1 : Int) ≤ k := by omega
        have hk2 : (g : Int) + k ≤ N := by omega
        have hk3 : (off : Int) + k ≤ c := by omega
        obtain ⟨l, hl⟩ : ∃ l, l = (data.drop g).take k := ⟨_, rfl⟩
        have hll : l.length = k := by have := Hrl.out; rw [hl, List.length_take]; omega
        have HF : Sat wr (fact (x.2.length = c) * (pts x.1 (.cells x.2.toArray 5 (0, 0)) * (pts bb (bf bp false (.slice (some ⟨fb, 0, none⟩) m m) (.slice p' (x :: Lt).length cap') (gn m c fr) fr til) * (fact (fs.length = m) * pts fb (.cells fs.toArray 5 (0, 0)) * (arr 137 1 p' (x :: Lt).length cap' ((x :: Lt).map (bs c)) * all (chunk c) Lt) * (pool bp q m c held u opn p cap F * (pts ob (.cells cur.toArray 5 (0, 0)) * R)))))) := HP.perm (by
          show _ * (pts bb _ * (_ * (_ * (fact (x.2.length = c) * pts x.1 (.cells x.2.toArray 5 (0, 0)) * all (chunk c) Lt))) * _) = _
          ac_rfl)
        obtain ⟨hxl, HX⟩ := HF.fact_out
        have hsrc : ∀ j, j < l.length → wr.cell? ⟨x.1, off + j, none⟩ = (bytes l)[j]? := fun j hj => by
          rw [cell_at HX.get, List.getElem?_toArray, hl, hoff]
          exact holds_chunk (by omega) hHolds hmf (by omega) (by have := Hrl.out; omega) j (by omega)
        have HAr : Sat wr (arr 137 1 p' (x :: Lt).length cap' ((x :: Lt).map (bs c)) * (pts bb (bf bp false (.slice (some ⟨fb, 0, none⟩) m m) (.slice p' (x :: Lt).length cap') (gn m c fr) fr til) * (fact (fs.length = m) * pts fb (.cells fs.toArray 5 (0, 0)) * all (chunk c) (x :: Lt) * (pool bp q m c held u opn p cap F * (pts ob (.cells cur.toArray 5 (0, 0)) * R))))) := HP.perm (by unfold bufO; ac_rfl)
        have hcap : Lt.length + 1 ≤ cap' := by have := HAr.arr_len.2.1; simpa using this
        obtain ⟨ga, o, rfl⟩ := HAr.arr_addr (by omega)
        have hcell : wr.cell? ⟨ga, o + 0, none⟩ = some (.slice (some ⟨x.1, 0, none⟩) c c) := HAr.arr_cell 0 (by simp)
        have e0 : ((fr : Int) - m) = ((fr - m : Nat) : Int) := by omega
        have e2 : ((fr : Int) - m) % c = off := by rw [e0, hoff]; rfl
        have e1 : ((fr : Int) - m) / c = (gn m c fr : Int) + (0 : Nat) := by rw [e0, hgn]; simp
        have hgb : gn m c fr + 0 ≤ 1000000000000 := by rw [hgn]; have := Nat.div_le_self (fr - m) c; omega
        have hk0 : ((0 : Nat) : Int) < (x :: Lt).length := by simp only [List.length_cons]; omega
        have hoc' : (off : Int) < c := by omega
        have e3 : ((fr : Int) + k - m) % c = (((fr - m) % c + k) % c : Nat) := by
          rw [show ((fr : Int) + k - m) = (((fr - m) + k : Nat) : Int) by omega]
          show ((((fr - m) + k) % c : Nat) : Int) = _
          rw [Nat.mod_add_mod]
        rw [← hoff] at e3
        have E1 := Lib.hid e1
        have E2 := Lib.hid e2
        have E3 := Lib.hid e3
        have Hx := Lib.hid hxl
        have Hcell := Lib.hid hcell
        have Hsrc := Lib.hid hsrc
        have Hoff := Lib.hid hoff
        have Hl := Lib.hid hl
        have Hll := Lib.hid hll
        have Hk := Lib.hid hk
        have Hlm : Hid (l.length = min (c - off) (N - g)) := by show l.length = min (c - off) (N - g); omega
        have hgn2 : gn m c fr + 1 ≤ cl m c til := by have h1 := HL.out; rw [← Hfr1.out] at h1; simp at h1; omega
        clear hsrc hl hll hk hxl hcell e0 e1 e2 e3 hoff hgn hLne
        go_wp2_with fail
        go_region_held3 (fun w' => w'.cell? ⟨bb, 5, none⟩ = some (.int .i64 fr)) (first | exact (facts (HS2.right)).2.1.2.2.2.2.2.1 | go_keep)
          (first
            | (go_at_call 175; refine (at_chunk _ bb bp m c x.1 ga o (x :: Lt).length cap' (gn m c fr) 0 off fr (by exact b0) (by exact b3) (by exact b4) (by exact c1) (by exact c2) (by exact Hcell.out) hk0 hoc' hc2 (by omega) (by omega) E1.out E2.out hgb).mono ?_; rintro e w' ⟨rfl, nq2, rfl⟩)
            | (refine stepcopy58 (by rfl) _ _ (by rfl) ob g (N - g) (N - g) x.1 off (c - off) (c - off) l (by rfl) (by rfl) cur (HOb.ext fun _ _ => rfl) Hlm.out (by exact Hsrc.out) (by have h1 := Hcu.out; have h2 := Hll.out; omega) ?_; rw [Hll.out]; intro w2 HS2 HR2))
        obtain ⟨⟨e0, e1, e2, e3, e4, e5, ef⟩, ⟨d0, d1, d2, d3, d4, d5, d6, dz⟩, hne2⟩ := facts HS2.right
        have hwr : IntKind.i64.wrap ((fr : Int) + k - m) = (fr : Int) + k - m := IntWalk.i64_in _ (by omega)
        have hkm : (m : Int) < (fr : Int) + k := by omega
        go_wp2_with fail
        go_quiet (fail)
        clear hwr
        have hcl := Hcu.out
        have hll := Hll.out
        have hkg := Hgk.out
        have hfo := Hfr1.out
        have hlo := Hl.out
        have hsl : Hid ((splice cur g (bytes l)).length = N) := by show (splice cur g (bytes l)).length = N; rw [length_splice _ _ _ (by rw [bytes_length]; omega)]; exact hcl
        have htk2 : Hid ((splice cur g (bytes l)).take (g + k) = bytes (data.take (g + k))) := by show (splice cur g (bytes l)).take (g + k) = bytes (data.take (g + k)); rw [hlo]; exact took_more hcl Htk.out (by omega) (by omega)
        have hdl : Hid ((data.drop (g + k)).length = til - (fr + k)) := by show (data.drop (g + k)).length = til - (fr + k); have := Hrl.out; rw [List.length_drop] at this ⊢; omega
        have HB : Sat (w2.setCell ⟨bb, 5, none⟩ (.int .i64 ((fr : Int) + k))) (pts bb (bf bp false (.slice (some ⟨fb, 0, none⟩) m m) (.slice (some ⟨ga, o, none⟩) (x :: Lt).length cap') (gn m c fr) (fr + k : Nat) til) * (fact (fs.length = m) * pts fb (.cells fs.toArray 5 (0, 0)) * (arr 137 1 (some ⟨ga, o, none⟩) (x :: Lt).length cap' ((x :: Lt).map (bs c)) * all (chunk c) (x :: Lt)) * (pts ob (.cells (splice cur g (bytes l)).toArray 5 (0, 0)) * (pool bp q m c held u opn p cap F * R)))) :=
          (HS2.perm (show _ = pts bb (bf bp false (.slice (some ⟨fb, 0, none⟩) m m) (.slice (some ⟨ga, o, none⟩) (x :: Lt).length cap') (gn m c fr) fr til) * (fact (fs.length = m) * pts fb (.cells fs.toArray 5 (0, 0)) * (arr 137 1 (some ⟨ga, o, none⟩) (x :: Lt).length cap' ((x :: Lt).map (bs c)) * all (chunk c) (x :: Lt)) * (pts ob (.cells (splice cur g (bytes l)).toArray 5 (0, 0)) * (pool bp q m c held u opn p cap F * R))) by unfold bufO; ac_rfl)).set (i := 5) (.int .i64 ((fr : Int) + k))
        clear hcl hll hkg hfo hlo
        by_cases hB : off + k = c
        · have he : ((fr : Int) + k - m) % c = 0 := by rw [E3.out, hB, Nat.mod_self]; rfl
          obtain ⟨u', hu'⟩ : ∃ u', u = u' + 1 := ⟨u - 1, by have := Hu.out; omega⟩
          subst hu'
          have HB' := HB.drewN nq
          generalize hW : (w2.setCell ⟨bb, 5, none⟩ (.int .i64 ((fr : Int) + k))).drewN nq = w3 at HB' ⊢
          have HRW : Ran w w3 := by rw [← hW]; exact Ran.drewN (Ran.set ((Ran.drewN HR _).trans HR2) _ _) _
          clear hW HB HS2 HR2 d0 d1 d2 d3 d4 d5 d6 dz e0 e1 e2 e3 e4 e5 ef HF HX HAr HOb HP H1 H2 HS c0 c1 c2 c3 c4 c5 cf b0 b1 b2 b3 b4 b5 b6 bz
          have HG0 : Sat w3 (pool bp q m c held (u' + 1) opn p cap F * (chunk c x * (pts bb (bf bp false (.slice (some ⟨fb, 0, none⟩) m m) (.slice (some ⟨ga, o, none⟩) (x :: Lt).length cap') (gn m c fr) (fr + k : Nat) til) * (arr 137 1 (some ⟨ga, o, none⟩) (x :: Lt).length cap' ((x :: Lt).map (bs c)) * (fact (fs.length = m) * pts fb (.cells fs.toArray 5 (0, 0)) * all (chunk c) Lt * (pts ob (.cells (splice cur g (bytes l)).toArray 5 (0, 0)) * R)))))) := HB'.perm (by
            show pts bb _ * (_ * (_ * (chunk c x * all (chunk c) Lt)) * _) = _
            ac_rfl)
          obtain ⟨k0, k3, kg, k4, kz⟩ := keep3 HG0.right.right
          change w3.cell? ⟨ga, o, none⟩ = some (.slice (some ⟨x.1, 0, none⟩) c c) at kg
          have kc : w3.cell? ⟨bp, 2, none⟩ = some (.int .i64 c) := (cells7 (HG0.perm (sep_assoc _ _ _)).get).2.2.1
          have huu : u' ≤ 1000000000000 := by omega
          have hFF : F.length ≤ 1000000000000 := by omega
          simp only [List.length_cons] at k3
          have hlt0 : (0 : Int) < (Lt.length : Int) + 1 := by omega
          go_wp2_with fail
          go_region_held3 (fun w' => w'.cell? ⟨bb, 0, none⟩ = some (.pointer (some ⟨bp, 0, none⟩)) ∧ w'.cell? ⟨bb, 3, none⟩ = some (.slice (some ⟨ga, o, none⟩) (Lt.length + 1) cap') ∧ w'.cell? ⟨ga, o, none⟩ = some (.slice (some ⟨x.1, 0, none⟩) c c))
            (first | exact ⟨(keep3 HG.right).1, (keep3 HG.right).2.1, (keep3 HG.right).2.2.1⟩ | go_keep)
            (first
              | (go_at_call 176; refine (give_calls bp q m c held u' opn cap p F x _ _ huu hFF HG0.drew).mono ?_; rintro e w4 ⟨rfl, pq, cq, HG, HRG⟩))
          clear k0 k3 kg k4 kz kc
          obtain ⟨k0, k3, kg, k4, kz⟩ := keep3 HG.right
          simp only [List.length_cons] at k3
          have hl1 : (0 : Int) ≤ (Lt.length : Int) := by omega
          have hl2 : (Lt.length : Int) + 1 ≤ cap' := by omega
          have hgs : gn m c (fr + k) = gn m c fr + 1 := gn_next (by omega) hmf (by have := Hoff.out; omega)
          have Hgs := Lib.hid hgs
          have hfk : (fr + k - m) / c = gn m c fr + 1 := hgs
          have Hfk := Lib.hid hfk
          have hgb2 : (gn m c fr : Int) ≤ 1000000000000 := by omega
          clear hgs hfk hB
          have hfin : ∀ (pp : Option Addr) (cp : Nat) (w5 : World), Ran w w5 → Sat w5 (pts bb (bf bp false (.slice (some ⟨fb, 0, none⟩) m m) (.slice pp Lt.length cp) (gn m c fr + 1 : Nat) (fr + k : Nat) til) * (arr 137 1 pp Lt.length cp (Lt.map (bs c)) * (pool bp q m c held u' opn pq cq (F ++ [x]) * (fact (fs.length = m) * pts fb (.cells fs.toArray 5 (0, 0)) * all (chunk c) Lt * (pts ob (.cells (splice cur g (bytes l)).toArray 5 (0, 0)) * R))))) →
              DRel bp bb q m c held U opn tot frm til N ob data R w (gk - k) (.int .i64 ((g : Int) + k)) w5 := fun pp cp w5 hr5 h5 => by
            have hL := HL.out
            rw [← Hfr1.out] at hL
            simp only [List.length_cons] at hL
            have h6 : Sat w5 (bufO bb bp m c fb pp cp (gn m c fr + 1) (fr + k) til fs Lt * (pool bp q m c held u' opn pq cq (F ++ [x]) * (pts ob (.cells (splice cur g (bytes l)).toArray 5 (0, 0)) * R))) := h5.perm (by unfold bufO; ac_rfl)
            rw [← Hgs.out] at h6
            have HB2 := bufX_in (data := data.drop (g + k)) (bb := bb) (bp := bp) (c := c) (m := m) (fb := fb) (p := pp) (cap := cp) (fs := fs) (L := Lt) (frm := fr + k) (til := til) (by have := hdl.out; omega) (by rw [Hgs.out]; omega)
              (by rw [Hgs.out, ← List.drop_drop]; exact holds_tail (holds_drop hHolds k) (by rw [Hfk.out]; exact Nat.le_refl _)) h6
            have HB3 := poolX_in (tot := tot) (by rw [List.length_append, List.length_singleton]; omega) (HB2.perm (show _ = pool bp q m c held u' opn pq cq (F ++ [x]) * (bufX bb bp m c (fr + k) (data.drop (g + k)) * (pts ob (.cells (splice cur g (bytes l)).toArray 5 (0, 0)) * R)) by ac_rfl))
            refine ⟨g + k, splice cur g (bytes l), by have := Hgk.out; omega, rfl, hsl.out, htk2.out, ?_, hr5⟩
            rw [← Nat.add_assoc, ← Hfr1.out, Hgs.out, show U + (cl m c til - (gn m c fr + 1)) = u' by have := Hu.out; omega]
            exact HB3
          have HQ := HG.perm (show _ = arr 137 1 (some ⟨ga, o, none⟩) (x :: Lt).length cap' ((x :: Lt).map (bs c)) * (pts bb (bf bp false (.slice (some ⟨fb, 0, none⟩) m m) (.slice (some ⟨ga, o, none⟩) (x :: Lt).length cap') (gn m c fr) (fr + k : Nat) til) * (pool bp q m c held u' opn pq cq (F ++ [x]) * (fact (fs.length = m) * pts fb (.cells fs.toArray 5 (0, 0)) * all (chunk c) Lt * (pts ob (.cells (splice cur g (bytes l)).toArray 5 (0, 0)) * R)))) by ac_rfl)
          by_cases hc1 : cap' = 1
          · have hLt0 : Lt.length = 0 := by omega
            obtain rfl : Lt = [] := List.eq_nil_of_length_eq_zero hLt0
            subst hc1
            simp only [List.length_nil, Nat.zero_add] at k3
            clear hl1 hl2 hlt0 hcap hLt0
            go_wp2_with fail
            go_roundg (gk - k)
            case measure => have := Hgk.out; omega
            case rel =>
              refine hfin (some ⟨ga, o, none⟩) 0 _ (Ran.set (Ran.set ((Below.drew HRW).trans HRG) _ _) _ _) ?_
              have q1 := HQ.arr_none_left.perm (sep_comm _ _) |>.perm (sep_assoc _ _ _)
              exact (((q1.set (i := 3) (.slice (some ⟨ga, o, none⟩) 0 0)).set (i := 4) (.int .i64 ((gn m c fr : Int) + 1))).perm (show _ = pts bb (bf bp false (.slice (some ⟨fb, 0, none⟩) m m) (.slice (some ⟨ga, o, none⟩) 0 0) (gn m c fr + 1 : Nat) (fr + k : Nat) til) * (arr 137 1 (some ⟨ga, o, none⟩) 0 0 [] * _) by
                show pts bb (bf bp false (.slice (some ⟨fb, 0, none⟩) m m) (.slice (some ⟨ga, o, none⟩) 0 0) (gn m c fr + 1 : Nat) (fr + k : Nat) til) * _ = _
                ac_rfl))
          · have hc2' : (1 : Int) < cap' := by omega
            go_wp2_with fail
            go_roundg (gk - k)
            case measure => have := Hgk.out; omega
            case rel =>
              refine hfin (some ⟨ga, o + 1, none⟩) (cap' - 1) _ (Ran.set (Ran.set ((Below.drew HRW).trans HRG) _ _) _ _) ?_
              have q0 := HQ.arr_drop 1 (by simp)
              simp only [List.length_cons, List.map_cons, Nat.mul_one, List.drop_succ_cons, List.drop_zero, Nat.add_sub_cancel] at q0
              have q1 := (q0.perm (sep_comm _ _)).perm (sep_assoc _ _ _)
              exact (((q1.set (i := 3) (.slice (some ⟨ga, o + 1, none⟩) Lt.length (cap' - 1))).set (i := 4) (.int .i64 ((gn m c fr : Int) + 1))).perm (show _ = pts bb (bf bp false (.slice (some ⟨fb, 0, none⟩) m m) (.slice (some ⟨ga, o + 1, none⟩) Lt.length (cap' - 1)) (gn m c fr + 1 : Nat) (fr + k : Nat) til) * (arr 137 1 (some ⟨ga, o + 1, none⟩) Lt.length (cap' - 1) (Lt.map (bs c)) * _) by
                show pts bb (bf bp false (.slice (some ⟨fb, 0, none⟩) m m) (.slice (some ⟨ga, o + 1, none⟩) Lt.length (cap' - 1)) (gn m c fr + 1 : Nat) (fr + k : Nat) til) * _ = _
                ac_rfl))
        · have hB1 : (((off + k) % c : Nat) : Int) = ((off + k : Nat) : Int) := by rw [Nat.mod_eq_of_lt (by omega)]
          obtain ⟨r, hr⟩ : ∃ r, r = off + k := ⟨_, rfl⟩
          have hr0 : ((r : Int) == 0) = false := by simp; omega
          have he : ((fr : Int) + k - m) % c = r := by rw [E3.out, hB1, hr]
          clear hr hB1
          go_wp2_with fail
          go_roundg (gk - k)
          case measure => have := Hgk.out; omega
          case rel =>
            have hgs : gn m c (fr + k) = gn m c fr := gn_same (by omega) hmf (by have := Hoff.out; omega)
            have hL := HL.out
            rw [← Hfr1.out, ← hgs] at hL
            rw [← hgs] at HB
            have HB2 := bufX_in (data := data.drop (g + k)) (bb := bb) (bp := bp) (c := c) (m := m) (fb := fb) (p := some ⟨ga, o, none⟩) (cap := cap') (fs := fs) (L := x :: Lt) (frm := fr + k) (til := til) (by have := hdl.out; omega) hL
              (by rw [hgs, ← List.drop_drop]; exact holds_drop hHolds k) (HB.perm (show _ = bufO bb bp m c fb (some ⟨ga, o, none⟩) cap' (gn m c (fr + k)) (fr + k) til fs (x :: Lt) * (pts ob (.cells (splice cur g (bytes l)).toArray 5 (0, 0)) * (pool bp q m c held u opn p cap F * R)) by unfold bufO; ac_rfl))
            have HB3 := poolX_in (tot := tot) hFt (HB2.perm (show _ = pool bp q m c held u opn p cap F * (bufX bb bp m c (fr + k) (data.drop (g + k)) * (pts ob (.cells (splice cur g (bytes l)).toArray 5 (0, 0)) * R)) by ac_rfl))
            refine ⟨g + k, splice cur g (bytes l), by have := Hgk.out; omega, rfl, hsl.out, htk2.out, ?_, Ran.drewN (Ran.set ((Ran.drewN HR _).trans HR2) _ _) _⟩
            rw [← Nat.add_assoc, ← Hfr1.out, hgs, ← Hu.out]
            exact HB3.drewN _
end Go.Proofs.YteienbdbhnikbaaGreatDoor.Spill
namespace Go.Proofs.YteienbdbhnikbaaGreatDoor.Spill
open Go.RowKit Go.Proofs.YteienbdbhnikbaaGreatDoor Go.Proofs.YteienbdbhnikbaaGreatDoor.Hp
set_option linter.unusedVariables false

theorem append_nil (s : ByteArray) (w : World) : Calls Tryz.prog 181 #[.pointer none, .string s] w fun e w' => e = .returned (.int .i64 2) ∧ w = w' := by
  go_enter Tryz.func181, Tryz.ntmps181
  go_wp2_with (go_at_call 172; refine (is_nil _).mono ?_; rintro e w' ⟨rfl, rfl⟩)
  go_ret
  exact ⟨rfl, rfl⟩
set_option maxRecDepth 100000 in
/-- There is no room. -/
theorem append_full (bp bb q m c held used opn tot frm : Nat) (data : List UInt8) (s : ByteArray) (R : Hp) (w : World) (hq : q ≤ 1048576) (hh : q < held + s.size) (hh2 : held ≤ q)
    (H : Sat w (poolX bp q m c held used opn tot * (bufX bb bp m c frm data * R))) :
    Calls Tryz.prog 181 #[.pointer (some ⟨bb, 0, none⟩), .string s] w fun e w' => e = .returned (.int .i64 41) ∧ ∃ n, w' = w.drewN n := by
  obtain ⟨p, cap, F, hFt, H1⟩ := poolX_out H
  obtain ⟨fb, p', cap', fs, L, hL, hHolds, H2⟩ := bufX_out (H1.perm (sep_comm _ _) |>.perm (sep_assoc _ _ _))
  obtain ⟨⟨c0, c1, c2, c3, c4, c5, cf⟩, ⟨b0, b1, b2, b3, b4, b5, b6, bz⟩, hne⟩ := facts (H2.perm (show _ = pool bp q m c held used opn p cap F * (bufO bb bp m c fb p' cap' (gn m c frm) frm (frm + data.length) fs L * R) by ac_rfl))
  have g1 : ((q : Int) - held < s.size) := by omega
  have g2 : (0 : Int) ≤ (q : Int) - held := by omega
  clear hL hHolds H1 H2 H
  go_enter Tryz.func181, Tryz.ntmps181
  go_wp2_with (go_at_call 172; refine (is_open _ _ b1).mono ?_; rintro e w' ⟨rfl, rfl⟩)
  go_quiet (fail)
  go_wp2
  go_ret
  exact ⟨rfl, _, rfl⟩
end Go.Proofs.YteienbdbhnikbaaGreatDoor.Spill
namespace Go.Proofs.YteienbdbhnikbaaGreatDoor.Spill
open Go.RowKit Go.Proofs.YteienbdbhnikbaaGreatDoor Go.Proofs.YteienbdbhnikbaaGreatDoor.Hp
set_option linter.unusedVariables false

theorem bufX_cells {w : World} {R : Hp} {bb bp m c frm : Nat} {data : List UInt8} (H : Sat w (bufX bb bp m c frm data * R)) :
    w.cell? ⟨bb, 1, none⟩ = some (.bool false) ∧ w.cell? ⟨bb, 5, none⟩ = some (.int .i64 frm) ∧ w.cell? ⟨bb, 6, none⟩ = some (.int .i64 (frm + data.length : Nat)) := by
  obtain ⟨fb, p, cap, fs, L, _, _, H1⟩ := bufX_out H
  have h := cells7 (H1.perm (sep_assoc _ _ _)).get
  exact ⟨h.2.1, h.2.2.2.2.2.1, h.2.2.2.2.2.2.1⟩

def XNewPost (q m c : Nat) (R : Hp) (w : World) (e : Ending) (w' : World) : Prop :=
  ∃ bp, e = .returned (.tuple #[.pointer (some ⟨bp, 0, none⟩), .int .i64 0]) ∧ Sat w' (poolX bp q m c 0 0 0 0 * R) ∧ Ran w w'
theorem xnew (q m c : Nat) (w : World) (R : Hp) (H : Sat w R) (h2 : q ≤ 1048576) (h4 : m ≤ 65536) (h5 : 1 ≤ c) (h6 : c ≤ 65536) :
    Calls Tryz.prog 31 #[.int .i64 q, .int .i64 m, .int .i64 c] w (XNewPost q m c R w) :=
  (new_good q m c w R H h2 h4 h5 h6).mono fun e w' ⟨bp, he, hs, hr⟩ => ⟨bp, he, poolX_in (by simp) hs, hr⟩
def XOpenPost (bp q m c held used opn tot : Nat) (R : Hp) (w : World) (e : Ending) (w' : World) : Prop :=
  ∃ bb, e = .returned (.pointer (some ⟨bb, 0, none⟩)) ∧ Sat w' (poolX bp q m c held used (opn + 1) tot * (bufX bb bp m c 0 [] * R)) ∧ Ran w w'
theorem xopen (bp q m c held used opn tot : Nat) (R : Hp) (w : World) (hu : opn ≤ 1000000000000) (hm : m ≤ 65536) (hc : 1 ≤ c) (H : Sat w (poolX bp q m c held used opn tot * R)) :
    Calls Tryz.prog 69 #[.pointer (some ⟨bp, 0, none⟩)] w (XOpenPost bp q m c held used opn tot R w) := by
  obtain ⟨p, cap, F, hF, H1⟩ := poolX_out H
  refine (open_calls bp q m c held used opn cap p F R w hu hm H1).mono ?_
  rintro e w' ⟨bb, fb, fs, he, hs, hr⟩
  refine ⟨bb, he, poolX_in (p := p) (cap := cap) hF ?_, hr⟩
  have h0 : gn m c 0 = 0 := gn_low (by omega)
  have h2 := hs.perm (show _ = bufO bb bp m c fb none 0 (gn m c 0) 0 0 fs [] * (pool bp q m c held used (opn + 1) p cap F * R) by rw [h0]; ac_rfl)
  exact (bufX_in (data := []) (til := 0) rfl (by rw [h0, cl_low (by omega) (by omega)]; rfl) (fun i hi => by simp at hi) h2).perm (by ac_rfl)
theorem xlen (bb bp m c frm : Nat) (data : List UInt8) (R : Hp) (w : World) (hf : frm + data.length ≤ 1000000000) (H : Sat w (bufX bb bp m c frm data * R)) : Calls Tryz.prog 166 #[.pointer (some ⟨bb, 0, none⟩)] w fun e w' => e = .returned (.int .i64 data.length) ∧ ∃ n, w' = w.drewN n := by
  obtain ⟨h1, h2, h3⟩ := bufX_cells H
  refine (len_open w bb frm (frm + data.length) h1 h2 h3 (by omega) (by omega)).mono ?_
  rintro e w' ⟨rfl, h⟩
  refine ⟨?_, h⟩
  rw [show (((frm + data.length : Nat) : Int) - frm) = (data.length : Int) by omega]

end Go.Proofs.YteienbdbhnikbaaGreatDoor.Spill

