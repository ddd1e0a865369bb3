/- Plain facts on where a spill buffer's bytes stand: in memory first, then in chunks. -/
import Derived.Laws.CopyOwn
namespace Go.Proofs.Ytgaeafhkepfgjaa.Spill
set_option linter.unusedVariables false

/-- How many chunks were used up ahead of a place. -/
def gn (m c frm : Nat) : Nat := (frm - m) / c
/-- How many chunks it takes up to a place. -/
def cl (m c til : Nat) : Nat := (til - m + c - 1) / c
/-- What stands at a place. -/
def atp (m c g : Nat) (fs : List Value) (L : List (Nat × List Value)) (p : Nat) : Option Value :=
  if p < m then fs[p]? else (L[(p - m) / c - g]?).bind fun x => x.2[(p - m) % c]?

theorem div_add_of_lt {c K r : Nat} (h : r < c) : (K * c + r) / c = K := by
  rw [Nat.mul_comm, Nat.mul_add_div (by omega), Nat.div_eq_of_lt h]; omega
theorem split_at (d c : Nat) (hc : 0 < c) : d = d / c * c + d % c ∧ d % c < c := ⟨by rw [Nat.mul_comm]; exact (Nat.div_add_mod d c).symm, Nat.mod_lt _ hc⟩
theorem cl_step {m c til n : Nat} (hc : 0 < c) (hm : m ≤ til) (h1 : 1 ≤ n) (hn : (til - m) % c + n ≤ c) : cl m c (til + n) = (til - m) / c + 1 := by
  obtain ⟨e, _⟩ := split_at (til - m) c hc
  unfold cl
  rw [show til + n - m + c - 1 = ((til - m) / c + 1) * c + ((til - m) % c + n - 1) by rw [Nat.add_mul]; omega]
  exact div_add_of_lt (by omega)
theorem cl_in {m c til : Nat} (hc : 0 < c) (hm : m ≤ til) (h : (til - m) % c ≠ 0) : cl m c til = (til - m) / c + 1 := by
  obtain ⟨e, hl⟩ := split_at (til - m) c hc
  unfold cl
  rw [show til - m + c - 1 = ((til - m) / c + 1) * c + ((til - m) % c - 1) by rw [Nat.add_mul]; omega]
  exact div_add_of_lt (by omega)
theorem cl_on {m c til : Nat} (hc : 0 < c) (h : (til - m) % c = 0) : cl m c til = (til - m) / c := by
  obtain ⟨e, hl⟩ := split_at (til - m) c hc
  unfold cl
  rw [show til - m + c - 1 = (til - m) / c * c + (c - 1) by omega]
  exact div_add_of_lt (by omega)
theorem cl_low {m c til : Nat} (hc : 0 < c) (h : til ≤ m) : cl m c til = 0 := by
  unfold cl; rw [show til - m = 0 by omega]; exact Nat.div_eq_of_lt (by omega)
theorem gn_low {m c frm : Nat} (h : frm ≤ m) : gn m c frm = 0 := by
  unfold gn; rw [show frm - m = 0 by omega]; exact Nat.zero_div c
theorem gn_le {m c a b : Nat} (h : a ≤ b) : gn m c a ≤ gn m c b := Nat.div_le_div_right (by omega)
theorem gn_le_cl {m c a b : Nat} (hc : 0 < c) (h : a ≤ b) : gn m c a ≤ cl m c b := by
  refine Nat.le_trans (gn_le h) ?_
  unfold gn cl
  exact Nat.div_le_div_right (by omega)
theorem cl_mono {m c a b : Nat} (h : a ≤ b) : cl m c a ≤ cl m c b := Nat.div_le_div_right (by omega)
theorem cl_le {m c a : Nat} (hc : 0 < c) : cl m c a ≤ a + 1 := by
  unfold cl
  refine Nat.le_trans (Nat.div_le_div_right (show a - m + c - 1 ≤ a + (c - 1) by omega)) ?_
  have := Nat.div_le_self a c
  have h2 : (a + (c - 1)) / c ≤ a + 1 := by
    apply Nat.div_le_of_le_mul
    have : a ≤ c * a := Nat.le_mul_of_pos_left a hc
    rw [Nat.mul_add]; omega
  exact h2
theorem cl_add_le {m c a n : Nat} (hc : 0 < c) : cl m c (a + n) ≤ cl m c a + n := by
  induction n with
  | zero => exact Nat.le_refl _
  | succ n ih =>
    have h1 : cl m c (a + n + 1) ≤ cl m c (a + n) + 1 := by
      unfold cl
      have : a + n + 1 - m + c - 1 ≤ (a + n - m + c - 1) + c := by omega
      refine Nat.le_trans (Nat.div_le_div_right this) ?_
      rw [Nat.add_div_right _ hc]; omega
    rw [← Nat.add_assoc]; omega

theorem splice_lt {α : Type} {L vs : List α} {o p : Nat} (h : p < o) (ho : o ≤ L.length) : (splice L o vs)[p]? = L[p]? := by
  unfold splice
  rw [List.getElem?_append_left (by rw [List.length_take]; omega), List.getElem?_take, if_pos h]
theorem splice_in {α : Type} {L vs : List α} {o p : Nat} (h : o ≤ p) (h2 : p < o + vs.length) (ho : o + vs.length ≤ L.length) : (splice L o vs)[p]? = vs[p - o]? := by
  unfold splice
  have hl : (L.take o).length = o := by rw [List.length_take]; omega
  rw [List.getElem?_append_right (by omega), hl, List.getElem?_append_left (by omega)]
theorem splice_ge {α : Type} {L vs : List α} {o p : Nat} (h2 : o + vs.length ≤ p) (ho : o + vs.length ≤ L.length) : (splice L o vs)[p]? = L[p]? := by
  unfold splice
  have hl : (L.take o).length = o := by rw [List.length_take]; omega
  rw [List.getElem?_append_right (by omega), hl, List.getElem?_append_right (by omega), List.getElem?_drop]
  congr 1; omega

theorem atp_first {m c g til p : Nat} {fs vs : List Value} {L : List (Nat × List Value)} (hf : fs.length = m) (hn : til + vs.length ≤ m) (hp : p < til + vs.length) :
    atp m c g (splice fs til vs) L p = if p < til then atp m c g fs L p else vs[p - til]? := by
  unfold atp
  rw [if_pos (by omega)]
  by_cases h : p < til
  · rw [if_pos h, if_pos (by omega), splice_lt h (by omega)]
  · rw [if_neg h, splice_in (by omega) hp (by omega)]
theorem atp_chunk {m c frm til k p : Nat} {fs vs : List Value} {L : List (Nat × List Value)} {x : Nat × List Value} (hc : 0 < c) (hm : m ≤ til) (hk : gn m c frm + k = (til - m) / c) (hx : L[k]? = some x) (hxl : x.2.length = c) (hn : (til - m) % c + vs.length ≤ c) (hfp : frm ≤ p) (hp : p < til + vs.length) :
    atp m c (gn m c frm) fs (L.set k (x.1, splice x.2 ((til - m) % c) vs)) p = if p < til then atp m c (gn m c frm) fs L p else vs[p - til]? := by
  have hkl : k < L.length := (List.getElem?_eq_some_iff.1 hx).1
  unfold atp
  by_cases hpm : p < m
  · rw [if_pos hpm, if_pos (by omega), if_pos hpm]
  rw [if_neg hpm, if_neg hpm]
  have hg : gn m c frm ≤ (p - m) / c := gn_le hfp
  obtain ⟨ep, hpl⟩ := split_at (p - m) c hc
  obtain ⟨et, htl⟩ := split_at (til - m) c hc
  by_cases h : p < til
  · rw [if_pos h]
    by_cases hq : (p - m) / c - gn m c frm = k
    · have e : (p - m) / c = (til - m) / c := by omega
      rw [e] at ep
      rw [hq, List.getElem?_set_self hkl, hx]
      exact splice_lt (by omega) (by omega)
    · rw [List.getElem?_set_ne (by omega)]
  · rw [if_neg h]
    have e : (p - m) / c = (til - m) / c := by
      rw [show p - m = (til - m) / c * c + ((til - m) % c + (p - til)) by omega]
      exact div_add_of_lt (by omega)
    rw [e] at ep
    rw [e, show (til - m) / c - gn m c frm = k by omega, List.getElem?_set_self hkl]
    show (splice x.2 _ _)[(p - m) % c]? = _
    rw [splice_in (by omega) (by omega) (by omega)]
    congr 1; omega
theorem atp_snoc {m c g p : Nat} {fs : List Value} {L : List (Nat × List Value)} (x : Nat × List Value) (h : (atp m c g fs L p).isSome = true) : atp m c g fs (L ++ [x]) p = atp m c g fs L p := by
  unfold atp at h ⊢
  by_cases hp : p < m
  · rw [if_pos hp, if_pos hp]
  · rw [if_neg hp] at h ⊢
    rw [if_neg hp]
    have : (p - m) / c - g < L.length := by
      rcases Nat.lt_or_ge ((p - m) / c - g) L.length with h' | h'
      · exact h'
      · rw [List.getElem?_eq_none h'] at h; cases h
    rw [List.getElem?_append_left this]
theorem atp_tail {m c g p : Nat} {fs : List Value} {x : Nat × List Value} {L : List (Nat × List Value)} (h : p < m ∨ g + 1 ≤ (p - m) / c) : atp m c (g + 1) fs L p = atp m c g fs (x :: L) p := by
  unfold atp
  by_cases hp : p < m
  · rw [if_pos hp, if_pos hp]
  · rw [if_neg hp, if_neg hp, show (p - m) / c - g = ((p - m) / c - (g + 1)) + 1 by omega, List.getElem?_cons_succ]

/-- Bytes, as cells. -/
def bytes (l : List UInt8) : List Value := l.map fun b => .int .u8 b.toNat
@[simp] theorem bytes_length (l : List UInt8) : (bytes l).length = l.length := List.length_map ..
theorem bytes_append (l k : List UInt8) : bytes (l ++ k) = bytes l ++ bytes k := List.map_append ..
theorem bytes_one (l : List UInt8) : ∀ v ∈ bytes l, v.oneCell' = true := by
  intro v h; obtain ⟨_, _, rfl⟩ := List.mem_map.1 h; rfl
/-- The bytes from a place on stand there. -/
def Holds (m c g frm : Nat) (fs : List Value) (L : List (Nat × List Value)) (l : List UInt8) : Prop := ∀ i, i < l.length → atp m c g fs L (frm + i) = (bytes l)[i]?
theorem holds_write {frm til : Nat} {l ys : List UInt8} {A : Nat → Option Value} (ht : frm + l.length = til) (hA : ∀ i, i < l.length → A (frm + i) = (bytes l)[i]?) (i : Nat) (hi : i < (l ++ ys).length) :
    (if frm + i < til then A (frm + i) else (bytes ys)[frm + i - til]?) = (bytes (l ++ ys))[i]? := by
  rw [bytes_append]
  by_cases h : frm + i < til
  · rw [if_pos h, hA i (by omega), List.getElem?_append_left (by rw [bytes_length]; omega)]
  · rw [if_neg h, List.getElem?_append_right (by rw [bytes_length]; omega), bytes_length]
    congr 1; omega
theorem str_drop (l : List UInt8) (n : Nat) : (ByteArray.mk l.toArray).extract n l.length = ⟨(l.drop n).toArray⟩ := by
  apply ByteArray.ext
  simp
  exact List.take_of_length_le (by rw [List.length_drop]; exact Nat.le_refl _)
theorem gn_same {m c fr k : Nat} (hc : 0 < c) (hm : m ≤ fr) (hk : (fr - m) % c + k < c) : gn m c (fr + k) = gn m c fr := by
  obtain ⟨e, _⟩ := split_at (fr - m) c hc
  unfold gn
  rw [show fr + k - m = (fr - m) / c * c + ((fr - m) % c + k) by omega]
  exact div_add_of_lt hk
theorem gn_next {m c fr k : Nat} (hc : 0 < c) (hm : m ≤ fr) (hk : (fr - m) % c + k = c) : gn m c (fr + k) = gn m c fr + 1 := by
  obtain ⟨e, _⟩ := split_at (fr - m) c hc
  unfold gn
  have := div_add_of_lt (c := c) (K := (fr - m) / c + 1) (r := 0) hc
  rw [show fr + k - m = ((fr - m) / c + 1) * c + 0 by rw [Nat.add_mul]; omega]
  exact this
theorem mod_same {m c fr k : Nat} (hc : 0 < c) (hm : m ≤ fr) (hk : (fr - m) % c + k < c) : (fr + k - m) % c = (fr - m) % c + k := by
  obtain ⟨e, _⟩ := split_at (fr - m) c hc
  rw [show fr + k - m = ((fr - m) % c + k) + (fr - m) / c * c by omega, Nat.add_mul_mod_self_right]
  exact Nat.mod_eq_of_lt hk
theorem mod_next {m c fr k : Nat} (hc : 0 < c) (hm : m ≤ fr) (hk : (fr - m) % c + k = c) : (fr + k - m) % c = 0 := by
  obtain ⟨e, _⟩ := split_at (fr - m) c hc
  rw [show fr + k - m = 0 + ((fr - m) / c + 1) * c by rw [Nat.add_mul]; omega, Nat.add_mul_mod_self_right]
  exact Nat.zero_mod c
theorem holds_drop {m c g fr : Nat} {fs : List Value} {L : List (Nat × List Value)} {l : List UInt8} (h : Holds m c g fr fs L l) (k : Nat) : Holds m c g (fr + k) fs L (l.drop k) := by
  intro i hi
  rw [List.length_drop] at hi
  rw [Nat.add_assoc, h (k + i) (by omega)]
  unfold bytes
  rw [List.map_drop, List.getElem?_drop]
theorem holds_tail {m c g fr : Nat} {fs : List Value} {x : Nat × List Value} {L : List (Nat × List Value)} {l : List UInt8} (h : Holds m c g fr fs (x :: L) l) (hg : g + 1 ≤ (fr - m) / c) : Holds m c (g + 1) fr fs L l := by
  intro i hi
  rw [← h i hi]
  exact atp_tail (.inr (Nat.le_trans hg (Nat.div_le_div_right (by omega))))
/-- What stands in memory from a place on. -/
theorem holds_first {m c g fr k : Nat} {fs : List Value} {L : List (Nat × List Value)} {l : List UInt8} (h : Holds m c g fr fs L l) (hk : fr + k ≤ m) (hl : k ≤ l.length) (j : Nat) (hj : j < k) : fs[fr + j]? = (bytes (l.take k))[j]? := by
  have := h j (by omega)
  unfold atp at this
  rw [if_pos (by omega)] at this
  rw [this]; unfold bytes; rw [List.map_take, List.getElem?_take, if_pos hj]
/-- What stands in the first chunk. -/
theorem holds_chunk {m c fr k : Nat} {fs : List Value} {x : Nat × List Value} {L : List (Nat × List Value)} {l : List UInt8} (hc : 0 < c) (h : Holds m c (gn m c fr) fr fs (x :: L) l) (hm : m ≤ fr) (hk : (fr - m) % c + k ≤ c) (hl : k ≤ l.length) (j : Nat) (hj : j < k) : x.2[(fr - m) % c + j]? = (bytes (l.take k))[j]? := by
  have := h j (by omega)
  unfold atp at this
  have h1 := gn_same (k := j) hc hm (by omega)
  have h2 := mod_same (k := j) hc hm (by omega)
  unfold gn at this h1
  rw [if_neg (by omega), h1, h2, Nat.sub_self] at this
  simp only [List.getElem?_cons_zero, Option.bind_some] at this
  rw [this]; unfold bytes; rw [List.map_take, List.getElem?_take, if_pos hj]
/-- Behind a copy the first bytes of the row are what was taken so far. -/
theorem took_more {cur : List Value} {data : List UInt8} {g k N : Nat} (hcur : cur.length = N) (ht : cur.take g = bytes (data.take g)) (hg : g + k ≤ N) (hd : N ≤ data.length) : (splice cur g (bytes ((data.drop g).take k))).take (g + k) = bytes (data.take (g + k)) := by
  have hl : (bytes ((data.drop g).take k)).length = k := by rw [bytes_length, List.length_take, List.length_drop]; omega
  unfold splice
  rw [← List.append_assoc, List.take_left' (by rw [List.length_append, List.length_take, hl]; omega), ht, ← bytes_append, List.take_add]
end Go.Proofs.Ytgaeafhkepfgjaa.Spill
