/- The two pools side by side: the spill package's (all buffers Ls) and the document's (all buffers Lr), call by call. -/
import Derived.Test.YtgaeafhkepfgjaaSpRd
namespace Go.Proofs.Ytgaeafhkepfgjaa.Spill
open Go.RowKit Go.Proofs.Ytgaeafhkepfgjaa Go.Proofs.Ytgaeafhkepfgjaa.Hp
set_option linter.unusedVariables false

def sbuf (bp m c : Nat) (x : Bf) : Hp := if x.closed then closedB x.ba bp else bufX x.ba bp m c x.pre.length x.data
def sptr (x : Bf) : Value := .pointer (some ⟨x.ba, 0, none⟩)
/-- The document's side and the frame. -/
def RS (rp q m c capA capR : Nat) (pA pR : Option Addr) (ps : List Value) (n : Nat) (Lr : List Bf) (R : Hp) : Hp :=
  arr 29 1 pA n capA ps * (rpool rp q m c capR pR Lr * (all rbuf Lr * R))
def PH (bp rp q m c tot capA capR : Nat) (pA pR : Option Addr) (Ls Lr : List Bf) (R : Hp) (w : World) : Prop :=
  Sat w (poolX bp q m c (sumOf Bf.h Ls) (sumOf (Bf.u m c) Ls) (sumOf Bf.o Ls) tot * (all (sbuf bp m c) Ls * RS rp q m c capA capR pA pR (Ls.map sptr) Ls.length Lr R))
/-- What is sure of the numbers. -/
structure Nums (q m c tot B : Nat) (L : List Bf) : Prop where
  hc : 1 ≤ c
  hc2 : c ≤ 65536
  hm : m ≤ 65536
  hq : q ≤ 1048576
  ht : tot ≤ B
  hB : B ≤ 12300
  hs : ∀ x ∈ L, x.pre.length + x.data.length ≤ B
  hh : sumOf Bf.h L ≤ q
  hh2 : sumOf Bf.h L ≤ B
  hl : L.length ≤ 41

variable {bp rp q m c tot capA capR B : Nat} {pA pR : Option Addr} {Ls Lr L : List Bf} {R : Hp} {w : World}

theorem PH.drewN (h : PH bp rp q m c tot capA capR pA pR Ls Lr R w) (n : Nat) : PH bp rp q m c tot capA capR pA pR Ls Lr R (w.drewN n) := Sat.drewN h n
theorem sumOf_o_le (L : List Bf) : sumOf Bf.o L ≤ L.length := by
  unfold sumOf
  induction L with
  | nil => simp
  | cons x t ih => simp only [List.map_cons, List.sum_cons, List.length_cons]; have : x.o ≤ 1 := by unfold Bf.o; split <;> omega
                   omega
theorem sum_get (f : Bf → Nat) (L : List Bf) (i : Nat) (h : i < L.length) : f L[i] ≤ sumOf f L := by
  have h1 := sumOf_take f L i h
  have h2 := sumOf_take_le f L (i + 1)
  omega
theorem Nums.small (N : Nums q m c tot B L) : ∀ x ∈ L, Small x := fun x h => by have := N.hs x h; have := N.hB; unfold Small; omega
/-- One buffer of the spill side. -/
def sRest (bp rp q m c capA capR i : Nat) (pA pR : Option Addr) (Ls Lr : List Bf) (R : Hp) : Hp :=
  all (sbuf bp m c) (Ls.take i) * all (sbuf bp m c) (Ls.drop (i + 1)) * RS rp q m c capA capR pA pR (Ls.map sptr) Ls.length Lr R
theorem PH.focus (h : PH bp rp q m c tot capA capR pA pR Ls Lr R w) (i : Nat) (hi : i < Ls.length) :
    Sat w (poolX bp q m c (sumOf Bf.h Ls) (sumOf (Bf.u m c) Ls) (sumOf Bf.o Ls) tot * (sbuf bp m c Ls[i] * sRest bp rp q m c capA capR i pA pR Ls Lr R)) := by
  unfold PH at h
  rw [all_split (sbuf bp m c) Ls i hi] at h
  exact h.perm (by unfold sRest; ac_rfl)
theorem PH.unfocus {held used opn tot' : Nat} (i : Nat) (hi : i < Ls.length) (x : Bf) (hx : x.ba = Ls[i].ba) (e1 : held = sumOf Bf.h (Ls.set i x)) (e2 : used = sumOf (Bf.u m c) (Ls.set i x)) (e3 : opn = sumOf Bf.o (Ls.set i x))
    (h : Sat w (poolX bp q m c held used opn tot' * (sbuf bp m c x * sRest bp rp q m c capA capR i pA pR Ls Lr R))) : PH bp rp q m c tot' capA capR pA pR (Ls.set i x) Lr R w := by
  subst e1 e2 e3
  have hm : (Ls.set i x).map sptr = Ls.map sptr := by
    rw [List.map_set]
    have : sptr x = (Ls.map sptr)[i]'(by simpa using hi) := by simp [sptr, hx]
    rw [this, List.set_getElem_self]
  unfold PH
  rw [all_set (sbuf bp m c) Ls i hi, hm, List.length_set]
  unfold sRest at h
  exact h.perm (by ac_rfl)
theorem PH.used_le (h : PH bp rp q m c tot capA capR pA pR Ls Lr R w) : sumOf (Bf.u m c) Ls ≤ tot := by
  obtain ⟨_, _, _, h1, _⟩ := poolX_out h
  omega
/-- The document's side. -/
theorem PH.ref (h : PH bp rp q m c tot capA capR pA pR Ls Lr R w) : Sat w (rpool rp q m c capR pR Lr * (all rbuf Lr * (poolX bp q m c (sumOf Bf.h Ls) (sumOf (Bf.u m c) Ls) (sumOf Bf.o Ls) tot * (all (sbuf bp m c) Ls * (arr 29 1 pA Ls.length capA (Ls.map sptr) * R))))) := by
  unfold PH RS at h
  exact h.perm (by ac_rfl)
theorem PH.ofRef (h : Sat w (rpool rp q m c capR pR Lr * (all rbuf Lr * (poolX bp q m c (sumOf Bf.h Ls) (sumOf (Bf.u m c) Ls) (sumOf Bf.o Ls) tot * (all (sbuf bp m c) Ls * (arr 29 1 pA Ls.length capA (Ls.map sptr) * R)))))) : PH bp rp q m c tot capA capR pA pR Ls Lr R w := by
  unfold PH RS
  exact h.perm (by ac_rfl)
theorem PH.frame (h : PH bp rp q m c tot capA capR pA pR Ls Lr R w) : Sat w R := h.ref.right.right.right.right.right
theorem PH.isOpen {i : Nat} (h : PH bp rp q m c tot capA capR pA pR Ls Lr R w) (hi : i < Ls.length) : w.cell? ⟨Ls[i].ba, 1, none⟩ = some (.bool Ls[i].closed) := by
  have h2 := (h.focus i hi).right
  unfold sbuf at h2
  cases hc : Ls[i].closed
  · rw [hc] at h2
    exact (bufX_cells (by simpa using h2)).1
  · rw [hc] at h2
    rw [if_pos rfl] at h2
    unfold closedB at h2
    exact (cells7 h2.get).2.1

def PPost (v : Value) (bp rp q m c tot capA capR : Nat) (pA pR : Option Addr) (Ls Lr : List Bf) (R : Hp) (w : World) (e : Ending) (w' : World) : Prop :=
  e = .returned v ∧ PH bp rp q m c tot capA capR pA pR Ls Lr R w' ∧ Ran w w'
theorem sum_set_eq (f : Bf → Nat) (L : List Bf) (i : Nat) (h : i < L.length) (x : Bf) : sumOf f (L.set i x) = sumOf f L - f L[i] + f x := by
  have := sumOf_set f L i h x
  have := sum_get f L i h
  omega
theorem p_append {i ba rb : Nat} {pre data d : List UInt8} (N : Nums q m c tot B Ls) (hi : i < Ls.length) (hx : Ls[i] = ⟨ba, rb, false, pre, data⟩) (hd : d.length ≤ 300) (hf : sumOf Bf.h Ls + d.length ≤ q) (h : PH bp rp q m c tot capA capR pA pR Ls Lr R w) :
    Calls Try.prog 13 #[.pointer (some ⟨ba, 0, none⟩), .string ⟨d.toArray⟩] w (PPost (.int .i64 0) bp rp q m c (tot + d.length) capA capR pA pR (Ls.set i ⟨ba, rb, false, pre, data ++ d⟩) Lr R w) := by
  have hu := h.used_le
  have hF := h.focus i hi
  have hs := N.hs Ls[i] (List.getElem_mem hi)
  have s1 := sum_set_eq Bf.h Ls i hi ⟨ba, rb, false, pre, data ++ d⟩
  have s2 := sum_set_eq (Bf.u m c) Ls i hi ⟨ba, rb, false, pre, data ++ d⟩
  have s3 := sum_set_eq Bf.o Ls i hi ⟨ba, rb, false, pre, data ++ d⟩
  have g1 := sum_get Bf.h Ls i hi
  have g2 := sum_get (Bf.u m c) Ls i hi
  have g3 := sum_get Bf.o Ls i hi
  rw [hx] at hF hs s1 s2 s3 g1 g2 g3
  simp only [Bf.h, Bf.u, Bf.o, sbuf, if_false, Bool.false_eq_true, List.length_append] at hF hs s1 s2 s3 g1 g2 g3
  obtain ⟨b1, b2, b3, b4, b5, b6, b7, b8⟩ := N
  rw [show sumOf (Bf.u m c) Ls = (sumOf (Bf.u m c) Ls - (cl m c (pre.length + data.length) - gn m c pre.length)) + (cl m c (pre.length + data.length) - gn m c pre.length) by omega] at hF
  refine (append_loop bp ba q m c (sumOf Bf.h Ls) (sumOf (Bf.u m c) Ls - (cl m c (pre.length + data.length) - gn m c pre.length)) (sumOf Bf.o Ls) tot pre.length data d _ w b1 b2 b3 b4 hf (by omega) (by omega) (by omega) hF).mono ?_
  rintro e w' ⟨rfl, h2, h3⟩
  refine ⟨rfl, PH.unfocus i hi ⟨ba, rb, false, pre, data ++ d⟩ (by rw [hx]) ?_ ?_ ?_ h2, h3⟩
  · omega
  · rw [List.length_append]; omega
  · omega
theorem p_append_full {i ba rb : Nat} {pre data d : List UInt8} (N : Nums q m c tot B Ls) (hi : i < Ls.length) (hx : Ls[i] = ⟨ba, rb, false, pre, data⟩) (hd : d.length ≤ 300) (hf : q < sumOf Bf.h Ls + d.length) (h : PH bp rp q m c tot capA capR pA pR Ls Lr R w) :
    Calls Try.prog 13 #[.pointer (some ⟨ba, 0, none⟩), .string ⟨d.toArray⟩] w fun e w' => e = .returned (.int .i64 41) ∧ ∃ n, w' = w.drewN n := by
  have hF := h.focus i hi
  rw [hx] at hF
  exact append_full bp ba q m c _ _ _ tot pre.length data ⟨d.toArray⟩ _ w N.hq (by simpa [ByteArray.size] using hf) N.hh hF
theorem p_drain {i ba rb n k : Nat} {pre data : List UInt8} (N : Nums q m c tot B Ls) (hi : i < Ls.length) (hx : Ls[i] = ⟨ba, rb, false, pre, data⟩) (hn : (n : Int) ≤ 9223372036854775807) (hk : k = min n data.length) (h : PH bp rp q m c tot capA capR pA pR Ls Lr R w) :
    Calls Try.prog 14 #[.pointer (some ⟨ba, 0, none⟩), .int .i64 n] w (PPost (.tuple #[.string ⟨(data.take k).toArray⟩, .int .i64 0]) bp rp q m c tot capA capR pA pR (Ls.set i ⟨ba, rb, false, pre ++ data.take k, data.drop k⟩) Lr R w) := by
  have hu := h.used_le
  have hF := h.focus i hi
  have hs := N.hs Ls[i] (List.getElem_mem hi)
  have s1 := sum_set_eq Bf.h Ls i hi ⟨ba, rb, false, pre ++ data.take k, data.drop k⟩
  have s2 := sum_set_eq (Bf.u m c) Ls i hi ⟨ba, rb, false, pre ++ data.take k, data.drop k⟩
  have s3 := sum_set_eq Bf.o Ls i hi ⟨ba, rb, false, pre ++ data.take k, data.drop k⟩
  have g1 := sum_get Bf.h Ls i hi
  have g2 := sum_get (Bf.u m c) Ls i hi
  have g3 := sum_get Bf.o Ls i hi
  rw [hx] at hF hs s1 s2 s3 g1 g2 g3
  have hkl : (data.take k).length = k := by rw [List.length_take]; omega
  have hkd : (data.drop k).length = data.length - k := List.length_drop
  have hpl : (pre ++ data.take k).length = pre.length + k := by rw [List.length_append, hkl]
  simp only [Bf.h, Bf.u, Bf.o, sbuf, if_false, Bool.false_eq_true, hpl, hkd] at hF hs s1 s2 s3 g1 g2 g3
  rw [show pre.length + k + (data.length - k) = pre.length + data.length by omega] at s2
  obtain ⟨b1, b2, b3, b4, b5, b6, b7, b8⟩ := N
  rw [show sumOf (Bf.u m c) Ls = (sumOf (Bf.u m c) Ls - (cl m c (pre.length + data.length) - gn m c pre.length)) + (cl m c (pre.length + data.length) - gn m c pre.length) by omega] at hF
  refine (drain_calls bp ba q m c (sumOf Bf.h Ls) (sumOf (Bf.u m c) Ls - (cl m c (pre.length + data.length) - gn m c pre.length)) (sumOf Bf.o Ls) tot pre.length (pre.length + data.length) n k data _ w b1 b2 b3 (by omega) (by omega) (by omega) (by omega) (by omega) hn rfl hk hF).mono ?_
  rintro e w' ⟨rfl, h2, h3⟩
  rw [← hpl] at h2
  refine ⟨rfl, PH.unfocus i hi ⟨ba, rb, false, pre ++ data.take k, data.drop k⟩ (by rw [hx]) ?_ ?_ ?_ h2, h3⟩
  · omega
  · rw [hpl]; omega
  · omega
theorem p_close {i ba rb : Nat} {pre data : List UInt8} (N : Nums q m c tot B Ls) (hi : i < Ls.length) (hx : Ls[i] = ⟨ba, rb, false, pre, data⟩) (h : PH bp rp q m c tot capA capR pA pR Ls Lr R w) :
    Calls Try.prog 20 #[.pointer (some ⟨ba, 0, none⟩)] w (PPost (.int .i64 0) bp rp q m c tot capA capR pA pR (Ls.set i ⟨ba, rb, true, pre, data⟩) Lr R w) := by
  have hu := h.used_le
  have ho := sumOf_o_le Ls
  have hF := h.focus i hi
  have hs := N.hs Ls[i] (List.getElem_mem hi)
  have s1 := sum_set_eq Bf.h Ls i hi ⟨ba, rb, true, pre, data⟩
  have s2 := sum_set_eq (Bf.u m c) Ls i hi ⟨ba, rb, true, pre, data⟩
  have s3 := sum_set_eq Bf.o Ls i hi ⟨ba, rb, true, pre, data⟩
  have g1 := sum_get Bf.h Ls i hi
  have g2 := sum_get (Bf.u m c) Ls i hi
  have g3 := sum_get Bf.o Ls i hi
  rw [hx] at hF hs s1 s2 s3 g1 g2 g3
  simp only [Bf.h, Bf.u, Bf.o, sbuf, if_false, if_true, Bool.false_eq_true] at hF hs s1 s2 s3 g1 g2 g3
  obtain ⟨b1, b2, b3, b4, b5, b6, b7, b8, b9, b10⟩ := N
  rw [show sumOf (Bf.u m c) Ls = (sumOf (Bf.u m c) Ls - (cl m c (pre.length + data.length) - gn m c pre.length)) + (cl m c (pre.length + data.length) - gn m c pre.length) by omega,
    show sumOf Bf.o Ls = (sumOf Bf.o Ls - 1) + 1 by omega] at hF
  refine (close_calls bp ba q m c (sumOf Bf.h Ls) (sumOf (Bf.u m c) Ls - (cl m c (pre.length + data.length) - gn m c pre.length)) (sumOf Bf.o Ls - 1) tot pre.length data _ w b1 (by omega) (by omega) (by omega) (by omega) (by omega) (by omega) hF).mono ?_
  rintro e w' ⟨rfl, h2, h3⟩
  refine ⟨rfl, PH.unfocus i hi ⟨ba, rb, true, pre, data⟩ (by rw [hx]) ?_ ?_ ?_ h2, h3⟩
  · omega
  · omega
  · omega
theorem p_len {i : Nat} (N : Nums q m c tot B Ls) (hi : i < Ls.length) (h : PH bp rp q m c tot capA capR pA pR Ls Lr R w) :
    Calls Try.prog 22 #[.pointer (some ⟨Ls[i].ba, 0, none⟩)] w fun e w' => e = .returned (.int .i64 Ls[i].h) ∧ ∃ n, w' = w.drewN n := by
  have hF := h.focus i hi
  have hs := N.hs Ls[i] (List.getElem_mem hi)
  have hB := N.hB
  have hop := h.isOpen hi
  generalize Ls[i] = x at *
  obtain ⟨ba, rb, cld, pre, data⟩ := x
  cases cld
  · exact xlen ba bp m c pre.length data _ w (by simp only at hs; omega) hF.right
  · refine (len_closed w ba hop).mono ?_
    rintro e w' ⟨rfl, rfl⟩
    exact ⟨rfl, 0, rfl⟩
theorem p_held (h : PH bp rp q m c tot capA capR pA pR Ls Lr R w) :
    Calls Try.prog 11 #[.pointer (some ⟨bp, 0, none⟩)] w fun e w' => e = .returned (.int .i64 (sumOf Bf.h Ls : Nat)) ∧ w = w' := xheld bp q m c _ _ _ tot _ w h
theorem p_chunks (h : PH bp rp q m c tot capA capR pA pR Ls Lr R w) :
    Calls Try.prog 12 #[.pointer (some ⟨bp, 0, none⟩)] w fun e w' => e = .returned (.int .i64 (sumOf (Bf.u m c) Ls : Nat)) ∧ w = w' := xchunks bp q m c _ _ _ tot _ w h
theorem p_buffers (h : PH bp rp q m c tot capA capR pA pR Ls Lr R w) :
    Calls Try.prog 26 #[.pointer (some ⟨bp, 0, none⟩)] w fun e w' => e = .returned (.int .i64 (sumOf Bf.o Ls : Nat)) ∧ w = w' := xbuffers bp q m c _ _ _ tot _ w h
end Go.Proofs.Ytgaeafhkepfgjaa.Spill
