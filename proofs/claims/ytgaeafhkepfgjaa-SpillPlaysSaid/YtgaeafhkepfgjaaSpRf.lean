/- The two pools side by side: Open on both; the document's side's calls. -/
import Derived.Test.YtgaeafhkepfgjaaSpRe
namespace Go.Proofs.Ytgaeafhkepfgjaa.Spill
open Go.RowKit Go.Proofs.Ytgaeafhkepfgjaa Go.Proofs.Ytgaeafhkepfgjaa.Hp
set_option linter.unusedVariables false
variable {bp rp q m c tot capA capR B : Nat} {pA pR : Option Addr} {Ls Lr L : List Bf} {R : Hp} {w : World}

theorem r_append {i ba rb : Nat} {pre data d : List UInt8} (N : Nums q m c tot B Lr) {tot' : Nat} (hi : i < Lr.length) (hx : Lr[i] = ⟨ba, rb, false, pre, data⟩) (hd : d.length ≤ 300) (hf : sumOf Bf.h Lr + d.length ≤ q) (h : PH bp rp q m c tot' capA capR pA pR Ls Lr R w) :
    Calls Try.prog 18 #[.pointer (some ⟨rp, 0, none⟩), .pointer (some ⟨rb, 0, none⟩), .string ⟨d.toArray⟩] w (PPost (.int .i64 0) bp rp q m c tot' capA capR pA pR Ls (Lr.set i ⟨ba, rb, false, pre, data ++ d⟩) R w) := by
  refine (rappend_ok rp q m c capR i ba rb pre data d pR Lr w _ hi hx (by omega) N.small (by have := N.hh2; have := N.hB; omega) N.hq hf h.ref).mono ?_
  rintro e w' ⟨rfl, h2, h3⟩
  exact ⟨rfl, PH.ofRef h2, h3⟩
theorem r_append_full {i ba rb : Nat} {pre data d : List UInt8} (N : Nums q m c tot B Lr) {tot' : Nat} (hi : i < Lr.length) (hx : Lr[i] = ⟨ba, rb, false, pre, data⟩) (hd : d.length ≤ 300) (hf : q < sumOf Bf.h Lr + d.length) (h : PH bp rp q m c tot' capA capR pA pR Ls Lr R w) :
    Calls Try.prog 18 #[.pointer (some ⟨rp, 0, none⟩), .pointer (some ⟨rb, 0, none⟩), .string ⟨d.toArray⟩] w fun e w' => e = .returned (.int .i64 41) ∧ ∃ n, w' = w.drewN n := by
  have := rappend_full rp q m c capR i pR Lr w _ ⟨d.toArray⟩ hi (by rw [hx]) (by simp [ByteArray.size]; omega) N.small (by have := N.hh2; have := N.hB; omega) N.hq (by simpa [ByteArray.size] using hf) (by have := N.hh2; have := N.hB; simp [ByteArray.size]; omega) h.ref
  rw [hx] at this
  exact this
theorem PH.rcell {tot' i : Nat} (h : PH bp rp q m c tot' capA capR pA pR Ls Lr R w) (hi : i < Lr.length) : w.heap[Lr[i].rb]? = some (rbo Lr[i]) := by
  obtain ⟨_, _, hB⟩ := rpool_at h.ref
  obtain ⟨_, _, _, _, h3⟩ := hB i hi
  exact h3
theorem r_drain {i ba rb n k tot' : Nat} {pre data : List UInt8} (N : Nums q m c tot B Lr) (hi : i < Lr.length) (hx : Lr[i] = ⟨ba, rb, false, pre, data⟩) (hn : (n : Int) ≤ 9223372036854775807) (hk : k = min n data.length) (h : PH bp rp q m c tot' capA capR pA pR Ls Lr R w) :
    Calls Try.prog 19 #[.pointer (some ⟨rb, 0, none⟩), .int .i64 n] w (PPost (.tuple #[.string ⟨(data.take k).toArray⟩, .int .i64 0]) bp rp q m c tot' capA capR pA pR Ls (Lr.set i ⟨ba, rb, false, pre ++ data.take k, data.drop k⟩) R w) := by
  have hF := rfocus hi h.ref
  have hs := N.small Lr[i] (List.getElem_mem hi)
  rw [hx] at hF hs
  refine (rdrain_open ba rb n k pre data w _ hs hn hk hF).mono ?_
  rintro e w' ⟨rfl, h2, h3⟩
  exact ⟨rfl, PH.ofRef (runfocus hi _ (by rw [hx]) h2), h3⟩
theorem r_close {i ba rb tot' : Nat} {pre data : List UInt8} (hi : i < Lr.length) (hx : Lr[i] = ⟨ba, rb, false, pre, data⟩) (h : PH bp rp q m c tot' capA capR pA pR Ls Lr R w) :
    Calls Try.prog 21 #[.pointer (some ⟨rb, 0, none⟩)] w (PPost (.int .i64 0) bp rp q m c tot' capA capR pA pR Ls (Lr.set i ⟨ba, rb, true, pre, data⟩) R w) := by
  have hF := rfocus hi h.ref
  rw [hx] at hF
  refine (rclose_open ba rb pre data w _ hF).mono ?_
  rintro e w' ⟨rfl, h2, h3⟩
  exact ⟨rfl, PH.ofRef (runfocus hi _ (by rw [hx]) h2), h3⟩
theorem r_len {i : Nat} (N : Nums q m c tot B Lr) (hi : i < Lr.length) (h : PH bp rp q m c tot capA capR pA pR Ls Lr R w) :
    Calls Try.prog 23 #[.pointer (some ⟨Lr[i].rb, 0, none⟩)] w fun e w' => e = .returned (.int .i64 Lr[i].h) ∧ ∃ n, w' = w.drewN n :=
  rlen Lr[i] w (h.rcell hi) (N.small _ (List.getElem_mem hi))
theorem r_held (N : Nums q m c tot B Lr) (h : PH bp rp q m c tot capA capR pA pR Ls Lr R w) :
    Calls Try.prog 24 #[.pointer (some ⟨rp, 0, none⟩)] w fun e w' => e = .returned (.int .i64 (sumOf Bf.h Lr : Nat)) ∧ ∃ n, w' = w.drewN n :=
  rheld rp q m c capR pR Lr w _ N.small (by have := N.hh2; have := N.hB; omega) h.ref
theorem r_chunks (N : Nums q m c tot B L) (h : PH bp rp q m c tot capA capR pA pR L L R w) :
    Calls Try.prog 25 #[.pointer (some ⟨rp, 0, none⟩)] w fun e w' => e = .returned (.int .i64 (sumOf (Bf.u m c) L : Nat)) ∧ ∃ n, w' = w.drewN n :=
  rchunks rp q m c capR pR L w _ N.hm N.hc N.hc2 N.small (by have := h.used_le; have := N.ht; have := N.hB; omega) h.ref
theorem r_buffers (N : Nums q m c tot B Lr) (h : PH bp rp q m c tot capA capR pA pR Ls Lr R w) :
    Calls Try.prog 27 #[.pointer (some ⟨rp, 0, none⟩)] w fun e w' => e = .returned (.int .i64 (sumOf Bf.o Lr : Nat)) ∧ ∃ n, w' = w.drewN n :=
  rbuffers rp q m c capR pR Lr w _ (by have := sumOf_o_le Lr; have := N.hl; omega) h.ref

/-- A buffer was opened on the spill side. -/
def OR (bp rp q m c tot capR ba : Nat) (pR : Option Addr) (L : List Bf) (R : Hp) : Hp :=
  poolX bp q m c (sumOf Bf.h L) (sumOf (Bf.u m c) L) (sumOf Bf.o L + 1) tot * (bufX ba bp m c 0 [] * (all (sbuf bp m c) L * (rpool rp q m c capR pR L * (all rbuf L * R))))
def POpen (bp rp q m c tot capA capR : Nat) (pA pR : Option Addr) (L : List Bf) (R : Hp) (w : World) (e : Ending) (w' : World) : Prop :=
  ∃ ba, e = .returned (.pointer (some ⟨ba, 0, none⟩)) ∧ Sat w' (arr 29 1 pA L.length capA (L.map sptr) * OR bp rp q m c tot capR ba pR L R) ∧ Ran w w'
theorem p_open (N : Nums q m c tot B L) (h : PH bp rp q m c tot capA capR pA pR L L R w) :
    Calls Try.prog 10 #[.pointer (some ⟨bp, 0, none⟩)] w (POpen bp rp q m c tot capA capR pA pR L R w) := by
  have ho := sumOf_o_le L
  have hl := N.hl
  refine (xopen bp q m c _ _ _ tot _ w (by omega) N.hm N.hc h).mono ?_
  rintro e w' ⟨ba, rfl, h2, h3⟩
  exact ⟨ba, rfl, h2.perm (by unfold OR RS; ac_rfl), h3⟩
theorem info29 : (Try.prog.info? 29).map (fun i => (i.zero, i.size, i.bytes)) = some (some (.pointer none), 1, 8) := by kernel_rfl
theorem app42 {w : World} {R : Hp} {ops : Array Oper} {rest : List Oper} {o : Oper} {a : Act} {Q : Exit → Act → World → Prop} (hgd : o.guard = none) (s x : Operand)
    (ho : o.op = .call { callee := .builtin .append, args := #[s, x], argTypes := #[42, 42] })
    (p : Option Addr) (n cap : Nat) (xs : List Value) (hp : a.eval s = .slice p n cap) (b : Nat) (v : Value) (hvx : a.eval x = .slice (some ⟨b, 0, none⟩) 1 1) (h : Sat w (arr 29 1 p n cap xs * R)) (hb : w.cell? ⟨b, 0, none⟩ = some v) (hv : v.oneCell' = true) (hn : n ≤ 1000000000000)
    (hk : ∀ p' cap' w', Sat w' (arr 29 1 p' (n + 1) cap' (xs ++ [v]) * R) → Ran w w' → wpList Try.prog ops Q rest (a.put o.dst (.slice p' (n + 1) cap')) w') : wpList Try.prog ops Q (o :: rest) a w := by
  obtain ⟨i0, hi, hz0, hz1, hz2⟩ := info_parts info29
  refine wpList_append_arr hgd s x _ _ ho 29 i0 _ 1 8 Try.underlying42 hi hz0 hz1 hz2 rfl p n cap xs hp h _ hvx 1 [v] (Src.ofSlice _ Try.underlying42 ⟨b, 0, none⟩ 1 1 [v] (by simp [hz1]) ?_ (by simpa using hv)) (by omega) (by unfold maxLen; omega) fun p' cap' w' h1 h2 _ => hk p' cap' w' h1 h2
  intro j u hj
  cases j with
  | zero => simp at hj; subst hj; simpa [Addr.add] using hb
  | succ j => simp at hj
def ROPost (bp rp q m c tot capA : Nat) (pA : Option Addr) (ba : Nat) (L : List Bf) (R : Hp) (w : World) (e : Ending) (w' : World) : Prop :=
  ∃ rb capR' pR', e = .returned (.pointer (some ⟨rb, 0, none⟩)) ∧ PH bp rp q m c tot capA capR' pA pR' (L ++ [⟨ba, rb, false, [], []⟩]) (L ++ [⟨ba, rb, false, [], []⟩]) R w' ∧ Ran w w'
theorem r_open {ba : Nat} (N : Nums q m c tot B L) (h : Sat w (arr 29 1 pA (L.length + 1) capA (L.map sptr ++ [.pointer (some ⟨ba, 0, none⟩)]) * OR bp rp q m c tot capR ba pR L R)) :
    Calls Try.prog 16 #[.pointer (some ⟨rp, 0, none⟩)] w (ROPost bp rp q m c tot capA pA ba L R w) := by
  have hl := N.hl
  have hc := N.hc
  have h1 := h.perm (show _ = rpool rp q m c capR pR L * (poolX bp q m c (sumOf Bf.h L) (sumOf (Bf.u m c) L) (sumOf Bf.o L + 1) tot * (bufX ba bp m c 0 [] * (all (sbuf bp m c) L * (all rbuf L * (arr 29 1 pA (L.length + 1) capA (L.map sptr ++ [.pointer (some ⟨ba, 0, none⟩)]) * R))))) by unfold OR; ac_rfl)
  refine (ropen rp q m c capR pR L w _ (by omega) h1).mono ?_
  rintro e w' ⟨rb, cap', p', rfl, h2, h3⟩
  refine ⟨rb, cap', p', rfl, ?_, h3⟩
  have h4 := h2 ba
  unfold PH RS
  rw [sumOf_snoc, sumOf_snoc, sumOf_snoc, all_snoc, all_snoc, List.map_append, List.length_append,
    show Bf.h ⟨ba, rb, false, [], []⟩ = 0 from rfl, show Bf.o ⟨ba, rb, false, [], []⟩ = 1 from rfl,
    show Bf.u m c ⟨ba, rb, false, [], []⟩ = 0 by simp only [Bf.u, Bool.false_eq_true, if_false, List.length_nil, Nat.add_zero]; rw [cl_low (by omega) (by omega)]; simp]
  refine h4.perm ?_
  show _ = poolX bp q m c (sumOf Bf.h L) (sumOf (Bf.u m c) L) (sumOf Bf.o L + 1) tot * (bufX ba bp m c 0 [] * all (sbuf bp m c) L * (arr 29 1 pA (L.length + 1) capA (L.map sptr ++ [.pointer (some ⟨ba, 0, none⟩)]) * (_ * (_ * R))))
  ac_rfl
end Go.Proofs.Ytgaeafhkepfgjaa.Spill
