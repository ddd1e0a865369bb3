/- HandlesPlays, part 25 of 29: the texts SvQ, joined by a program. -/
import Derived.Test.YtlmjidandjemjaaGreatDoorSp24
import Derived.Test.YtlmjidandjemjaaGreatDoorSp22
namespace Go.Proofs.YtlmjidandjemjaaGreatDoor.State
open Go.RowKit Go.Proofs.YtlmjidandjemjaaGreatDoor Go.Proofs.YtlmjidandjemjaaGreatDoor.Hp Go.Proofs.YtlmjidandjemjaaGreatDoor.Undo
set_option linter.unusedVariables false
attribute [local go_sem] Oper.semAt_some

/-- Where the document's machine lies: its box, its state, the list of those that wait, they. -/
structure Dw where
  ab : Nat
  b : Nat
  wp : Option Addr
  wc : Nat
  ws : List (Nat × Sr)
abbrev allO (b : Nat) (wp : Option Addr) (n wc : Nat) : Obj := .cells #[pp b, .slice wp n wc] 63 (0, 0)
def ptrs (ws : List (Nat × Sr)) : List Value := ws.map fun x => pp x.1
abbrev ptA (p : Option Addr) (cap : Nat) (ws : List (Nat × Sr)) : Hp := arr 59 1 p ws.length cap (ptrs ws)
def srs (ws : List (Nat × Sr)) : Hp := all (fun x : Nat × Sr => pts x.1 (srO x.2)) ws
def dwHp (d : Dw) : Hp := pts d.ab (allO d.b d.wp d.ws.length d.wc) * (ptA d.wp d.wc d.ws * srs d.ws)
structure Dr (A : Hp) (n : Now) (c : Nat) (d : Dw) (s : Sr) : Prop where
  g : SrG A n.s n.q c s
  cps : Cps n s (d.ws.map Prod.snd)
  w : ∀ x ∈ d.ws, SrOk A x.2 ∧ SrSm c x.2
theorem Dr.len {A : Hp} {n : Now} {c : Nat} {d : Dw} {s : Sr} (h : Dr A n c d s) : d.ws.length = n.ms.length := by
  have := h.cps.len
  rw [List.length_map] at this
  exact this
/-- What a call of the document's machine makes. -/
def AskR (ab : Nat) (c : Nat) (F : Hp) (w : World) (en : Int) (m : Now) (e : Ending) (w' : World) : Prop :=
  (e = .returned (.int .i64 en) ∧ ∃ (A : Hp) (d : Dw) (s : Sr), d.ab = ab ∧ Dr A m c d s ∧ Sat w' (pts d.b (srO s) * (A * (dwHp d * F)))) ∧ Ran w w'
theorem al_cells {w : World} {ab b : Nat} {wp : Option Addr} {n wc : Nat} {S : Hp} (h : Sat w (pts ab (allO b wp n wc) * S)) : w.cell? ⟨ab, 0, none⟩ = some (pp b) ∧ w.cell? ⟨ab, 1, none⟩ = some (.slice wp n wc) ∧ ∀ i, w.frozen? ⟨ab, i, none⟩ = false :=
  ⟨by rw [cell_at h.get]; rfl, by rw [cell_at h.get]; rfl, fun i => free_at h.get i⟩
theorem dw_cells {w : World} {d : Dw} {S : Hp} (h : Sat w (dwHp d * S)) : w.cell? ⟨d.ab, 0, none⟩ = some (pp d.b) ∧ w.cell? ⟨d.ab, 1, none⟩ = some (.slice d.wp d.ws.length d.wc) ∧ ∀ i, w.frozen? ⟨d.ab, i, none⟩ = false :=
  al_cells (h.perm (show _ = pts d.ab (allO d.b d.wp d.ws.length d.wc) * (ptA d.wp d.wc d.ws * srs d.ws * S) by unfold dwHp; ac_rfl))
/-- What a call makes of the state, as the machine's. -/
theorem made {A X Y F : Hp} {n m : Now} {c : Nat} {d : Dw} {s s2 : Sr} {D : Int × Pst} {en : Int} {w0 w w' : World} (hD : Dr A n c d s) (hc : c ≤ 80000) (hK : Keeps n D (en, m)) (hG : SrG (X * A) D.2 n.q (c + 1) s2) (h : Sat w' (pts d.b (srO s2) * (X * (A * (dwHp d * (Y * F)))))) (hr : Ran w0 w') : AskR d.ab (c + 1) F w0 en m (.returned (.int .i64 D.1)) w' := by
  have hcps := hK.2 s s2 _ hD.cps hG.is
  refine ⟨⟨by rw [← hK.1], X * A, d, s2, rfl, ⟨⟨hcps.now, hG.ok, hG.sm⟩, hcps, fun x hx => ⟨(hD.w x hx).1.more, (hD.w x hx).2.le (Nat.le_succ c) (by omega)⟩⟩, ?_⟩, hr⟩
  exact (h.perm (show _ = Y * (pts d.b (srO s2) * (X * A * (dwHp d * F))) by ac_rfl)).right
theorem OutS.made {A Y F : Hp} {n m : Now} {c : Nat} {d : Dw} {s : Sr} {D : Int × Pst} {en : Int} {w0 w w' : World} {e : Ending} (hD : Dr A n c d s) (hc : c ≤ 80000) (hK : Keeps n D (en, m)) (h : OutS d.b A (dwHp d * (Y * F)) w D.1 D.2 n.q (c + 1) e w') (h0 : Ran w0 w) : e = .returned (.int .i64 D.1) ∧ AskR d.ab (c + 1) F w0 en m (.returned (.int .i64 D.1)) w' := by
  obtain ⟨⟨rfl, X, s2, hG, hS⟩, hr⟩ := h
  exact ⟨rfl, State.made (w := w) hD hc hK hG hS (Below.trans h0 hr)⟩
theorem PutS.made {A Y F : Hp} {n m : Now} {c : Nat} {d : Dw} {s : Sr} {D : Int × Pst} {en : Int} {w0 w w' : World} (hD : Dr A n c d s) (hc : c ≤ 80000) (hK : Keeps n D (en, m)) (h : PutS d.b A (dwHp d * (Y * F)) w D.2 n.q (c + 1) w') (h0 : Ran w0 w) : AskR d.ab (c + 1) F w0 en m (.returned (.int .i64 D.1)) w' := by
  obtain ⟨⟨X, s2, hG, hS⟩, hr⟩ := h
  exact State.made (w := w) hD hc hK hG hS (Below.trans h0 hr)
/-- What is asked of a call. -/
structure FitD (n : Now) (o : Opr) (w : World) : Prop where
  ask : I64 o.ask
  num : I64 o.n
  k : o.k.size ≤ 5000
  t : o.t.size ≤ 5000
  L : o.L.length ≤ 1100
  p : StrsAt w o.p o.L
  o : n.s.o.size ≤ 100000
theorem infoPt : (Tryz.prog.info? 59).map (fun i => (i.zero, i.size, i.bytes)) = some (some (.pointer none), 1, 8) := by kernel_rfl
theorem stepPt {w : World} {R : Hp} {ops : Array Oper} {o : Oper} {a : Act} {K : Act → World → Prop} {Q : Exit → Act → World → Prop} {E : Prop} (hgd : o.guard = none) (s x : Operand)
    (ho : o.op = .call { callee := .builtin .append, args := #[s, x], argTypes := #[61, 61] })
    (p : Option Addr) (n cap : Nat) (xs : List Value) (hp : a.eval s = .slice p n cap) (b : Nat) (v : Value) (hvx : a.eval x = .slice (some ⟨b, 0, none⟩) 1 1) (h : Sat w (arr 59 1 p n cap xs * R)) (hb : w.heap[b]? = some (.cells #[v] 59 (0, 0))) (hv : v.oneCell' = true) (hn : n ≤ 1000000000)
    (hk : ∀ p' cap' w', Sat w' (arr 59 1 p' (n + 1) cap' (xs ++ [v]) * R) → Ran w w' → K (a.put o.dst (.slice p' (n + 1) cap')) w') :
    if Region.wanted o (yielded ops a.tmps) = true then Oper.wp Tryz.prog o a w K Q else E := by
  obtain ⟨i0, hi, hz0, hz1, hz2⟩ := info_parts infoPt
  refine step_append_arr hgd s x _ _ ho 59 i0 _ 1 8 Tryz.underlying61 hi hz0 hz1 hz2 rfl p n cap xs hp h _ hvx 1 [v] (Src.ofSlice w Tryz.underlying61 ⟨b, 0, none⟩ 1 1 [v] (by rw [hz1]; rfl) ?_ (by simp [hv])) (by omega) (by unfold maxLen; omega) (fun p' cap' w' h1 h2 _ => hk p' cap' w' h1 h2)
  intro j u hj
  rw [Addr.add_lit, Nat.zero_add, cell_at hb, ← hj]
  simp
theorem OutS.op {b xb : Nat} {o : Opr} {A F : Hp} {d : Dw} {w w' : World} {en : Int} {p : Pst} {q : Int} {c : Nat} {e : Ending} (h : OutS b A (dwHp d * (pts xb (opO o) * F)) w en p q c e w') : ∃ S, Sat w' (pts xb (opO o) * S) := by
  obtain ⟨⟨_, X, s, _, h2⟩, _⟩ := h
  exact ⟨_, h2.perm (show _ = pts xb (opO o) * (pts b (srO s) * (X * (A * (dwHp d * F)))) by ac_rfl)⟩
set_option maxRecDepth 100000 in
set_option maxHeartbeats 8000000 in
theorem asked_0 (K : Ctx) (n m : Now) (en : Int) (o : Opr) (c : Nat) (A F : Hp) (d : Dw) (s : Sr) (w : World) (ha : askI o = 0) (hd : (en, m) = n.setP K.most o.k o.t) (hr : Room K.most n) (hf : FitD n o w) (hc : c ≤ 80000) (hD : Dr A n c d s) (h : Sat w (pts d.b (srO s) * (A * (dwHp d * F)))) :
    Calls Tryz.prog 31 #[pp d.ab, opA o] w (AskR d.ab (c + 1) F w en m) := by
  have S1 := h.alloc (opO o)
  have HAk := ask_calls o (w.alloc (opO o)) hf.ask
  rw [ha] at HAk
  have RR : Ran w (w.alloc (opO o)) := Ran.new (Below.refl 0 w) _
  have hp1 := hf.p.below ((Below.refl _ w).alloc (Nat.le_refl _) (opO o))
  obtain ⟨w2, hw2⟩ : ∃ w2, w2 = w.alloc (opO o) := ⟨_, rfl⟩
  obtain ⟨xb, hxb⟩ : ∃ b, b = w.heap.size := ⟨_, rfl⟩
  rw [← hw2, ← hxb] at S1
  rw [← hw2] at HAk RR hp1
  obtain ⟨e0, e1, e2, e3, e4⟩ := op_cells S1
  obtain ⟨k0, k1, kf⟩ := dw_cells (S1.perm (show _ = dwHp d * (pts xb (opO o) * (pts d.b (srO s) * (A * F))) by ac_rfl))
  have S2 := Lib.hid (S1.perm (show _ = pts d.b (srO s) * (A * (dwHp d * (pts xb (opO o) * F))) by ac_rfl))
  have HAk := Lib.hid HAk
  have RR := Lib.hid RR
  have HF := Lib.hid hf
  have HP := Lib.hid hp1
  have HDr := Lib.hid hD
  have Hr := Lib.hid hr
  have Hd := Lib.hid hd
  clear h ha S1 hf hp1 hD hr hd
  go_enter Tryz.func31, Tryz.ntmps31
  go_upto_region 1 with fail
  rw [← hw2, ← hxb]
  clear hw2 hxb
  go_wp2_with fail
  refine HAk.out.mono ?_
  rintro e w3 ⟨rfl, hB⟩
  have S3 := S2.out.below hB
  have R3 := Lib.hid (Below.trans RR.out (hB.mono (Nat.zero_le _)))
  have HP3 := Lib.hid (HP.out.below hB)
  clear e0 e1 e2 e3 e4 k0 k1 kf
  obtain ⟨e0, e1, e2, e3, e4⟩ := op_cells (S3.perm (show _ = pts xb (opO o) * (pts d.b (srO s) * (A * (dwHp d * F))) by ac_rfl))
  have HC := rset_calls d.b s n.s n.q c A (dwHp d * (pts xb (opO o) * F)) o.k o.t w3 (by have := HF.out.k; omega) (by have := HF.out.t; omega) HF.out.o hc HDr.out.g S3
  have hK : Keeps n (dSet n.s o.k o.t) (en, m) := by rw [Hd.out]; exact keeps_set Hr.out o.k o.t
  obtain ⟨D, hDD⟩ : ∃ D, D = dSet n.s o.k o.t := ⟨_, rfl⟩
  rw [← hDD] at HC hK
  have HC := Lib.hid HC
  have HK := Lib.hid hK
  clear S3 S2 HAk RR hB HP Hr Hd hK hDD
  go_wp2_with fail
  refine HC.out.mono ?_
  rintro e w4 hO
  obtain ⟨rfl, hA⟩ := hO.made HDr.out hc HK.out R3.out
  have hA := Lib.hid hA
  clear HC hO HDr HK
  go_wp2_with fail
  go_ret
  exact hA.out
set_option maxRecDepth 100000 in
set_option maxHeartbeats 8000000 in
theorem asked_1 (K : Ctx) (n m : Now) (en : Int) (o : Opr) (c : Nat) (A F : Hp) (d : Dw) (s : Sr) (w : World) (ha : askI o = 1) (hd : (en, m) = n.unsetP K.most o.k) (hr : Room K.most n) (hf : FitD n o w) (hc : c ≤ 80000) (hD : Dr A n c d s) (h : Sat w (pts d.b (srO s) * (A * (dwHp d * F)))) :
    Calls Tryz.prog 31 #[pp d.ab, opA o] w (AskR d.ab (c + 1) F w en m) := by
  have S1 := h.alloc (opO o)
  have HAk := ask_calls o (w.alloc (opO o)) hf.ask
  rw [ha] at HAk
  have RR : Ran w (w.alloc (opO o)) := Ran.new (Below.refl 0 w) _
  have hp1 := hf.p.below ((Below.refl _ w).alloc (Nat.le_refl _) (opO o))
  obtain ⟨w2, hw2⟩ : ∃ w2, w2 = w.alloc (opO o) := ⟨_, rfl⟩
  obtain ⟨xb, hxb⟩ : ∃ b, b = w.heap.size := ⟨_, rfl⟩
  rw [← hw2, ← hxb] at S1
  rw [← hw2] at HAk RR hp1
  obtain ⟨e0, e1, e2, e3, e4⟩ := op_cells S1
  obtain ⟨k0, k1, kf⟩ := dw_cells (S1.perm (show _ = dwHp d * (pts xb (opO o) * (pts d.b (srO s) * (A * F))) by ac_rfl))
  have S2 := Lib.hid (S1.perm (show _ = pts d.b (srO s) * (A * (dwHp d * (pts xb (opO o) * F))) by ac_rfl))
  have HAk := Lib.hid HAk
  have RR := Lib.hid RR
  have HF := Lib.hid hf
  have HP := Lib.hid hp1
  have HDr := Lib.hid hD
  have Hr := Lib.hid hr
  have Hd := Lib.hid hd
  clear h ha S1 hf hp1 hD hr hd
  go_enter Tryz.func31, Tryz.ntmps31
  go_upto_region 1 with fail
  rw [← hw2, ← hxb]
  clear hw2 hxb
  go_wp2_with fail
  refine HAk.out.mono ?_
  rintro e w3 ⟨rfl, hB⟩
  have S3 := S2.out.below hB
  have R3 := Lib.hid (Below.trans RR.out (hB.mono (Nat.zero_le _)))
  have HP3 := Lib.hid (HP.out.below hB)
  clear e0 e1 e2 e3 e4 k0 k1 kf
  obtain ⟨e0, e1, e2, e3, e4⟩ := op_cells (S3.perm (show _ = pts xb (opO o) * (pts d.b (srO s) * (A * (dwHp d * F))) by ac_rfl))
  have HC := runset_calls d.b s n.s n.q c A (dwHp d * (pts xb (opO o) * F)) o.k w3 (by have := HF.out.k; omega) hc HDr.out.g S3
  have hK : Keeps n (dUnset n.s o.k) (en, m) := by rw [Hd.out]; exact keeps_unset Hr.out o.k
  obtain ⟨D, hDD⟩ : ∃ D, D = dUnset n.s o.k := ⟨_, rfl⟩
  rw [← hDD] at HC hK
  have HC := Lib.hid HC
  have HK := Lib.hid hK
  clear S3 S2 HAk RR hB HP Hr Hd hK hDD
  go_wp2_with fail
  refine HC.out.mono ?_
  rintro e w4 hO
  obtain ⟨rfl, hA⟩ := hO.made HDr.out hc HK.out R3.out
  have hA := Lib.hid hA
  clear HC hO HDr HK
  go_wp2_with fail
  go_ret
  exact hA.out
set_option maxRecDepth 100000 in
set_option maxHeartbeats 8000000 in
theorem asked_2 (K : Ctx) (n m : Now) (en : Int) (o : Opr) (c : Nat) (A F : Hp) (d : Dw) (s : Sr) (w : World) (ha : askI o = 2) (hd : (en, m) = n.markP K.most o.k (exB o) (fxB o)) (hr : Room K.most n) (hf : FitD n o w) (hc : c ≤ 80000) (hD : Dr A n c d s) (h : Sat w (pts d.b (srO s) * (A * (dwHp d * F)))) :
    Calls Tryz.prog 31 #[pp d.ab, opA o] w (AskR d.ab (c + 1) F w en m) := by
  have S1 := h.alloc (opO o)
  have HAk := ask_calls o (w.alloc (opO o)) hf.ask
  rw [ha] at HAk
  have RR : Ran w (w.alloc (opO o)) := Ran.new (Below.refl 0 w) _
  have hp1 := hf.p.below ((Below.refl _ w).alloc (Nat.le_refl _) (opO o))
  obtain ⟨w2, hw2⟩ : ∃ w2, w2 = w.alloc (opO o) := ⟨_, rfl⟩
  obtain ⟨xb, hxb⟩ : ∃ b, b = w.heap.size := ⟨_, rfl⟩
  rw [← hw2, ← hxb] at S1
  rw [← hw2] at HAk RR hp1
  obtain ⟨e0, e1, e2, e3, e4⟩ := op_cells S1
  obtain ⟨k0, k1, kf⟩ := dw_cells (S1.perm (show _ = dwHp d * (pts xb (opO o) * (pts d.b (srO s) * (A * F))) by ac_rfl))
  have S2 := Lib.hid (S1.perm (show _ = pts d.b (srO s) * (A * (dwHp d * (pts xb (opO o) * F))) by ac_rfl))
  have HAk := Lib.hid HAk
  have RR := Lib.hid RR
  have HF := Lib.hid hf
  have HP := Lib.hid hp1
  have HDr := Lib.hid hD
  have Hr := Lib.hid hr
  have Hd := Lib.hid hd
  clear h ha S1 hf hp1 hD hr hd
  go_enter Tryz.func31, Tryz.ntmps31
  go_upto_region 1 with fail
  rw [← hw2, ← hxb]
  clear hw2 hxb
  go_wp2_with fail
  refine HAk.out.mono ?_
  rintro e w3 ⟨rfl, hB⟩
  have S3 := S2.out.below hB
  have R3 := Lib.hid (Below.trans RR.out (hB.mono (Nat.zero_le _)))
  have HP3 := Lib.hid (HP.out.below hB)
  clear e0 e1 e2 e3 e4 k0 k1 kf
  obtain ⟨e0, e1, e2, e3, e4⟩ := op_cells (S3.perm (show _ = pts xb (opO o) * (pts d.b (srO s) * (A * (dwHp d * F))) by ac_rfl))
  have hr2 : -2 < o.n.tmod 2 ∧ o.n.tmod 2 < 2 := by
    have h1 := Int.tmod_lt_of_pos o.n (show (0 : Int) < 2 by decide)
    have h2 := Int.tmod_lt_of_pos (-o.n) (show (0 : Int) < 2 by decide)
    rw [Int.neg_tmod] at h2; omega
  have hr3 : -3 < o.n.tmod 3 ∧ o.n.tmod 3 < 3 := by
    have h1 := Int.tmod_lt_of_pos o.n (show (0 : Int) < 3 by decide)
    have h2 := Int.tmod_lt_of_pos (-o.n) (show (0 : Int) < 3 by decide)
    rw [Int.neg_tmod] at h2; omega
  have wr2 : IntKind.i64.wrap (o.n.tmod 2) = o.n.tmod 2 := IntWalk.i64_in _ (by omega)
  have wr3 : IntKind.i64.wrap (o.n.tmod 3) = o.n.tmod 3 := IntWalk.i64_in _ (by omega)
  have HC := rmark_calls d.b s n.s n.q c A (dwHp d * (pts xb (opO o) * F)) o.k (exB o) (fxB o) w3 (by have := HF.out.k; omega) hc HDr.out.g S3
  have hK : Keeps n (dMark n.s o.k (exB o) (fxB o)) (en, m) := by rw [Hd.out]; exact keeps_mark Hr.out HDr.out.g.is.vo o.k (exB o) (fxB o)
  obtain ⟨D, hDD⟩ : ∃ D, D = dMark n.s o.k (exB o) (fxB o) := ⟨_, rfl⟩
  rw [← hDD] at HC hK
  have HC := Lib.hid HC
  have HK := Lib.hid hK
  clear S3 S2 HAk RR hB HP Hr Hd hK hDD
  go_wp2_with fail
  refine HC.out.mono ?_
  rintro e w4 hO
  obtain ⟨rfl, hA⟩ := hO.made HDr.out hc HK.out R3.out
  have hA := Lib.hid hA
  clear HC hO HDr HK
  go_wp2_with fail
  go_ret
  exact hA.out
set_option maxRecDepth 100000 in
set_option maxHeartbeats 8000000 in
theorem asked_3 (K : Ctx) (n m : Now) (en : Int) (o : Opr) (c : Nat) (A F : Hp) (d : Dw) (s : Sr) (w : World) (ha : askI o = 3) (hd : (en, m) = n.setF K.most o.k ⟨6, o.t⟩) (hr : Room K.most n) (hf : FitD n o w) (hc : c ≤ 80000) (hD : Dr A n c d s) (h : Sat w (pts d.b (srO s) * (A * (dwHp d * F)))) :
    Calls Tryz.prog 31 #[pp d.ab, opA o] w (AskR d.ab (c + 1) F w en m) := by
  have S1 := h.alloc (opO o)
  have HAk := ask_calls o (w.alloc (opO o)) hf.ask
  rw [ha] at HAk
  have RR : Ran w (w.alloc (opO o)) := Ran.new (Below.refl 0 w) _
  have hp1 := hf.p.below ((Below.refl _ w).alloc (Nat.le_refl _) (opO o))
  obtain ⟨w2, hw2⟩ : ∃ w2, w2 = w.alloc (opO o) := ⟨_, rfl⟩
  obtain ⟨xb, hxb⟩ : ∃ b, b = w.heap.size := ⟨_, rfl⟩
  rw [← hw2, ← hxb] at S1
  rw [← hw2] at HAk RR hp1
  obtain ⟨e0, e1, e2, e3, e4⟩ := op_cells S1
  obtain ⟨k0, k1, kf⟩ := dw_cells (S1.perm (show _ = dwHp d * (pts xb (opO o) * (pts d.b (srO s) * (A * F))) by ac_rfl))
  have S2 := Lib.hid (S1.perm (show _ = pts d.b (srO s) * (A * (dwHp d * (pts xb (opO o) * F))) by ac_rfl))
  have HAk := Lib.hid HAk
  have RR := Lib.hid RR
  have HF := Lib.hid hf
  have HP := Lib.hid hp1
  have HDr := Lib.hid hD
  have Hr := Lib.hid hr
  have Hd := Lib.hid hd
  clear h ha S1 hf hp1 hD hr hd
  go_enter Tryz.func31, Tryz.ntmps31
  go_upto_region 1 with fail
  rw [← hw2, ← hxb]
  clear hw2 hxb
  go_wp2_with fail
  refine HAk.out.mono ?_
  rintro e w3 ⟨rfl, hB⟩
  have S3 := S2.out.below hB
  have R3 := Lib.hid (Below.trans RR.out (hB.mono (Nat.zero_le _)))
  have HP3 := Lib.hid (HP.out.below hB)
  clear e0 e1 e2 e3 e4 k0 k1 kf
  obtain ⟨e0, e1, e2, e3, e4⟩ := op_cells (S3.perm (show _ = pts xb (opO o) * (pts d.b (srO s) * (A * (dwHp d * F))) by ac_rfl))
  have hK : Keeps n (dSetF n.s o.k ⟨6, o.t⟩) (en, m) := by rw [Hd.out]; exact keeps_setf Hr.out o.k ⟨6, o.t⟩
  have S3d := Lib.hid S3.drew
  have HNd := Lib.hid (node_calls o.t w3.drew)
  have hSF : ∀ W, Sat W (pts d.b (srO s) * (A * (dwHp d * (pts xb (opO o) * F)))) → Calls Tryz.prog 76 #[pp d.b, .string o.k, .agg #[.int .i64 6, .bool false, .string o.t, .bool false, .slice none 0 0, .slice none 0 0, .slice none 0 0, .slice none 0 0, .slice none 0 0]] W (OutS d.b A (dwHp d * (pts xb (opO o) * F)) W (dSetF n.s o.k ⟨6, o.t⟩).1 (dSetF n.s o.k ⟨6, o.t⟩).2 n.q (c + 1)) := fun W hW => rsetf_calls d.b s n.s n.q c A (dwHp d * (pts xb (opO o) * F)) o.k ⟨6, o.t⟩ W (by have := HF.out.k; omega) hc HDr.out.g hW
  obtain ⟨D, hDD⟩ : ∃ D, D = dSetF n.s o.k ⟨6, o.t⟩ := ⟨_, rfl⟩
  rw [← hDD] at hSF hK
  have HSF := Lib.hid hSF
  have HK := Lib.hid hK
  clear S3 S2 HAk RR hB HP Hr Hd hK hDD hSF
  go_wp2_with fail
  refine region_plan (S := (fun w' => w'.cell? ⟨xb, 1, none⟩ = some (.string o.k) ∧ w'.cell? ⟨xb, 2, none⟩ = some (.string o.t))) [(0, true), (1, true), (2, true), (3, true), (4, true), (5, false), (6, false), (7, true)] (by kernel_rfl) (by kernel_rfl) (by kernel_rfl) ?_ ?_
  · ((try dsimp only); (first | done | (first | exact ⟨e1, e2⟩ | exact ⟨hz1, hz2⟩ | exact ⟨hy1, hy2⟩)))
  simp only [planOps, List.map_cons, List.map_nil, List.getElem?_toArray, List.getElem?_cons_zero, List.getElem?_cons_succ]
  repeat (first
    | ((refine plan_yes (v := ?_) (by rfl) ?_ ?_); rotate_left; (focus (intro w hSw; (try dsimp only at hSw); go_simp; try (with_reducible rfl))); (try simp only [Act.put, List.setIfInBounds_toArray, List.set_cons_zero, List.set_cons_succ]))
    | ((refine plan_no (by rfl) ?_); (try simp only [Act.put, List.setIfInBounds_toArray, List.set_cons_zero, List.set_cons_succ]))
    | ((refine plan_step (fun K hK => ?_)); (first | (go_simp; (first | (go_at_call 51; refine HNd.out.mono ?_; rintro e w4 ⟨rfl, hB4⟩; have S4 := S3d.out.below hB4; obtain ⟨-, hz1, hz2, -⟩ := op_cells (S4.perm (show _ = pts xb (opO o) * (pts d.b (srO s) * (A * (dwHp d * F))) by ac_rfl)); have HC := Lib.hid (HSF.out w4 S4); have R4 := Lib.hid (hB4.mono (Nat.zero_le _) : Ran _ w4); clear S4 hB4) | (go_at_call 76; refine HC.out.mono ?_; rintro e w5 hO; obtain ⟨-, hy1, hy2, -⟩ := op_cells hO.op.choose_spec; obtain ⟨rfl, hA⟩ := hO.made HDr.out hc HK.out (Below.trans (Below.drew R3.out) R4.out); have hA := Lib.hid hA; clear hO)); (try go_wp2_with fail)) | go_simp); (refine hK.out _ _ ?_ (fun hHeld => ?_)); (focus ((try dsimp only); (first | done | (first | exact ⟨e1, e2⟩ | exact ⟨hz1, hz2⟩ | exact ⟨hy1, hy2⟩)))); clear hK K; (try simp only [Act.put, List.setIfInBounds_toArray, List.set_cons_zero, List.set_cons_succ])))
  refine plan_done ?_
  go_wp2_with fail
  go_ret
  exact hA.out
set_option maxRecDepth 100000 in
set_option maxHeartbeats 8000000 in
theorem asked_4 (K : Ctx) (n m : Now) (en : Int) (o : Opr) (c : Nat) (A F : Hp) (d : Dw) (s : Sr) (w : World) (ha : askI o = 4) (hd : (en, m) = n.unsetF K.most o.k) (hr : Room K.most n) (hf : FitD n o w) (hc : c ≤ 80000) (hD : Dr A n c d s) (h : Sat w (pts d.b (srO s) * (A * (dwHp d * F)))) :
    Calls Tryz.prog 31 #[pp d.ab, opA o] w (AskR d.ab (c + 1) F w en m) := by
  have S1 := h.alloc (opO o)
  have HAk := ask_calls o (w.alloc (opO o)) hf.ask
  rw [ha] at HAk
  have RR : Ran w (w.alloc (opO o)) := Ran.new (Below.refl 0 w) _
  have hp1 := hf.p.below ((Below.refl _ w).alloc (Nat.le_refl _) (opO o))
  obtain ⟨w2, hw2⟩ : ∃ w2, w2 = w.alloc (opO o) := ⟨_, rfl⟩
  obtain ⟨xb, hxb⟩ : ∃ b, b = w.heap.size := ⟨_, rfl⟩
  rw [← hw2, ← hxb] at S1
  rw [← hw2] at HAk RR hp1
  obtain ⟨e0, e1, e2, e3, e4⟩ := op_cells S1
  obtain ⟨k0, k1, kf⟩ := dw_cells (S1.perm (show _ = dwHp d * (pts xb (opO o) * (pts d.b (srO s) * (A * F))) by ac_rfl))
  have S2 := Lib.hid (S1.perm (show _ = pts d.b (srO s) * (A * (dwHp d * (pts xb (opO o) * F))) by ac_rfl))
  have HAk := Lib.hid HAk
  have RR := Lib.hid RR
  have HF := Lib.hid hf
  have HP := Lib.hid hp1
  have HDr := Lib.hid hD
  have Hr := Lib.hid hr
  have Hd := Lib.hid hd
  clear h ha S1 hf hp1 hD hr hd
  go_enter Tryz.func31, Tryz.ntmps31
  go_upto_region 1 with fail
  rw [← hw2, ← hxb]
  clear hw2 hxb
  go_wp2_with fail
  refine HAk.out.mono ?_
  rintro e w3 ⟨rfl, hB⟩
  have S3 := S2.out.below hB
  have R3 := Lib.hid (Below.trans RR.out (hB.mono (Nat.zero_le _)))
  have HP3 := Lib.hid (HP.out.below hB)
  clear e0 e1 e2 e3 e4 k0 k1 kf
  obtain ⟨e0, e1, e2, e3, e4⟩ := op_cells (S3.perm (show _ = pts xb (opO o) * (pts d.b (srO s) * (A * (dwHp d * F))) by ac_rfl))
  have HC := runsetf_calls d.b s n.s n.q c A (dwHp d * (pts xb (opO o) * F)) o.k w3 (by have := HF.out.k; omega) hc HDr.out.g S3
  have hK : Keeps n (dUnsetF n.s o.k) (en, m) := by rw [Hd.out]; exact keeps_unsetf Hr.out o.k
  obtain ⟨D, hDD⟩ : ∃ D, D = dUnsetF n.s o.k := ⟨_, rfl⟩
  rw [← hDD] at HC hK
  have HC := Lib.hid HC
  have HK := Lib.hid hK
  clear S3 S2 HAk RR hB HP Hr Hd hK hDD
  go_wp2_with fail
  refine HC.out.mono ?_
  rintro e w4 hO
  obtain ⟨rfl, hA⟩ := hO.made HDr.out hc HK.out R3.out
  have hA := Lib.hid hA
  clear HC hO HDr HK
  go_wp2_with fail
  go_ret
  exact hA.out
set_option maxRecDepth 100000 in
set_option maxHeartbeats 8000000 in
theorem asked_5 (K : Ctx) (n m : Now) (en : Int) (o : Opr) (c : Nat) (A F : Hp) (d : Dw) (s : Sr) (w : World) (ha : askI o = 5) (hd : (en, m) = n.setA K.most o.k o.t) (hr : Room K.most n) (hf : FitD n o w) (hc : c ≤ 80000) (hD : Dr A n c d s) (h : Sat w (pts d.b (srO s) * (A * (dwHp d * F)))) :
    Calls Tryz.prog 31 #[pp d.ab, opA o] w (AskR d.ab (c + 1) F w en m) := by
  have S1 := h.alloc (opO o)
  have HAk := ask_calls o (w.alloc (opO o)) hf.ask
  rw [ha] at HAk
  have RR : Ran w (w.alloc (opO o)) := Ran.new (Below.refl 0 w) _
  have hp1 := hf.p.below ((Below.refl _ w).alloc (Nat.le_refl _) (opO o))
  obtain ⟨w2, hw2⟩ : ∃ w2, w2 = w.alloc (opO o) := ⟨_, rfl⟩
  obtain ⟨xb, hxb⟩ : ∃ b, b = w.heap.size := ⟨_, rfl⟩
  rw [← hw2, ← hxb] at S1
  rw [← hw2] at HAk RR hp1
  obtain ⟨e0, e1, e2, e3, e4⟩ := op_cells S1
  obtain ⟨k0, k1, kf⟩ := dw_cells (S1.perm (show _ = dwHp d * (pts xb (opO o) * (pts d.b (srO s) * (A * F))) by ac_rfl))
  have S2 := Lib.hid (S1.perm (show _ = pts d.b (srO s) * (A * (dwHp d * (pts xb (opO o) * F))) by ac_rfl))
  have HAk := Lib.hid HAk
  have RR := Lib.hid RR
  have HF := Lib.hid hf
  have HP := Lib.hid hp1
  have HDr := Lib.hid hD
  have Hr := Lib.hid hr
  have Hd := Lib.hid hd
  clear h ha S1 hf hp1 hD hr hd
  go_enter Tryz.func31, Tryz.ntmps31
  go_upto_region 1 with fail
  rw [← hw2, ← hxb]
  clear hw2 hxb
  go_wp2_with fail
  refine HAk.out.mono ?_
  rintro e w3 ⟨rfl, hB⟩
  have S3 := S2.out.below hB
  have R3 := Lib.hid (Below.trans RR.out (hB.mono (Nat.zero_le _)))
  have HP3 := Lib.hid (HP.out.below hB)
  clear e0 e1 e2 e3 e4 k0 k1 kf
  obtain ⟨e0, e1, e2, e3, e4⟩ := op_cells (S3.perm (show _ = pts xb (opO o) * (pts d.b (srO s) * (A * (dwHp d * F))) by ac_rfl))
  have HC := rseta_calls d.b s n.s n.q c A (dwHp d * (pts xb (opO o) * F)) o.k o.t w3 (by have := HF.out.k; omega) (by have := HF.out.t; omega) hc HDr.out.g S3
  have hK : Keeps n (dSetA n.s o.k o.t) (en, m) := by rw [Hd.out]; exact keeps_seta Hr.out o.k o.t
  obtain ⟨D, hDD⟩ : ∃ D, D = dSetA n.s o.k o.t := ⟨_, rfl⟩
  rw [← hDD] at HC hK
  have HC := Lib.hid HC
  have HK := Lib.hid hK
  clear S3 S2 HAk RR hB HP Hr Hd hK hDD
  go_wp2_with fail
  refine HC.out.mono ?_
  rintro e w4 hO
  obtain ⟨rfl, hA⟩ := hO.made HDr.out hc HK.out R3.out
  have hA := Lib.hid hA
  clear HC hO HDr HK
  go_wp2_with fail
  go_ret
  exact hA.out
set_option maxRecDepth 100000 in
set_option maxHeartbeats 8000000 in
theorem asked_6 (K : Ctx) (n m : Now) (en : Int) (o : Opr) (c : Nat) (A F : Hp) (d : Dw) (s : Sr) (w : World) (ha : askI o = 6) (hd : (en, m) = n.unA K.most o.k) (hr : Room K.most n) (hf : FitD n o w) (hc : c ≤ 80000) (hD : Dr A n c d s) (h : Sat w (pts d.b (srO s) * (A * (dwHp d * F)))) :
    Calls Tryz.prog 31 #[pp d.ab, opA o] w (AskR d.ab (c + 1) F w en m) := by
  have S1 := h.alloc (opO o)
  have HAk := ask_calls o (w.alloc (opO o)) hf.ask
  rw [ha] at HAk
  have RR : Ran w (w.alloc (opO o)) := Ran.new (Below.refl 0 w) _
  have hp1 := hf.p.below ((Below.refl _ w).alloc (Nat.le_refl _) (opO o))
  obtain ⟨w2, hw2⟩ : ∃ w2, w2 = w.alloc (opO o) := ⟨_, rfl⟩
  obtain ⟨xb, hxb⟩ : ∃ b, b = w.heap.size := ⟨_, rfl⟩
  rw [← hw2, ← hxb] at S1
  rw [← hw2] at HAk RR hp1
  obtain ⟨e0, e1, e2, e3, e4⟩ := op_cells S1
  obtain ⟨k0, k1, kf⟩ := dw_cells (S1.perm (show _ = dwHp d * (pts xb (opO o) * (pts d.b (srO s) * (A * F))) by ac_rfl))
  have S2 := Lib.hid (S1.perm (show _ = pts d.b (srO s) * (A * (dwHp d * (pts xb (opO o) * F))) by ac_rfl))
  have HAk := Lib.hid HAk
  have RR := Lib.hid RR
  have HF := Lib.hid hf
  have HP := Lib.hid hp1
  have HDr := Lib.hid hD
  have Hr := Lib.hid hr
  have Hd := Lib.hid hd
  clear h ha S1 hf hp1 hD hr hd
  go_enter Tryz.func31, Tryz.ntmps31
  go_upto_region 1 with fail
  rw [← hw2, ← hxb]
  clear hw2 hxb
  go_wp2_with fail
  refine HAk.out.mono ?_
  rintro e w3 ⟨rfl, hB⟩
  have S3 := S2.out.below hB
  have R3 := Lib.hid (Below.trans RR.out (hB.mono (Nat.zero_le _)))
  have HP3 := Lib.hid (HP.out.below hB)
  clear e0 e1 e2 e3 e4 k0 k1 kf
  obtain ⟨e0, e1, e2, e3, e4⟩ := op_cells (S3.perm (show _ = pts xb (opO o) * (pts d.b (srO s) * (A * (dwHp d * F))) by ac_rfl))
  have HC := runa_calls d.b s n.s n.q c A (dwHp d * (pts xb (opO o) * F)) o.k w3 hc HDr.out.g S3
  have hK : Keeps n (dUnA n.s o.k) (en, m) := by rw [Hd.out]; exact keeps_una Hr.out o.k
  obtain ⟨D, hDD⟩ : ∃ D, D = dUnA n.s o.k := ⟨_, rfl⟩
  rw [← hDD] at HC hK
  have HC := Lib.hid HC
  have HK := Lib.hid hK
  clear S3 S2 HAk RR hB HP Hr Hd hK hDD
  go_wp2_with fail
  refine HC.out.mono ?_
  rintro e w4 hO
  obtain ⟨rfl, hA⟩ := hO.made HDr.out hc HK.out R3.out
  have hA := Lib.hid hA
  clear HC hO HDr HK
  go_wp2_with fail
  go_ret
  exact hA.out
set_option maxRecDepth 100000 in
set_option maxHeartbeats 8000000 in
theorem asked_7 (K : Ctx) (n m : Now) (en : Int) (o : Opr) (c : Nat) (A F : Hp) (d : Dw) (s : Sr) (w : World) (ha : askI o = 7) (hd : (en, m) = n.setT K.most o.k o.t) (hr : Room K.most n) (hf : FitD n o w) (hc : c ≤ 80000) (hD : Dr A n c d s) (h : Sat w (pts d.b (srO s) * (A * (dwHp d * F)))) :
    Calls Tryz.prog 31 #[pp d.ab, opA o] w (AskR d.ab (c + 1) F w en m) := by
  have S1 := h.alloc (opO o)
  have HAk := ask_calls o (w.alloc (opO o)) hf.ask
  rw [ha] at HAk
  have RR : Ran w (w.alloc (opO o)) := Ran.new (Below.refl 0 w) _
  have hp1 := hf.p.below ((Below.refl _ w).alloc (Nat.le_refl _) (opO o))
  obtain ⟨w2, hw2⟩ : ∃ w2, w2 = w.alloc (opO o) := ⟨_, rfl⟩
  obtain ⟨xb, hxb⟩ : ∃ b, b = w.heap.size := ⟨_, rfl⟩
  rw [← hw2, ← hxb] at S1
  rw [← hw2] at HAk RR hp1
  obtain ⟨e0, e1, e2, e3, e4⟩ := op_cells S1
  obtain ⟨k0, k1, kf⟩ := dw_cells (S1.perm (show _ = dwHp d * (pts xb (opO o) * (pts d.b (srO s) * (A * F))) by ac_rfl))
  have S2 := Lib.hid (S1.perm (show _ = pts d.b (srO s) * (A * (dwHp d * (pts xb (opO o) * F))) by ac_rfl))
  have HAk := Lib.hid HAk
  have RR := Lib.hid RR
  have HF := Lib.hid hf
  have HP := Lib.hid hp1
  have HDr := Lib.hid hD
  have Hr := Lib.hid hr
  have Hd := Lib.hid hd
  clear h ha S1 hf hp1 hD hr hd
  go_enter Tryz.func31, Tryz.ntmps31
  go_upto_region 1 with fail
  rw [← hw2, ← hxb]
  clear hw2 hxb
  go_wp2_with fail
  refine HAk.out.mono ?_
  rintro e w3 ⟨rfl, hB⟩
  have S3 := S2.out.below hB
  have R3 := Lib.hid (Below.trans RR.out (hB.mono (Nat.zero_le _)))
  have HP3 := Lib.hid (HP.out.below hB)
  clear e0 e1 e2 e3 e4 k0 k1 kf
  obtain ⟨e0, e1, e2, e3, e4⟩ := op_cells (S3.perm (show _ = pts xb (opO o) * (pts d.b (srO s) * (A * (dwHp d * F))) by ac_rfl))
  have HC := rsett_calls d.b s n.s n.q c A (dwHp d * (pts xb (opO o) * F)) o.k o.t w3 (by have := HF.out.t; omega) hc HDr.out.g S3
  have hK : Keeps n (dSetT n.s o.k o.t) (en, m) := by rw [Hd.out]; exact keeps_sett Hr.out o.k o.t
  obtain ⟨D, hDD⟩ : ∃ D, D = dSetT n.s o.k o.t := ⟨_, rfl⟩
  rw [← hDD] at HC hK
  have HC := Lib.hid HC
  have HK := Lib.hid hK
  clear S3 S2 HAk RR hB HP Hr Hd hK hDD
  go_wp2_with fail
  refine HC.out.mono ?_
  rintro e w4 hO
  obtain ⟨rfl, hA⟩ := hO.made HDr.out hc HK.out R3.out
  have hA := Lib.hid hA
  clear HC hO HDr HK
  go_wp2_with fail
  go_ret
  exact hA.out
set_option maxRecDepth 100000 in
set_option maxHeartbeats 8000000 in
theorem asked_8 (K : Ctx) (n m : Now) (en : Int) (o : Opr) (c : Nat) (A F : Hp) (d : Dw) (s : Sr) (w : World) (ha : askI o = 8) (hd : (en, m) = n.unT K.most o.k) (hr : Room K.most n) (hf : FitD n o w) (hc : c ≤ 80000) (hD : Dr A n c d s) (h : Sat w (pts d.b (srO s) * (A * (dwHp d * F)))) :
    Calls Tryz.prog 31 #[pp d.ab, opA o] w (AskR d.ab (c + 1) F w en m) := by
  have S1 := h.alloc (opO o)
  have HAk := ask_calls o (w.alloc (opO o)) hf.ask
  rw [ha] at HAk
  have RR : Ran w (w.alloc (opO o)) := Ran.new (Below.refl 0 w) _
  have hp1 := hf.p.below ((Below.refl _ w).alloc (Nat.le_refl _) (opO o))
  obtain ⟨w2, hw2⟩ : ∃ w2, w2 = w.alloc (opO o) := ⟨_, rfl⟩
  obtain ⟨xb, hxb⟩ : ∃ b, b = w.heap.size := ⟨_, rfl⟩
  rw [← hw2, ← hxb] at S1
  rw [← hw2] at HAk RR hp1
  obtain ⟨e0, e1, e2, e3, e4⟩ := op_cells S1
  obtain ⟨k0, k1, kf⟩ := dw_cells (S1.perm (show _ = dwHp d * (pts xb (opO o) * (pts d.b (srO s) * (A * F))) by ac_rfl))
  have S2 := Lib.hid (S1.perm (show _ = pts d.b (srO s) * (A * (dwHp d * (pts xb (opO o) * F))) by ac_rfl))
  have HAk := Lib.hid HAk
  have RR := Lib.hid RR
  have HF := Lib.hid hf
  have HP := Lib.hid hp1
  have HDr := Lib.hid hD
  have Hr := Lib.hid hr
  have Hd := Lib.hid hd
  clear h ha S1 hf hp1 hD hr hd
  go_enter Tryz.func31, Tryz.ntmps31
  go_upto_region 1 with fail
  rw [← hw2, ← hxb]
  clear hw2 hxb
  go_wp2_with fail
  refine HAk.out.mono ?_
  rintro e w3 ⟨rfl, hB⟩
  have S3 := S2.out.below hB
  have R3 := Lib.hid (Below.trans RR.out (hB.mono (Nat.zero_le _)))
  have HP3 := Lib.hid (HP.out.below hB)
  clear e0 e1 e2 e3 e4 k0 k1 kf
  obtain ⟨e0, e1, e2, e3, e4⟩ := op_cells (S3.perm (show _ = pts xb (opO o) * (pts d.b (srO s) * (A * (dwHp d * F))) by ac_rfl))
  have HC := runt_calls d.b s n.s n.q c A (dwHp d * (pts xb (opO o) * F)) o.k w3 hc HDr.out.g S3
  have hK : Keeps n (dUnT n.s o.k) (en, m) := by rw [Hd.out]; exact keeps_unt Hr.out o.k
  obtain ⟨D, hDD⟩ : ∃ D, D = dUnT n.s o.k := ⟨_, rfl⟩
  rw [← hDD] at HC hK
  have HC := Lib.hid HC
  have HK := Lib.hid hK
  clear S3 S2 HAk RR hB HP Hr Hd hK hDD
  go_wp2_with fail
  refine HC.out.mono ?_
  rintro e w4 hO
  obtain ⟨rfl, hA⟩ := hO.made HDr.out hc HK.out R3.out
  have hA := Lib.hid hA
  clear HC hO HDr HK
  go_wp2_with fail
  go_ret
  exact hA.out
set_option maxRecDepth 100000 in
set_option maxHeartbeats 8000000 in
theorem asked_9 (K : Ctx) (n m : Now) (en : Int) (o : Opr) (c : Nat) (A F : Hp) (d : Dw) (s : Sr) (w : World) (ha : askI o = 9) (hd : ∃ ks, KeysOf n.s.T ks ∧ (en, m) = Now.enterL K.most ks n) (hr : Room K.most n) (hT : ∀ ks, KeysOf n.s.T ks → ks.length ≤ 5) (hf : FitD n o w) (hc : c ≤ 80000) (hD : Dr A n c d s) (h : Sat w (pts d.b (srO s) * (A * (dwHp d * F)))) :
    Calls Tryz.prog 31 #[pp d.ab, opA o] w (AskR d.ab (c + 1) F w en m) := by
  have S1 := h.alloc (opO o)
  have HAk := ask_calls o (w.alloc (opO o)) hf.ask
  rw [ha] at HAk
  have RR : Ran w (w.alloc (opO o)) := Ran.new (Below.refl 0 w) _
  have hp1 := hf.p.below ((Below.refl _ w).alloc (Nat.le_refl _) (opO o))
  obtain ⟨w2, hw2⟩ : ∃ w2, w2 = w.alloc (opO o) := ⟨_, rfl⟩
  obtain ⟨xb, hxb⟩ : ∃ b, b = w.heap.size := ⟨_, rfl⟩
  rw [← hw2, ← hxb] at S1
  rw [← hw2] at HAk RR hp1
  obtain ⟨e0, e1, e2, e3, e4⟩ := op_cells S1
  obtain ⟨k0, k1, kf⟩ := dw_cells (S1.perm (show _ = dwHp d * (pts xb (opO o) * (pts d.b (srO s) * (A * F))) by ac_rfl))
  have S2 := Lib.hid (S1.perm (show _ = pts d.b (srO s) * (A * (dwHp d * (pts xb (opO o) * F))) by ac_rfl))
  have HAk := Lib.hid HAk
  have RR := Lib.hid RR
  have HF := Lib.hid hf
  have HP := Lib.hid hp1
  have HDr := Lib.hid hD
  have Hr := Lib.hid hr
  have Hd := Lib.hid hd
  clear h ha S1 hf hp1 hD hr hd
  go_enter Tryz.func31, Tryz.ntmps31
  go_upto_region 1 with fail
  rw [← hw2, ← hxb]
  clear hw2 hxb
  go_wp2_with fail
  refine HAk.out.mono ?_
  rintro e w3 ⟨rfl, hB⟩
  have S3 := S2.out.below hB
  have R3 := Lib.hid (Below.trans RR.out (hB.mono (Nat.zero_le _)))
  have HP3 := Lib.hid (HP.out.below hB)
  clear e0 e1 e2 e3 e4 k0 k1 kf
  obtain ⟨e0, e1, e2, e3, e4⟩ := op_cells (S3.perm (show _ = pts xb (opO o) * (pts d.b (srO s) * (A * (dwHp d * F))) by ac_rfl))
  have hK : Keeps n (0, dEnter n.s) (en, m) := by
    obtain ⟨ks, hk, hd⟩ := Hd.out
    rw [hd]
    exact keeps_enter Hr.out hk (hT ks hk) ⟨_, _, HDr.out.cps⟩
  have HC := Lib.hid (renter_calls d.b s n.s n.q c A (dwHp d * (pts xb (opO o) * F)) w3 hc HDr.out.g S3)
  have HK := Lib.hid hK
  clear S3 S2 HAk RR hB HP Hr Hd hK hT
  go_wp2_with fail
  refine HC.out.mono ?_
  rintro e w4 ⟨rfl, hO⟩
  have hA := Lib.hid (PutS.made (D := (0, dEnter n.s)) HDr.out hc HK.out hO R3.out)
  clear HC hO HDr HK
  go_wp2_with fail
  go_ret
  exact hA.out
set_option maxRecDepth 100000 in
set_option maxHeartbeats 8000000 in
theorem asked_10 (K : Ctx) (n m : Now) (en : Int) (o : Opr) (c : Nat) (A F : Hp) (d : Dw) (s : Sr) (w : World) (ha : askI o = 10) (hd : (en, m) = n.setO K.most (firstB o.t) (exB o)) (hr : Room K.most n) (hf : FitD n o w) (hc : c ≤ 80000) (hD : Dr A n c d s) (h : Sat w (pts d.b (srO s) * (A * (dwHp d * F)))) :
    Calls Tryz.prog 31 #[pp d.ab, opA o] w (AskR d.ab (c + 1) F w en m) := by
  have S1 := h.alloc (opO o)
  have HAk := ask_calls o (w.alloc (opO o)) hf.ask
  rw [ha] at HAk
  have RR : Ran w (w.alloc (opO o)) := Ran.new (Below.refl 0 w) _
  have hp1 := hf.p.below ((Below.refl _ w).alloc (Nat.le_refl _) (opO o))
  obtain ⟨w2, hw2⟩ : ∃ w2, w2 = w.alloc (opO o) := ⟨_, rfl⟩
  obtain ⟨xb, hxb⟩ : ∃ b, b = w.heap.size := ⟨_, rfl⟩
  rw [← hw2, ← hxb] at S1
  rw [← hw2] at HAk RR hp1
  obtain ⟨e0, e1, e2, e3, e4⟩ := op_cells S1
  obtain ⟨k0, k1, kf⟩ := dw_cells (S1.perm (show _ = dwHp d * (pts xb (opO o) * (pts d.b (srO s) * (A * F))) by ac_rfl))
  have S2 := Lib.hid (S1.perm (show _ = pts d.b (srO s) * (A * (dwHp d * (pts xb (opO o) * F))) by ac_rfl))
  have HAk := Lib.hid HAk
  have RR := Lib.hid RR
  have HF := Lib.hid hf
  have HP := Lib.hid hp1
  have HDr := Lib.hid hD
  have Hr := Lib.hid hr
  have Hd := Lib.hid hd
  clear h ha S1 hf hp1 hD hr hd
  go_enter Tryz.func31, Tryz.ntmps31
  go_upto_region 1 with fail
  rw [← hw2, ← hxb]
  clear hw2 hxb
  go_wp2_with fail
  refine HAk.out.mono ?_
  rintro e w3 ⟨rfl, hB⟩
  have S3 := S2.out.below hB
  have R3 := Lib.hid (Below.trans RR.out (hB.mono (Nat.zero_le _)))
  have HP3 := Lib.hid (HP.out.below hB)
  clear e0 e1 e2 e3 e4 k0 k1 kf
  obtain ⟨e0, e1, e2, e3, e4⟩ := op_cells (S3.perm (show _ = pts xb (opO o) * (pts d.b (srO s) * (A * (dwHp d * F))) by ac_rfl))
  have hr2 : -2 < o.n.tmod 2 ∧ o.n.tmod 2 < 2 := by
    have h1 := Int.tmod_lt_of_pos o.n (show (0 : Int) < 2 by decide)
    have h2 := Int.tmod_lt_of_pos (-o.n) (show (0 : Int) < 2 by decide)
    rw [Int.neg_tmod] at h2; omega
  have wr2 : IntKind.i64.wrap (o.n.tmod 2) = o.n.tmod 2 := IntWalk.i64_in _ (by omega)
  have hK : Keeps n (dSetO n.s (firstB o.t) (exB o)) (en, m) := by rw [Hd.out]; exact keeps_seto Hr.out (firstB o.t) (exB o)
  have HFi := Lib.hid (first_calls o.t w3.drew (by have := HF.out.t; unfold maxLen; omega))
  have hSO := rseto_calls d.b s n.s n.q c A (dwHp d * (pts xb (opO o) * F)) (firstB o.t) (exB o) w3.drew HF.out.o hc HDr.out.g S3.drew
  obtain ⟨D, hDD⟩ : ∃ D, D = dSetO n.s (firstB o.t) (exB o) := ⟨_, rfl⟩
  rw [← hDD] at hSO hK
  have HC := Lib.hid hSO
  have HK := Lib.hid hK
  clear S3 S2 HAk RR hB HP Hr Hd hK hDD hSO hr2
  go_wp2_with fail
  refine region_plan (S := (fun w' => w'.cell? ⟨xb, 2, none⟩ = some (.string o.t) ∧ w'.cell? ⟨xb, 3, none⟩ = some (.int .i64 o.n))) [(0, true), (1, true), (2, true), (4, true), (5, true), (6, true), (7, true), (3, false), (8, false), (9, true)] (by kernel_rfl) (by kernel_rfl) (by kernel_rfl) ?_ ?_
  · ((try dsimp only); (first | done | (first | exact ⟨e2, e3⟩ | exact ⟨hy2, hy3⟩)))
  simp only [planOps, List.map_cons, List.map_nil, List.getElem?_toArray, List.getElem?_cons_zero, List.getElem?_cons_succ]
  repeat (first
    | ((refine plan_yes (v := ?_) (by rfl) ?_ ?_); rotate_left; (focus (intro w hSw; (try dsimp only at hSw); go_simp; try (with_reducible rfl))); (try simp only [Act.put, List.setIfInBounds_toArray, List.set_cons_zero, List.set_cons_succ]))
    | ((refine plan_no (by rfl) ?_); (try simp only [Act.put, List.setIfInBounds_toArray, List.set_cons_zero, List.set_cons_succ]))
    | ((refine plan_step (fun K hK => ?_)); (first | (go_simp; (first | (go_at_call 56; refine HFi.out.mono ?_; rintro e w4 ⟨rfl, rfl⟩) | (go_at_call 83; refine HC.out.mono ?_; rintro e w5 hO; obtain ⟨-, -, hy2, hy3, -⟩ := op_cells hO.op.choose_spec; obtain ⟨rfl, hA⟩ := hO.made HDr.out hc HK.out (Below.drew R3.out); have hA := Lib.hid hA; clear hO)); (try go_wp2_with fail)) | go_simp); (refine hK.out _ _ ?_ (fun hHeld => ?_)); (focus ((try dsimp only); (first | done | (first | exact ⟨e2, e3⟩ | exact ⟨hy2, hy3⟩)))); clear hK K; (try simp only [Act.put, List.setIfInBounds_toArray, List.set_cons_zero, List.set_cons_succ])))
  refine plan_done ?_
  go_wp2_with fail
  go_ret
  exact hA.out
set_option maxRecDepth 100000 in
set_option maxHeartbeats 8000000 in
theorem asked_11 (K : Ctx) (n m : Now) (en : Int) (o : Opr) (c : Nat) (A F : Hp) (d : Dw) (s : Sr) (w : World) (ha : askI o = 11) (hd : (en, m) = n.setO K.most (firstB o.t) (exB o)) (hr : Room K.most n) (hf : FitD n o w) (hc : c ≤ 80000) (hD : Dr A n c d s) (h : Sat w (pts d.b (srO s) * (A * (dwHp d * F)))) :
    Calls Tryz.prog 31 #[pp d.ab, opA o] w (AskR d.ab (c + 1) F w en m) := by
  have S1 := h.alloc (opO o)
  have HAk := ask_calls o (w.alloc (opO o)) hf.ask
  rw [ha] at HAk
  have RR : Ran w (w.alloc (opO o)) := Ran.new (Below.refl 0 w) _
  have hp1 := hf.p.below ((Below.refl _ w).alloc (Nat.le_refl _) (opO o))
  obtain ⟨w2, hw2⟩ : ∃ w2, w2 = w.alloc (opO o) := ⟨_, rfl⟩
  obtain ⟨xb, hxb⟩ : ∃ b, b = w.heap.size := ⟨_, rfl⟩
  rw [← hw2, ← hxb] at S1
  rw [← hw2] at HAk RR hp1
  obtain ⟨e0, e1, e2, e3, e4⟩ := op_cells S1
  obtain ⟨k0, k1, kf⟩ := dw_cells (S1.perm (show _ = dwHp d * (pts xb (opO o) * (pts d.b (srO s) * (A * F))) by ac_rfl))
  have S2 := Lib.hid (S1.perm (show _ = pts d.b (srO s) * (A * (dwHp d * (pts xb (opO o) * F))) by ac_rfl))
  have HAk := Lib.hid HAk
  have RR := Lib.hid RR
  have HF := Lib.hid hf
  have HP := Lib.hid hp1
  have HDr := Lib.hid hD
  have Hr := Lib.hid hr
  have Hd := Lib.hid hd
  clear h ha S1 hf hp1 hD hr hd
  go_enter Tryz.func31, Tryz.ntmps31
  go_upto_region 1 with fail
  rw [← hw2, ← hxb]
  clear hw2 hxb
  go_wp2_with fail
  refine HAk.out.mono ?_
  rintro e w3 ⟨rfl, hB⟩
  have S3 := S2.out.below hB
  have R3 := Lib.hid (Below.trans RR.out (hB.mono (Nat.zero_le _)))
  have HP3 := Lib.hid (HP.out.below hB)
  clear e0 e1 e2 e3 e4 k0 k1 kf
  obtain ⟨e0, e1, e2, e3, e4⟩ := op_cells (S3.perm (show _ = pts xb (opO o) * (pts d.b (srO s) * (A * (dwHp d * F))) by ac_rfl))
  have hr2 : -2 < o.n.tmod 2 ∧ o.n.tmod 2 < 2 := by
    have h1 := Int.tmod_lt_of_pos o.n (show (0 : Int) < 2 by decide)
    have h2 := Int.tmod_lt_of_pos (-o.n) (show (0 : Int) < 2 by decide)
    rw [Int.neg_tmod] at h2; omega
  have wr2 : IntKind.i64.wrap (o.n.tmod 2) = o.n.tmod 2 := IntWalk.i64_in _ (by omega)
  have hK : Keeps n (dSetO n.s (firstB o.t) (exB o)) (en, m) := by rw [Hd.out]; exact keeps_seto Hr.out (firstB o.t) (exB o)
  have HFi := Lib.hid (first_calls o.t w3.drew (by have := HF.out.t; unfold maxLen; omega))
  have hSO := rseto_calls d.b s n.s n.q c A (dwHp d * (pts xb (opO o) * F)) (firstB o.t) (exB o) w3.drew HF.out.o hc HDr.out.g S3.drew
  obtain ⟨D, hDD⟩ : ∃ D, D = dSetO n.s (firstB o.t) (exB o) := ⟨_, rfl⟩
  rw [← hDD] at hSO hK
  have HC := Lib.hid hSO
  have HK := Lib.hid hK
  clear S3 S2 HAk RR hB HP Hr Hd hK hDD hSO hr2
  go_wp2_with fail
  refine region_plan (S := (fun w' => w'.cell? ⟨xb, 2, none⟩ = some (.string o.t) ∧ w'.cell? ⟨xb, 3, none⟩ = some (.int .i64 o.n))) [(0, true), (1, true), (2, true), (4, true), (5, true), (6, true), (7, true), (3, false), (8, false), (9, true)] (by kernel_rfl) (by kernel_rfl) (by kernel_rfl) ?_ ?_
  · ((try dsimp only); (first | done | (first | exact ⟨e2, e3⟩ | exact ⟨hy2, hy3⟩)))
  simp only [planOps, List.map_cons, List.map_nil, List.getElem?_toArray, List.getElem?_cons_zero, List.getElem?_cons_succ]
  repeat (first
    | ((refine plan_yes (v := ?_) (by rfl) ?_ ?_); rotate_left; (focus (intro w hSw; (try dsimp only at hSw); go_simp; try (with_reducible rfl))); (try simp only [Act.put, List.setIfInBounds_toArray, List.set_cons_zero, List.set_cons_succ]))
    | ((refine plan_no (by rfl) ?_); (try simp only [Act.put, List.setIfInBounds_toArray, List.set_cons_zero, List.set_cons_succ]))
    | ((refine plan_step (fun K hK => ?_)); (first | (go_simp; (first | (go_at_call 56; refine HFi.out.mono ?_; rintro e w4 ⟨rfl, rfl⟩) | (go_at_call 83; refine HC.out.mono ?_; rintro e w5 hO; obtain ⟨-, -, hy2, hy3, -⟩ := op_cells hO.op.choose_spec; obtain ⟨rfl, hA⟩ := hO.made HDr.out hc HK.out (Below.drew R3.out); have hA := Lib.hid hA; clear hO)); (try go_wp2_with fail)) | go_simp); (refine hK.out _ _ ?_ (fun hHeld => ?_)); (focus ((try dsimp only); (first | done | (first | exact ⟨e2, e3⟩ | exact ⟨hy2, hy3⟩)))); clear hK K; (try simp only [Act.put, List.setIfInBounds_toArray, List.set_cons_zero, List.set_cons_succ])))
  refine plan_done ?_
  go_wp2_with fail
  go_ret
  exact hA.out
set_option maxRecDepth 100000 in
set_option maxHeartbeats 8000000 in
theorem asked_12 (K : Ctx) (n m : Now) (en : Int) (o : Opr) (c : Nat) (A F : Hp) (d : Dw) (s : Sr) (w : World) (ha : askI o = 12) (hd : (en, m) = n.setG K.most o.L) (hr : Room K.most n) (hf : FitD n o w) (hc : c ≤ 80000) (hD : Dr A n c d s) (h : Sat w (pts d.b (srO s) * (A * (dwHp d * F)))) :
    Calls Tryz.prog 31 #[pp d.ab, opA o] w (AskR d.ab (c + 1) F w en m) := by
  have S1 := h.alloc (opO o)
  have HAk := ask_calls o (w.alloc (opO o)) hf.ask
  rw [ha] at HAk
  have RR : Ran w (w.alloc (opO o)) := Ran.new (Below.refl 0 w) _
  have hp1 := hf.p.below ((Below.refl _ w).alloc (Nat.le_refl _) (opO o))
  obtain ⟨w2, hw2⟩ : ∃ w2, w2 = w.alloc (opO o) := ⟨_, rfl⟩
  obtain ⟨xb, hxb⟩ : ∃ b, b = w.heap.size := ⟨_, rfl⟩
  rw [← hw2, ← hxb] at S1
  rw [← hw2] at HAk RR hp1
  obtain ⟨e0, e1, e2, e3, e4⟩ := op_cells S1
  obtain ⟨k0, k1, kf⟩ := dw_cells (S1.perm (show _ = dwHp d * (pts xb (opO o) * (pts d.b (srO s) * (A * F))) by ac_rfl))
  have S2 := Lib.hid (S1.perm (show _ = pts d.b (srO s) * (A * (dwHp d * (pts xb (opO o) * F))) by ac_rfl))
  have HAk := Lib.hid HAk
  have RR := Lib.hid RR
  have HF := Lib.hid hf
  have HP := Lib.hid hp1
  have HDr := Lib.hid hD
  have Hr := Lib.hid hr
  have Hd := Lib.hid hd
  clear h ha S1 hf hp1 hD hr hd
  go_enter Tryz.func31, Tryz.ntmps31
  go_upto_region 1 with fail
  rw [← hw2, ← hxb]
  clear hw2 hxb
  go_wp2_with fail
  refine HAk.out.mono ?_
  rintro e w3 ⟨rfl, hB⟩
  have S3 := S2.out.below hB
  have R3 := Lib.hid (Below.trans RR.out (hB.mono (Nat.zero_le _)))
  have HP3 := Lib.hid (HP.out.below hB)
  clear e0 e1 e2 e3 e4 k0 k1 kf
  obtain ⟨e0, e1, e2, e3, e4⟩ := op_cells (S3.perm (show _ = pts xb (opO o) * (pts d.b (srO s) * (A * (dwHp d * F))) by ac_rfl))
  have HC := rsetg_calls d.b s n.s n.q c A (dwHp d * (pts xb (opO o) * F)) o.L o.p o.c w3 (by have := HF.out.L; omega) HP3.out hc HDr.out.g S3
  have hK : Keeps n (dSetG n.s o.L) (en, m) := by rw [Hd.out]; exact keeps_setg Hr.out o.L
  obtain ⟨D, hDD⟩ : ∃ D, D = dSetG n.s o.L := ⟨_, rfl⟩
  rw [← hDD] at HC hK
  have HC := Lib.hid HC
  have HK := Lib.hid hK
  clear S3 S2 HAk RR hB HP Hr Hd hK hDD
  go_wp2_with fail
  refine HC.out.mono ?_
  rintro e w4 hO
  obtain ⟨rfl, hA⟩ := hO.made HDr.out hc HK.out R3.out
  have hA := Lib.hid hA
  clear HC hO HDr HK
  go_wp2_with fail
  go_ret
  exact hA.out
set_option maxRecDepth 100000 in
set_option maxHeartbeats 8000000 in
theorem asked_13 (K : Ctx) (n m : Now) (en : Int) (o : Opr) (c : Nat) (A F : Hp) (d : Dw) (s : Sr) (w : World) (ha : askI o = 13) (hd : (en, m) = n.shiftP K.most o.n) (hr : Room K.most n) (hf : FitD n o w) (hc : c ≤ 80000) (hD : Dr A n c d s) (h : Sat w (pts d.b (srO s) * (A * (dwHp d * F)))) :
    Calls Tryz.prog 31 #[pp d.ab, opA o] w (AskR d.ab (c + 1) F w en m) := by
  have S1 := h.alloc (opO o)
  have HAk := ask_calls o (w.alloc (opO o)) hf.ask
  rw [ha] at HAk
  have RR : Ran w (w.alloc (opO o)) := Ran.new (Below.refl 0 w) _
  have hp1 := hf.p.below ((Below.refl _ w).alloc (Nat.le_refl _) (opO o))
  obtain ⟨w2, hw2⟩ : ∃ w2, w2 = w.alloc (opO o) := ⟨_, rfl⟩
  obtain ⟨xb, hxb⟩ : ∃ b, b = w.heap.size := ⟨_, rfl⟩
  rw [← hw2, ← hxb] at S1
  rw [← hw2] at HAk RR hp1
  obtain ⟨e0, e1, e2, e3, e4⟩ := op_cells S1
  obtain ⟨k0, k1, kf⟩ := dw_cells (S1.perm (show _ = dwHp d * (pts xb (opO o) * (pts d.b (srO s) * (A * F))) by ac_rfl))
  have S2 := Lib.hid (S1.perm (show _ = pts d.b (srO s) * (A * (dwHp d * (pts xb (opO o) * F))) by ac_rfl))
  have HAk := Lib.hid HAk
  have RR := Lib.hid RR
  have HF := Lib.hid hf
  have HP := Lib.hid hp1
  have HDr := Lib.hid hD
  have Hr := Lib.hid hr
  have Hd := Lib.hid hd
  clear h ha S1 hf hp1 hD hr hd
  go_enter Tryz.func31, Tryz.ntmps31
  go_upto_region 1 with fail
  rw [← hw2, ← hxb]
  clear hw2 hxb
  go_wp2_with fail
  refine HAk.out.mono ?_
  rintro e w3 ⟨rfl, hB⟩
  have S3 := S2.out.below hB
  have R3 := Lib.hid (Below.trans RR.out (hB.mono (Nat.zero_le _)))
  have HP3 := Lib.hid (HP.out.below hB)
  clear e0 e1 e2 e3 e4 k0 k1 kf
  obtain ⟨e0, e1, e2, e3, e4⟩ := op_cells (S3.perm (show _ = pts xb (opO o) * (pts d.b (srO s) * (A * (dwHp d * F))) by ac_rfl))
  have HC := rshift_calls d.b s n.s n.q c A (dwHp d * (pts xb (opO o) * F)) o.n w3 hc HDr.out.g S3
  have hK : Keeps n (dShift n.s o.n) (en, m) := by rw [Hd.out]; exact keeps_shift Hr.out o.n
  obtain ⟨D, hDD⟩ : ∃ D, D = dShift n.s o.n := ⟨_, rfl⟩
  rw [← hDD] at HC hK
  have HC := Lib.hid HC
  have HK := Lib.hid hK
  clear S3 S2 HAk RR hB HP Hr Hd hK hDD
  go_wp2_with fail
  refine HC.out.mono ?_
  rintro e w4 hO
  obtain ⟨rfl, hA⟩ := hO.made HDr.out hc HK.out R3.out
  have hA := Lib.hid hA
  clear HC hO HDr HK
  go_wp2_with fail
  go_ret
  exact hA.out
set_option maxRecDepth 100000 in
set_option maxHeartbeats 8000000 in
theorem asked_14 (K : Ctx) (n m : Now) (en : Int) (o : Opr) (c : Nat) (A F : Hp) (d : Dw) (s : Sr) (w : World) (ha : askI o = 14) (hd : (en, m) = n.setC K.most o.n (o.L.length : Int)) (hr : Room K.most n) (hf : FitD n o w) (hc : c ≤ 80000) (hD : Dr A n c d s) (h : Sat w (pts d.b (srO s) * (A * (dwHp d * F)))) :
    Calls Tryz.prog 31 #[pp d.ab, opA o] w (AskR d.ab (c + 1) F w en m) := by
  have S1 := h.alloc (opO o)
  have HAk := ask_calls o (w.alloc (opO o)) hf.ask
  rw [ha] at HAk
  have RR : Ran w (w.alloc (opO o)) := Ran.new (Below.refl 0 w) _
  have hp1 := hf.p.below ((Below.refl _ w).alloc (Nat.le_refl _) (opO o))
  obtain ⟨w2, hw2⟩ : ∃ w2, w2 = w.alloc (opO o) := ⟨_, rfl⟩
  obtain ⟨xb, hxb⟩ : ∃ b, b = w.heap.size := ⟨_, rfl⟩
  rw [← hw2, ← hxb] at S1
  rw [← hw2] at HAk RR hp1
  obtain ⟨e0, e1, e2, e3, e4⟩ := op_cells S1
  obtain ⟨k0, k1, kf⟩ := dw_cells (S1.perm (show _ = dwHp d * (pts xb (opO o) * (pts d.b (srO s) * (A * F))) by ac_rfl))
  have S2 := Lib.hid (S1.perm (show _ = pts d.b (srO s) * (A * (dwHp d * (pts xb (opO o) * F))) by ac_rfl))
  have HAk := Lib.hid HAk
  have RR := Lib.hid RR
  have HF := Lib.hid hf
  have HP := Lib.hid hp1
  have HDr := Lib.hid hD
  have Hr := Lib.hid hr
  have Hd := Lib.hid hd
  clear h ha S1 hf hp1 hD hr hd
  go_enter Tryz.func31, Tryz.ntmps31
  go_upto_region 1 with fail
  rw [← hw2, ← hxb]
  clear hw2 hxb
  go_wp2_with fail
  refine HAk.out.mono ?_
  rintro e w3 ⟨rfl, hB⟩
  have S3 := S2.out.below hB
  have R3 := Lib.hid (Below.trans RR.out (hB.mono (Nat.zero_le _)))
  have HP3 := Lib.hid (HP.out.below hB)
  clear e0 e1 e2 e3 e4 k0 k1 kf
  obtain ⟨e0, e1, e2, e3, e4⟩ := op_cells (S3.perm (show _ = pts xb (opO o) * (pts d.b (srO s) * (A * (dwHp d * F))) by ac_rfl))
  have HC := rcursor_calls d.b s n.s n.q c A (dwHp d * (pts xb (opO o) * F)) o.n (o.L.length : Int) w3 hc HDr.out.g S3
  have hK : Keeps n (dSetC n.s o.n (o.L.length : Int)) (en, m) := by rw [Hd.out]; exact keeps_setc Hr.out o.n (o.L.length : Int)
  obtain ⟨D, hDD⟩ : ∃ D, D = dSetC n.s o.n (o.L.length : Int) := ⟨_, rfl⟩
  rw [← hDD] at HC hK
  have HC := Lib.hid HC
  have HK := Lib.hid hK
  clear S3 S2 HAk RR hB HP Hr Hd hK hDD
  go_wp2_with fail
  refine HC.out.mono ?_
  rintro e w4 hO
  obtain ⟨rfl, hA⟩ := hO.made HDr.out hc HK.out R3.out
  have hA := Lib.hid hA
  clear HC hO HDr HK
  go_wp2_with fail
  go_ret
  exact hA.out
set_option maxRecDepth 100000 in
set_option maxHeartbeats 8000000 in
theorem asked_15 (K : Ctx) (n m : Now) (en : Int) (o : Opr) (c : Nat) (A F : Hp) (d : Dw) (s : Sr) (w : World) (ha : askI o = 15) (hd : (en, m) = n.setQ o.n) (hr : Room K.most n) (hf : FitD n o w) (hc : c ≤ 80000) (hD : Dr A n c d s) (h : Sat w (pts d.b (srO s) * (A * (dwHp d * F)))) :
    Calls Tryz.prog 31 #[pp d.ab, opA o] w (AskR d.ab (c + 1) F w en m) := by
  have S1 := h.alloc (opO o)
  have HAk := ask_calls o (w.alloc (opO o)) hf.ask
  rw [ha] at HAk
  have RR : Ran w (w.alloc (opO o)) := Ran.new (Below.refl 0 w) _
  have hp1 := hf.p.below ((Below.refl _ w).alloc (Nat.le_refl _) (opO o))
  obtain ⟨w2, hw2⟩ : ∃ w2, w2 = w.alloc (opO o) := ⟨_, rfl⟩
  obtain ⟨xb, hxb⟩ : ∃ b, b = w.heap.size := ⟨_, rfl⟩
  rw [← hw2, ← hxb] at S1
  rw [← hw2] at HAk RR hp1
  obtain ⟨e0, e1, e2, e3, e4⟩ := op_cells S1
  obtain ⟨k0, k1, kf⟩ := dw_cells (S1.perm (show _ = dwHp d * (pts xb (opO o) * (pts d.b (srO s) * (A * F))) by ac_rfl))
  have S2 := Lib.hid (S1.perm (show _ = pts d.b (srO s) * (A * (dwHp d * (pts xb (opO o) * F))) by ac_rfl))
  have HAk := Lib.hid HAk
  have RR := Lib.hid RR
  have HF := Lib.hid hf
  have HP := Lib.hid hp1
  have HDr := Lib.hid hD
  have Hr := Lib.hid hr
  have Hd := Lib.hid hd
  clear h ha S1 hf hp1 hD hr hd
  go_enter Tryz.func31, Tryz.ntmps31
  go_upto_region 1 with fail
  rw [← hw2, ← hxb]
  clear hw2 hxb
  go_wp2_with fail
  refine HAk.out.mono ?_
  rintro e w3 ⟨rfl, hB⟩
  have S3 := S2.out.below hB
  have R3 := Lib.hid (Below.trans RR.out (hB.mono (Nat.zero_le _)))
  have HP3 := Lib.hid (HP.out.below hB)
  clear e0 e1 e2 e3 e4 k0 k1 kf
  obtain ⟨e0, e1, e2, e3, e4⟩ := op_cells (S3.perm (show _ = pts xb (opO o) * (pts d.b (srO s) * (A * (dwHp d * F))) by ac_rfl))
  have HC := Lib.hid (rstatus_calls d.b s n.s n.q c A (dwHp d * (pts xb (opO o) * F)) o.n w3 HF.out.num hc HDr.out.g S3)
  clear S3 S2 HAk RR hB HP Hr
  go_wp2_with fail
  refine HC.out.mono ?_
  rintro e w4 ⟨rfl, hO⟩
  have hA := Lib.hid (show AskR d.ab (c + 1) F w en m (.returned (.int .i64 0)) w4 from by
    obtain ⟨⟨X, s2, hG, hS⟩, hr4⟩ := hO
    have hq := Hd.out
    injection hq with h1 h2
    have hcps : Cps m s2 (d.ws.map Prod.snd) := by rw [h2]; exact keeps_setq o.n HDr.out.cps hG.is
    exact ⟨⟨by rw [h1], X * A, d, s2, rfl, ⟨⟨hcps.now, hG.ok, hG.sm⟩, hcps, fun x hx => ⟨(HDr.out.w x hx).1.more, (HDr.out.w x hx).2.le (Nat.le_succ c) (by omega)⟩⟩, (hS.perm (show _ = pts xb (opO o) * (pts d.b (srO s2) * (X * A * (dwHp d * F))) by ac_rfl)).right⟩, Below.trans R3.out hr4⟩)
  clear HC hO HDr Hd
  go_wp2_with fail
  go_ret
  exact hA.out
end Go.Proofs.YtlmjidandjemjaaGreatDoor.State

