/- HandlesPlays, part 27 of 29: the texts SvT StOx, joined by a program. -/
import Derived.Test.YtlmjidandjemjaaGreatDoorSp26
import Derived.Test.YtlmjidandjemjaaGreatDoorSp11
import Derived.Test.YtlmjidandjemjaaGreatDoorSp20
namespace Go.Proofs.YtlmjidandjemjaaGreatDoor.State
open Go.RowKit Go.Proofs.YtlmjidandjemjaaGreatDoor Go.Proofs.YtlmjidandjemjaaGreatDoor.Hp Go.Proofs.YtlmjidandjemjaaGreatDoor.Undo
set_option linter.unusedVariables false
attribute [local go_sem] Oper.semAt_some

theorem eql_self (x : VM.T) (w : World) : (binOp .eql 44 (.agg #[.string x.val, .bool x.set, .bool x.exp, .bool x.fix]) (.agg #[.string x.val, .bool x.set, .bool x.exp, .bool x.fix])).run Tryz.prog w = .ok (.bool true) w := by
  have hF : (Tryz.prog.fieldsOf 44).toList.map (fun f => (f.type, f.offset, f.name == "_")) = [(9, 0, false), (4, 1, false), (4, 2, false), (4, 3, false)] := by kernel_rfl
  rw [run_eql_struct, run_equalIn_struct _ _ _ _ _ fieldsVar (by kernel_rfl)]
  generalize (Tryz.prog.fieldsOf 44).toList = l at hF
  obtain ⟨f0, l, rfl, h0, hF⟩ := List.map_eq_cons_iff.1 hF
  obtain ⟨f1, l, rfl, h1, hF⟩ := List.map_eq_cons_iff.1 hF
  obtain ⟨f2, l, rfl, h2, hF⟩ := List.map_eq_cons_iff.1 hF
  obtain ⟨f3, l, rfl, h3, hF⟩ := List.map_eq_cons_iff.1 hF
  obtain rfl := List.map_eq_nil_iff.1 hF
  simp only [Prod.mk.injEq] at h0 h1 h2 h3
  obtain ⟨h01, h02, h03⟩ := h0
  obtain ⟨h11, h12, h13⟩ := h1
  obtain ⟨h21, h22, h23⟩ := h2
  obtain ⟨h31, h32, h33⟩ := h3
  have n0 : f0.name ≠ "_" := by simpa using h03
  have n1 : f1.name ≠ "_" := by simpa using h13
  have n2 : f2.name ≠ "_" := by simpa using h23
  have n3 : f3.name ≠ "_" := by simpa using h33
  have p0 : ∀ (a : ByteArray) (b c d : Bool) (W : World), (part 9 #[.string a, .bool b, .bool c, .bool d] 0).run Tryz.prog W = .ok (.string a) W := fun a b c d W => run_part_plain (P := Tryz.prog) W (by kernel_rfl) rfl
  have p1 : ∀ (a : ByteArray) (b c d : Bool) (W : World), (part 4 #[.string a, .bool b, .bool c, .bool d] 1).run Tryz.prog W = .ok (.bool b) W := fun a b c d W => run_part_plain (P := Tryz.prog) W (by kernel_rfl) rfl
  have p2 : ∀ (a : ByteArray) (b c d : Bool) (W : World), (part 4 #[.string a, .bool b, .bool c, .bool d] 2).run Tryz.prog W = .ok (.bool c) W := fun a b c d W => run_part_plain (P := Tryz.prog) W (by kernel_rfl) rfl
  have p3 : ∀ (a : ByteArray) (b c d : Bool) (W : World), (part 4 #[.string a, .bool b, .bool c, .bool d] 3).run Tryz.prog W = .ok (.bool d) W := fun a b c d W => run_part_plain (P := Tryz.prog) W (by kernel_rfl) rfl
  simp only [Op.eqFields, if_pos n0, if_pos n1, if_pos n2, if_pos n3, h01, h02, h11, h12, h21, h22, h31, h32, Sem.run_bind]
  obtain ⟨a, b, c, d⟩ := x
  simp only [p0, Result.andThen_ok, run_equalIn_string _ _ _ _ _ Tryz.underlying9]
  cases b <;> cases c <;> cases d <;> simp [p1, p2, p3, run_equalIn_bool' _ _ _ _ _ Tryz.underlying4]
theorem putP_var {most : Int} {n : Now} (hr : (n.hist.length : Int) < most) (k : ByteArray) (v : VM.T) (hk : isName k = true) : ((n.putP most k v).2.s.var k) = dVar v := by
  have hz : ∀ x : VM.T, nilVar x = true → x = VM.zt := fun x hx => by
    obtain ⟨a, b, c, d⟩ := x
    unfold nilVar at hx
    simp only [Bool.and_eq_true, decide_eq_true_eq, Bool.not_eq_true'] at hx
    obtain ⟨⟨⟨h1, h2⟩, h3⟩, h4⟩ := hx
    have ha : a = ⟨#[]⟩ := by
      obtain ⟨da⟩ := a
      have : da.size = 0 := h1
      rw [Array.eq_empty_of_size_eq_zero this]
    rw [ha, h2, h3, h4]
    rfl
  have hp : ∀ s2 : Pst, (n.put most s2).2.s = s2 := fun s2 => by
    show (if tE most n.hist n.ms = 0 then s2 else n.s) = _
    rw [tE_room hr, if_pos rfl]
  unfold Now.putP
  rw [if_neg (by rw [hk]; decide)]
  show ((if nilVar (dVar v) = true then n.delV most k else n.put most { n.s with V := putM n.s.V k (dVar v) }).2.s.var k) = dVar v
  by_cases c : nilVar (dVar v) = true
  · rw [if_pos c, hz _ c]
    unfold Now.delV
    by_cases d : (n.s.V k).isSome = false
    · rw [if_pos d]
      show (n.s.V k).getD VM.zt = VM.zt
      cases hx : n.s.V k with
      | none => rfl
      | some y => rw [hx] at d; cases d
    · rw [if_neg d, hp]
      show (delM n.s.V k k).getD VM.zt = VM.zt
      unfold delM
      rw [if_pos rfl]; rfl
  · rw [if_neg c, hp]
    show (putM n.s.V k (dVar v) k).getD VM.zt = dVar v
    unfold putM
    rw [if_pos rfl]; rfl
/-- The variable that a call puts. -/
def pvO (o : Opr) : VM.T := ⟨o.t, o.n % 2 == 0, o.n % 3 == 0, o.n % 5 == 0⟩
def PutsR (K : Ctx) (n : Now) (o : Opr) (c : Nat) (d : Dw) (F : Hp) (w : World) (e : Ending) (w' : World) : Prop :=
  (∃ (m : Now) (A : Hp) (s : Sr), e = .returned (.bool true) ∧ (m = n ∨ m = (n.putP K.most o.k (pvO o)).2) ∧ Dr A m (c + 1) d s ∧ SAt K w' m (pts d.b (srO s) * (A * (dwHp d * F)))) ∧ Ran w w'
theorem tmod_small (x : Int) (k : Int) (hk : 0 < k) : -k < x.tmod k ∧ x.tmod k < k := by
  have h1 := Int.tmod_lt_of_pos x hk
  have h2 := Int.tmod_lt_of_pos (-x) hk
  rw [Int.neg_tmod] at h2; omega
set_option maxRecDepth 100000 in
set_option maxHeartbeats 8000000 in
theorem puts_calls (K : Ctx) (n : Now) (o : Opr) (c : Nat) (A F : Hp) (d : Dw) (s : Sr) (w : World) (hr : Room K.most n) (hnum : I64 o.n) (hk : o.k.size ≤ 5000) (hN : n.N ≤ 900000) (hms : n.ms.length ≤ 1000) (hc : c ≤ 80000) (hD : Dr A n c d s) (h : SAt K w n (pts d.b (srO s) * (A * (dwHp d * F)))) :
    Calls Tryz.prog 30 #[pp K.sb, pp d.b, opA o] w (PutsR K n o c d F w) := by
  have S1 := h.alloc (opO o)
  have RR : Ran w (w.alloc (opO o)) := Ran.new (Below.refl 0 w) _
  obtain ⟨w1, hw1⟩ : ∃ w1, w1 = w.alloc (opO o) := ⟨_, rfl⟩
  obtain ⟨xb, hxb⟩ : ∃ b, b = w.heap.size := ⟨_, rfl⟩
  rw [← hw1, ← hxb] at S1
  rw [← hw1] at RR
  obtain ⟨e0, e1, e2, e3, e4⟩ := op_cells S1.rest
  by_cases c1 : o.n ≤ 100
  · have hA := Lib.hid (show PutsR K n o c d F w (.returned (.bool true)) w1 from ⟨⟨n, A, s, rfl, .inl rfl, hD.le (by omega) (by omega), S1.right⟩, RR⟩)
    clear h S1 RR hD hr
    go_enter Tryz.func30, Tryz.ntmps30
    go_upto_region 1 with fail
    rw [← hw1, ← hxb]
    clear hw1 hxb
    go_wp2_with fail
    go_ret
    exact hA.out
  have hr2 := tmod_small o.n 2 (by decide)
  have hr3 := tmod_small o.n 3 (by decide)
  have hr5 := tmod_small o.n 5 (by decide)
  have wr2 : IntKind.i64.wrap (o.n.tmod 2) = o.n.tmod 2 := IntWalk.i64_in _ (by omega)
  have wr3 : IntKind.i64.wrap (o.n.tmod 3) = o.n.tmod 3 := IntWalk.i64_in _ (by omega)
  have wr5 : IntKind.i64.wrap (o.n.tmod 5) = o.n.tmod 5 := IntWalk.i64_in _ (by omega)
  obtain ⟨v, hv⟩ : ∃ v, v = pvO o := ⟨_, rfl⟩
  have S2 := S1.alloc (VM.boxO v)
  have R2 := Ran.new RR (VM.boxO v)
  obtain ⟨w2, hw2⟩ : ∃ w2, w2 = w1.alloc (VM.boxO v) := ⟨_, rfl⟩
  obtain ⟨vb, hvb⟩ : ∃ b, b = w1.heap.size := ⟨_, rfl⟩
  rw [← hw2, ← hvb] at S2
  rw [← hw2] at R2
  obtain ⟨f0, f1, f2, f3⟩ := VM.box_cells S2.rest
  obtain ⟨-, g1, -, -, -⟩ := op_cells S2.rest.right
  have HPt := Lib.hid (Put_calls K n o.k v w2 _ (by unfold maxLen; omega) (by omega) (by omega) S2)
  have hvr := putP_var (most := K.most) (n := n) (by have := hr.r; omega) o.k v
  have hK := keeps_putv hr o.k v
  obtain ⟨m, hm⟩ : ∃ m, m = n.putP K.most o.k v := ⟨_, rfl⟩
  rw [← hm] at HPt hvr hK
  have hmR : m.2 = (n.putP K.most o.k (pvO o)).2 := by rw [hm, hv]
  have hD1 : m.1 = (dPutV n.s o.k v).1 := hK.1
  obtain ⟨D, hDD⟩ : ∃ D, D = dPutV n.s o.k v := ⟨_, rfl⟩
  have HK := Lib.hid hK
  have HR := Lib.hid hmR
  have HDr := Lib.hid hD
  have Hvr := Lib.hid hvr
  have hname : isName o.k = false → D.1 = 16 := fun hn => by rw [hDD]; unfold dPutV; rw [if_pos hn]
  have hname2 : isName o.k = true → D.1 = 0 := fun hn => by rw [hDD]; unfold dPutV; rw [if_neg (by rw [hn]; decide)]
  have Hn1 := Lib.hid hname
  have Hn2 := Lib.hid hname2
  rw [← hDD] at HK hD1
  have HPt := Lib.hid (by
    have h1 := HPt.out
    unfold Lays at h1
    rw [hD1] at h1
    exact h1 : Calls Tryz.prog 71 #[pp K.sb, .string o.k, .agg #[.string v.val, .bool v.set, .bool v.exp, .bool v.fix]] w2 fun e w' => (e = .returned (.int .i64 D.1) ∧ SAt K w' m.2 (pts vb (VM.boxO v) * (pts xb (opO o) * (pts d.b (srO s) * (A * (dwHp d * F)))))) ∧ Ran w2 w')
  have HRP := Lib.hid (fun (W : World) (F' : Hp) (hW : Sat W (pts d.b (srO s) * (A * F'))) => (by
    have := rputv_calls d.b s n.s n.q c A F' o.k ⟨#[]⟩ v W (by omega) hc hD.g hW
    rw [← hDD] at this
    exact this : Calls Tryz.prog 72 #[pp d.b, .string o.k, .agg #[.string ⟨#[]⟩, .string v.val, .bool v.set, .bool v.exp, .bool v.fix]] W (OutS d.b A F' W D.1 D.2 n.q (c + 1))))
  have hvv : VM.boxO v = .cells #[.string o.t, .bool (o.n % 2 == 0), .bool (o.n % 3 == 0), .bool (o.n % 5 == 0)] 44 (0, 0) := by rw [hv]; rfl
  rw [hvv] at hw2
  have c1I : ¬ o.n ≤ 100 := c1
  have R2 := Lib.hid R2
  have hdv : (dVar v) = if v.set = true then v else ⟨⟨#[]⟩, v.set, v.exp, v.fix⟩ := rfl
  clear h S1 RR hD hr S2 hvr hK hm hmR hDD hname hname2 hr2 hr3 hr5 hvv c1 hv
  obtain ⟨vv, v2, v3, v4⟩ := v
  dsimp only at f0 f1 f2 f3 HPt HRP hdv
  go_enter Tryz.func30, Tryz.ntmps30
  go_upto_region 1 with fail
  rw [← hw1, ← hxb]
  clear hw1 hxb
  go_upto_region 4 with fail
  rw [← hw2, ← hvb]
  clear hw2 hvb wr2 wr3 wr5 e0 e1 e2 e3 e4
  go_wp2_with fail
  refine HPt.out.mono ?_
  rintro e w3 ⟨⟨rfl, S3⟩, R3⟩
  obtain ⟨X, S3X, HX⟩ := S3.frame
  obtain ⟨f0, f1, f2, f3⟩ := VM.box_cells S3.rest
  obtain ⟨-, g1, -, -, -⟩ := op_cells S3.rest.right
  have HRQ := Lib.hid (HRP.out w3 (X * (dwHp d * (pts vb (VM.boxO (⟨vv, v2, v3, v4⟩ : VM.T)) * (pts xb (opO o) * F)))) (S3X.perm (show _ = pts d.b (srO s) * (A * (X * (dwHp d * (pts vb (VM.boxO (⟨vv, v2, v3, v4⟩ : VM.T)) * (pts xb (opO o) * F))))) by ac_rfl)))
  have R3 := Lib.hid (Below.trans R2.out R3)
  have HXX := Lib.hid HX
  clear HPt HRP S3 S3X R2 HX
  go_wp2_with fail
  refine HRQ.out.mono ?_
  rintro e w4 ⟨⟨rfl, X2, s2, hG, hS⟩, hR4⟩
  have S4 := HXX.out w4 (pts vb (VM.boxO (⟨vv, v2, v3, v4⟩ : VM.T)) * (pts xb (opO o) * (pts d.b (srO s2) * ((X2 * A) * (dwHp d * F))))) (hS.perm (by ac_rfl))
  have R4 := Below.trans R3.out hR4
  have hcps := HK.out.2 s s2 _ HDr.out.cps hG.is
  have HDm : Dr (X2 * A) m.2 (c + 1) d s2 := ⟨⟨hcps.now, hG.ok, hG.sm⟩, hcps, fun x hx => ⟨(HDr.out.w x hx).1.more, (HDr.out.w x hx).2.le (Nat.le_succ c) (by omega)⟩⟩
  have HFin := Lib.hid (fun (W : World) (y : VM.T) (hW : SAt K W m.2 (pts vb (VM.boxO y) * (pts xb (opO o) * (pts d.b (srO s2) * ((X2 * A) * (dwHp d * F)))))) (hR : Ran w W) => (show PutsR K n o c d F w (.returned (.bool true)) W from ⟨⟨m.2, X2 * A, s2, rfl, .inr HR.out, HDm, hW.right.right⟩, hR⟩))
  clear HRQ HXX hG hS hR4 R3 hcps HDr HK f0 f1 f2 f3 g1 HR
  clear hD1
  cases v2
  case false =>
    have hdv2 : dVar (⟨vv, false, v3, v4⟩ : VM.T) = (⟨⟨#[]⟩, false, v3, v4⟩ : VM.T) := rfl
    obtain ⟨f0, f1, f2, f3⟩ := VM.box_cells S4.rest
    have fz : ∀ i, w4.frozen? ⟨vb, i, none⟩ = false := fun i => free_at S4.rest.get i
    have fz0 := fz 0
    have S5 : SAt K (w4.setCell ⟨vb, 0, none⟩ (.string ⟨#[]⟩)) m.2 (pts vb (VM.boxO (⟨⟨#[]⟩, false, v3, v4⟩ : VM.T)) * (pts xb (opO o) * (pts d.b (srO s2) * ((X2 * A) * (dwHp d * F))))) := by
      obtain ⟨X, hX1, hX2⟩ := S4.frame
      refine hX2 _ _ ?_
      have := (hX1.perm (show _ = pts vb (VM.boxO (⟨vv, false, v3, v4⟩ : VM.T)) * (X * (pts xb (opO o) * (pts d.b (srO s2) * ((X2 * A) * (dwHp d * F))))) by ac_rfl)).set (i := 0) (.string ⟨#[]⟩)
      exact this.perm (by show pts vb (VM.boxO (⟨⟨#[]⟩, false, v3, v4⟩ : VM.T)) * _ = _; ac_rfl)
    have R5 := Ran.set R4 ⟨vb, 0, none⟩ (.string ⟨#[]⟩)
    obtain ⟨w5, hw5⟩ : ∃ w5, w5 = w4.setCell ⟨vb, 0, none⟩ (.string ⟨#[]⟩) := ⟨_, rfl⟩
    rw [← hw5] at S5 R5
    clear fz
    go_upto_region 8 with fail
    rw [← hw5]
    clear fz0
    clear S4 R4 hw5 f0 f1 f2 f3 hdv
    rw [hdv2] at Hvr
    obtain ⟨a0, a1, a2, a3⟩ := VM.box_cells S5.drew.rest
    obtain ⟨-, b1, -, -, -⟩ := op_cells S5.drew.rest.right
    dsimp only at a0 a1 a2 a3
    cases hnm : isName o.k with
    | false =>
      have hD := Hn1.out hnm
      rw [hD]
      have hA := Lib.hid (HFin.out w5.drew _ S5.drew (Ran.drewN R5 1))
      clear hD Hn1 Hn2 S5 R5 HFin Hvr HDm hdv2
      refine region_plan (S := (fun w' => w'.cell? ⟨xb, 1, none⟩ = some (.string o.k) ∧ w'.cell? ⟨vb, 0, none⟩ = some (.string (⟨⟨#[]⟩, false, v3, v4⟩ : VM.T).val) ∧ w'.cell? ⟨vb, 1, none⟩ = some (.bool (⟨⟨#[]⟩, false, v3, v4⟩ : VM.T).set) ∧ w'.cell? ⟨vb, 2, none⟩ = some (.bool v3) ∧ w'.cell? ⟨vb, 3, none⟩ = some (.bool v4))) [(0, true), (1, true), (2, true), (3, true), (4, true), (5, true), (6, true), (7, true), (8, true), (9, true), (10, true), (11, true), (12, true), (13, true), (14, true), (15, true)] (by kernel_rfl) (by kernel_rfl) (by kernel_rfl) ?_ ?_
      · ((try dsimp only); (first | done | (exact ⟨b1, a0, a1, a2, a3⟩)))
      simp only [planOps, List.map_cons, List.map_nil, List.getElem?_toArray, List.getElem?_cons_zero, List.getElem?_cons_succ]
      repeat (first
        | ((refine plan_yes (v := ?_) (by rfl) ?_ ?_); rotate_left; (focus (intro w hSw; (try dsimp only at hSw); go_simp; try (with_reducible rfl))); (try simp only [Act.put, List.setIfInBounds_toArray, List.set_cons_zero, List.set_cons_succ]))
        | ((refine plan_no (by rfl) ?_); (try simp only [Act.put, List.setIfInBounds_toArray, List.set_cons_zero, List.set_cons_succ]))
        | ((refine plan_step (fun K hK => ?_)); (first | (fail) | (go_simp; (fail); (try go_wp2_with fail)) | go_simp); (refine hK.out _ _ ?_ (fun hHeld => ?_)); (focus ((try dsimp only); (first | done | (exact ⟨b1, a0, a1, a2, a3⟩)))); clear hK K; (try simp only [Act.put, List.setIfInBounds_toArray, List.set_cons_zero, List.set_cons_succ])))
      refine plan_done ?_
      go_wp2_with fail
      go_ret
      exact hA.out
    | true =>
      have hD := Hn2.out hnm
      rw [hD]
      have HVr := Var_calls K m.2 o.k w5.drew _ (by unfold maxLen; omega) S5.drew
      rw [Hvr.out hnm] at HVr
      have HVr := Lib.hid HVr
      have HS5 := Lib.hid S5.drew
      have HR5 := Lib.hid (Ran.drewN R5 1)
      have hes := eql_self (⟨⟨#[]⟩, false, v3, v4⟩ : VM.T)
      clear hD Hn1 Hn2 S5 R5 Hvr HDm hdv2
      refine region_plan (S := (fun w' => w'.cell? ⟨xb, 1, none⟩ = some (.string o.k) ∧ w'.cell? ⟨vb, 0, none⟩ = some (.string (⟨⟨#[]⟩, false, v3, v4⟩ : VM.T).val) ∧ w'.cell? ⟨vb, 1, none⟩ = some (.bool (⟨⟨#[]⟩, false, v3, v4⟩ : VM.T).set) ∧ w'.cell? ⟨vb, 2, none⟩ = some (.bool v3) ∧ w'.cell? ⟨vb, 3, none⟩ = some (.bool v4))) [(0, true), (1, true), (2, true), (3, true), (4, true), (5, true), (6, true), (7, true), (8, true), (9, true), (11, true), (10, false), (12, true), (13, true), (14, true), (15, true)] (by kernel_rfl) (by kernel_rfl) (by kernel_rfl) ?_ ?_
      · ((try dsimp only); (first | done | (first | exact ⟨b1, a0, a1, a2, a3⟩ | exact ⟨i1, h0, h1, h2, h3⟩)))
      simp only [planOps, List.map_cons, List.map_nil, List.getElem?_toArray, List.getElem?_cons_zero, List.getElem?_cons_succ]
      repeat (first
        | ((refine plan_yes (v := ?_) (by rfl) ?_ ?_); rotate_left; (focus (intro w hSw; (try dsimp only at hSw); go_simp; try (with_reducible rfl))); (try simp only [Act.put, List.setIfInBounds_toArray, List.set_cons_zero, List.set_cons_succ]))
        | ((refine plan_no (by rfl) ?_); (try simp only [Act.put, List.setIfInBounds_toArray, List.set_cons_zero, List.set_cons_succ]))
        | ((refine plan_step (fun K hK => ?_)); (first | (go_simp; ((go_at_call 20; refine HVr.out.mono ?_; rintro e w6 ⟨rfl, hB⟩; have S6 := HS5.out.below hB; obtain ⟨h0, h1, h2, h3⟩ := VM.box_cells S6.rest; obtain ⟨-, i1, -, -, -⟩ := op_cells S6.rest.right; dsimp only at h0 h1 h2 h3; have hA := Lib.hid (HFin.out w6 _ S6 (Below.trans HR5.out (hB.mono (Nat.zero_le _)))); clear S6 hB)); (try go_wp2_with fail)) | go_simp); (refine hK.out _ _ ?_ (fun hHeld => ?_)); (focus ((try dsimp only); (first | done | (first | exact ⟨b1, a0, a1, a2, a3⟩ | exact ⟨i1, h0, h1, h2, h3⟩)))); clear hK K; (try simp only [Act.put, List.setIfInBounds_toArray, List.set_cons_zero, List.set_cons_succ])))
      refine plan_done ?_
      go_wp2_with fail
      go_ret
      exact hA.out

  case true =>
    have hdv2 : dVar (⟨vv, true, v3, v4⟩ : VM.T) = (⟨vv, true, v3, v4⟩ : VM.T) := rfl
    have S5 := S4
    have R5 := R4
    obtain ⟨w5, hw5⟩ : ∃ w5, w5 = w4 := ⟨_, rfl⟩
    obtain ⟨f0, f1, f2, f3⟩ := VM.box_cells S5.rest
    go_upto_region 8 with fail
    rw [← hw5]
    rw [← hw5] at S5 R5
    clear S4 R4 hw5 f0 f1 f2 f3 hdv
    rw [hdv2] at Hvr
    obtain ⟨a0, a1, a2, a3⟩ := VM.box_cells S5.drew.rest
    obtain ⟨-, b1, -, -, -⟩ := op_cells S5.drew.rest.right
    dsimp only at a0 a1 a2 a3
    cases hnm : isName o.k with
    | false =>
      have hD := Hn1.out hnm
      rw [hD]
      have hA := Lib.hid (HFin.out w5.drew _ S5.drew (Ran.drewN R5 1))
      clear hD Hn1 Hn2 S5 R5 HFin Hvr HDm hdv2
      refine region_plan (S := (fun w' => w'.cell? ⟨xb, 1, none⟩ = some (.string o.k) ∧ w'.cell? ⟨vb, 0, none⟩ = some (.string (⟨vv, true, v3, v4⟩ : VM.T).val) ∧ w'.cell? ⟨vb, 1, none⟩ = some (.bool (⟨vv, true, v3, v4⟩ : VM.T).set) ∧ w'.cell? ⟨vb, 2, none⟩ = some (.bool v3) ∧ w'.cell? ⟨vb, 3, none⟩ = some (.bool v4))) [(0, true), (1, true), (2, true), (3, true), (4, true), (5, true), (6, true), (7, true), (8, true), (9, true), (10, true), (11, true), (12, true), (13, true), (14, true), (15, true)] (by kernel_rfl) (by kernel_rfl) (by kernel_rfl) ?_ ?_
      · ((try dsimp only); (first | done | (exact ⟨b1, a0, a1, a2, a3⟩)))
      simp only [planOps, List.map_cons, List.map_nil, List.getElem?_toArray, List.getElem?_cons_zero, List.getElem?_cons_succ]
      repeat (first
        | ((refine plan_yes (v := ?_) (by rfl) ?_ ?_); rotate_left; (focus (intro w hSw; (try dsimp only at hSw); go_simp; try (with_reducible rfl))); (try simp only [Act.put, List.setIfInBounds_toArray, List.set_cons_zero, List.set_cons_succ]))
        | ((refine plan_no (by rfl) ?_); (try simp only [Act.put, List.setIfInBounds_toArray, List.set_cons_zero, List.set_cons_succ]))
        | ((refine plan_step (fun K hK => ?_)); (first | (fail) | (go_simp; (fail); (try go_wp2_with fail)) | go_simp); (refine hK.out _ _ ?_ (fun hHeld => ?_)); (focus ((try dsimp only); (first | done | (exact ⟨b1, a0, a1, a2, a3⟩)))); clear hK K; (try simp only [Act.put, List.setIfInBounds_toArray, List.set_cons_zero, List.set_cons_succ])))
      refine plan_done ?_
      go_wp2_with fail
      go_ret
      exact hA.out
    | true =>
      have hD := Hn2.out hnm
      rw [hD]
      have HVr := Var_calls K m.2 o.k w5.drew _ (by unfold maxLen; omega) S5.drew
      rw [Hvr.out hnm] at HVr
      have HVr := Lib.hid HVr
      have HS5 := Lib.hid S5.drew
      have HR5 := Lib.hid (Ran.drewN R5 1)
      have hes := eql_self (⟨vv, true, v3, v4⟩ : VM.T)
      clear hD Hn1 Hn2 S5 R5 Hvr HDm hdv2
      refine region_plan (S := (fun w' => w'.cell? ⟨xb, 1, none⟩ = some (.string o.k) ∧ w'.cell? ⟨vb, 0, none⟩ = some (.string (⟨vv, true, v3, v4⟩ : VM.T).val) ∧ w'.cell? ⟨vb, 1, none⟩ = some (.bool (⟨vv, true, v3, v4⟩ : VM.T).set) ∧ w'.cell? ⟨vb, 2, none⟩ = some (.bool v3) ∧ w'.cell? ⟨vb, 3, none⟩ = some (.bool v4))) [(0, true), (1, true), (2, true), (3, true), (4, true), (5, true), (6, true), (7, true), (8, true), (9, true), (11, true), (10, false), (12, true), (13, true), (14, true), (15, true)] (by kernel_rfl) (by kernel_rfl) (by kernel_rfl) ?_ ?_
      · ((try dsimp only); (first | done | (first | exact ⟨b1, a0, a1, a2, a3⟩ | exact ⟨i1, h0, h1, h2, h3⟩)))
      simp only [planOps, List.map_cons, List.map_nil, List.getElem?_toArray, List.getElem?_cons_zero, List.getElem?_cons_succ]
      repeat (first
        | ((refine plan_yes (v := ?_) (by rfl) ?_ ?_); rotate_left; (focus (intro w hSw; (try dsimp only at hSw); go_simp; try (with_reducible rfl))); (try simp only [Act.put, List.setIfInBounds_toArray, List.set_cons_zero, List.set_cons_succ]))
        | ((refine plan_no (by rfl) ?_); (try simp only [Act.put, List.setIfInBounds_toArray, List.set_cons_zero, List.set_cons_succ]))
        | ((refine plan_step (fun K hK => ?_)); (first | (go_simp; ((go_at_call 20; refine HVr.out.mono ?_; rintro e w6 ⟨rfl, hB⟩; have S6 := HS5.out.below hB; obtain ⟨h0, h1, h2, h3⟩ := VM.box_cells S6.rest; obtain ⟨-, i1, -, -, -⟩ := op_cells S6.rest.right; dsimp only at h0 h1 h2 h3; have hA := Lib.hid (HFin.out w6 _ S6 (Below.trans HR5.out (hB.mono (Nat.zero_le _)))); clear S6 hB)); (try go_wp2_with fail)) | go_simp); (refine hK.out _ _ ?_ (fun hHeld => ?_)); (focus ((try dsimp only); (first | done | (first | exact ⟨b1, a0, a1, a2, a3⟩ | exact ⟨i1, h0, h1, h2, h3⟩)))); clear hK K; (try simp only [Act.put, List.setIfInBounds_toArray, List.set_cons_zero, List.set_cons_succ])))
      refine plan_done ?_
      go_wp2_with fail
      go_ret
      exact hA.out

end Go.Proofs.YtlmjidandjemjaaGreatDoor.State

namespace Go.Proofs.YtlmjidandjemjaaGreatDoor.State
open Go.RowKit Go.Proofs.YtlmjidandjemjaaGreatDoor Go.Proofs.YtlmjidandjemjaaGreatDoor.Hp Go.Proofs.YtlmjidandjemjaaGreatDoor.Undo
set_option linter.unusedVariables false
attribute [local go_sem] Oper.semAt_some

theorem toList_eq_iff (a b : ByteArray) : (a.toList == b.toList) = decide (a = b) := by
  rw [tol a b.toList, ByteArray.toList_eq]
def TxRel (a b : List ByteArray) (w : World) (g : Nat) (v5 : Value) (wr : World) : Prop :=
  ∃ i k : Nat, v5 = .int .i64 (i : Int) ∧ i + g = a.length ∧ decide (a.drop i = b.drop i) = decide (a = b) ∧ wr = w.drewN k
set_option maxRecDepth 100000 in
set_option maxHeartbeats 4000000 in
theorem texts_calls (a b : List ByteArray) (p q : Option Addr) (pc qc : Nat) (w : World) (hp : StrsAt w p a) (hq : StrsAt w q b) (ha : a.length ≤ 9223372036854775807) (hb : b.length ≤ 9223372036854775807) :
    Calls Tryz.prog 12 #[.slice p a.length pc, .slice q b.length qc] w fun e w' => e = .returned (.bool (decide (a = b))) ∧ Below w.heap.size w w' := by
  obtain ⟨r, hr⟩ : ∃ r, r = decide (a = b) := ⟨_, rfl⟩
  rw [← hr]
  have HR := Lib.hid hr
  have HP := Lib.hid hp
  have HQ := Lib.hid hq
  have haI : (a.length : Int) ≤ 9223372036854775807 := by omega
  have hbI : (b.length : Int) ≤ 9223372036854775807 := by omega
  by_cases hl : a.length = b.length
  · have hlI : ((a.length : Int) == (b.length : Int)) = true := by rw [beq_iff_eq]; omega
    have Hl := Lib.hid hl
    clear hr hp hq ha hb hl
    go_enter Tryz.func12, Tryz.ntmps12
    go_wp2_with fail
    go_loopg [5] (a.length) (TxRel a b w)
    case atStart => exact ⟨0, 0, rfl, by omega, by rw [List.drop_zero, List.drop_zero], rfl⟩
    case round =>
      obtain ⟨i, k, rfl, hg, hall, rfl⟩ := hrel
      rw [← HR.out] at hall
      by_cases hlt : i < a.length
      · have hltI : (i : Int) < a.length := by omega
        have hlt2 : i < b.length := by rw [← Hl.out]; exact hlt
        have hltI2 : (i : Int) < b.length := by omega
        have hi0 : (0 : Int) ≤ i := by omega
        rcases HP.out with he | ⟨b1, o1, rfl, hc1⟩
        · rw [he] at hlt; exact absurd hlt (Nat.not_lt_zero _)
        rcases HQ.out with he | ⟨b2, o2, rfl, hc2⟩
        · rw [he] at hlt2; exact absurd hlt2 (Nat.not_lt_zero _)
        have e1 := hc1 i hlt
        have e2 := hc2 i hlt2
        rw [List.drop_eq_getElem_cons hlt, List.drop_eq_getElem_cons hlt2] at hall
        have heq := toList_eq_iff a[i] b[i]
        obtain ⟨x, hx⟩ : ∃ x, x = a[i] := ⟨_, rfl⟩
        obtain ⟨y, hy⟩ : ∃ y, y = b[i] := ⟨_, rfl⟩
        rw [← hx] at e1 heq hall
        rw [← hy] at e2 heq hall
        by_cases hxy : x = y
        · rw [decide_eq_true hxy] at heq
          have hn : decide (a.drop (i + 1) = b.drop (i + 1)) = r := by
            rw [← hall, decide_eq_decide]
            exact ⟨fun h => by rw [hxy, h], fun h => (List.cons.inj h).2⟩
          have HN := Lib.hid hn
          have heq2 : x.toList = y.toList := by rw [hxy]
          clear hall hx hy hxy hc1 hc2 hn
          go_wp2_with fail
          go_quiet (fail)
          go_wp2_with fail
          go_roundg (gk - 1)
          case rel => exact ⟨i + 1, k + nq, by simp, by omega, by rw [HN.out, HR.out], by simp [World.drewN]⟩
          case measure => omega
        · rw [decide_eq_false hxy] at heq
          have hn : r = false := by
            rw [← hall]
            exact decide_eq_false fun h => hxy (List.cons.inj h).1
          subst hn
          have heq2 : ¬ (x.toList = y.toList) := by simpa using heq
          clear hall hx hy hxy hc1 hc2 HR
          go_wp2_with fail
          go_quiet (fail)
          go_wp2_with fail
          go_ret
          exact ⟨rfl, below_drewN (below_drewN (Below.refl _ w) _) _⟩
      · have hge : i = a.length := by omega
        have hn : r = true := by
          rw [← hall]
          refine decide_eq_true ?_
          rw [List.drop_of_length_le (by omega), List.drop_of_length_le (by rw [← Hl.out]; omega)]
        subst hn
        subst hge
        clear hall HR
        go_wp2_with fail
        go_ret
        exact ⟨rfl, below_drewN (Below.refl _ w) _⟩
  · have hlI : ((a.length : Int) == (b.length : Int)) = false := by rw [beq_eq_false_iff_ne]; omega
    have hn : r = false := by
      rw [hr]
      exact decide_eq_false fun h => hl (by rw [h])
    subst hn
    clear hr hp hq ha hb hl HR
    go_enter Tryz.func12, Tryz.ntmps12
    go_wp2_with fail
    go_ret
    exact ⟨rfl, Below.refl _ w⟩
end Go.Proofs.YtlmjidandjemjaaGreatDoor.State

