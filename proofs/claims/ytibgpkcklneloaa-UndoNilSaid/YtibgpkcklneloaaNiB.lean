/- slices.Collect over the keys of a map of floats. -/
import Derived.Test.YtibgpkcklneloaaNiA
namespace Go.Proofs.Ytibgpkcklneloaa.Undo
open Go.RowKit Go.ChangeMaps Go.Proofs.Ytibgpkcklneloaa Go.Proofs.Ytibgpkcklneloaa.Hp
set_option linter.unusedVariables false
attribute [local go_sem] Oper.semAt_some

theorem infoF : (Try.prog.info? 62).map (fun i => (i.zero, i.size, i.bytes)) = some (some (.float .f64 0), 1, 8) := by kernel_rfl
theorem appFIn {F : Fence} {n0 : Nat} {w : World} {H : Hp} {ops : Array Oper} {rest : List Oper} {o : Oper} {a : Act} {Q : Exit → Act → World → Prop} (hgd : o.guard = none) (s x : Operand)
    (ho : o.op = .call { callee := .builtin .append, args := #[s, x], argTypes := #[74, 74] })
    (p : Option Addr) (n cap : Nat) (xs : List Value) (hp : a.eval s = .slice p n cap) (b : Nat) (hvx : a.eval x = .slice (some ⟨b, 0, none⟩) 1 1) (h : Sat w (arr 62 1 p n cap xs * H)) (v : Value) (hb : w.heap[b]? = some (.cells #[v] 62 (0, 0))) (h0 : v.oneCell' = true) (hn : n ≤ 1000000000)
    (hk : ∀ p' cap' w', Sat w' (arr 62 1 p' (n + 1) cap' (xs ++ [v]) * H) → Ran w w' → wpListIn F n0 Try.prog ops Q rest (a.put o.dst (.slice p' (n + 1) cap')) w') : wpListIn F n0 Try.prog ops Q (o :: rest) a w := by
  obtain ⟨i0, hi, hz0, hz1, hz2⟩ := info_parts infoF
  refine wpListIn_plain hgd fun K hK' => ?_
  obtain ⟨p', cap', w', hr, h1, h2, _⟩ := run_append_arr (P := Try.prog) 74 74 o.type 62 i0 _ 1 8 Try.underlying74 hi hz0 hz1 hz2 rfl p n cap xs h (.slice (some ⟨b, 0, none⟩) 1 1) 1 [v] (Src.ofSlice w Try.underlying74 ⟨b, 0, none⟩ 1 1 [v] (by rw [hz1]; rfl) (by
    intro j u hj
    rw [Addr.add_lit, Nat.zero_add, cell_at hb, ← hj]
    simp) (by simp [h0])) (by omega) (by unfold maxLen; omega)
  unfold Oper.wpIn
  refine ⟨?_, ?_⟩
  · simp [Oper.about, ho, resolve, Target.leads, Sem.run_pure]
  · rw [Oper.semAt_plain F _ _ (by rw [ho]; intro c hc'; cases hc')]
    simp [execOp, ho, resolve, invoke, builtin, hp, hvx, hr, Result.andThen]
    exact hK' _ _ (hk p' cap' w' h1 h2)
abbrev fArr (p : Option Addr) (cap : Nat) (xs : List Value) : Hp := arr 62 1 p xs.length cap xs
def FInv (sb : Nat) (S : Hp) (pre : List Value) : Hp := ex (fun x : Option Addr × Nat => fArr x.1 x.2 pre * pts sb (.cells #[.slice x.1 pre.length x.2] 74 (0, 0))) * S
theorem fkeys_len (o : Option Nat) : (fKeys o).length ≤ 1 := by cases o <;> simp [fKeys]
abbrev mbox (bb mb : Nat) : Hp := pts bb (.cells #[.map (some mb)] 95 (0, 0))
def CollPost (bb mb : Nat) (o : Option Nat) (S : Hp) (w : World) (e : Ending) (w' : World) : Prop :=
  ∃ p cap, e = .returned (.slice p (fKeys o).length cap) ∧ Sat w' (fArr p cap (fKeys o) * (mbox bb mb * (fMap mb o * S))) ∧ Ran w w'
set_option maxRecDepth 100000 in
set_option maxHeartbeats 2000000 in
theorem appseq_calls (bb mb : Nat) (o : Option Nat) (w : World) (S : Hp) (h : Sat w (mbox bb mb * (fMap mb o * S))) :
    Calls Try.prog 65 #[.slice none 0 0, .func (.func 61) #[] #[.pointer (some ⟨bb, 0, none⟩)]] w (CollPost bb mb o S w) := by
  refine calls_of_wp_marks Try.func65 rfl ?_
  simp only [Try.ntmps65, List.size_toArray, List.length_cons, List.length_nil, Nat.reduceAdd, Nat.reduceSub, Array.replicate_succ, Array.replicate_zero, List.push_toArray, List.append_toArray, List.nil_append, List.cons_append]
  obtain ⟨sb, hsb⟩ : ∃ b, b = w.heap.size := ⟨_, rfl⟩
  obtain ⟨w1, hw1⟩ : ∃ w1, w1 = w.alloc (.cells #[.slice none 0 0] 74 (0, 0)) := ⟨_, rfl⟩
  have S1 : Sat w1 (pts sb (.cells #[.slice none 0 0] 74 (0, 0)) * (mbox bb mb * (fMap mb o * S))) := by rw [hw1, hsb]; exact h.alloc _
  have R1 : Ran w w1 := by rw [hw1]; exact Ran.new (Below.refl _ _) _
  have hI0 : Sat w1 (FInv sb S [] * (mbox bb mb * fMap mb o)) := by
    unfold FInv
    rw [sep_assoc]
    refine Sat.ex_in (none, 0) ?_
    have := S1.nil_arr 62 1
    exact this.perm (by show _ = (arr 62 1 none 0 0 [] * pts sb (.cells #[.slice none 0 0] 74 (0, 0))) * _; ac_rfl)
  clear S1 h
  go_wp2_with fail
  rw [← hw1, ← hsb]
  clear hw1 hsb
  refine wp_rangeFunc_sat (n := 3) rfl (enters_of Try.func61 (by kernel_rfl) rfl) (fkeys_iter mb bb 3 o) (fun _ => rfl) (FInv sb S) hI0 ?_ ?assign ?body ?done
  case assign =>
    intro l x W K hK
    gi_wp2
    exact hK
  case body =>
    rintro l pre x post S' W hx hs
    have hv : ∃ b, x = fV b := by
      have : x ∈ fKeys o := by rw [hx]; simp
      cases o with
      | none => cases this
      | some y => exact ⟨y, List.mem_singleton.1 this⟩
    obtain ⟨xb, rfl⟩ := hv
    unfold FInv at hs
    rw [sep_assoc] at hs
    obtain ⟨⟨q, cap⟩, hs3⟩ := hs.ex_out
    simp only at hs3
    obtain ⟨nl, hnl⟩ : ∃ n, n = pre.length := ⟨_, rfl⟩
    have hnl9 : nl ≤ 1000000000 := by
      have h1 := fkeys_len o
      rw [hx, List.length_append, List.length_cons] at h1
      omega
    have hob := hs3.perm (show _ = pts sb (.cells #[.slice q pre.length cap] 74 (0, 0)) * (fArr q cap pre * (S * S')) by ac_rfl)
    have cob : W.cell? ⟨sb, 0, none⟩ = some (.slice q nl cap) := by rw [cell_at hob.get, hnl]; rfl
    have HSB := (hs3.perm (show _ = fArr q cap pre * (pts sb (.cells #[.slice q pre.length cap] 74 (0, 0)) * (S * S')) by ac_rfl)).old (.cells #[fV xb] 62 (0, 0))
    unfold fArr at HSB
    rw [← hnl] at HSB
    have RB : Ran W (W.alloc (.cells #[fV xb] 62 (0, 0))) := Ran.new (Below.refl _ _) _
    have Hnl := Lib.hid hnl
    clear hs hs3 hob hnl hx
    gi_wp2_with (gi_at_builtin; refine appFIn rfl _ _ rfl q nl cap _ rfl _ rfl HSB (fV xb) (blk_new rfl) rfl hnl9 ?_; intro p' cap' w6 HS7 HR7; clear HSB; have hob6 := (HS7.perm (show _ = pts sb (.cells #[.slice q nl cap] 74 (0, 0)) * (arr 62 1 p' (nl + 1) cap' (pre ++ [fV xb]) * (S * S')) by ac_rfl)); have c6 : w6.cell? ⟨sb, 0, none⟩ = some (.slice q nl cap) := (by rw [cell_at hob6.get]; rfl); have f6 : ∀ i, w6.frozen? ⟨sb, i, none⟩ = false := free_at hob6.get)
    refine ⟨?_, Ran.set (Below.trans RB HR7) _ _⟩
    have h8 := hob6.set (i := 0) (.slice p' (nl + 1) cap')
    unfold FInv
    rw [sep_assoc]
    refine Sat.ex_in (p', cap') ?_
    have e1 : (pre ++ [fV xb]).length = nl + 1 := by rw [List.length_append, Hnl.out]; rfl
    unfold fArr
    rw [e1]
    exact h8.perm (by show pts sb (.cells #[.slice p' (nl + 1) cap'] 74 (0, 0)) * _ = _; show _ = (arr 62 1 p' (nl + 1) cap' (pre ++ [fV xb]) * pts sb (.cells #[.slice p' (nl + 1) cap'] 74 (0, 0))) * _; ac_rfl)
  case done =>
    rintro D W hs hr
    have hs : Sat W (FInv sb S (fKeys o) * (mbox bb mb * fMap mb o) * pts D (.deferred (some []))) := hs
    unfold FInv at hs
    have hs2 := hs.perm (show _ = ex (fun x : Option Addr × Nat => fArr x.1 x.2 (fKeys o) * pts sb (.cells #[.slice x.1 (fKeys o).length x.2] 74 (0, 0))) * (pts D (.deferred (some [])) * (S * (mbox bb mb * fMap mb o))) by ac_rfl)
    obtain ⟨⟨q, cap⟩, hs3⟩ := hs2.ex_out
    simp only at hs3
    have hD := hs3.perm (show _ = pts D (.deferred (some [])) * (fArr q cap (fKeys o) * (pts sb (.cells #[.slice q (fKeys o).length cap] 74 (0, 0)) * (S * (mbox bb mb * fMap mb o)))) by ac_rfl)
    have hK := hD.get
    obtain ⟨nl, hnl⟩ : ∃ n, n = (fKeys o).length := ⟨_, rfl⟩
    have cob : W.cell? ⟨sb, 0, none⟩ = some (.slice q nl cap) := by rw [cell_at (hs3.perm (show _ = pts sb (.cells #[.slice q (fKeys o).length cap] 74 (0, 0)) * (fArr q cap (fKeys o) * (pts D (.deferred (some [])) * (S * (mbox bb mb * fMap mb o)))) by ac_rfl)).get, hnl]; rfl
    have H6 := Lib.hid (hD.putObj (.deferred none)).right
    have Hnl := Lib.hid hnl
    have Hr := Lib.hid hr
    clear hs hs2 hs3 hD hnl hr
    go_wp2_with fail
    (try simp only [Exit.inBlock, Exit.then])
    refine marks_out rfl hK (results_tmp rfl _ _ _) ?_
    refine ⟨q, cap, by rw [← Hnl.out]; rfl, ?_, Ran.putObj (Below.trans R1 Hr.out) _ _⟩
    exact (H6.out.perm (show _ = pts sb (.cells #[.slice q (fKeys o).length cap] 74 (0, 0)) * (fArr q cap (fKeys o) * (mbox bb mb * (fMap mb o * S))) by ac_rfl)).right
set_option maxHeartbeats 1000000 in
theorem coll_calls (bb mb : Nat) (o : Option Nat) (w : World) (S : Hp) (h : Sat w (mbox bb mb * (fMap mb o * S))) :
    Calls Try.prog 59 #[.func (.func 61) #[] #[.pointer (some ⟨bb, 0, none⟩)]] w (CollPost bb mb o S w) := by
  have hc := Lib.hid (appseq_calls bb mb o w S h)
  clear h
  go_enter Try.func59, Try.ntmps59
  go_wp2_with fail
  refine hc.out.mono ?_
  rintro e w2 ⟨p, cap, rfl, H2, R2⟩
  have H2 := Lib.hid H2
  go_wp2_with fail
  go_ret
  exact ⟨p, cap, rfl, H2.out, R2⟩
end Go.Proofs.Ytibgpkcklneloaa.Undo
