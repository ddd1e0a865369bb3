/- All walked. -/
import Derived.Test.YtlhkochpokhncaaDoorLxV
namespace Go.Proofs.YtlhkochpokhncaaDoor.Lexer
open Go.RowKit Go.Proofs.YtlhkochpokhncaaDoor Go.Proofs.YtlhkochpokhncaaDoor.Hp
set_option linter.unusedVariables false
attribute [local go_sem] Oper.semAt_some

abbrev strO (s : ByteArray) : Obj := .cells #[.string s] 9 (0, 0)
abbrev pIntO (b : Nat) : Obj := .cells #[.pointer (some ⟨b, 0, none⟩)] 51 (0, 0)
abbrev pErrO (b : Nat) : Obj := .cells #[.pointer (some ⟨b, 0, none⟩)] 52 (0, 0)
theorem things_calls (s : ByteArray) (pb wb : Nat) (w : World) : Calls Tryd.prog 22 #[.string s, .pointer (some ⟨pb, 0, none⟩), .pointer (some ⟨wb, 0, none⟩)] w
    fun e w' => e = .returned (.func (.func 38) #[] #[.pointer (some ⟨w.heap.size, 0, none⟩), .pointer (some ⟨w.heap.size + 1, 0, none⟩), .pointer (some ⟨w.heap.size + 2, 0, none⟩)]) ∧ w' = ((w.alloc (strO s)).alloc (pIntO pb)).alloc (pErrO wb) := by
  go_enter Tryd.func22, Tryd.ntmps22
  go_wp2_with fail
  go_ret
  exact ⟨by simp, rfl⟩
def outS (ob : Nat) (l : List Tok) : Hp := ex fun x : Option Addr × Nat => tokA x.1 x.2 l * pts ob (.cells #[.slice x.1 l.length x.2] 23 (0, 0))
def APost (s : ByteArray) (S : Hp) (e : Ending) (w' : World) : Prop :=
  ∃ p cap, e = .returned (.tuple #[.slice p (allP s).1.length cap, .int .i64 (allP s).2.1, .int .i64 (allP s).2.2]) ∧ Sat w' (tokA p cap (allP s).1 * S)
set_option maxRecDepth 100000 in
set_option maxHeartbeats 8000000 in
theorem all_calls (s : ByteArray) (h63 : (s.size : Int) ≤ 9223372036854775807) (w : World) :
    Calls Tryd.prog 10 #[.string s] w fun e w' => APost s (keep w) e w' ∧ Ran w w' := by
  have hlen := Lib.hid (allP_len s)
  have S1 := ((Sat.start w).alloc (.cells #[.slice none 0 0] 23 (0, 0)))
  have S3 := (S1.alloc (.cells #[.int .i64 0] 3 (0, 0))).alloc (.cells #[.int .i64 0] 24 (0, 0))
  simp only [World.size_alloc] at S3
  have R3 : Ran w (((w.alloc (.cells #[.slice none 0 0] 23 (0, 0))).alloc (.cells #[.int .i64 0] 3 (0, 0))).alloc (.cells #[.int .i64 0] 24 (0, 0))) := Ran.new (Ran.new (Ran.new (Below.refl 0 w) _) _) _
  have S3 := Lib.hid S3
  clear S1
  refine calls_of_wp_marks Tryd.func10 rfl ?_
  simp only [Tryd.ntmps10, List.size_toArray, List.length_cons, List.length_nil, Nat.reduceAdd, Nat.reduceSub, Array.replicate_succ, Array.replicate_zero, List.push_toArray, List.append_toArray, List.nil_append, List.cons_append]
  go_wp2_with fail
  refine (things_calls s _ _ _).mono ?_
  rintro e w4 ⟨rfl, hw4⟩
  simp only [World.size_alloc] at hw4 ⊢
  obtain ⟨ob, hob⟩ : ∃ b, b = w.heap.size := ⟨_, rfl⟩
  have S4 : Sat w4 (thingsH (ob + 1 + 1 + 1) (ob + 1) (ob + 1 + 1) (ob + 1 + 1 + 1 + 1) (ob + 1 + 1 + 1 + 2) s (0, 0) * (pts ob (.cells #[.slice none 0 0] 23 (0, 0)) * keep w)) := by
    rw [hw4, hob]
    have := ((S3.out.alloc (strO s)).alloc (pIntO (w.heap.size + 1))).alloc (pErrO (w.heap.size + 1 + 1))
    simp only [World.size_alloc] at this
    unfold thingsH
    exact this.perm (by ac_rfl)
  have R4 : Ran w w4 := by rw [hw4]; exact Ran.new (Ran.new (Ran.new R3 _) _) _
  rw [← hob]
  have Hob := Lib.hid hob
  have S4 := Lib.hid S4
  clear hw4 S3 R3 hob
  go_wp2_with fail
  have hI0 : Sat w4 (outS ob [] * keep w * (thingsH (ob + 1 + 1 + 1) (ob + 1) (ob + 1 + 1) (ob + 1 + 1 + 1 + 1) (ob + 1 + 1 + 1 + 2) s (0, 0) * emp)) := by
    unfold outS
    rw [sep_assoc]
    refine Sat.ex_in (none, 0) ?_
    have := S4.out.nil_arr 32 4
    exact this.perm (by show _ = (arr 32 4 none 0 0 [] * pts ob (.cells #[.slice none 0 0] 23 (0, 0))) * _; rw [sep_emp]; ac_rfl)
  refine wp_rangeFunc_satW (n := 3) rfl (enters_of Tryd.func38 (by kernel_rfl) rfl) (things_iter s h63 _ _ _ _ _ 3 emp) (fun _ => rfl) (fun pre => outS ob pre * keep w) hI0 (fun t => tokO t.kind t.text t.at_ t.stop) ?_ ?assign ?body ?done
  case assign =>
    intro l x W K hK
    gi_wp2
    revert hK
    generalize W.heap.size = b
    intro hK
    exact hK
  case body =>
    rintro l pre x post S W b hx hs
    have hs2 := hs.perm (show _ = outS ob pre * (pts b (tokO x.kind x.text x.at_ x.stop) * (keep w * S)) by ac_rfl)
    unfold outS at hs2
    obtain ⟨⟨q, cap⟩, hs3⟩ := hs2.ex_out
    simp only at hs3
    obtain ⟨t0, t1, t2, t3, tz⟩ := tok_cells hs2.right
    have hob := hs3.perm (show _ = pts ob (.cells #[.slice q pre.length cap] 23 (0, 0)) * (tokA q cap pre * (pts b (tokO x.kind x.text x.at_ x.stop) * (keep w * S))) by ac_rfl)
    obtain ⟨nl, hnl⟩ : ∃ n, n = pre.length := ⟨_, rfl⟩
    have cob : W.cell? ⟨ob, 0, none⟩ = some (.slice q nl cap) := by rw [cell_at hob.get, hnl]; rfl
    have hnl9 : nl ≤ 1000000000 := by
      have h2 := congrArg List.length hx
      rw [List.length_append] at h2
      have := hlen.out
      omega
    have HSB : Sat _ (arr 32 4 q pre.length cap (tks pre) * (pts ob (.cells #[.slice q pre.length cap] 23 (0, 0)) * (keep w * S))) := ((hs3.perm (show _ = (tokA q cap pre * (pts ob (.cells #[.slice q pre.length cap] 23 (0, 0)) * (keep w * S))) * pts b (tokO x.kind x.text x.at_ x.stop) by ac_rfl)).left).old (tokO x.kind x.text x.at_ x.stop)
    rw [← hnl] at HSB
    have RB : Ran W (W.alloc (tokO x.kind x.text x.at_ x.stop)) := Ran.new (Below.refl _ _) _
    have Hnl := Lib.hid hnl
    clear hs hs2 hs3 hob hnl hx
    gi_wp2_with (gi_at_builtin; refine appTkIn rfl _ _ rfl q nl cap _ rfl _ rfl HSB x (by rw [block_new rfl]; rfl) hnl9 ?_; intro p' cap' w6 HS7 HR7; clear HSB; have hob6 := (HS7.perm (show _ = pts ob (.cells #[.slice q nl cap] 23 (0, 0)) * (arr 32 4 p' (nl + 1) cap' (tks pre ++ tkC x) * (keep w * S)) by ac_rfl)); have c6 : w6.cell? ⟨ob, 0, none⟩ = some (.slice q nl cap) := (by rw [cell_at hob6.get]; rfl); have f6 : ∀ i, w6.frozen? ⟨ob, i, none⟩ = false := free_at hob6.get)
    refine ⟨?_, Ran.set (Below.trans RB HR7) _ _⟩
    have h8 := hob6.set (i := 0) (.slice p' (nl + 1) cap')
    unfold outS
    rw [sep_assoc]
    refine Sat.ex_in (p', cap') ?_
    have e1 : (pre ++ [x]).length = nl + 1 := by rw [List.length_append, Hnl.out]; rfl
    unfold tokA
    rw [e1, tks_snoc]
    exact h8.perm (by show pts ob (.cells #[.slice p' (nl + 1) cap'] 23 (0, 0)) * _ = _; show _ = (arr 32 4 p' (nl + 1) cap' (tks pre ++ tkC x) * pts ob (.cells #[.slice p' (nl + 1) cap'] 23 (0, 0))) * _; ac_rfl)
  case done =>
    rintro D W hs hr
    obtain ⟨xs, hxs⟩ : ∃ xs, xs = (allP s).1 := ⟨_, rfl⟩
    obtain ⟨f, hf⟩ : ∃ f, f = (allP s).2 := ⟨_, rfl⟩
    have hs : Sat W (outS ob xs * keep w * (thingsH (ob + 1 + 1 + 1) (ob + 1) (ob + 1 + 1) (ob + 1 + 1 + 1 + 1) (ob + 1 + 1 + 1 + 2) s f * emp) * pts D (.deferred (some []))) := by rw [hxs, hf]; exact hs
    have hs1 := hs.perm (show _ = outS ob xs * (pts D (.deferred (some [])) * (thingsH (ob + 1 + 1 + 1) (ob + 1) (ob + 1 + 1) (ob + 1 + 1 + 1 + 1) (ob + 1 + 1 + 1 + 2) s f * keep w)) by rw [sep_emp]; ac_rfl)
    unfold outS at hs1
    obtain ⟨⟨q, cap⟩, hs3⟩ := hs1.ex_out
    simp only at hs3
    obtain ⟨nl, hnl⟩ : ∃ n, n = xs.length := ⟨_, rfl⟩
    have cob : W.cell? ⟨ob, 0, none⟩ = some (.slice q nl cap) := by
      rw [cell_at (hs3.perm (show _ = pts ob (.cells #[.slice q xs.length cap] 23 (0, 0)) * (tokA q cap xs * (pts D (.deferred (some [])) * (thingsH (ob + 1 + 1 + 1) (ob + 1) (ob + 1 + 1) (ob + 1 + 1 + 1 + 1) (ob + 1 + 1 + 1 + 2) s f * keep w))) by ac_rfl)).get, hnl]; rfl
    obtain ⟨c1, c2, c3, c4, c5, f4, f5⟩ := things_cells (hs3.perm (show _ = thingsH (ob + 1 + 1 + 1) (ob + 1) (ob + 1 + 1) (ob + 1 + 1 + 1 + 1) (ob + 1 + 1 + 1 + 2) s f * (tokA q cap xs * (pts ob (.cells #[.slice q xs.length cap] 23 (0, 0)) * (pts D (.deferred (some [])) * keep w))) by ac_rfl))
    have hD := hs3.perm (show _ = pts D (.deferred (some [])) * (tokA q cap xs * (pts ob (.cells #[.slice q xs.length cap] 23 (0, 0)) * (thingsH (ob + 1 + 1 + 1) (ob + 1) (ob + 1 + 1) (ob + 1 + 1 + 1 + 1) (ob + 1 + 1 + 1 + 2) s f * keep w))) by ac_rfl)
    have HD := Lib.hid hD
    have Hnl := Lib.hid (And.intro hnl (And.intro hxs hf))
    have Hr := Lib.hid hr
    clear hs hs1 hs3 hD hnl hxs hf hr
    go_wp2_with fail
    go_quiet (fail)
    go_wp2_with fail
    refine marks_out rfl (HD.out.drewN nq).get (results_tmp3 rfl _ _ _) ?_
    have HF := ((HD.out.drewN nq).putObj (.deferred none)).right
    refine ⟨⟨q, cap, by rw [← Hnl.out.2.1, ← Hnl.out.2.2, ← Hnl.out.1]; rfl, ?_⟩, Ran.putObj (Ran.drewN (Below.trans R4 Hr.out) nq) _ _⟩
    rw [← Hnl.out.2.1]
    exact (HF.perm (show _ = (tokA q cap xs * keep w) * (pts ob (.cells #[.slice q xs.length cap] 23 (0, 0)) * thingsH (ob + 1 + 1 + 1) (ob + 1) (ob + 1 + 1) (ob + 1 + 1 + 1 + 1) (ob + 1 + 1 + 1 + 2) s f) by ac_rfl)).left
end Go.Proofs.YtlhkochpokhncaaDoor.Lexer
