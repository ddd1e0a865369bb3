/- HandlesPlays, part 22 of 26: the texts PaT PnY, joined by a program. -/
import Derived.Test.YtndjgeohkfenfaaGreatDoorPq21
import Derived.Test.YtndjgeohkfenfaaGreatDoorPq19
namespace Go.Proofs.YtndjgeohkfenfaaGreatDoor.Globs
open Go.RowKit Go.Proofs.YtndjgeohkfenfaaGreatDoor Go.Proofs.YtndjgeohkfenfaaGreatDoor.Hp
open Go.Proofs.YtndjgeohkfenfaaGreatDoor.Hd (fsHp Fs TreeG Glob WalkP NamesS pp finV finO fin_cells strA rightB FsOk NumsOk)
set_option linter.unusedVariables false
attribute [local go_sem] Oper.semAt_some

theorem blk_new {w : World} {o : Obj} {b : Nat} (h : w.heap.size = b) : (w.alloc o).heap[b]? = some o := by subst h; exact heap_alloc_new w o
/-- An append to an owned slice, inside a fence. -/
theorem appStrIn {F : Fence} {n0 : Nat} {w : World} {H : Hp} {ops : Array Oper} {rest : List Oper} {o : Oper} {a : Act} {Q : Exit → Act → World → Prop} (hgd : o.guard = none) (s x : Operand)
    (ho : o.op = .call { callee := .builtin .append, args := #[s, x], argTypes := #[39, 39] })
    (p : Option Addr) (n cap : Nat) (xs : List Value) (hp : a.eval s = .slice p n cap) (b : Nat) (hvx : a.eval x = .slice (some ⟨b, 0, none⟩) 1 1) (h : Sat w (arr 9 1 p n cap xs * H)) (v : Value) (hb : w.heap[b]? = some (.cells #[v] 9 (0, 0))) (h0 : v.oneCell' = true) (hn : n ≤ 1000000000)
    (hk : ∀ p' cap' w', Sat w' (arr 9 1 p' (n + 1) cap' (xs ++ [v]) * H) → Ran w w' → wpListIn F n0 Tryz.prog ops Q rest (a.put o.dst (.slice p' (n + 1) cap')) w') : wpListIn F n0 Tryz.prog ops Q (o :: rest) a w := by
  obtain ⟨i0, hi, hz0, hz1, hz2⟩ := info_parts infoSt
  refine wpListIn_plain hgd fun K hK' => ?_
  obtain ⟨p', cap', w', hr, h1, h2, _⟩ := run_append_arr (P := Tryz.prog) 39 39 o.type 9 i0 _ 1 16 Tryz.underlying39 hi hz0 hz1 hz2 rfl p n cap xs h (.slice (some ⟨b, 0, none⟩) 1 1) 1 [v] (Src.ofSlice w Tryz.underlying39 ⟨b, 0, none⟩ 1 1 [v] (by rw [hz1]; rfl) (by
    intro j u hj
    rw [Addr.add_lit, Nat.zero_add, cell_at hb, ← hj]
    simp) (by simp [h0])) (by omega) (by unfold maxLen; omega)
  unfold Oper.wpIn
  refine ⟨?_, ?_⟩
  · simp [Oper.about, ho, resolve, Target.leads, Sem.run_pure]
  · rw [Oper.semAt_plain F _ _ (by rw [ho]; intro c hc'; cases hc')]
    simp [execOp, ho, resolve, invoke, builtin, hp, hvx, hr, Result.andThen]
    exact hK' _ _ (hk p' cap' w' h1 h2)
theorem partsA_bd : ∀ (t now : List Ch), (partsA now t).length ≤ t.length + 1 ∧ ∀ x ∈ partsA now t, x.length ≤ now.length + t.length
  | [], now => by
    show (if now = [] then ([] : List (List Ch)) else [now]).length ≤ _ ∧ ∀ x ∈ (if now = [] then ([] : List (List Ch)) else [now]), _
    split
    · exact ⟨Nat.zero_le _, fun x hx => by cases hx⟩
    · exact ⟨Nat.le_refl _, fun x hx => by rw [List.mem_singleton] at hx; rw [hx]; exact Nat.le_refl _⟩
  | c :: t, now => by
    show (if (c.b == 47) = true then (if now = [] then partsA [] t else now :: partsA [] t) else partsA (now ++ [c]) t).length ≤ _ ∧ ∀ x ∈ (if (c.b == 47) = true then (if now = [] then partsA [] t else now :: partsA [] t) else partsA (now ++ [c]) t), _
    have h1 := partsA_bd t []
    have h2 := partsA_bd t (now ++ [c])
    rw [List.length_append] at h2
    split
    · split
      · refine ⟨Nat.le_succ_of_le h1.1, fun x hx => ?_⟩
        have := h1.2 x hx
        rw [List.length_cons]
        simp at this
        omega
      · refine ⟨Nat.succ_le_succ h1.1, fun x hx => ?_⟩
        rw [List.length_cons]
        rcases List.mem_cons.1 hx with e | e
        · rw [e]; omega
        · have := h1.2 x e
          simp at this
          omega
    · refine ⟨Nat.le_succ_of_le h2.1, fun x hx => ?_⟩
      have := h2.2 x hx
      rw [List.length_cons]
      simp at this
      omega
theorem begin_le (t : List Ch) : (begB t).size ≤ 1 := by
  unfold begB
  split
  · exact Nat.le_refl _
  · exact Nat.zero_le _
theorem fin_le (t : List Ch) : (finB t).size ≤ 1 := by
  unfold finB
  split
  · exact Nat.le_refl _
  · exact Nat.zero_le _
def OutJ (ob : Nat) (pre : List ByteArray) : Hp :=
  ex fun q : Option Addr × Nat => pts ob (.cells #[.slice q.1 pre.length q.2] 39 (0, 0)) * strO q.1 q.2 pre
def ExpPost (l : List ByteArray) (S : Hp) (e : Ending) (w' : World) : Prop := ∃ p c, e = .returned (.slice p (List.length l) c) ∧ Sat w' (strO p c l * S)
theorem one_str {w : World} {S : Hp} {s : ByteArray} (h : Sat w S) : Sat (w.alloc (.cells #[.string s] 9 (0, 0))) (strO (some ⟨w.heap.size, 0, none⟩) 1 [s] * S) :=
  Sat.arr_mk (Nat.le_refl _) (by unfold maxLen; omega) (by simp) rfl (fun j hj => by
    have : j = 0 := by simpa using hj
    subst this; rfl) (h.alloc _)
set_option maxRecDepth 100000 in
set_option maxHeartbeats 8000000 in
theorem expand_calls (fb mb N : Nat) (F : Fs) (dir : Int) (nm : ByteArray → List ByteArray) (ok : ByteArray → Bool) (hF : FinOk N F dir nm ok) (t : List Ch) (ao : Option Addr) (cap : Nat) (w : World) (R : Hp) (hG : Glob R)
    (hrd : ∀ W S', Sat W (S' * R) → CharsAt W ao cap t) (ht : t.length ≤ 400) (hB : (foundO nm ok t).length ≤ 1000000) (h : Sat w (fsHp fb mb F * R)) :
    Calls Tryz.prog 22 #[pp fb, .int .i64 dir, .slice ao t.length cap] w fun e w' => ExpPost (expandO nm ok t) (fsHp fb mb F * R) e w' ∧ Ran w w' := by
  have hpb := partsA_bd t []
  have HPt := Lib.hid (parts_calls t ao cap w (fsHp fb mb F * R) (fun W S' hS => hrd W (S' * fsHp fb mb F) (hS.perm (by ac_rfl))) h (by omega))
  have Hrd := Lib.hid hrd
  have HF := Lib.hid hF
  have HG := Lib.hid hG
  have HB := Lib.hid hB
  have htI : (t.length : Int) ≤ 400 := by omega
  have Hpb := Lib.hid hpb
  clear hrd hF hG hB h hpb
  refine calls_of_wp_marks Tryz.func22 rfl ?_
  simp only [Tryz.ntmps22, List.size_toArray, List.length_cons, List.length_nil, Nat.reduceAdd, Nat.reduceSub, Array.replicate_succ, Array.replicate_zero, List.push_toArray, List.append_toArray, List.nil_append, List.cons_append]
  go_wp2_with fail
  refine HPt.out.mono ?_
  rintro e w1 ⟨⟨p, pc, rs, rfl, hrs, S1⟩, R1⟩
  have hrl : rs.length ≤ t.length + 1 := by
    have := congrArg List.length hrs
    rw [List.length_map] at this
    rw [this]; exact Hpb.out.1
  have hrL : ∀ x ∈ rs, x.L.length ≤ 400 := fun x hx => by
    have hm : x.L ∈ partsL t := by rw [← hrs]; exact List.mem_map_of_mem hx
    have := Hpb.out.2 _ hm
    simp at this
    omega
  have HCo := containsR_calls rs (fun x hx => by have := hrL x hx; omega) (by omega) p pc w1 (rows_of S1)
  obtain ⟨v, hv⟩ : ∃ v, v = (rs.map Rw.L).any spP := ⟨_, rfl⟩
  rw [← hv] at HCo
  rw [hrs] at hv
  have HCo := Lib.hid HCo
  have Hrs := Lib.hid hrs
  have Hv := Lib.hid hv
  have S1 := Lib.hid S1
  have HrL := Lib.hid hrL
  clear HPt hrs hv hrL
  go_wp2_with fail
  refine HCo.out.mono ?_
  rintro e w2 ⟨rfl, B2⟩
  have S2 := S1.out.below B2
  have R2 := Below.trans R1 (B2.mono (Nat.zero_le _))
  have hC2 := Hrd.out w2 (rowsA p pc rs * fsHp fb mb F) (S2.perm (by ac_rfl))
  clear HCo S1 R1 B2
  cases v with
  | false =>
    have hex : expandO nm ok t = [plainB t] := by unfold expandO; rw [if_pos Hv.out.symm]
    have Hex := Lib.hid hex
    have HPl := Lib.hid (plain_calls t ao cap w2 hC2 (by omega))
    have S2 := Lib.hid S2
    clear hex hC2
    go_wp2_with fail
    refine HPl.out.mono ?_
    rintro e w3 ⟨rfl, B3⟩
    have S3 := Lib.hid (one_str (s := plainB t) (S2.out.below B3).right)
    have R3 := Ran.new (Below.trans R2 (B3.mono (Nat.zero_le _))) (.cells #[.string (plainB t)] 9 (0, 0))
    clear B3 HPl
    go_wp2_with fail
    refine marks_ret (results_tmp rfl _ _ _) rfl ?_
    refine ⟨?_, R3⟩
    rw [Hex.out]
    exact ⟨_, _, rfl, S3.out⟩
  | true =>
    have htn : t ≠ [] := fun e => by
      have := Hv.out
      rw [e] at this
      cases this
    have ht0 : 0 < t.length := List.length_pos_iff.2 htn
    have ht0I : (0 : Int) < (t.length : Int) := by omega
    obtain ⟨tb, to_, rfl, htb, x0, x1⟩ := hC2.2.2 0 ht0
    rw [Nat.zero_mul, Nat.add_zero] at x0 x1
    obtain ⟨k, hk⟩ : ∃ k, t.length = k + 1 := ⟨t.length - 1, by omega⟩
    have hkI : (t.length : Int) - 1 = (k : Int) := by omega
    have hk0 : (0 : Int) ≤ (k : Int) := by omega
    have hkl : (k : Int) < (t.length : Int) := by omega
    have hkw : IntKind.i64.wrap (k : Int) = (k : Int) := IntWalk.i64_in _ (by omega)
    obtain ⟨b1, o1, e1, hb1, y0, y1⟩ := hC2.2.2 k (by omega)
    injection e1 with e1; injection e1 with e1 e2; subst e1 e2
    have hbg : begB t = if t[0].b = 47 then slashB else ⟨#[]⟩ := by
      unfold begB
      rw [List.head?_eq_getElem?, List.getElem?_eq_getElem ht0]
      simp
    have hfg : finB t = if (t[k]'(by omega)).b = 47 then slashB else ⟨#[]⟩ := by
      unfold finB
      rw [List.getLast?_eq_getElem?, show t.length - 1 = k by omega, List.getElem?_eq_getElem (by omega)]
      simp
    obtain ⟨x, hx⟩ : ∃ x, x = t[0] := ⟨_, rfl⟩
    obtain ⟨y, hy⟩ : ∃ y, y = t[k]'(by omega) := ⟨_, rfl⟩
    rw [← hx] at x0 x1 hbg
    rw [← hy] at y0 y1 hfg
    have Hbg := Lib.hid hbg
    have Hfg := Lib.hid hfg
    have S2 := Lib.hid S2
    clear hC2 hbg hfg hx hy hk htn ht0
    go_upto_if 30 with fail
    go_cut [9] from 31 to 31 (fun bv wx => bv = .string (begB t) ∧ w2 = wx)
    case first =>
      by_cases hq : x.b = 47
      · have hq2 : ((x.b.toNat : Nat) : Int) = 47 := by rw [hq]; rfl
        have hb := Hbg.out
        rw [if_pos hq] at hb
        have Hb := Lib.hid hb
        clear hb hq
        go_wp2_with fail
        go_meet
        exact ⟨by rw [Hb.out], rfl⟩
      · have hq2 : ¬ ((x.b.toNat : Nat) : Int) = 47 := fun e => hq (UInt8.toNat_inj.1 (show x.b.toNat = 47 by omega))
        have hb := Hbg.out
        rw [if_neg hq] at hb
        have Hb := Lib.hid hb
        clear hb hq
        go_wp2_with fail
        go_meet
        exact ⟨by rw [Hb.out], rfl⟩
    case rest =>
      obtain ⟨rfl, rfl⟩ := hcut
      go_upto_if 38 with fail
      go_cut [10] from 39 to 39 (fun bv wx => bv = .string (finB t) ∧ w2 = wx)
      case first =>
        by_cases hq : y.b = 47
        · have hq2 : ((y.b.toNat : Nat) : Int) = 47 := by rw [hq]; rfl
          have hb := Hfg.out
          rw [if_pos hq] at hb
          have Hb := Lib.hid hb
          clear hb hq
          go_wp2_with fail
          go_meet
          exact ⟨by rw [Hb.out], rfl⟩
        · have hq2 : ¬ ((y.b.toNat : Nat) : Int) = 47 := fun e => hq (UInt8.toNat_inj.1 (show y.b.toNat = 47 by omega))
          have hb := Hfg.out
          rw [if_neg hq] at hb
          have Hb := Lib.hid hb
          clear hb hq
          go_wp2_with fail
          go_meet
          exact ⟨by rw [Hb.out], rfl⟩
      case rest =>
        obtain ⟨rfl, rfl⟩ := hcut
        clear x0 x1 y0 y1 Hbg Hfg
        go_wp2_with fail
        refine (paths_calls fb dir (begB t) p rs.length pc (finB t) _).mono ?_
        rintro e w3 ⟨rfl, hw3⟩
        obtain ⟨ob, hob⟩ : ∃ ob, ob = w2.heap.size := ⟨_, rfl⟩
        have S3 : Sat w3 (boxesP fb dir (begB t) p rs.length pc (finB t) (ob + 1) * (pts ob (.cells #[.slice none 0 0] 39 (0, 0)) * (rowsA p pc rs * (fsHp fb mb F * R)))) := by
          rw [hw3, hob]
          have := ((((S2.out.alloc (.cells #[.slice none 0 0] 39 (0, 0))).alloc (finO fb dir)).alloc (.cells #[.string (begB t)] 9 (0, 0))).alloc (.cells #[.slice p rs.length pc] 24 (0, 0))).alloc (.cells #[.string (finB t)] 9 (0, 0))
          unfold boxesP strBox rowBox
          simp only [World.size_alloc, Nat.add_assoc, Nat.reduceAdd] at this ⊢
          exact this.perm (by ac_rfl)
        have R3 : Ran w w3 := by rw [hw3]; exact Ran.new (Ran.new (Ran.new (Ran.new (Ran.new R2 _) _) _) _) _
        rw [World.size_alloc, ← hob]
        clear hw3 S2 R2 hob
        go_wp2_with fail
        have hI0 : Sat w3 (OutJ ob [] * (boxesP fb dir (begB t) p rs.length pc (finB t) (ob + 1) * (fsHp fb mb F * (rowsA p pc rs * R)))) := by
          unfold OutJ
          refine Sat.ex_in (none, 0) ?_
          have := S3.nil_arr 9 1
          exact this.perm (by show _ = (pts ob (.cells #[.slice none 0 0] 39 (0, 0)) * arr 9 1 none 0 0 []) * _; ac_rfl)
        have hrne : rs ≠ [] := fun e => by
          have h1 := Hv.out
          rw [← Hrs.out, e] at h1
          cases h1
        have hlc : rs.length ≤ pc := by
          have := (S3.perm (show _ = arr 22 1 p rs.length pc (rs.map rwV) * (all rwA rs * (boxesP fb dir (begB t) p rs.length pc (finB t) (ob + 1) * (pts ob (.cells #[.slice none 0 0] 39 (0, 0)) * (fsHp fb mb F * R)))) by unfold rowsA; ac_rfl)).arr_len
          exact this.2.1
        have hbl := begin_le t
        have hfl := fin_le t
        have hit := paths_iter fb mb N 3 F dir nm ok HF.out (finB t) rs (begB t) p pc (rowsA p pc rs * R) (ob + 1) hrne hlc (fun W S' hS => rows_of (hS.perm (show _ = rowsA p pc rs * (S' * R) by ac_rfl))) HG.out.more (fun x hx => by have := HrL.out x hx; omega) (by omega)
        rw [Hrs.out] at hit
        have hxs : ∀ pre x post, walkO nm ok (finB t) (begB t) (partsL t) = pre ++ x :: post → pre.length ≤ 1000000 := fun pre x post hx => by
          have h1 : (walkO nm ok (finB t) (begB t) (partsL t)).length ≤ 1000000 := HB.out
          rw [hx, List.length_append] at h1
          omega
        have Hxs := Lib.hid hxs
        clear S3 hrne hlc hxs hbl hfl
        refine wp_rangeFunc_sat (n := 3) rfl (enters_of Tryz.func86 (by kernel_rfl) rfl) hit (fun _ => rfl) (OutJ ob) hI0 ?_ ?assign ?body ?done
        case assign =>
          intro l x W K hK
          gi_wp2
          exact hK
        case body =>
          rintro l pre x post S W hx hs
          have hnl9 := Hxs.out pre x post hx
          unfold OutJ at hs
          obtain ⟨⟨q, qc⟩, hs3⟩ := hs.ex_out
          simp only at hs3
          have hobp := (hs3.perm (sep_assoc _ _ _)).get
          obtain ⟨nl, hnl⟩ : ∃ n, n = pre.length := ⟨_, rfl⟩
          have cob : W.cell? ⟨ob, 0, none⟩ = some (.slice q nl qc) := by rw [cell_at hobp, hnl]; rfl
          rw [← hnl] at hnl9
          have hnl8 : nl ≤ 1000000000 := by omega
          have HSB := (hs3.perm (show _ = strO q qc pre * (pts ob (.cells #[.slice q pre.length qc] 39 (0, 0)) * S) by ac_rfl)).old (.cells #[.string x] 9 (0, 0))
          unfold strO at HSB
          rw [← hnl] at HSB
          have RB : Ran W (W.alloc (.cells #[.string x] 9 (0, 0))) := Ran.new (Below.refl _ _) _
          have Hnl := Lib.hid hnl
          clear hs hs3 hobp hnl hx hnl9 hit hI0
          gi_wp2_with (gi_at_builtin; refine appStrIn rfl _ _ rfl q nl qc _ rfl _ rfl HSB (.string x) (blk_new rfl) rfl hnl8 ?_; intro p' cap' w6 HS7 HR7; clear HSB; have hob6 := (HS7.perm (show _ = pts ob (.cells #[.slice q nl qc] 39 (0, 0)) * (arr 9 1 p' (nl + 1) cap' (pre.map Value.string ++ [.string x]) * S) by ac_rfl)); have c6 : w6.cell? ⟨ob, 0, none⟩ = some (.slice q nl qc) := (by rw [cell_at hob6.get]; rfl); have f6 : ∀ i, w6.frozen? ⟨ob, i, none⟩ = false := free_at hob6.get)
          refine ⟨?_, Ran.set (Below.trans RB HR7) _ _⟩
          have h8 := hob6.set (i := 0) (.slice p' (nl + 1) cap')
          unfold OutJ
          refine Sat.ex_in (p', cap') ?_
          have e1 : (pre ++ [x]).length = nl + 1 := by rw [List.length_append, Hnl.out]; rfl
          simp only
          unfold strO
          rw [e1, List.map_append]
          exact h8.perm (by show pts ob (.cells #[.slice p' (nl + 1) cap'] 39 (0, 0)) * _ = _; rw [sep_assoc]; rfl)
        case done =>
          rintro D W hs hr
          clear hI0 hit
          have hof : walkO nm ok (finB t) (begB t) (partsL t) = foundO nm ok t := rfl
          rw [hof] at hs
          obtain ⟨os, hos⟩ : ∃ l, l = foundO nm ok t := ⟨_, rfl⟩
          rw [← hos] at hs
          have hosl : os.length ≤ 1000000 := by rw [hos]; exact HB.out
          have hs2 := hs.perm (show _ = OutJ ob os * (pts D (.deferred (some [])) * (boxesP fb dir (begB t) p rs.length pc (finB t) (ob + 1) * (fsHp fb mb F * (rowsA p pc rs * R)))) by ac_rfl)
          unfold OutJ at hs2
          obtain ⟨⟨q, qc⟩, hs3⟩ := hs2.ex_out
          simp only at hs3
          have hobp := (hs3.perm (sep_assoc _ _ _)).get
          obtain ⟨nl, hnl⟩ : ∃ n, n = os.length := ⟨_, rfl⟩
          have cob : W.cell? ⟨ob, 0, none⟩ = some (.slice q nl qc) := by rw [cell_at hobp, hnl]; rfl
          have HSo := sort_calls os q qc W (pts ob (.cells #[.slice q os.length qc] 39 (0, 0)) * (pts D (.deferred (some [])) * (boxesP fb dir (begB t) p rs.length pc (finB t) (ob + 1) * (fsHp fb mb F * (rowsA p pc rs * R))))) (hs3.perm (by ac_rfl)) (by omega)
          rw [← hnl] at HSo
          have HSo := Lib.hid HSo
          have R4 := Below.trans R3 hr
          have Hos := Lib.hid hos
          have Hnl := Lib.hid hnl
          have hnlI : (nl : Int) ≤ 1000000 := by omega
          clear hs hs2 hs3 hobp hos hnl hr hof R3
          go_wp2_with fail
          refine HSo.out.mono ?_
          rintro e w5 ⟨⟨rfl, S5⟩, R5⟩
          have R6 := Below.trans R4 R5
          have cob5 : w5.cell? ⟨ob, 0, none⟩ = some (.slice q nl qc) := by rw [cell_at S5.right.get]; rfl
          clear HSo R4 R5 cob
          by_cases hz : nl = 0
          · have hzI : (nl : Int) = 0 := by omega
            have hos0 : foundO nm ok t = [] := by
              rw [← Hos.out]
              exact List.eq_nil_of_length_eq_zero (by rw [← Hnl.out]; exact hz)
            have hex : expandO nm ok t = [plainB t] := by unfold expandO; rw [if_neg (by rw [← Hv.out]; decide), if_pos hos0]
            have hC5 := Hrd.out w5 (strO q qc (os.mergeSort leS) * (pts ob (.cells #[.slice q nl qc] 39 (0, 0)) * (pts D (.deferred (some [])) * (boxesP fb dir (begB t) p rs.length pc (finB t) (ob + 1) * (fsHp fb mb F * rowsA p pc rs))))) (S5.perm (by ac_rfl))
            have HPl := Lib.hid (plain_calls t _ cap w5 hC5 (by omega))
            have Hex := Lib.hid hex
            have S5 := Lib.hid S5
            clear hex hC5 hos0 hz
            go_wp2_with fail
            refine HPl.out.mono ?_
            rintro e w6 ⟨rfl, B6⟩
            have S7 := one_str (s := plainB t) (S5.out.below B6)
            have R7 := Ran.new (Below.trans R6 (B6.mono (Nat.zero_le _))) (.cells #[.string (plainB t)] 9 (0, 0))
            have S8 := S7.perm (show _ = pts D (.deferred (some [])) * (strO q qc (os.mergeSort leS) * (pts ob (.cells #[.slice q nl qc] 39 (0, 0)) * (boxesP fb dir (begB t) p rs.length pc (finB t) (ob + 1) * (rowsA p pc rs * (strO (some ⟨w6.heap.size, 0, none⟩) 1 [plainB t] * (fsHp fb mb F * R)))))) by ac_rfl)
            have hK := S8.get
            have S9 := Lib.hid ((((((S8.putObj (.deferred none)).right).right).right).right).right)
            clear S7 S8 B6 HPl S5
            go_wp2_with fail
            (try simp only [Exit.inBlock, Exit.then])
            refine marks_out rfl hK (results_tmp rfl _ _ _) ?_
            refine ⟨?_, Ran.putObj R7 _ _⟩
            rw [Hex.out]
            exact ⟨_, _, rfl, S9.out⟩
          · have hzI : ¬ (nl : Int) = 0 := by omega
            have hzb : ((nl : Int) == 0) = false := by simpa using hzI
            have hos0 : ¬ foundO nm ok t = [] := fun e => by
              rw [← Hos.out] at e
              rw [e] at Hnl
              exact hz Hnl.out
            have hex : expandO nm ok t = os.mergeSort leS := by unfold expandO; rw [if_neg (by rw [← Hv.out]; decide), if_neg hos0, Hos.out]
            have Hex := Lib.hid hex
            have S8 := S5.perm (show _ = pts D (.deferred (some [])) * (pts ob (.cells #[.slice q nl qc] 39 (0, 0)) * (boxesP fb dir (begB t) p rs.length pc (finB t) (ob + 1) * (rowsA p pc rs * (strO q qc (os.mergeSort leS) * (fsHp fb mb F * R))))) by ac_rfl)
            have hK := S8.get
            have S9 := Lib.hid (((((S8.putObj (.deferred none)).right).right).right).right)
            clear S5 S8 hos0 hex hz
            go_wp2_with fail
            (try simp only [Exit.inBlock, Exit.then])
            refine marks_out rfl hK (results_tmp rfl _ _ _) ?_
            refine ⟨?_, Ran.putObj R6 _ _⟩
            rw [Hex.out]
            exact ⟨q, qc, by rw [List.length_mergeSort, ← Hnl.out]; rfl, S9.out⟩
end Go.Proofs.YtndjgeohkfenfaaGreatDoor.Globs

namespace Go.Proofs.YtndjgeohkfenfaaGreatDoor.Hd
open Go.RowKit Go.Maps Go.Proofs.YtndjgeohkfenfaaGreatDoor Go.Proofs.YtndjgeohkfenfaaGreatDoor.Hp
set_option linter.unusedVariables false
attribute [local go_sem] Oper.semAt_some

def namesOf (F : Fs) (k : Int) : Int := match find F.L k with
  | none => 0
  | some x => x.names
def placeQ (F : Fs) (dir : Int) (part : ByteArray) (st : Bool) (er k : Int) : Int × ByteArray × Int :=
  if er ≠ 0 then (0, ⟨#[]⟩, er)
  else if dir ≠ 1 ∧ namesOf F dir = 0 then (0, ⟨#[]⟩, 10)
  else if part.size = 0 ∨ part = dotB ∨ part = dotsB then (0, ⟨#[]⟩, 11)
  else if (stepP F dir part).2 = 0 then (0, ⟨#[]⟩, 11)
  else if (stepP F dir part).2 ≠ 10 then (0, ⟨#[]⟩, (stepP F dir part).2)
  else if st = true ∧ k ≠ 1 then (0, ⟨#[]⟩, 12)
  else (dir, part, 0)
/-- Where a new name may stand. -/
def placeP (F : Fs) (d : Int) (s : ByteArray) (k : Int) : Int × ByteArray × Int := placeQ F (lastP F d s).1 (lastP F d s).2.1 (lastP F d s).2.2.1 (lastP F d s).2.2.2 k
set_option maxRecDepth 100000 in
set_option maxHeartbeats 8000000 in
theorem placeN_calls (fb mb N : Nat) (F : Fs) (hT : TreeG N F) (hN : N ≤ 1000000) (d : Int) (s : ByteArray) (k : Int) (w : World) (R : Hp) (hd : I64 d) (hs : s.size ≤ 1000000) (hG : Glob R) (h : Sat w (fsHp fb mb F * R)) :
    Calls Tryz.prog 55 #[pp fb, .int .i64 d, .string s, .int .i64 k] w fun e w' => (e = .returned (.tuple #[.int .i64 (placeP F d s k).1, .string (placeP F d s k).2.1, .int .i64 (placeP F d s k).2.2]) ∧ Sat w' (fsHp fb mb F * R)) ∧ Ran w w' := by
  have HL := lastN_calls fb mb F (hT.ok hN) hT.nums d s w R hd hs hG h
  have hps := last_part F d s
  have hin := @TreeG.last_in N F hT d s
  have hi := last_i64 hT.nums hd s
  unfold placeP
  obtain ⟨dir, hdir⟩ : ∃ x, x = (lastP F d s).1 := ⟨_, rfl⟩
  obtain ⟨part, hpart⟩ : ∃ x, x = (lastP F d s).2.1 := ⟨_, rfl⟩
  obtain ⟨st, hst⟩ : ∃ x, x = (lastP F d s).2.2.1 := ⟨_, rfl⟩
  obtain ⟨er, her⟩ : ∃ x, x = (lastP F d s).2.2.2 := ⟨_, rfl⟩
  rw [← hdir, ← hpart, ← hst, ← her] at HL ⊢
  rw [← hdir, ← her] at hin
  rw [← hdir] at hi
  rw [← hpart] at hps
  clear hdir hpart hst her h hd hG hN hT
  unfold placeQ
  by_cases hz : er ≠ 0
  · rw [if_pos hz]
    have HL := Lib.hid HL
    clear hin hi hps
    go_enter Tryz.func55, Tryz.ntmps55
    go_wp2_with fail
    refine HL.out.mono ?_
    rintro e w1 ⟨⟨rfl, S1⟩, R1⟩
    have S1 := Lib.hid S1
    have R1 := Lib.hid R1
    go_wp2_with fail
    refine bodyPost_ret (v := .tuple #[.int .i64 0, .string ⟨#[]⟩, .int .i64 er]) (by simp [results, Tryz.results55, go_sem]) rfl ?_
    exact ⟨⟨rfl, S1.out⟩, R1.out⟩
  have hz : er = 0 := by simpa using hz
  subst hz
  rw [if_neg (fun h => h rfl)]
  obtain ⟨y, hy⟩ := hin rfl
  have HL := Lib.hid HL
  have hps : part.size ≤ 1000000 := Nat.le_trans hps hs
  have HS0 := fun (W : World) (hW : Sat W (fsHp fb mb F * R)) => stepN_calls fb mb F dir part hi hps W R hW
  unfold namesOf
  rw [hy]
  dsimp only
  obtain ⟨n, hn⟩ : ∃ x, x = (stepP F dir part).1 := ⟨_, rfl⟩
  obtain ⟨q, hq⟩ : ∃ x, x = (stepP F dir part).2 := ⟨_, rfl⟩
  rw [← hn, ← hq] at HS0
  rw [← hq]
  have HS := Lib.hid HS0
  clear hn hq HS0 hin hs
  have Hy := Lib.hid hy
  have Hi := Lib.hid hi
  clear hy hi
  by_cases hd1 : dir = 1
  · subst hd1
    rw [if_neg (fun h => h.1 rfl)]
    clear Hy Hi
    by_cases hp0 : part = ⟨#[]⟩
    · subst hp0
      rw [if_pos (Or.inl (show (⟨#[]⟩ : ByteArray).size = 0 from rfl))]
      clear HS hps
      go_enter Tryz.func55, Tryz.ntmps55
      go_wp2_with fail
      refine HL.out.mono ?_
      rintro e w1 ⟨⟨rfl, S1⟩, R1⟩
      have S1 := Lib.hid S1
      have R1 := Lib.hid R1
      go_wp2_with fail
      refine bodyPost_ret (v := .tuple #[.int .i64 0, .string ⟨#[]⟩, .int .i64 11]) (by simp [results, Tryz.results55, go_sem]) rfl ?_
      exact ⟨⟨rfl, S1.out⟩, R1.out⟩
    by_cases hp1 : part = dotB
    · subst hp1
      rw [if_pos (Or.inr (Or.inl rfl))]
      clear HS hps
      go_enter Tryz.func55, Tryz.ntmps55
      go_wp2_with fail
      refine HL.out.mono ?_
      rintro e w1 ⟨⟨rfl, S1⟩, R1⟩
      have S1 := Lib.hid S1
      have R1 := Lib.hid R1
      go_wp2_with fail
      refine bodyPost_ret (v := .tuple #[.int .i64 0, .string ⟨#[]⟩, .int .i64 11]) (by simp [results, Tryz.results55, go_sem]) rfl ?_
      exact ⟨⟨rfl, S1.out⟩, R1.out⟩
    by_cases hp2 : part = dotsB
    · subst hp2
      rw [if_pos (Or.inr (Or.inr rfl))]
      clear HS hps
      go_enter Tryz.func55, Tryz.ntmps55
      go_wp2_with fail
      refine HL.out.mono ?_
      rintro e w1 ⟨⟨rfl, S1⟩, R1⟩
      have S1 := Lib.hid S1
      have R1 := Lib.hid R1
      go_wp2_with fail
      refine bodyPost_ret (v := .tuple #[.int .i64 0, .string ⟨#[]⟩, .int .i64 11]) (by simp [results, Tryz.results55, go_sem]) rfl ?_
      exact ⟨⟨rfl, S1.out⟩, R1.out⟩
    rw [if_neg (fun h => h.elim (fun e => hp0 (ba_nil e)) fun h => h.elim hp1 hp2)]
    have e0 := ba_ne hp0
    have e1 := ba_ne hp1
    have e2 := ba_ne hp2
    rw [show (ByteArray.toList ⟨#[]⟩) = ([] : List UInt8) by rw [ByteArray.toList_eq]] at e0
    rw [show (ByteArray.toList dotB) = ([46] : List UInt8) by rw [ByteArray.toList_eq]] at e1
    rw [show (ByteArray.toList dotsB) = ([46, 46] : List UInt8) by rw [ByteArray.toList_eq]] at e2
    clear hp0 hp1 hp2
    by_cases hq0 : q = 0
    · subst hq0
      rw [if_pos rfl]
      go_enter Tryz.func55, Tryz.ntmps55
      go_wp2_with fail
      refine HL.out.mono ?_
      rintro e w1 ⟨⟨rfl, S1⟩, R1⟩
      have S1 := Lib.hid S1
      have R1 := Lib.hid R1
      go_wp2_with fail
      refine (HS.out w1 S1.out).mono ?_
      rintro e w2 ⟨rfl, rfl⟩
      go_wp2_with fail
      refine bodyPost_ret (v := .tuple #[.int .i64 0, .string ⟨#[]⟩, .int .i64 11]) (by simp [results, Tryz.results55, go_sem]) rfl ?_
      exact ⟨⟨rfl, S1.out⟩, R1.out⟩
    rw [if_neg hq0]
    by_cases hq1 : q = 10
    case neg =>
      rw [if_pos hq1]
      go_enter Tryz.func55, Tryz.ntmps55
      go_wp2_with fail
      refine HL.out.mono ?_
      rintro e w1 ⟨⟨rfl, S1⟩, R1⟩
      have S1 := Lib.hid S1
      have R1 := Lib.hid R1
      go_wp2_with fail
      refine (HS.out w1 S1.out).mono ?_
      rintro e w2 ⟨rfl, rfl⟩
      go_wp2_with fail
      refine bodyPost_ret (v := .tuple #[.int .i64 0, .string ⟨#[]⟩, .int .i64 q]) (by simp [results, Tryz.results55, go_sem]) rfl ?_
      exact ⟨⟨rfl, S1.out⟩, R1.out⟩
    subst hq1
    rw [if_neg (fun h => h rfl)]
    cases st with
    | false =>
      rw [if_neg (fun h => by cases h.1)]
      go_enter Tryz.func55, Tryz.ntmps55
      go_wp2_with fail
      refine HL.out.mono ?_
      rintro e w1 ⟨⟨rfl, S1⟩, R1⟩
      have S1 := Lib.hid S1
      have R1 := Lib.hid R1
      go_wp2_with fail
      refine (HS.out w1 S1.out).mono ?_
      rintro e w2 ⟨rfl, rfl⟩
      go_wp2_with fail
      refine bodyPost_ret (v := .tuple #[.int .i64 1, .string part, .int .i64 0]) (by simp [results, Tryz.results55, go_sem]) rfl ?_
      exact ⟨⟨rfl, S1.out⟩, R1.out⟩
    | true =>
      by_cases hk : k = 1
      · subst hk
        rw [if_neg (fun h => h.2 rfl)]
        go_enter Tryz.func55, Tryz.ntmps55
        go_wp2_with fail
        refine HL.out.mono ?_
        rintro e w1 ⟨⟨rfl, S1⟩, R1⟩
        have S1 := Lib.hid S1
        have R1 := Lib.hid R1
        go_wp2_with fail
        refine (HS.out w1 S1.out).mono ?_
        rintro e w2 ⟨rfl, rfl⟩
        go_wp2_with fail
        refine bodyPost_ret (v := .tuple #[.int .i64 1, .string part, .int .i64 0]) (by simp [results, Tryz.results55, go_sem]) rfl ?_
        exact ⟨⟨rfl, S1.out⟩, R1.out⟩
      · rw [if_pos ⟨rfl, hk⟩]
        go_enter Tryz.func55, Tryz.ntmps55
        go_wp2_with fail
        refine HL.out.mono ?_
        rintro e w1 ⟨⟨rfl, S1⟩, R1⟩
        have S1 := Lib.hid S1
        have R1 := Lib.hid R1
        go_wp2_with fail
        refine (HS.out w1 S1.out).mono ?_
        rintro e w2 ⟨rfl, rfl⟩
        go_wp2_with fail
        refine bodyPost_ret (v := .tuple #[.int .i64 0, .string ⟨#[]⟩, .int .i64 12]) (by simp [results, Tryz.results55, go_sem]) rfl ?_
        exact ⟨⟨rfl, S1.out⟩, R1.out⟩
  · have hd1b : (dir == 1) = false := by simpa using hd1
    by_cases hn0 : y.names = 0
    · rw [if_pos ⟨hd1, hn0⟩]
      have hn0b : (y.names == 0) = true := by simpa using hn0
      clear HS hps
      go_enter Tryz.func55, Tryz.ntmps55
      go_wp2_with fail
      refine HL.out.mono ?_
      rintro e w1 ⟨⟨rfl, S1⟩, R1⟩
      obtain ⟨c0, c1, c2, c3⟩ := fs_cells S1
      have hl := fs_look S1 dir Hi.out
      rw [show blk F.L dir = some y.b by unfold blk; rw [Hy.out]; rfl] at hl
      unfold pv at hl
      obtain ⟨d0, d1, d2, d3, d4, d5⟩ := fs_at S1 Hy.out
      rw [hn0] at d4
      have S1 := Lib.hid S1
      have R1 := Lib.hid R1
      go_wp2_with fail
      refine bodyPost_ret (v := .tuple #[.int .i64 0, .string ⟨#[]⟩, .int .i64 10]) (by simp [results, Tryz.results55, go_sem]) rfl ?_
      exact ⟨⟨rfl, S1.out⟩, R1.out⟩
    · rw [if_neg (fun h => hn0 h.2)]
      have hn0b : (y.names == 0) = false := by simpa using hn0
      by_cases hp0 : part = ⟨#[]⟩
      · subst hp0
        rw [if_pos (Or.inl (show (⟨#[]⟩ : ByteArray).size = 0 from rfl))]
        clear HS hps
        go_enter Tryz.func55, Tryz.ntmps55
        go_wp2_with fail
        refine HL.out.mono ?_
        rintro e w1 ⟨⟨rfl, S1⟩, R1⟩
        obtain ⟨c0, c1, c2, c3⟩ := fs_cells S1
        have hl := fs_look S1 dir Hi.out
        rw [show blk F.L dir = some y.b by unfold blk; rw [Hy.out]; rfl] at hl
        unfold pv at hl
        obtain ⟨d0, d1, d2, d3, d4, d5⟩ := fs_at S1 Hy.out
        have S1 := Lib.hid S1
        have R1 := Lib.hid R1
        go_wp2_with fail
        refine bodyPost_ret (v := .tuple #[.int .i64 0, .string ⟨#[]⟩, .int .i64 11]) (by simp [results, Tryz.results55, go_sem]) rfl ?_
        exact ⟨⟨rfl, S1.out⟩, R1.out⟩
      by_cases hp1 : part = dotB
      · subst hp1
        rw [if_pos (Or.inr (Or.inl rfl))]
        clear HS hps
        go_enter Tryz.func55, Tryz.ntmps55
        go_wp2_with fail
        refine HL.out.mono ?_
        rintro e w1 ⟨⟨rfl, S1⟩, R1⟩
        obtain ⟨c0, c1, c2, c3⟩ := fs_cells S1
        have hl := fs_look S1 dir Hi.out
        rw [show blk F.L dir = some y.b by unfold blk; rw [Hy.out]; rfl] at hl
        unfold pv at hl
        obtain ⟨d0, d1, d2, d3, d4, d5⟩ := fs_at S1 Hy.out
        have S1 := Lib.hid S1
        have R1 := Lib.hid R1
        go_wp2_with fail
        refine bodyPost_ret (v := .tuple #[.int .i64 0, .string ⟨#[]⟩, .int .i64 11]) (by simp [results, Tryz.results55, go_sem]) rfl ?_
        exact ⟨⟨rfl, S1.out⟩, R1.out⟩
      by_cases hp2 : part = dotsB
      · subst hp2
        rw [if_pos (Or.inr (Or.inr rfl))]
        clear HS hps
        go_enter Tryz.func55, Tryz.ntmps55
        go_wp2_with fail
        refine HL.out.mono ?_
        rintro e w1 ⟨⟨rfl, S1⟩, R1⟩
        obtain ⟨c0, c1, c2, c3⟩ := fs_cells S1
        have hl := fs_look S1 dir Hi.out
        rw [show blk F.L dir = some y.b by unfold blk; rw [Hy.out]; rfl] at hl
        unfold pv at hl
        obtain ⟨d0, d1, d2, d3, d4, d5⟩ := fs_at S1 Hy.out
        have S1 := Lib.hid S1
        have R1 := Lib.hid R1
        go_wp2_with fail
        refine bodyPost_ret (v := .tuple #[.int .i64 0, .string ⟨#[]⟩, .int .i64 11]) (by simp [results, Tryz.results55, go_sem]) rfl ?_
        exact ⟨⟨rfl, S1.out⟩, R1.out⟩
      rw [if_neg (fun h => h.elim (fun e => hp0 (ba_nil e)) fun h => h.elim hp1 hp2)]
      have e0 := ba_ne hp0
      have e1 := ba_ne hp1
      have e2 := ba_ne hp2
      rw [show (ByteArray.toList ⟨#[]⟩) = ([] : List UInt8) by rw [ByteArray.toList_eq]] at e0
      rw [show (ByteArray.toList dotB) = ([46] : List UInt8) by rw [ByteArray.toList_eq]] at e1
      rw [show (ByteArray.toList dotsB) = ([46, 46] : List UInt8) by rw [ByteArray.toList_eq]] at e2
      clear hp0 hp1 hp2
      by_cases hq0 : q = 0
      · subst hq0
        rw [if_pos rfl]
        go_enter Tryz.func55, Tryz.ntmps55
        go_wp2_with fail
        refine HL.out.mono ?_
        rintro e w1 ⟨⟨rfl, S1⟩, R1⟩
        obtain ⟨c0, c1, c2, c3⟩ := fs_cells S1
        have hl := fs_look S1 dir Hi.out
        rw [show blk F.L dir = some y.b by unfold blk; rw [Hy.out]; rfl] at hl
        unfold pv at hl
        obtain ⟨d0, d1, d2, d3, d4, d5⟩ := fs_at S1 Hy.out
        have S1 := Lib.hid S1
        have R1 := Lib.hid R1
        go_wp2_with fail
        refine (HS.out w1 S1.out).mono ?_
        rintro e w2 ⟨rfl, rfl⟩
        go_wp2_with fail
        refine bodyPost_ret (v := .tuple #[.int .i64 0, .string ⟨#[]⟩, .int .i64 11]) (by simp [results, Tryz.results55, go_sem]) rfl ?_
        exact ⟨⟨rfl, S1.out⟩, R1.out⟩
      rw [if_neg hq0]
      by_cases hq1 : q = 10
      case neg =>
        rw [if_pos hq1]
        go_enter Tryz.func55, Tryz.ntmps55
        go_wp2_with fail
        refine HL.out.mono ?_
        rintro e w1 ⟨⟨rfl, S1⟩, R1⟩
        obtain ⟨c0, c1, c2, c3⟩ := fs_cells S1
        have hl := fs_look S1 dir Hi.out
        rw [show blk F.L dir = some y.b by unfold blk; rw [Hy.out]; rfl] at hl
        unfold pv at hl
        obtain ⟨d0, d1, d2, d3, d4, d5⟩ := fs_at S1 Hy.out
        have S1 := Lib.hid S1
        have R1 := Lib.hid R1
        go_wp2_with fail
        refine (HS.out w1 S1.out).mono ?_
        rintro e w2 ⟨rfl, rfl⟩
        go_wp2_with fail
        refine bodyPost_ret (v := .tuple #[.int .i64 0, .string ⟨#[]⟩, .int .i64 q]) (by simp [results, Tryz.results55, go_sem]) rfl ?_
        exact ⟨⟨rfl, S1.out⟩, R1.out⟩
      subst hq1
      rw [if_neg (fun h => h rfl)]
      cases st with
      | false =>
        rw [if_neg (fun h => by cases h.1)]
        go_enter Tryz.func55, Tryz.ntmps55
        go_wp2_with fail
        refine HL.out.mono ?_
        rintro e w1 ⟨⟨rfl, S1⟩, R1⟩
        obtain ⟨c0, c1, c2, c3⟩ := fs_cells S1
        have hl := fs_look S1 dir Hi.out
        rw [show blk F.L dir = some y.b by unfold blk; rw [Hy.out]; rfl] at hl
        unfold pv at hl
        obtain ⟨d0, d1, d2, d3, d4, d5⟩ := fs_at S1 Hy.out
        have S1 := Lib.hid S1
        have R1 := Lib.hid R1
        go_wp2_with fail
        refine (HS.out w1 S1.out).mono ?_
        rintro e w2 ⟨rfl, rfl⟩
        go_wp2_with fail
        refine bodyPost_ret (v := .tuple #[.int .i64 dir, .string part, .int .i64 0]) (by simp [results, Tryz.results55, go_sem]) rfl ?_
        exact ⟨⟨rfl, S1.out⟩, R1.out⟩
      | true =>
        by_cases hk : k = 1
        · subst hk
          rw [if_neg (fun h => h.2 rfl)]
          go_enter Tryz.func55, Tryz.ntmps55
          go_wp2_with fail
          refine HL.out.mono ?_
          rintro e w1 ⟨⟨rfl, S1⟩, R1⟩
          obtain ⟨c0, c1, c2, c3⟩ := fs_cells S1
          have hl := fs_look S1 dir Hi.out
          rw [show blk F.L dir = some y.b by unfold blk; rw [Hy.out]; rfl] at hl
          unfold pv at hl
          obtain ⟨d0, d1, d2, d3, d4, d5⟩ := fs_at S1 Hy.out
          have S1 := Lib.hid S1
          have R1 := Lib.hid R1
          go_wp2_with fail
          refine (HS.out w1 S1.out).mono ?_
          rintro e w2 ⟨rfl, rfl⟩
          go_wp2_with fail
          refine bodyPost_ret (v := .tuple #[.int .i64 dir, .string part, .int .i64 0]) (by simp [results, Tryz.results55, go_sem]) rfl ?_
          exact ⟨⟨rfl, S1.out⟩, R1.out⟩
        · rw [if_pos ⟨rfl, hk⟩]
          go_enter Tryz.func55, Tryz.ntmps55
          go_wp2_with fail
          refine HL.out.mono ?_
          rintro e w1 ⟨⟨rfl, S1⟩, R1⟩
          obtain ⟨c0, c1, c2, c3⟩ := fs_cells S1
          have hl := fs_look S1 dir Hi.out
          rw [show blk F.L dir = some y.b by unfold blk; rw [Hy.out]; rfl] at hl
          unfold pv at hl
          obtain ⟨d0, d1, d2, d3, d4, d5⟩ := fs_at S1 Hy.out
          have S1 := Lib.hid S1
          have R1 := Lib.hid R1
          go_wp2_with fail
          refine (HS.out w1 S1.out).mono ?_
          rintro e w2 ⟨rfl, rfl⟩
          go_wp2_with fail
          refine bodyPost_ret (v := .tuple #[.int .i64 0, .string ⟨#[]⟩, .int .i64 12]) (by simp [results, Tryz.results55, go_sem]) rfl ?_
          exact ⟨⟨rfl, S1.out⟩, R1.out⟩
end Go.Proofs.YtndjgeohkfenfaaGreatDoor.Hd

