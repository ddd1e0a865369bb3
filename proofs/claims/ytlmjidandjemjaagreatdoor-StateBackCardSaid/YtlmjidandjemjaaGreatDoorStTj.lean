/- Environ, Enter walked. -/
import Derived.Test.YtlmjidandjemjaaGreatDoorStTi
import Derived.Test.YtlmjidandjemjaaGreatDoorStTd
import Derived.Laws.Concat
namespace Go.Proofs.YtlmjidandjemjaaGreatDoor.State
open Go.RowKit Go.Proofs.YtlmjidandjemjaaGreatDoor Go.Proofs.YtlmjidandjemjaaGreatDoor.Hp Go.Proofs.YtlmjidandjemjaaGreatDoor.Undo
set_option linter.unusedVariables false
attribute [local go_sem] Oper.semAt_some

theorem appStr {w : World} {H : Hp} {ops : Array Oper} {rest : List Oper} {o : Oper} {a : Act} {Q : Exit → Act → World → Prop} (hgd : o.guard = none) (s x : Operand)
    (ho : o.op = .call { callee := .builtin .append, args := #[s, x], argTypes := #[22, 22] })
    (p : Option Addr) (n cap : Nat) (xs : List Value) (hp : a.eval s = .slice p n cap) (b : Nat) (hvx : a.eval x = .slice (some ⟨b, 0, none⟩) 1 1) (h : Sat w (arr 9 1 p n cap xs * H)) (v : Value) (hb : w.heap[b]? = some (.cells #[v] 9 (0, 0))) (h0 : v.oneCell' = true) (hn : n ≤ 1000000000)
    (hk : ∀ p' cap' w', Sat w' (arr 9 1 p' (n + 1) cap' (xs ++ [v]) * H) → Ran w w' → wpList Tryz.prog ops Q rest (a.put o.dst (.slice p' (n + 1) cap')) w') : wpList Tryz.prog ops Q (o :: rest) a w := by
  obtain ⟨i0, hi, hz0, hz1, hz2⟩ := info_parts infoStr
  refine wpList_append_arr hgd s x _ _ ho 9 i0 _ 1 16 Tryz.underlying22 hi hz0 hz1 hz2 rfl p n cap xs hp h _ hvx 1 [v] (Src.ofSlice w Tryz.underlying22 ⟨b, 0, none⟩ 1 1 [v] (by rw [hz1]; rfl) ?_ (by simp [h0])) (by omega) (by unfold maxLen; omega) (fun p' cap' w' h1 h2 _ => hk p' cap' w' h1 h2)
  intro j u hj
  rw [Addr.add_lit, Nat.zero_add, cell_at hb, ← hj]
  simp
abbrev eqS : ByteArray := ⟨#[61]⟩
/-- What is exported, of the names that are given. -/
def envL (s : Pst) : List ByteArray → List ByteArray
  | [] => []
  | k :: ks => if ((s.var k).exp && (s.var k).set) = true then ((k ++ eqS) ++ (s.var k).val) :: envL s ks else envL s ks
theorem envL_len (s : Pst) (ks : List ByteArray) : (envL s ks).length ≤ ks.length := by
  induction ks with
  | nil => exact Nat.le_refl _
  | cons k ks ih =>
    unfold envL
    by_cases h : ((s.var k).exp && (s.var k).set) = true
    · rw [if_pos h]; simp; exact ih
    · rw [if_neg h]; simp; omega
theorem envL_snoc (s : Pst) (ks : List ByteArray) (k : ByteArray) : envL s (ks ++ [k]) = envL s ks ++ envL s [k] := by
  induction ks with
  | nil => rfl
  | cons x ks ih =>
    show envL s (x :: (ks ++ [k])) = _
    unfold envL
    by_cases h : ((s.var x).exp && (s.var x).set) = true
    · rw [if_pos h, if_pos h, ih]; rfl
    · rw [if_neg h, if_neg h, ih]; rfl
/-- Variables that are not too great. -/
def VOk (s : Pst) : Prop := ∀ k, (s.V k).isSome = true → k.size ≤ 1000000 ∧ (s.var k).val.size ≤ 1000000
def EnvSays (K : Ctx) (n : Now) (R : Hp) (e : Ending) (w' : World) : Prop :=
  ∃ p cap ks, e = .returned (.slice p (envL n.s ks).length cap) ∧ KeysOf n.s.V ks ∧ SAt K w' n (arr 9 1 p (envL n.s ks).length cap ((envL n.s ks).map sv) * R)
def EnRel (K : Ctx) (n : Now) (R : Hp) (ks : List ByteArray) (q : Option Addr) (qc : Nat) (w : World) (g : Nat) (v3 v5 v6 v10 : Value) (wr : World) : Prop :=
  ∃ (i : Nat) (p : Option Addr) (cap : Nat), v10 = .int .i64 (i : Int) ∧ i + g = ks.length ∧ v3 = .slice p (envL n.s (ks.take i)).length cap ∧
    SAt K wr n (arr 9 1 p (envL n.s (ks.take i)).length cap ((envL n.s (ks.take i)).map sv) * (arr 9 1 q ks.length qc (ks.map sv) * R)) ∧ Ran w wr
set_option maxRecDepth 100000 in
set_option maxHeartbeats 8000000 in
theorem Environ_calls (K : Ctx) (n : Now) (w : World) (R : Hp) (hN : n.N ≤ 1000000) (hV : VOk n.s) (h : SAt K w n R) :
    Calls Tryz.prog 35 #[pp K.sb] w fun e w' => EnvSays K n R e w' ∧ Ran w w' := by
  have HNm := Lib.hid (Names_calls K n w R hN h)
  have HV := Lib.hid hV
  clear h hV hN
  go_enter Tryz.func35, Tryz.ntmps35
  go_wp2_with fail
  refine HNm.out.mono ?_
  rintro e w1 ⟨⟨q, qc, ks, rfl, hk, hkl6, HS⟩, hB⟩
  have Hk := Lib.hid hk
  have hkl : ks.length ≤ 9223372036854775807 := by
    have := HS.rest.arr_len.2
    unfold maxLen at this
    omega
  have hklI : (ks.length : Int) ≤ 9223372036854775807 := by omega
  have Hk6 := Lib.hid hkl6
  have HS0 := Lib.hid HS
  have R1 := Lib.hid (hB.mono (Nat.zero_le _) : Ran w w1)
  clear hk HS hB HNm hkl hkl6
  go_wp2_with fail
  go_loopg [3, 5, 6, 10] (ks.length) (EnRel K n R ks q qc w)
  case atStart =>
    refine ⟨0, none, 0, rfl, by omega, rfl, ?_, R1.out⟩
    obtain ⟨X, h1, h2⟩ := HS0.out.frame
    exact h2 _ _ ((h1.nil_arr 9 1).perm (by show arr 9 1 none 0 0 [] * _ = X * (arr 9 1 none 0 0 [] * _); ac_rfl))
  case round =>
    obtain ⟨i, p, cap, rfl, hg, rfl, HSi, HR⟩ := hrel
    clear HS0 R1
    by_cases hlt : i < ks.length
    · have hltI : (i : Int) < ks.length := by omega
      have hi0 : (0 : Int) ≤ i := by omega
      obtain ⟨x, hx⟩ : ∃ x, x = ks[i] := ⟨_, rfl⟩
      have htk : ks.take (i + 1) = ks.take i ++ [x] := by rw [hx]; exact List.take_succ_eq_append_getElem hlt
      have hks := (Hk.out.2 x).1 (by rw [hx]; exact List.getElem_mem hlt)
      obtain ⟨hxs, hvs⟩ := HV.out x hks
      obtain ⟨qb, qo, hq⟩ := (HSi.rest.right).arr_addr (by have := HSi.rest.right.arr_len; omega)
      subst hq
      have hci : wr.cell? ⟨qb, qo + i, none⟩ = some (.string x) := by
        rw [HSi.rest.right.arr_cell i (by rw [List.length_map]; exact hlt), List.getElem_map, hx]
      have HVr := Lib.hid (Var_calls K n x wr _ (by unfold maxLen; omega) HSi)
      obtain ⟨v, hv⟩ : ∃ v, v = n.s.var x := ⟨_, rfl⟩
      rw [← hv] at HVr hvs
      have hel : envL n.s [x] = if (v.exp && v.set) = true then [(x ++ eqS) ++ v.val] else [] := by rw [hv]; rfl
      have hll := envL_len n.s (ks.take i)
      rw [List.length_take] at hll
      have Hli : Hid (Sat wr (arr 9 1 p (envL n.s (ks.take i)).length cap ((envL n.s (ks.take i)).map sv) * (arr 9 1 (some ⟨qb, qo, none⟩) ks.length qc (ks.map sv) * R))) := Lib.hid HSi.rest
      obtain ⟨l, hl⟩ : ∃ l, l = envL n.s (ks.take i) := ⟨_, rfl⟩
      have htl : envL n.s (ks.take (i + 1)) = l ++ (if (v.exp && v.set) = true then [(x ++ eqS) ++ v.val] else []) := by rw [htk, envL_snoc, hel, hl]
      rw [← hl] at HSi hll ⊢
      have HT := Lib.hid htl
      have HRi := Lib.hid HR
      have hlen : l.length ≤ 1000000000 := by have := Hk6.out; omega
      have hadd1 : ∀ W : World, (Op.stringOp .add x ⟨#[61]⟩).run Tryz.prog W = .ok (.string (x ++ eqS)) W := fun W => run_string_add_sum (P := Tryz.prog) W x eqS (by show x.size + 1 ≤ _; omega)
      have hadd2 : ∀ W : World, (Op.stringOp .add (x ++ eqS) v.val).run Tryz.prog W = .ok (.string (x ++ eqS ++ v.val)) W := fun W => run_string_add_sum (P := Tryz.prog) W (x ++ eqS) v.val (by rw [ByteArray.size_append]; show x.size + 1 + _ ≤ _; omega)
      have HSi0 := Lib.hid HSi
      clear hx htk hks hv hel hl htl HSi HR Hli hll
      generalize hy : x ++ eqS = y at hadd1 hadd2 HT
      generalize hz : y ++ v.val = z at hadd2 HT
      clear hy hz
      cases hvx : v.exp with
      | false =>
        rw [hvx] at HVr
        have hT := HT.out
        rw [hvx, Bool.false_and, if_neg (by decide), List.append_nil] at hT
        have HT := Lib.hid hT
        clear hvx hT hadd1 hadd2
        go_wp2_with fail
        refine HVr.out.mono ?_
        rintro e w2 ⟨rfl, hB2⟩
        have HS2 := Lib.hid ((HSi0.out.below hB2).alloc (VM.boxO ⟨v.val, v.set, false, v.fix⟩)).right
        have R2 := Lib.hid (Below.trans HRi.out (Ran.new (hB2.mono (Nat.zero_le _)) (VM.boxO ⟨v.val, v.set, false, v.fix⟩)))
        clear hB2 hci HVr
        go_wp2_with fail
        go_roundg (gk - 1)
        case rel => exact ⟨i + 1, p, cap, by simp, by omega, by rw [HT.out], by rw [HT.out]; exact HS2.out, R2.out⟩
        case measure => omega
      | true =>
        rw [hvx] at HVr
        cases hvt : v.set with
        | false =>
          rw [hvt] at HVr
          have hT := HT.out
          rw [hvx, hvt, Bool.and_false, if_neg (by decide), List.append_nil] at hT
          have HT := Lib.hid hT
          clear hvx hvt hT hadd1 hadd2
          go_wp2_with fail
          refine HVr.out.mono ?_
          rintro e w2 ⟨rfl, hB2⟩
          have HS2 := Lib.hid ((HSi0.out.below hB2).alloc (VM.boxO ⟨v.val, false, true, v.fix⟩)).right
          have R2 := Lib.hid (Below.trans HRi.out (Ran.new (hB2.mono (Nat.zero_le _)) (VM.boxO ⟨v.val, false, true, v.fix⟩)))
          clear hB2 hci HVr
          go_wp2_with fail
          go_roundg (gk - 1)
          case rel => exact ⟨i + 1, p, cap, by simp, by omega, by rw [HT.out], by rw [HT.out]; exact HS2.out, R2.out⟩
          case measure => omega
        | true =>
          rw [hvt] at HVr
          have hT := HT.out
          rw [hvx, hvt, Bool.and_true, if_pos rfl] at hT
          have HT := Lib.hid hT
          clear hvx hvt hT
          go_wp2_with fail
          refine HVr.out.mono ?_
          rintro e w2 ⟨rfl, hB2⟩
          have HS2 := ((HSi0.out.below hB2).alloc (VM.boxO ⟨v.val, true, true, v.fix⟩)).right
          have R2 := Lib.hid (Below.trans HRi.out (Ran.new (hB2.mono (Nat.zero_le _)) (VM.boxO ⟨v.val, true, true, v.fix⟩)))
          obtain ⟨X, hX1, hX2⟩ := (HS2.old (.cells #[.string z] 9 (0, 0))).frame
          have HXA := hX1.perm (show _ = arr 9 1 p l.length cap (l.map sv) * (X * (arr 9 1 (some ⟨qb, qo, none⟩) ks.length qc (ks.map sv) * R)) by ac_rfl)
          have HX2 := Lib.hid hX2
          clear hB2 hci HVr hX1 hX2 HS2
          go_wp2_with (at_builtin; go_loud (refine appStr rfl _ _ rfl p l.length cap _ rfl _ rfl HXA _ (blk_new (World.size_alloc _ _)) rfl hlen ?_; intro p' cap' w6 HS7 HR7; clear HXA))
          have HS8 := Lib.hid (HX2.out w6 (arr 9 1 p' (l.length + 1) cap' (l.map sv ++ [sv z]) * (arr 9 1 (some ⟨qb, qo, none⟩) ks.length qc (ks.map sv) * R)) (HS7.perm (by ac_rfl)))
          have R8 := Lib.hid (Below.trans (Ran.new R2.out _) HR7)
          clear HS7 HR7 HX2 R2
          go_wp2_with fail
          go_roundg (gk - 1)
          case rel => exact ⟨i + 1, p', cap', by simp, by omega, by rw [HT.out, List.length_append]; rfl, by rw [HT.out, List.length_append, List.map_append]; exact HS8.out, R8.out⟩
          case measure => omega
    · have hge : i = ks.length := by omega
      subst hge
      rw [List.take_length] at HSi ⊢
      have HS9 := Lib.hid HSi
      have HR9 := Lib.hid HR
      clear HSi HR
      go_wp2_with fail
      go_ret
      refine ⟨⟨p, cap, ks, rfl, Hk.out, ?_⟩, HR9.out⟩
      obtain ⟨X, hX1, hX2⟩ := HS9.out.frame
      exact hX2 _ _ (hX1.perm (show _ = arr 9 1 q ks.length qc (ks.map sv) * (X * (arr 9 1 p (envL n.s ks).length cap ((envL n.s ks).map sv) * R)) by ac_rfl)).right
end Go.Proofs.YtlmjidandjemjaaGreatDoor.State
