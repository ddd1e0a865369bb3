/- GlobsJoin: of two patterns, one behind the other, the texts are those that can be cut in two that they fit: the law returns true, for all patterns and texts. -/
import Derived.Test.YtjbdpahdhlmanaaGlL
import Derived.Test.YtjbdpahdhlmanaaGlO
import Derived.Test.YtjbdpahdhlmanaaGlW
import Derived.ChangeMaps5
namespace Go.Proofs.Ytjbdpahdhlmanaa.globsJoin
open Go.ChangeShapes Go.WideShapes Go.ChangeAt Go.RowKit Go.Proofs.Ytjbdpahdhlmanaa Go.Proofs.Ytjbdpahdhlmanaa.Hp Go.Proofs.Ytjbdpahdhlmanaa.Globs
open Go.ChangeMaps (open_string shut_string)
set_option linter.unusedVariables false

theorem itCells_one (l : List ItS) : ∀ u ∈ itCells l, u.oneCell' = true := by
  intro u hu
  unfold itCells at hu
  obtain ⟨c, _, h⟩ := List.mem_flatMap.1 hu
  unfold itCell at h
  simp at h
  rcases h with rfl | rfl | rfl | rfl <;> rfl
theorem itCells_append (l m : List ItS) : itCells (l ++ m) = itCells l ++ itCells m := List.flatMap_append
/-- A pattern in memory, as what is appended. -/
theorem items_src {w : World} {ao : Option Addr} {l : List Itm} (cap : Nat) (h : ItemsAt w ao l) :
    ∃ L : List ItS, L.map (·.1) = l ∧ (∀ x ∈ L, RgAt w x.2.1 x.1.rs) ∧ ∀ w', Kept w w' → Src Try.prog 4 24 (.slice ao l.length cap) l.length (itCells L) w' := by
  have key : ∀ i, i < l.length → ∃ z : Option Addr × Nat, ∀ hi : i < l.length, RgAt w z.1 l[i].rs ∧ ∃ b o, ao = some ⟨b, o, none⟩ ∧ b < w.heap.size ∧ w.cell? ⟨b, o + i * 4, none⟩ = some (.int .i64 l[i].kind) ∧ w.cell? ⟨b, o + i * 4 + 1, none⟩ = some (.int .u8 l[i].b.toNat) ∧
      w.cell? ⟨b, o + i * 4 + 2, none⟩ = some (.bool l[i].neg) ∧ w.cell? ⟨b, o + i * 4 + 3, none⟩ = some (.slice z.1 l[i].rs.length z.2) := fun i hi => by
    obtain ⟨b, o, ra, rc, e, hb, c0, c1, c2, c3, hr⟩ := h.2 i hi
    exact ⟨(ra, rc), fun _ => ⟨hr, b, o, e, hb, c0, c1, c2, c3⟩⟩
  obtain ⟨f, hf⟩ := Deep.choose_lt key
  have hL : (List.range l.length).length = l.length := List.length_range
  refine ⟨(List.range l.length).map fun i => (l.getD i default, f i), ?_, ?_, ?_⟩
  · apply List.ext_getElem
    · simp
    · intro i h1 h2
      simp at h1
      simp [List.getD_eq_getElem?_getD, List.getElem?_eq_getElem h1]
  · intro x hx
    obtain ⟨i, hi, rfl⟩ := List.mem_map.1 hx
    have hi' : i < l.length := by simpa using hi
    have e : l.getD i default = l[i] := by rw [List.getD_eq_getElem?_getD, List.getElem?_eq_getElem hi']; rfl
    simp only [e]
    exact (hf i hi' hi').1
  · intro w' hk
    cases ao with
    | none =>
      have hl0 : l.length = 0 := by
        rcases Nat.eq_zero_or_pos l.length with h0 | h0
        · exact h0
        · obtain ⟨b, o, _, _, e, _⟩ := h.2 0 h0; cases e
      rw [hl0]
      exact Src.ofNil w' Try.underlying24 cap
    | some a =>
      have hlen : (itCells ((List.range l.length).map fun i => (l.getD i default, f i))).length = l.length * 4 := by rw [itCells_length]; simp
      refine Src.ofSlice w' Try.underlying24 a l.length cap _ hlen (fun j u hj => ?_) (itCells_one _)
      have hjl := (List.getElem?_eq_some_iff.1 hj).1
      rw [hlen] at hjl
      have hi' : j / 4 < l.length := by omega
      obtain ⟨_, b, o, e, hb, c0, c1, c2, c3⟩ := hf (j / 4) hi' hi'
      replace c0 := (hk.cell hb _).trans c0
      replace c1 := (hk.cell hb _).trans c1
      replace c2 := (hk.cell hb _).trans c2
      replace c3 := (hk.cell hb _).trans c3
      obtain ⟨g0, g1, g2, g3⟩ := itCells_get ((List.range l.length).map fun i => (l.getD i default, f i)) (j / 4) (by simpa using hi')
      have ee : l.getD (j / 4) default = l[j / 4] := by rw [List.getD_eq_getElem?_getD, List.getElem?_eq_getElem hi']; rfl
      simp only [List.getElem_map, List.getElem_range, ee] at g0 g1 g2 g3
      simp only [Option.some.injEq] at e
      subst e
      rw [Addr.add_lit]
      have hm : j % 4 = 0 ∨ j % 4 = 1 ∨ j % 4 = 2 ∨ j % 4 = 3 := by omega
      rcases hm with hm | hm | hm | hm
      · rw [show j / 4 * 4 = j by omega] at g0 c0; rw [c0, ← hj, g0]
      · rw [show j / 4 * 4 + 1 = j by omega] at g1; rw [show o + j = o + j / 4 * 4 + 1 by omega, c1, ← hj, g1]
      · rw [show j / 4 * 4 + 2 = j by omega] at g2; rw [show o + j = o + j / 4 * 4 + 2 by omega, c2, ← hj, g2]
      · rw [show j / 4 * 4 + 3 = j by omega] at g3; rw [show o + j = o + j / 4 * 4 + 3 by omega, c3, ← hj, g3]
theorem appIts {w : World} {R : Hp} {ops : Array Oper} {rest : List Oper} {o : Oper} {a : Act} {Q : Exit → Act → World → Prop} (hgd : o.guard = none) (s x : Operand)
    (ho : o.op = .call { callee := .builtin .append, args := #[s, x], argTypes := #[24, 24] })
    (p : Option Addr) (n cap : Nat) (xs : List Value) (hp : a.eval s = .slice p n cap) (vx : Value) (hvx : a.eval x = vx) (h : Sat w (arr 42 4 p n cap xs * R)) (m : Nat) (news : List Value) (hs : Src Try.prog 4 24 vx m news w) (hn : n + m ≤ 1000000000)
    (hk : ∀ p' cap' w', Sat w' (arr 42 4 p' (n + m) cap' (xs ++ news) * R) → Ran w w' → wpList Try.prog ops Q rest (a.put o.dst (.slice p' (n + m) cap')) w') : wpList Try.prog ops Q (o :: rest) a w := by
  obtain ⟨i0, hi, hz0, hz1, hz2⟩ := info_parts infoIt
  exact wpList_append_arr hgd s x _ _ ho 42 i0 _ 4 40 Try.underlying24 hi hz0 hz1 hz2 rfl p n cap xs hp h vx hvx m news (by rw [hz1]; exact hs) (by omega) (by unfold maxLen; omega) fun p' cap' w' h1 h2 _ => hk p' cap' w' h1 h2
theorem bs_extract (s : ByteArray) (a b : Nat) : bs (s.extract a b) = ((bs s).drop a).take (b - a) := by
  unfold bs
  simp [List.extract_eq_take_drop]
theorem cut_at {p : List Itm} {s : ByteArray} {n : Nat} : matchB p (bs (s.extract 0 n)) = matchB p ((bs s).take n) := by rw [bs_extract]; rfl
theorem cut_from {q : List Itm} {s : ByteArray} {n : Nat} (h : n ≤ s.size) : matchB q (bs (s.extract n s.size)) = matchB q ((bs s).drop n) := by
  rw [bs_extract, List.take_of_length_le (by rw [List.length_drop, bs_length]; omega)]
theorem ext_size (s : ByteArray) (a b : Nat) : (s.extract a b).size ≤ s.size := by
  have h := congrArg List.length (bs_extract s a b)
  rw [bs_length, List.length_take, List.length_drop, bs_length] at h
  omega
def JRel (p q : List Itm) (s : ByteArray) (w : World) (g : Nat) (bv nv : Value) (wr : World) : Prop :=
  ∃ n : Nat, n + g = s.size + 1 ∧ bv = .bool (cutL p q (bs s) n) ∧ nv = .int .i64 (n : Int) ∧ Below w.heap.size w wr
set_option maxRecDepth 100000 in
set_option maxHeartbeats 4000000 in
theorem walk (ap : Option Addr) (cp : Nat) (p : List Itm) (aq : Option Addr) (cq : Nat) (q : List Itm) (s : ByteArray) (W : World) (hp : ItemsAt W ap p) (hq : ItemsAt W aq q) (hs : (s.size : Int) ≤ 9223372036854775807) :
    Calls Try.prog 5 #[.slice ap p.length cp, .slice aq q.length cq, .string s] W fun e w' => e = .returned (.bool true) ∧ Below W.heap.size W w' := by
  have hpl := hp.1
  have hql := hq.1
  by_cases hfp : Few p
  · by_cases hfq : Few q
    · by_cases h30 : p.length ≤ 30
      · by_cases h30q : q.length ≤ 30
        · by_cases h60 : s.size ≤ 60
          ·
            have e1 : (p.length : Int) ≤ 30 := by omega
            have e2 : (q.length : Int) ≤ 30 := by omega
            have e3 : (s.size : Int) ≤ 60 := by omega
            obtain ⟨L1, hL1, hr1, src1⟩ := items_src cp hp
            obtain ⟨L2, hL2, hr2, src2⟩ := items_src cq hq
            have hl1 : L1.length = p.length := by rw [← hL1, List.length_map]
            have hl2 : L2.length = q.length := by rw [← hL2, List.length_map]
            have hN := Lib.hid hl1
            have hN2 := Lib.hid hl2
            clear hl1 hl2
            go_enter Try.func5, Try.ntmps5
            go_wp2_with fail
            refine (few_yes _ _ _ p (by exact hp) hfp).mono ?_
            rintro e w1 ⟨rfl, rfl⟩
            go_wp2_with fail
            refine (few_yes _ _ _ q (by exact hq) hfq).mono ?_
            rintro e w2 ⟨rfl, rfl⟩
            have S0 : Sat W (arr 42 4 none 0 0 [] * keep W) := (Sat.start W).nil_arr _ _
            have Hs1 := Lib.hid (src1 W (Kept.refl W))
            have Hs2 := Lib.hid src2
            clear src1 src2
            go_upto_region 4 with (fail)
            go_wp2_with (at_builtin; refine appIts rfl _ _ rfl none 0 0 [] rfl _ rfl S0 _ _ Hs1.out (by omega) ?_; rw [Nat.zero_add, List.nil_append]; intro p1 c1 w3 S1 R1; clear S0 Hs1; have Hs3 := Lib.hid (Hs2.out w3 ⟨R1.size, S1.right.kept⟩); clear Hs2; go_wp2_with (at_builtin; refine appIts rfl _ _ rfl p1 p.length c1 _ rfl _ rfl S1 _ _ Hs3.out (by omega) ?_; intro p2 c2 w4 S2 R2; clear S1 Hs3))
            have KW : Kept W w4 := ⟨(R1.trans R2).size, S2.right.kept⟩
            have hboth : ItemsAt w4 p2 (p ++ q) := by
              have := itemsAt_arr (l := L1 ++ L2) (cap := c2) (p := p2) (R := keep W) (w := w4) (by rw [List.length_append, hN.out, hN2.out, itCells_append]; exact S2) (fun x hx => by
                rcases List.mem_append.1 hx with hx | hx
                · exact (hr1 x hx).keep KW
                · exact (hr2 x hx).keep KW)
              rwa [List.map_append, hL1, hL2] at this
            have hBW : Below W.heap.size W w4 := Ran.whole (R1.trans R2) S2
            have HBoth := Lib.hid hboth
            clear hL1 hL2 hr1 hr2 hN hN2 S2 R1 R2 hboth
            go_loopg [8, 9] (s.size + 1) (JRel p q s w4)
            case atStart => exact ⟨0, by omega, rfl, rfl, Below.refl _ _⟩
            case round =>
              obtain ⟨n, hng, rfl, rfl, hbel⟩ := hrel
              have hn0 : (0 : Int) ≤ n := by omega
              have hK := Kept.below hbel
              by_cases hn : n ≤ s.size
              · have hn' : (n : Int) ≤ s.size := by omega
                have hP := hp.keep (KW.trans hK)
                have hQ := hq.keep (KW.trans hK)
                have Hng := Lib.hid hng
                have hcut : cutL p q (bs s) (n + 1) = (cutL p q (bs s) n || (matchB p ((bs s).take n) && matchB q ((bs s).drop n))) := rfl
                have hz1 : ((s.extract 0 n).size : Int) ≤ 9223372036854775806 := by have := ext_size s 0 n; omega
                have hz2 : ((s.extract n s.size).size : Int) ≤ 9223372036854775806 := by have := ext_size s n s.size; omega
                have MP := fun (W : World) h => match_lit p (s.extract 0 n) ap cp p.length W _ rfl cut_at h hz1
                have MQ := fun (W : World) h => match_lit q (s.extract n s.size) aq cq q.length W _ rfl (cut_from hn) h hz2
                clear hng hp hq HBoth
                generalize hc : cutL p q (bs s) n = c at *
                generalize matchB p ((bs s).take n) = v1 at *
                generalize matchB q ((bs s).drop n) = v2 at *
                have Hcut := Lib.hid hcut
                have HMP := Lib.hid MP
                have HMQ := Lib.hid MQ
                clear hc hcut MP MQ hz1 hz2
                cases c
                · cases v1
                  · go_wp2_with fail
                    refine (HMP.out _ (by exact hP)).mono ?_
                    rintro e w5 ⟨rfl, b5⟩
                    go_wp2_with fail
                    go_roundg (gk - 1)
                    case measure => have := Hng.out; omega
                    case rel => exact ⟨n + 1, by have := Hng.out; omega, by rw [Hcut.out]; rfl, by go_num, hbel.trans (b5.mono hbel.size)⟩
                  · go_wp2_with fail
                    refine (HMP.out _ (by exact hP)).mono ?_
                    rintro e w5 ⟨rfl, b5⟩
                    have hQ5 := hQ.keep (Kept.below b5)
                    go_wp2_with fail
                    refine (HMQ.out _ (by exact hQ5)).mono ?_
                    rintro e w6 ⟨rfl, b6⟩
                    have hb5 := hbel.trans (b5.mono hbel.size)
                    go_wp2_with fail
                    go_roundg (gk - 1)
                    case measure => have := Hng.out; omega
                    case rel => exact ⟨n + 1, by have := Hng.out; omega, by rw [Hcut.out]; rfl, by go_num, hb5.trans (b6.mono hb5.size)⟩
                · go_wp2_with fail
                  go_roundg (gk - 1)
                  case measure => have := Hng.out; omega
                  case rel => exact ⟨n + 1, by have := Hng.out; omega, by rw [Hcut.out]; rfl, by go_num, hbel⟩
              · have hge : ¬ ((n : Int) ≤ s.size) := by omega
                have hnn : n = s.size + 1 := by omega
                have MB := match_lit (p ++ q) s p2 c2 (p.length + q.length) wr _ (List.length_append) ((join_eq p q (bs s)).trans (by rw [bs_length, ← hnn])) (HBoth.out.keep hK) (by omega)
                have hb4 := hBW.trans (hbel.mono hBW.size)
                clear hnn hng hp hq HBoth hbel hBW
                generalize cutL p q (bs s) n = c at *
                have HMB := Lib.hid MB
                clear MB
                go_wp2_with fail
                refine HMB.out.mono ?_
                rintro e w5 ⟨rfl, b5⟩
                have hb5 := hb4.trans (b5.mono hb4.size)
                go_wp2_with fail
                refine (awake_calls _).mono ?_
                rintro e w7 ⟨rfl, b7⟩
                go_wp2_with fail
                go_ret
                exact ⟨rfl, hb5.trans (b7.mono hb5.size)⟩
          · have e3 : ¬ ((s.size : Int) ≤ 60) := by omega
            have e1 : (p.length : Int) ≤ 30 := by omega
            have e2 : (q.length : Int) ≤ 30 := by omega
            go_enter Try.func5, Try.ntmps5
            go_wp2_with fail
            refine (few_yes _ _ _ p (by exact hp) hfp).mono ?_
            rintro e w1 ⟨rfl, rfl⟩
            go_wp2_with fail
            refine (few_yes _ _ _ q (by exact hq) hfq).mono ?_
            rintro e w2 ⟨rfl, rfl⟩
            go_wp2_with fail
            refine (awake_calls _).mono ?_
            rintro e w7 ⟨rfl, b7⟩
            go_wp2_with fail
            go_ret
            exact ⟨rfl, b7⟩
        · have e2 : ¬ ((q.length : Int) ≤ 30) := by omega
          have e1 : (p.length : Int) ≤ 30 := by omega
          go_enter Try.func5, Try.ntmps5
          go_wp2_with fail
          refine (few_yes _ _ _ p (by exact hp) hfp).mono ?_
          rintro e w1 ⟨rfl, rfl⟩
          go_wp2_with fail
          refine (few_yes _ _ _ q (by exact hq) hfq).mono ?_
          rintro e w2 ⟨rfl, rfl⟩
          go_wp2_with fail
          refine (awake_calls _).mono ?_
          rintro e w7 ⟨rfl, b7⟩
          go_wp2_with fail
          go_ret
          exact ⟨rfl, b7⟩
      · have e1 : ¬ ((p.length : Int) ≤ 30) := by omega
        go_enter Try.func5, Try.ntmps5
        go_wp2_with fail
        refine (few_yes _ _ _ p (by exact hp) hfp).mono ?_
        rintro e w1 ⟨rfl, rfl⟩
        go_wp2_with fail
        refine (few_yes _ _ _ q (by exact hq) hfq).mono ?_
        rintro e w2 ⟨rfl, rfl⟩
        go_wp2_with fail
        refine (awake_calls _).mono ?_
        rintro e w7 ⟨rfl, b7⟩
        go_wp2_with fail
        go_ret
        exact ⟨rfl, b7⟩
    · go_enter Try.func5, Try.ntmps5
      go_wp2_with fail
      refine (few_yes _ _ _ p (by exact hp) hfp).mono ?_
      rintro e w1 ⟨rfl, rfl⟩
      go_wp2_with fail
      refine (few_no _ _ _ q (by exact hq) hfq).mono ?_
      rintro e w2 ⟨rfl, rfl⟩
      go_wp2_with fail
      refine (awake_calls _).mono ?_
      rintro e w7 ⟨rfl, b7⟩
      go_wp2_with fail
      go_ret
      exact ⟨rfl, b7⟩
  · go_enter Try.func5, Try.ntmps5
    go_wp2_with fail
    refine (few_no _ _ _ p (by exact hp) hfp).mono ?_
    rintro e w1 ⟨rfl, rfl⟩
    go_wp2_with fail
    refine (awake_calls _).mono ?_
    rintro e w7 ⟨rfl, b7⟩
    go_wp2_with fail
    go_ret
    exact ⟨rfl, b7⟩

set_option maxRecDepth 100000 in
theorem lifted (os : Os) (started : os.Started) (H : Type) (enc : TypeId × Value → H) :
    ReturnsInHanded {} Try.checked os 5 .any (Rows.globsJoinSpec.pre6 enc Try.prog Try.f5 Rows.globsJoinRow.domain false) (Rows.globsJoinSpec.post enc Try.prog Try.f5 false true false false) := by
  refine returnsInHanded_of_change (C := Try.checked) own started (by kernel_rfl) Try.func5
    (ChangeSpec.witness6 (enc := enc) (C := Try.checked) false ⟨#[], #[.slice none 0 0, .slice none 0 0, .string ⟨#[]⟩], []⟩ 8 (by kernel_rfl) (by kernel_rfl) (by kernel_rfl) (by kernel_rfl)) ?_
  intro W base args ds gs before hval0 hW hcnd _
  have hval : ∀ (j : Nat) t v, Try.f5.params[j]? = some t → args[j]? = some v → Value.okWide Try.prog W .any base t v := hval0
  have hW' := hW
  obtain ⟨p, q, hA0, hV, rfl, hfz, hnd⟩ := hW
  have hA : DataW.TrodAll enc Try.prog W 0 (fun _ => true) true Try.f5.params.toList args.toList ds p := hA0
  rw [Try.params5] at hA hval
  obtain ⟨v0, vs0, d0, ds0, p0, q0, hargs, rfl, rfl, h0, r0⟩ := trodAll_cons hA
  obtain ⟨v1, vs1, d1, ds1, p1, q1, rfl, rfl, rfl, h1, r1⟩ := trodAll_cons r0
  obtain ⟨v2, vs2, d2, ds2, p2, q2, rfl, rfl, rfl, h2, r2⟩ := trodAll_cons r1
  obtain ⟨rfl, rfl, rfl⟩ := trodAll_nil r2
  obtain rfl : args = #[v0, v1, v2] := by cases args; simp_all
  obtain ⟨rfl, rfl⟩ := trodVars_none hV
  have k0 := h0
  have lt0 : ∀ x ∈ p0, x.block < W.heap.size := by obtain ⟨m, hm⟩ := k0; exact DataW.trod_lt m _ _ _ hm
  obtain ⟨ao0, l0, cap0, rfl, w0⟩ := items_open (hval 0 24 v0 rfl rfl) h0
  have k1 := h1
  have lt1 : ∀ x ∈ p1, x.block < W.heap.size := by obtain ⟨m, hm⟩ := k1; exact DataW.trod_lt m _ _ _ hm
  obtain ⟨ao1, l1, cap1, rfl, w1⟩ := items_open (hval 1 24 v1 rfl rfl) h1
  obtain ⟨s2, rfl, rfl, rfl, w2⟩ := open_string Try.underlying9 (hval 2 9 v2 rfl rfl) h2
  clear hA0 hval0
  refine (walk ao0 cap0 l0 ao1 cap1 l1 s2 W w0.1 w1.1 (by unfold maxLen at w2; omega)).mono fun e W' ⟨he, bel⟩ => ?_
  subst he
  exact ⟨_, rfl, _, _, _, [], _, [], hW', trodAll_mk1 (shut_bool Try.underlying4 _), (trodAll_cons_mk (Below.trod laidOut (by kernel_rfl) (of_decide_eq_true (by kernel_rfl)) k0 bel lt0) (trodAll_cons_mk (Below.trod laidOut (by kernel_rfl) (of_decide_eq_true (by kernel_rfl)) k1 bel lt1) (trodAll_cons_mk (shut_string Try.underlying9 w2) trodAll_mk0))), rfl, bel.frame _, fun h => by cases h⟩

theorem over : Rows.globsJoinRow.holds Try.pinned (OpenSpec.ofChange Rows.globsJoinSpec) :=
  OpenClaim.holds_of_wide 5 Try.f5 rfl rfl rfl rfl rfl rfl rfl ⟨rfl, rfl, rfl, rfl, rfl⟩ rfl rfl rfl rfl rfl (by kernel_rfl) Try.func5 (by kernel_rfl)
    (of_decide_eq_true (by kernel_rfl)) (by unfold Func.isWrapper; first | (rw [if_pos (by decide +kernel)]; kernel_rfl) | (rw [if_neg (by decide +kernel)]; exact ⟨rfl, rfl⟩))
    (fun os started H enc _ => lifted os started H enc)

theorem proved : Rows.GlobsJoinSaid := over
#print axioms proved
end Go.Proofs.Ytjbdpahdhlmanaa.globsJoin
