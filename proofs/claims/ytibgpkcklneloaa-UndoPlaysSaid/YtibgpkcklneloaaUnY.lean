/- The document's answer in memory: Set, Delete, SetCell walked. -/
import Derived.Test.YtibgpkcklneloaaUnX
namespace Go.Proofs.Ytibgpkcklneloaa.Undo
open Go.RowKit Go.Proofs.Ytibgpkcklneloaa Go.Proofs.Ytibgpkcklneloaa.Hp
set_option linter.unusedVariables false
attribute [local go_sem] Oper.semAt_some

def SeRel (k : ByteArray) (v : Int) (l : List Pr) (F : Hp) (w : World) (g : Nat) (ov dv iv : Value) (wr : World) : Prop :=
  ∃ (i : Nat) (p' : Option Addr) (cap' : Nat) (o : List Pr) (d : Bool), i + g = l.length ∧ iv = .int .i64 (i : Int) ∧ ov = .slice p' o.length cap' ∧ dv = .bool d ∧ (l.take i).foldl (stepP k v) ([], false) = (o, d) ∧ o.length ≤ i + 1 ∧ Sat wr (prArr p' cap' o * F) ∧ Ran w wr
theorem fold_take (k : ByteArray) (v : Int) (l : List Pr) (i : Nat) (hi : i < l.length) {o : List Pr} {d : Bool} (h : (l.take i).foldl (stepP k v) ([], false) = (o, d)) : (l.take (i + 1)).foldl (stepP k v) ([], false) = stepP k v (o, d) l[i] := by
  rw [List.take_succ_eq_append_getElem hi, List.foldl_append, h]; rfl
theorem fold_len (k : ByteArray) (v : Int) (l : List Pr) : (l.foldl (stepP k v) ([], false)).1.length ≤ l.length + (if (l.foldl (stepP k v) ([], false)).2 = true then 1 else 0) := by
  suffices h : ∀ (l : List Pr) (o : List Pr) (d : Bool), (l.foldl (stepP k v) (o, d)).1.length + (if d = true then 1 else 0) ≤ o.length + l.length + (if (l.foldl (stepP k v) (o, d)).2 = true then 1 else 0) by
    have := h l [] false
    simpa using this
  intro l
  induction l with
  | nil => intro o d; simp only [List.foldl_nil, List.length_nil]; exact Nat.le_refl _
  | cons x l ih =>
    intro o d
    rw [List.foldl_cons]
    unfold stepP
    by_cases c : (!d && behindK x.1 k) = true
    · rw [if_pos c]
      have := ih (o ++ [(k, v)] ++ [x]) true
      have hd : d = false := by cases d <;> simp_all
      subst hd
      simp only [List.length_append, List.length_cons, List.length_nil, if_true, Bool.false_eq_true, if_false] at this ⊢
      unfold stepP at this
      omega
    · rw [if_neg c]
      have := ih (o ++ [x]) d
      simp only [List.length_append, List.length_cons, List.length_nil] at this ⊢
      unfold stepP at this
      omega
def RsSays (ab : Nat) (most nest : Int) (lp : Option Addr) (lc : Nat) (L : List Pr) (c : ByteArray) (wp : Option Addr) (wn wc nt : Nat) (hp : Option Addr) (hn hc : Nat) (L2 : List Pr) (S : Hp) (e : Ending) (w' : World) : Prop :=
  e = .returned (.int .i64 (rE most wn nt)) ∧ ((rE most wn nt = 0 ∧ ∃ p' cap', Sat w' (pts ab (allO most nest p' L2.length cap' c wp wn wc (rN most wn nt) hp hn hc) * (prArr p' cap' L2 * S))) ∨ (rE most wn nt ≠ 0 ∧ Sat w' (pts ab (allO most nest lp L.length lc c wp wn wc (rN most wn nt) hp hn hc) * S)))
theorem rE_cases (most : Int) (wn nt : Nat) : rE most wn nt = 0 ∨ rE most wn nt = 43 := by
  unfold rE
  split
  · exact .inl rfl
  · split
    · exact .inl rfl
    · exact .inr rfl
set_option maxRecDepth 100000 in
set_option maxHeartbeats 4000000 in
theorem rset_calls (ab : Nat) (most nest : Int) (lp wp hp : Option Addr) (lc wn wc nt hn hc : Nat) (L : List Pr) (c k : ByteArray) (v : Int) (w : World) (S : Hp) (hnt : nt ≤ 1000000000) (hwn : wn ≤ 1000000) (hL : L.length ≤ 1000000) (hks : ∀ x ∈ L, x.1.size ≤ maxLen) (hrd : ∀ W S', Sat W (S * S') → PrAt W lp L) (h : Sat w (pts ab (allO most nest lp L.length lc c wp wn wc nt hp hn hc) * S)) :
    Calls Try.prog 42 #[.pointer (some ⟨ab, 0, none⟩), .string k, .int .i64 v] w fun e w' => RsSays ab most nest lp lc L c wp wn wc nt hp hn hc (insP k v (without k L)) S e w' ∧ Ran w w' := by
  have hnote := Lib.hid (rnote_calls ab most nest lp wp hp L.length lc wn wc nt hn hc c w S hnt hwn h)
  have Hrd := Lib.hid hrd
  have hLw := without_len k L
  have hlk : ∀ x ∈ without k L, x.1 ≠ k := fun x hx => (without_mem.1 hx).2
  have Hlk := Lib.hid hlk
  rcases rE_cases most wn nt with hE | hE
  · have HE := Lib.hid hE
    rw [hE] at hnote
    clear hrd h hE hlk
    go_enter Try.func42, Try.ntmps42
    go_wp2_with fail
    refine hnote.out.mono ?_
    rintro e w1 ⟨⟨rfl, H1⟩, R1⟩
    clear hnote
    have hwo := Lib.hid (rwithout_calls ab lp lc L k w1 _ hL (fun W S' hs => ⟨(all_cells (hs.perm (by rw [sep_assoc]))).2.2.1, Hrd.out W _ (hs.perm (show _ = S * (pts ab (allO most nest lp L.length lc c wp wn wc (rN most wn nt) hp hn hc) * S') by ac_rfl))⟩) H1)
    clear H1
    go_wp2_with fail
    refine hwo.out.mono ?_
    rintro e w2 ⟨⟨q, qc, rfl, H2⟩, R2⟩
    have R3 := Below.trans R1 R2
    clear hwo R1 R2
    obtain ⟨l, hl⟩ : ∃ l, l = without k L := ⟨_, rfl⟩
    rw [← hl] at H2 Hlk hLw
    rw [← hl]
    have hln : l.length ≤ 1000000 := by omega
    have hlnn : (l.length : Int) ≤ 1000000 := by omega
    have H2 := Lib.hid H2
    have Hl := Lib.hid hl
    clear hl hLw
    obtain ⟨F, hF⟩ : ∃ F, F = prArr q qc l * (pts ab (allO most nest lp L.length lc c wp wn wc (rN most wn nt) hp hn hc) * S) := ⟨_, rfl⟩
    rw [← hF] at H2
    go_wp2_with fail
    go_loopg [9, 10, 11] (l.length) (SeRel k v l F w)
    case atStart => exact ⟨0, none, 0, [], false, by omega, rfl, rfl, rfl, rfl, by simp, by show Sat w2 (arr 84 2 none 0 0 [] * F); exact H2.out.nil_arr _ _, R3⟩
    case round =>
      clear H2 R3
      obtain ⟨i, p', cap', o, d, hik, rfl, rfl, rfl, hfo, hol, HS, HR⟩ := hrel
      have hi0 : (0 : Int) ≤ i := by omega
      have hF2 := hF
      by_cases hi : i < l.length
      · have hHS := HS
        rw [hF2] at hHS
        obtain ⟨b, ob, rfl, p0, p1⟩ := prAt_arr (hHS.perm (show _ = prArr q qc l * (prArr p' cap' o * (pts ab (allO most nest lp L.length lc c wp wn wc (rN most wn nt) hp hn hc) * S)) by ac_rfl)) i hi
        have hlt : (i : Int) < l.length := by omega
        have hne := toList_ne (Hlk.out l[i] (List.getElem_mem hi))
        have hft := fold_take k v l i hi hfo
        have hol2 : o.length ≤ 1000000000 := by omega
        have hol3 : o.length + 1 ≤ 1000000000 := by omega
        obtain ⟨nl, hnl⟩ : ∃ n, n = o.length := ⟨_, rfl⟩
        rw [← hnl] at hol2 hol3
        have HSx := Lib.hid (fun W S' (hs : Sat W (F * S')) => by
          rw [hF2] at hs
          obtain ⟨b2, o2, e2, x0, x1⟩ := prAt_arr (hs.perm (show _ = prArr (some ⟨b, ob, none⟩) qc l * (pts ab (allO most nest lp L.length lc c wp wn wc (rN most wn nt) hp hn hc) * (S * S')) by ac_rfl)) i hi
          simp only [Option.some.injEq, Addr.mk.injEq, and_true] at e2
          obtain ⟨rfl, rfl⟩ := e2
          exact (And.intro x0 x1 : W.cell? ⟨b, ob + i * 2, none⟩ = some (.string l[i].1) ∧ W.cell? ⟨b, ob + i * 2 + 1, none⟩ = some (.int .i64 l[i].2)))
        obtain ⟨x, hx⟩ : ∃ x, x = l[i].1 := ⟨_, rfl⟩
        obtain ⟨u, hu⟩ : ∃ x, x = l[i].2 := ⟨_, rfl⟩
        have hxu : l[i] = (x, u) := by rw [hx, hu]
        rw [hxu] at hft
        rw [← hx] at p0 hne HSx
        rw [← hu] at p1 HSx
        rw [show stepP k v (o, d) (x, u) = if (!d && !(Op.bytesLess x.toList k.toList || x.toList == k.toList)) = true then (o ++ [(k, v)] ++ [(x, u)], true) else (o ++ [(x, u)], d) from rfl] at hft
        have Hnl := Lib.hid hnl
        have Hik := Lib.hid hik
        have Hol := Lib.hid hol
        have Hm := Lib.hid (show gk - 1 + (i + 1) = l.length ∧ gk - 1 < gk by omega)
        have HS0 := Lib.hid HS
        rw [hne, Bool.or_false] at hft
        clear hik hfo hHS hx hu hxu hol HS hi
        cases hd : d with
        | true =>
          subst hd
          simp only [Bool.not_true, Bool.false_and, Bool.false_eq_true, if_false] at hft
          have HSB := HS0.out.old (.cells #[.string x, .int .i64 u] 84 (0, 0))
          have RB := Ran.new HR (.cells #[.string x, .int .i64 u] 84 (0, 0))
          unfold prArr at HSB
          rw [← hnl] at HSB
          rw [← hnl]
          have Hft := Lib.hid hft
          clear hft hnl
          go_wp2_with (at_builtin; go_loud (refine appPr rfl _ _ rfl p' nl cap' _ rfl _ rfl HSB _ _ (blk_new rfl) rfl rfl hol2 ?_; intro p2 cap2 w6 HS7 HR7; clear HSB p0 p1))
          have Hrel := Lib.hid (show SeRel k v l F w (gk - 1) (.slice p2 (nl + 1) cap2) (.bool true) (.int .i64 ((i : Int) + 1)) w6 from by
            have hl2 : (o ++ [(x, u)]).length = nl + 1 := by rw [List.length_append, Hnl.out]; rfl
            refine ⟨i + 1, p2, cap2, o ++ [(x, u)], true, by have := Hm.out.1; omega, rfl, by rw [hl2], rfl, Hft.out, by have := Hol.out; have := Hnl.out; omega, ?_, Below.trans RB HR7⟩
            unfold prArr
            rw [hl2, prCells_append]
            exact HS7)
          clear HS7 HR7 RB
          go_roundg (gk - 1)
          case measure => exact Hm.out.2
          case rel => exact Hrel.out
        | false =>
          subst hd
          by_cases hlx : Op.bytesLess x.toList k.toList = true
          · rw [hlx] at hft
            simp only [Bool.not_false, Bool.not_true, Bool.and_false, Bool.false_eq_true, if_false] at hft
            have HSB := HS0.out.old (.cells #[.string x, .int .i64 u] 84 (0, 0))
            have RB := Ran.new HR (.cells #[.string x, .int .i64 u] 84 (0, 0))
            unfold prArr at HSB
            rw [← hnl] at HSB
            rw [← hnl]
            have Hft := Lib.hid hft
            clear hft hnl
            go_wp2_with (at_builtin; go_loud (refine appPr rfl _ _ rfl p' nl cap' _ rfl _ rfl HSB _ _ (blk_new rfl) rfl rfl hol2 ?_; intro p2 cap2 w6 HS7 HR7; clear HSB p0 p1))
            have Hrel := Lib.hid (show SeRel k v l F w (gk - 1) (.slice p2 (nl + 1) cap2) (.bool false) (.int .i64 ((i : Int) + 1)) w6 from by
              have hl2 : (o ++ [(x, u)]).length = nl + 1 := by rw [List.length_append, Hnl.out]; rfl
              refine ⟨i + 1, p2, cap2, o ++ [(x, u)], false, by have := Hm.out.1; omega, rfl, by rw [hl2], rfl, Hft.out, by have := Hol.out; have := Hnl.out; omega, ?_, Below.trans RB HR7⟩
              unfold prArr
              rw [hl2, prCells_append]
              exact HS7)
            clear HS7 HR7 RB
            go_roundg (gk - 1)
            case measure => exact Hm.out.2
            case rel => exact Hrel.out
          · have hlx2 : Op.bytesLess x.toList k.toList = false := by simpa using hlx
            rw [hlx2] at hft
            simp only [Bool.not_false, Bool.and_true, if_true] at hft
            have HSB := HS0.out.old (.cells #[.string k, .int .i64 v] 84 (0, 0))
            have RB := Ran.new HR (.cells #[.string k, .int .i64 v] 84 (0, 0))
            unfold prArr at HSB
            rw [← hnl] at HSB
            rw [← hnl]
            have Hft := Lib.hid hft
            clear hft hnl
            go_upto_region 13 with (at_builtin; go_loud (refine appPr rfl _ _ rfl p' nl cap' _ rfl _ rfl HSB _ _ (blk_new rfl) rfl rfl hol2 ?_; intro p2 cap2 w6 HS7 HR7; clear HSB p0 p1))
            have HS6 : Sat w6 (F * arr 84 2 p2 (nl + 1) cap2 (prCells o ++ [.string k, .int .i64 v])) := HS7.perm (by ac_rfl)
            obtain ⟨p0, p1⟩ := HSx.out w6 _ HS6
            have HSB := HS7.old (.cells #[.string x, .int .i64 u] 84 (0, 0))
            have RB2 := Ran.new (Below.trans RB HR7) (.cells #[.string x, .int .i64 u] 84 (0, 0))
            clear HS6 HS7 RB HR7
            go_wp2_with (at_builtin; go_loud (refine appPr rfl _ _ rfl p2 (nl + 1) cap2 _ rfl _ rfl HSB _ _ (blk_new rfl) rfl rfl hol3 ?_; intro p3 cap3 w7 HS7 HR7; clear HSB p0 p1))
            have Hrel := Lib.hid (show SeRel k v l F w (gk - 1) (.slice p3 (nl + 1 + 1) cap3) (.bool true) (.int .i64 ((i : Int) + 1)) w7 from by
              have hl2 : (o ++ [(k, v)] ++ [(x, u)]).length = nl + 1 + 1 := by rw [List.length_append, List.length_append, Hnl.out]; rfl
              have hfl := fold_len k v (l.take (i + 1))
              rw [Hft.out] at hfl
              refine ⟨i + 1, p3, cap3, o ++ [(k, v)] ++ [(x, u)], true, by have := Hm.out.1; omega, rfl, by rw [hl2], rfl, Hft.out, ?_, ?_, Below.trans RB2 HR7⟩
              · rw [List.length_take] at hfl; simp only [if_true] at hfl; omega
              · unfold prArr
                rw [hl2, prCells_append, prCells_append]
                exact HS7)
            clear HS7 HR7 RB2
            go_roundg (gk - 1)
            case measure => exact Hm.out.2
            case rel => exact Hrel.out
      · have hge : ¬ ((i : Int) < l.length) := by omega
        have htl : l.take i = l := List.take_of_length_le (by omega)
        rw [htl] at hfo
        have hins := fold_ins k v l []
        rw [hfo, List.nil_append] at hins
        unfold endP at hins
        dsimp only at hins
        have hol2 : o.length ≤ 1000000000 := by omega
        obtain ⟨nl, hnl⟩ : ∃ n, n = o.length := ⟨_, rfl⟩
        have Hnl := Lib.hid hnl
        rw [hF2] at HS
        have Hin2 := Lib.hid hins
        clear hik hfo htl hol hins hi
        cases hd : d with
        | true =>
          subst hd
          have HS0 := HS.perm (show _ = pts ab (allO most nest lp L.length lc c wp wn wc (rN most wn nt) hp hn hc) * (prArr q qc l * (prArr p' cap' o * S)) by ac_rfl)
          obtain ⟨a0, a1, a2, a3, a4, a5, a6, az⟩ := all_cells HS0
          have HS0 := Lib.hid HS0
          clear HS hnl
          go_wp2_with fail
          go_ret
          refine ⟨⟨by rw [HE.out]; rfl, .inl ⟨HE.out, p', cap', ?_⟩⟩, Ran.set HR _ _⟩
          have e1 : insP k v (without k L) = o := by rw [← Hl.out, ← Hin2.out]; rfl
          rw [e1]
          have h9 := HS0.out.set (i := 2) (.slice p' o.length cap')
          exact (h9.perm (show _ = prArr q qc l * (pts ab (allO most nest p' o.length cap' c wp wn wc (rN most wn nt) hp hn hc) * (prArr p' cap' o * S)) by show pts ab (allO most nest p' o.length cap' c wp wn wc (rN most wn nt) hp hn hc) * _ = _; ac_rfl)).right
        | false =>
          subst hd
          have HSB := HS.old (.cells #[.string k, .int .i64 v] 84 (0, 0))
          have RB := Ran.new HR (.cells #[.string k, .int .i64 v] 84 (0, 0))
          unfold prArr at HSB
          rw [← hnl] at HSB hol2
          rw [← hnl]
          clear HS hnl
          go_wp2_with (at_builtin; go_loud (refine appPr rfl _ _ rfl p' nl cap' _ rfl _ rfl HSB _ _ (blk_new rfl) rfl rfl hol2 ?_; intro p2 cap2 w6 HS7 HR7; clear HSB; have HS0 := HS7.perm (show _ = pts ab (allO most nest lp L.length lc c wp wn wc (rN most wn nt) hp hn hc) * (prArr q qc l * (arr 84 2 p2 (nl + 1) cap2 (prCells o ++ [.string k, .int .i64 v]) * S)) by unfold prArr; ac_rfl); obtain ⟨a0, a1, a2, a3, a4, a5, a6, az⟩ := all_cells HS0))
          go_ret
          refine ⟨⟨by rw [HE.out]; rfl, .inl ⟨HE.out, p2, cap2, ?_⟩⟩, Ran.set (Below.trans RB HR7) _ _⟩
          have e1 : insP k v (without k L) = o ++ [(k, v)] := by rw [← Hl.out, ← Hin2.out]; rfl
          have e2 : (o ++ [(k, v)]).length = nl + 1 := by rw [List.length_append, Hnl.out]; rfl
          have h9 := HS0.set (i := 2) (.slice p2 (nl + 1) cap2)
          unfold prArr
          rw [e1, e2, prCells_append]
          exact (h9.perm (show _ = prArr q qc l * (pts ab (allO most nest p2 (nl + 1) cap2 c wp wn wc (rN most wn nt) hp hn hc) * (arr 84 2 p2 (nl + 1) cap2 (prCells o ++ [.string k, .int .i64 v]) * S)) by show pts ab (allO most nest p2 (nl + 1) cap2 c wp wn wc (rN most wn nt) hp hn hc) * _ = _; ac_rfl)).right
  · have HE := Lib.hid hE
    rw [hE] at hnote
    clear hrd h hE hlk Hlk hLw
    go_enter Try.func42, Try.ntmps42
    go_wp2_with fail
    refine hnote.out.mono ?_
    rintro e w1 ⟨⟨rfl, H1⟩, R1⟩
    have H1 := Lib.hid H1
    go_wp2_with fail
    go_ret
    exact ⟨⟨by rw [HE.out]; rfl, .inr ⟨by rw [HE.out]; decide, H1.out⟩⟩, R1⟩
/-- Delete of a key that is there. -/
theorem rdel_calls (ab : Nat) (most nest : Int) (lp wp hp : Option Addr) (lc wn wc nt hn hc : Nat) (L : List Pr) (M : ByteArray → Option Int) (c k : ByteArray) (w : World) (S : Hp) (hnt : nt ≤ 1000000000) (hwn : wn ≤ 1000000) (hL : L.length ≤ 1000000) (hM : PairsOf M L) (hk : k.size ≤ maxLen) (hsome : (M k).isSome = true) (hrd : ∀ W S', Sat W (S * S') → PrAt W lp L) (h : Sat w (pts ab (allO most nest lp L.length lc c wp wn wc nt hp hn hc) * S)) :
    Calls Try.prog 40 #[.pointer (some ⟨ab, 0, none⟩), .string k] w fun e w' => RsSays ab most nest lp lc L c wp wn wc nt hp hn hc (without k L) S e w' ∧ Ran w w' := by
  have hget := rget_calls ab lp lc L M k w hL hM hk (all_cells h).2.2.1 (hrd w _ (h.perm (by ac_rfl)))
  rw [hsome] at hget
  have hget := Lib.hid hget
  have hnote := Lib.hid (rnote_calls ab most nest lp wp hp L.length lc wn wc nt hn hc c w S hnt hwn h)
  have Hrd := Lib.hid hrd
  rcases rE_cases most wn nt with hE | hE
  · have HE := Lib.hid hE
    rw [hE] at hnote
    clear hrd h hE hM hsome
    go_enter Try.func40, Try.ntmps40
    go_wp2_with fail
    refine hget.out.mono ?_
    rintro e w0 ⟨rfl, rfl⟩
    go_wp2_with fail
    refine hnote.out.mono ?_
    rintro e w1 ⟨⟨rfl, H1⟩, R1⟩
    clear hnote hget
    have hwo := Lib.hid (rwithout_calls ab lp lc L k w1 _ hL (fun W S' hs => ⟨(all_cells (hs.perm (by rw [sep_assoc]))).2.2.1, Hrd.out W _ (hs.perm (show _ = S * (pts ab (allO most nest lp L.length lc c wp wn wc (rN most wn nt) hp hn hc) * S') by ac_rfl))⟩) H1)
    clear H1
    go_wp2_with fail
    refine hwo.out.mono ?_
    rintro e w2 ⟨⟨q, qc, rfl, H2⟩, R2⟩
    have R3 := Below.trans R1 R2
    clear hwo R1 R2
    have HS0 := H2.perm (show _ = pts ab (allO most nest lp L.length lc c wp wn wc (rN most wn nt) hp hn hc) * (prArr q qc (without k L) * S) by ac_rfl)
    obtain ⟨a0, a1, a2, a3, a4, a5, a6, az⟩ := all_cells HS0
    have HS0 := Lib.hid HS0
    obtain ⟨nl, hnl⟩ : ∃ n, n = (without k L).length := ⟨_, rfl⟩
    rw [← hnl]
    have Hnl := Lib.hid hnl
    clear H2 hnl
    go_wp2_with fail
    go_ret
    refine ⟨⟨by rw [HE.out]; rfl, .inl ⟨HE.out, q, qc, ?_⟩⟩, Ran.set R3 _ _⟩
    rw [← Hnl.out]
    exact HS0.out.set (i := 2) (.slice q nl qc)
  · have HE := Lib.hid hE
    rw [hE] at hnote
    clear hrd h hE hM hsome
    go_enter Try.func40, Try.ntmps40
    go_wp2_with fail
    refine hget.out.mono ?_
    rintro e w0 ⟨rfl, rfl⟩
    go_wp2_with fail
    refine hnote.out.mono ?_
    rintro e w1 ⟨⟨rfl, H1⟩, R1⟩
    have H1 := Lib.hid H1
    go_wp2_with fail
    go_ret
    exact ⟨⟨by rw [HE.out]; rfl, .inr ⟨by rw [HE.out]; decide, H1.out⟩⟩, R1⟩
theorem rdel_none (ab : Nat) (lp : Option Addr) (lc : Nat) (L : List Pr) (M : ByteArray → Option Int) (k : ByteArray) (w : World) (hL : L.length ≤ 1000000) (hM : PairsOf M L) (hk : k.size ≤ maxLen) (hnone : (M k).isSome = false) (a2 : w.cell? ⟨ab, 2, none⟩ = some (.slice lp L.length lc)) (hp : PrAt w lp L) :
    Calls Try.prog 40 #[.pointer (some ⟨ab, 0, none⟩), .string k] w fun e w' => e = .returned (.int .i64 0) ∧ w = w' := by
  have hget := rget_calls ab lp lc L M k w hL hM hk a2 hp
  rw [hnone] at hget
  have hget := Lib.hid hget
  clear hM hp
  go_enter Try.func40, Try.ntmps40
  go_wp2_with fail
  refine hget.out.mono ?_
  rintro e w0 ⟨rfl, rfl⟩
  go_wp2_with fail
  go_ret
  exact ⟨rfl, rfl⟩
def RcSays (ab : Nat) (most nest : Int) (lp wp hp : Option Addr) (ln lc wn wc nt hn hc : Nat) (c v : ByteArray) (S : Hp) (e : Ending) (w' : World) : Prop :=
  e = .returned (.int .i64 (rE most wn nt)) ∧ Sat w' (pts ab (allO most nest lp ln lc (if rE most wn nt = 0 then v else c) wp wn wc (rN most wn nt) hp hn hc) * S)
set_option maxRecDepth 100000 in
set_option maxHeartbeats 1000000 in
theorem rcell_calls (ab : Nat) (most nest : Int) (lp wp hp : Option Addr) (ln lc wn wc nt hn hc : Nat) (c v : ByteArray) (w : World) (S : Hp) (hnt : nt ≤ 1000000000) (hwn : wn ≤ 1000000) (h : Sat w (pts ab (allO most nest lp ln lc c wp wn wc nt hp hn hc) * S)) :
    Calls Try.prog 41 #[.pointer (some ⟨ab, 0, none⟩), .string v] w fun e w' => RcSays ab most nest lp wp hp ln lc wn wc nt hn hc c v S e w' ∧ Ran w w' := by
  have hnote := Lib.hid (rnote_calls ab most nest lp wp hp ln lc wn wc nt hn hc c w S hnt hwn h)
  rcases rE_cases most wn nt with hE | hE
  · have HE := Lib.hid hE
    rw [hE] at hnote
    clear h hE
    go_enter Try.func41, Try.ntmps41
    go_wp2_with fail
    refine hnote.out.mono ?_
    rintro e w1 ⟨⟨rfl, H1⟩, R1⟩
    obtain ⟨a0, a1, a2, a3, a4, a5, a6, az⟩ := all_cells H1
    have H1 := Lib.hid H1
    clear hnote
    go_wp2_with fail
    go_ret
    refine ⟨⟨by rw [HE.out]; rfl, ?_⟩, Ran.set R1 _ _⟩
    rw [if_pos HE.out]
    exact H1.out.set (i := 3) (.string v)
  · have HE := Lib.hid hE
    rw [hE] at hnote
    clear h hE
    go_enter Try.func41, Try.ntmps41
    go_wp2_with fail
    refine hnote.out.mono ?_
    rintro e w1 ⟨⟨rfl, H1⟩, R1⟩
    have H1 := Lib.hid H1
    go_wp2_with fail
    go_ret
    refine ⟨⟨by rw [HE.out]; rfl, ?_⟩, R1⟩
    rw [if_neg (by rw [HE.out]; decide)]
    exact H1.out
end Go.Proofs.Ytibgpkcklneloaa.Undo
