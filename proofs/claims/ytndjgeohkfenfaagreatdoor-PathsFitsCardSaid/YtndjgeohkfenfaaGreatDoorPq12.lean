/- HandlesPlays, part 12 of 26: the texts GlRg, joined by a program. -/
import Derived.Test.YtndjgeohkfenfaaGreatDoorPq11
import Derived.Deep.CutBlock
namespace Go.Proofs.YtndjgeohkfenfaaGreatDoor.Globs
open Go.RowKit Go.Proofs.YtndjgeohkfenfaaGreatDoor Go.Proofs.YtndjgeohkfenfaaGreatDoor.Hp
set_option linter.unusedVariables false

theorem bareL_two (t : List Ch) (a b : UInt8) : bareL t [a, b] = (bareL t [a] && bareL (t.drop 1) [b]) := by
  cases t with
  | nil => rfl
  | cons c t => simp [bareL]
theorem namedN_ge (t : List Ch) : 2 ≤ namedN t := by unfold namedN; omega
theorem namedOk_is (t : List Ch) (j : Nat) : namedOk (t.drop j) = (bareL (t.drop j) [91] && (bareL (t.drop (j + 1)) [58] && (decide (2 < namedN (t.drop j)) && (bareL (t.drop (j + namedN (t.drop j))) [58] && bareL (t.drop (j + namedN (t.drop j) + 1)) [93])))) := by
  unfold namedOk
  rw [bareL_two, bareL_two, List.drop_drop, List.drop_drop, List.drop_drop]
  have h := namedN_ge (t.drop j)
  have e : (!(namedN (t.drop j) == 2)) = decide (2 < namedN (t.drop j)) := by
    rw [Bool.eq_iff_iff]; simp; omega
  rw [e, Bool.and_assoc, Nat.add_assoc]
theorem isRng_is (t : List Ch) (j : Nat) : isRng (t.drop j) = (bareL (t.drop (j + 1)) [45] && (decide (j + 2 < t.length) && !bareL (t.drop (j + 2)) [93])) := by
  unfold isRng
  rw [List.drop_drop, List.drop_drop, List.length_drop]
  have e : decide (2 < t.length - j) = decide (j + 2 < t.length) := by rw [Bool.eq_iff_iff]; simp; omega
  rw [e, Bool.and_left_comm]
theorem is_at (t : List Ch) (i : Nat) (iz : Int) (hi : iz = (i : Int)) (b : UInt8) (bz : Int) (hb : bz = (b.toNat : Int)) (v : Bool) (hv : bareL (t.drop i) [b] = v) (ao : Option Addr) (cap : Nat) (w : World) (h : CharsAt w ao cap t) (hm : t.length ≤ 100000) :
    Calls Tryz.prog 62 #[.slice ao t.length cap, .int .i64 iz, .int .u8 bz] w (BPost v w) := by
  subst hi hb hv
  exact is_calls t i b ao cap w h hm
theorem rslice_mid (ao : Option Addr) (len cap lo n : Nat) (h0 : lo ≤ n) (hn : n ≤ cap) (w : World) :
    (Instr.slice 28 (.slice ao len cap) (some (.int .i64 lo)) (some (.int .i64 n)) none).run Tryz.prog w = .ok (.slice (tailA ao lo cap 2) (n - lo) (cap - lo)) w := by
  obtain ⟨i0, hi, hz0, hz1, hz2⟩ := info_parts infoRCh
  exact run_slice_mid _ _ i0 2 Tryz.underlying28 hi hz1 ao len cap lo n h0 hn w
abbrev rgitO (k : Int) (b : UInt8) (n : Bool) (v : Value) : Obj := .cells #[.int .i64 k, .int .u8 b.toNat, .bool n, v] 111 (0, 0)
theorem rgit_cells {w : World} {ib : Nat} {k : Int} {b : UInt8} {n : Bool} {v : Value} (h : w.heap[ib]? = some (rgitO k b n v)) :
    w.cell? ⟨ib, 0, none⟩ = some (.int .i64 k) ∧ w.cell? ⟨ib, 1, none⟩ = some (.int .u8 b.toNat) ∧ w.cell? ⟨ib, 2, none⟩ = some (.bool n) ∧ w.cell? ⟨ib, 3, none⟩ = some v ∧ ∀ i, w.frozen? ⟨ib, i, none⟩ = false :=
  ⟨by rw [cell_at h]; rfl, by rw [cell_at h]; rfl, by rw [cell_at h]; rfl, by rw [cell_at h]; rfl, fun i => free_at h i⟩
abbrev rngO (a b : UInt8) : Obj := .cells #[.int .u8 a.toNat, .int .u8 b.toNat] 171 (0, 0)
theorem rng_cells {w : World} {xb : Nat} {a b : UInt8} (h : w.heap[xb]? = some (rngO a b)) :
    w.cell? ⟨xb, 0, none⟩ = some (.int .u8 a.toNat) ∧ w.cell? ⟨xb, 1, none⟩ = some (.int .u8 b.toNat) ∧ ∀ i, w.frozen? ⟨xb, i, none⟩ = false :=
  ⟨by rw [cell_at h]; rfl, by rw [cell_at h]; rfl, fun i => free_at h i⟩
theorem rg_srcR {w : World} {ra : Option Addr} {rs : List Rg} {rc : Nat} (h : RgAt w ra rs) : Src Tryz.prog 2 109 (.slice ra rs.length rc) rs.length (rgCells rs) w := by
  cases ra with
  | none =>
    have : rs = [] := by
      cases rs with
      | nil => rfl
      | cons x l => obtain ⟨b, o, e, _⟩ := h.2 0 (by simp); cases e
    subst this
    exact Src.ofNil w Tryz.underlying109 rc
  | some a =>
    refine Src.ofSlice w Tryz.underlying109 a rs.length rc (rgCells rs) (rgCells_length rs) (fun j u hj => ?_) (rgCells_one rs)
    have hjl := (List.getElem?_eq_some_iff.1 hj).1
    rw [rgCells_length] at hjl
    obtain ⟨b, o, e, hb, c0, c1⟩ := h.2 (j / 2) (by omega)
    obtain ⟨g0, g1⟩ := rgCells_get rs (j / 2) (by omega)
    simp only [Option.some.injEq] at e
    subst e
    rw [Addr.add_lit]
    rcases Nat.mod_two_eq_zero_or_one j with hm | hm
    · have e : j / 2 * 2 = j := by omega
      rw [e] at c0 g0
      rw [c0, ← hj, g0]
    · have e : j / 2 * 2 + 1 = j := by omega
      rw [e] at g1
      rw [show o + j = o + j / 2 * 2 + 1 by omega, c1, ← hj, g1]
theorem appRR {w : World} {R : Hp} {ops : Array Oper} {rest : List Oper} {o : Oper} {a : Act} {Q : Exit → Act → World → Prop} (hgd : o.guard = none) (s x : Operand)
    (ho : o.op = .call { callee := .builtin .append, args := #[s, x], argTypes := #[109, 109] })
    (p : Option Addr) (n cap : Nat) (xs : List Value) (hp : a.eval s = .slice p n cap) (vx : Value) (hvx : a.eval x = vx) (h : Sat w (arr 171 2 p n cap xs * R)) (m : Nat) (news : List Value) (hs : Src Tryz.prog 2 109 vx m news w) (hn : n + m ≤ 1000000000)
    (hk : ∀ p' cap' w', Sat w' (arr 171 2 p' (n + m) cap' (xs ++ news) * R) → Ran w w' → wpList Tryz.prog ops Q rest (a.put o.dst (.slice p' (n + m) cap')) w') : wpList Tryz.prog ops Q (o :: rest) a w := by
  obtain ⟨i0, hi, hz0, hz1, hz2⟩ := info_parts infoRng
  exact wpList_append_arr hgd s x _ _ ho 171 i0 _ 2 2 Tryz.underlying109 hi hz0 hz1 hz2 rfl p n cap xs hp h vx hvx m news (by rw [hz1]; exact hs) (by omega) (by unfold maxLen; omega) fun p' cap' w' h1 h2 _ => hk p' cap' w' h1 h2
theorem rng_src1 {w : World} {xb : Nat} {a b : UInt8} (h : w.heap[xb]? = some (rngO a b)) : Src Tryz.prog 2 109 (.slice (some ⟨xb, 0, none⟩) 1 1) 1 (rgCells [(a, b)]) w :=
  rg_srcR (rs := [(a, b)]) ⟨by simp, fun j hj => match j, hj with
    | 0, _ => ⟨xb, 0, rfl, (Array.getElem?_eq_some_iff.1 h).1, (rng_cells h).1, (rng_cells h).2.1⟩⟩
def RGroupPost (t : List Ch) (i : Nat) (path : Bool) (w : World) (e : Ending) (w' : World) : Prop :=
  ((∃ (g : Itm) (k : Nat) (ra : Option Addr) (rc : Nat), groupL (t.drop (i + 1)) path = some (g, k) ∧ e = .returned (.tuple #[.agg #[.int .i64 g.kind, .int .u8 g.b.toNat, .bool g.neg, .slice ra g.rs.length rc], .int .i64 ((i : Int) + 1 + k)]) ∧ RgAt w' ra g.rs ∧ ∀ a, ra = some a → w.heap.size ≤ a.block) ∨
    (groupL (t.drop (i + 1)) path = none ∧ e = .returned (.tuple #[zeroItem, .int .i64 0]))) ∧ Below w.heap.size w w'
def KRel (t : List Ch) (j : Nat) (w1 : World) (g : Nat) (kv : Value) (wr : World) : Prop :=
  ∃ k : Nat, j + 2 ≤ k ∧ k + g = t.length + 2 ∧ kv = .int .i64 (k : Int) ∧ j + namedN (t.drop j) = k + lowL (t.drop k) ∧ wr = w1
def RGRel (t : List Ch) (i : Nat) (path : Bool) (w : World) (rb ib bg : Nat) (neg : Bool) (g : Nat) (jv kv lv ov rv : Value) (wr : World) : Prop :=
  ∃ (j : Nat) (first : Bool) (acc : List Rg) (p : Option Addr) (cap : Nat), jv = .int .i64 (j : Int) ∧ bg ≤ j ∧ first = decide (j = bg) ∧ t.length < j + g ∧ j ≤ t.length ∧ acc.length + 4 * g ≤ 4 * (t.length + 1) ∧ groupR (t.drop (i + 1)) path = groupF path (t.drop (i + 1)) g (j - (i + 1)) first acc ∧
    Sat wr (pts ib (rgitO 4 0 neg (.slice p acc.length cap)) * (pts rb (rgitO 0 0 false (.slice none 0 0)) * (arr 171 2 p acc.length cap (rgCells acc) * keep w))) ∧ Ran w wr
theorem groupF_step (path : Bool) (t : List Ch) (i f j : Nat) (first : Bool) (acc : List Rg) (hij : i + 1 ≤ j) (hj : j < t.length) :
    groupF path (t.drop (i + 1)) (f + 1) (j - (i + 1)) first acc = if (!first && bareL (t.drop j) [93]) = true then some (acc, j - (i + 1) + 1) else if (thingL (t.drop j) path).2 = 0 then none else groupF path (t.drop (i + 1)) f (j + (thingL (t.drop j) path).2 - (i + 1)) false (acc ++ (thingL (t.drop j) path).1) := by
  have e : i + 1 + (j - (i + 1)) = j := by omega
  have hlt : j - (i + 1) < (t.drop (i + 1)).length := by rw [List.length_drop]; omega
  have e2 : j - (i + 1) + (thingL (t.drop j) path).2 = j + (thingL (t.drop j) path).2 - (i + 1) := by omega
  rw [groupF, if_pos hlt, List.drop_drop, e, e2]


set_option maxRecDepth 100000 in
set_option maxHeartbeats 6000000 in
theorem rgroup_calls (t : List Ch) (i : Nat) (path : Bool) (ao : Option Addr) (cap : Nat) (w : World) (h : CharsAt w ao cap t) (hi : i < t.length) (hm : t.length ≤ 100000) :
    Calls Tryz.prog 63 #[.slice ao t.length cap, .int .i64 i, .bool path] w (RGroupPost t i path w) := by
  have hcap := h.1
  have htl : (t.length : Int) ≤ 100000 := by omega
  have H0 := ((Sat.start w).alloc (rgitO 0 0 false (.slice none 0 0))).alloc (rgitO 4 0 false (.slice none 0 0))
  simp only [World.size_alloc] at H0
  have R0 : Ran w ((w.alloc (rgitO 0 0 false (.slice none 0 0))).alloc (rgitO 4 0 false (.slice none 0 0))) := Ran.new (Ran.new (Below.refl _ _) _) _
  have hk0 : Kept w ((w.alloc (rgitO 0 0 false (.slice none 0 0))).alloc (rgitO 4 0 false (.slice none 0 0))) := (kept_alloc _ _).trans (kept_alloc _ _)
  obtain ⟨neg, hneg⟩ : ∃ v, bareL (t.drop (i + 1)) [33] = v := ⟨_, rfl⟩
  have HB := Lib.hid (is_at t (i + 1) ((i : Int) + 1) (by omega) 33 33 rfl neg hneg ao cap _ (h.keep hk0) hm)
  obtain ⟨rb, hrb⟩ : ∃ rb, rb = w.heap.size := ⟨_, rfl⟩
  obtain ⟨ib, hib⟩ : ∃ ib, ib = w.heap.size + 1 := ⟨_, rfl⟩
  rw [← hib, ← hrb] at H0
  obtain ⟨bg, hbg⟩ : ∃ bg, bg = i + 1 + grpBeg (t.drop (i + 1)) := ⟨_, rfl⟩
  have hbeg : grpBeg (t.drop (i + 1)) = if neg = true then 1 else 0 := by unfold grpBeg; rw [hneg]
  have hbl : neg = true → i + 1 < t.length := fun e => by
    rw [e] at hneg; have := bareL_len hneg; rw [List.length_drop] at this; simp at this; omega
  have Hneg := Lib.hid hneg
  have Hrb := Lib.hid hrb
  have Hib := Lib.hid hib
  have Hbg := Lib.hid hbg
  have Hbeg := Lib.hid hbeg
  have Hbl := Lib.hid hbl
  clear hk0 hneg hbeg hrb hib hbg hbl
  go_enter Tryz.func63, Tryz.ntmps63
  go_wp2_with fail
  refine HB.out.mono ?_
  rintro e w1 ⟨rfl, hw1⟩
  have HS0 : Sat w1 (pts ib (rgitO 4 0 false (.slice none 0 0)) * (pts rb (rgitO 0 0 false (.slice none 0 0)) * (arr 171 2 none 0 0 (rgCells []) * keep w))) := by
    rw [← hw1]; exact H0.perm (by show _ = _ * (_ * (arr 171 2 none 0 0 [] * _)); rw [arr_nil, emp_sep])
  have HR0 : Ran w w1 := by rw [← hw1]; exact R0
  obtain ⟨i0, i1, i2, i3, ifz⟩ := rgit_cells HS0.get
  clear hw1 HB H0 R0
  rw [← Hib.out, ← Hrb.out]
  go_upto_if 19 with fail
  go_cut [1] from 14 (fun s1 wx => s1 = .int .i64 (bg : Int) ∧ Sat wx (pts ib (rgitO 4 0 neg (.slice none 0 0)) * (pts rb (rgitO 0 0 false (.slice none 0 0)) * (arr 171 2 none 0 0 (rgCells []) * keep w))) ∧ Ran w wx)
  case first =>
    as_aux_lemma =>
    cases neg
    · go_wp2_with fail
      go_meet
      exact ⟨by rw [Hbg.out, Hbeg.out]; simp, HS0, HR0⟩
    · go_wp2_with fail
      go_meet
      exact ⟨by rw [Hbg.out, Hbeg.out]; first | (simp; done) | (simp; omega), HS0.set (i := 2) (.bool true), Ran.set HR0 _ _⟩
  case rest =>
  clear HS0 HR0 i0 i1 i2 i3 ifz
  obtain ⟨rfl, HS1, HR1⟩ := hcut
  go_wp2_with fail
  go_loopg [1, 10, 11, 12, 13] (t.length - i) (RGRel t i path w rb ib bg neg)
  case atStart =>
    have hb1 := Hbg.out
    have hb2 := Hbeg.out
    have hb3 := Hbl.out
    have hbx : bg ≤ t.length := by rw [hb2] at hb1; cases neg <;> simp at hb1 hb3 <;> omega
    exact ⟨bg, true, [], none, 0, rfl, Nat.le_refl _, by simp, by omega, hbx, by rw [List.length_nil]; omega, by unfold groupR; rw [List.length_drop, show t.length - (i + 1) + 1 = t.length - i by omega, show bg - (i + 1) = grpBeg (t.drop (i + 1)) by omega], HS1, HR1⟩
  case round =>
    clear HS1 HR1
    obtain ⟨j, first, acc, p, cap2, rfl, hbj, hfirst, hjg, hjl, hacc, hG, HS, HR⟩ := hrel
    have hK : Kept w wr := ⟨HR.size, HS.right.right.right.kept⟩
    have hW := h.keep hK
    have hj0 : (0 : Int) ≤ j := by omega
    have hjl' : (j : Int) ≤ t.length := by omega
    have hij : i + 1 ≤ j := by have := Hbg.out; omega
    by_cases hlt : j < t.length
    · have hlt' : (j : Int) < t.length := by omega
      obtain ⟨f, rfl⟩ : ∃ f, gk = f + 1 := ⟨gk - 1, by omega⟩
      rw [groupF_step path t i f j first acc hij hlt] at hG
      obtain ⟨v93, h93⟩ : ∃ v, bareL (t.drop j) [93] = v := ⟨_, rfl⟩
      rw [h93] at hG
      have P93 := Lib.hid (is_at t j (j : Int) rfl 93 93 rfl v93 h93 ao cap wr hW hm)
      have H93 := Lib.hid h93
      clear h93
      by_cases hend : first = false ∧ v93 = true
      · obtain ⟨hf1, rfl⟩ := hend
        rw [hf1, if_pos (by rfl)] at hG
        have hbj2 : (bg : Int) < j := by rw [hf1] at hfirst; have := of_decide_eq_false hfirst.symm; omega
        have hsome : groupL (t.drop (i + 1)) path = some (⟨4, 0, neg, acc⟩, j - (i + 1) + 1) := by unfold groupL; rw [hG, Hneg.out]; rfl
        have Hsome := Lib.hid hsome
        obtain ⟨i0, i1, i2, i3, ifz⟩ := rgit_cells HS.get
        obtain ⟨r0, r1, r2, r3, rfz⟩ := rgit_cells HS.right.get
        have hne := HS.ne
        clear hG hsome hfirst hf1
        go_wp2_with fail
        refine P93.out.mono ?_
        rintro e w' ⟨rfl, rfl⟩
        go_wp2_with fail
        have HSf := ((((HS.right.set (i := 0) (.int .i64 4)).set (i := 1) (.int .u8 ((0 : UInt8).toNat : Nat))).set (i := 2) (.bool neg)).set (i := 3) (.slice p acc.length cap2)).right
        refine bodyPost_ret (v := .tuple #[.agg #[.int .i64 4, .int .u8 0, .bool neg, .slice p acc.length cap2], .int .i64 ((j : Int) + 1)]) (by simp [results, Tryz.results63, go_sem, r0, r1, r2, r3]) rfl ⟨.inl ⟨_, _, p, cap2, Hsome.out, by simp; omega, ?_, ?_⟩, ?_⟩
        · exact rgAt_arrR HSf
        · rintro a rfl; exact Sat.keep_fresh HSf
        · exact Ran.whole' (Ran.set (Ran.set (Ran.set (Ran.set HR _ _) _ _) _ _) _ _) HSf.right
      · have hcnd : (!first && v93) = false := by
          cases first <;> cases v93 <;> simp at hend ⊢
        rw [hcnd, if_neg (by simp)] at hG
        have hcnd2 : j = bg ∨ v93 = false := by
          by_cases e : j = bg
          · exact .inl e
          · right
            rw [hfirst] at hcnd
            simpa [e] using hcnd
        have HG := Lib.hid hG
        clear hG hend hcnd hfirst
        obtain ⟨kk, hkk⟩ : ∃ k, k = j + namedN (t.drop j) := ⟨_, rfl⟩
        have hkk2 : j + 2 ≤ kk := by have := namedN_ge (t.drop j); omega
        have hkk3 : (kk : Int) ≤ 200005 := by
          have h9 := lowL_le ((t.drop j).drop 2)
          rw [List.length_drop, List.length_drop] at h9
          unfold namedN at hkk; omega
        go_upto_region 8 with fail
        go_cut [35] from 24 to 178 (fun s35 wx => s35 = .bool false ∧ wr = wx)
        case first =>
          as_aux_lemma =>
          by_cases hjb : j = bg
          · have hjb2 : ¬ ((bg : Int) < j) := by omega
            clear hcnd2 hjb
            go_wp2_with fail
            go_meet
            exact ⟨rfl, rfl⟩
          · have hjb2 : (bg : Int) < j := by omega
            obtain rfl : v93 = false := hcnd2.resolve_left hjb
            clear hcnd2
            go_wp2_with fail
            refine P93.out.mono ?_
            rintro e w' ⟨rfl, rfl⟩
            go_wp2_with fail
            go_meet
            exact ⟨rfl, rfl⟩
        case rest =>
        obtain ⟨rfl, rfl⟩ := hcut
        clear hcnd2 P93 H93
        go_upto_block 2 with fail
        go_cut [10] from 24 to 178 (fun s10 wx => s10 = .int .i64 (kk : Int) ∧ wr = wx)
        case first =>
          as_aux_lemma =>
          go_wp2_with fail
          go_loopg [10] (t.length - j) (KRel t j wr)
          case atStart => exact ⟨j + 2, by omega, by omega, by go_num, by unfold namedN; rw [List.drop_drop]; omega, rfl⟩
          case round =>
            obtain ⟨k, hk2, hkg, rfl, hN, rfl⟩ := hrel
            have hk0 : (0 : Int) ≤ k := by omega
            by_cases hkl : k < t.length
            · have hkl' : (k : Int) < t.length := by omega
              obtain ⟨tb, o, rfl, htb, c0, c1⟩ := hW.2.2 k hkl
              obtain ⟨c, hc⟩ : ∃ c, c = t[k] := ⟨_, rfl⟩
              rw [← hc] at c0 c1
              obtain ⟨cb, cq⟩ := c
              simp only at c0 c1
              have hcb := cb.toNat_lt
              have Hc := Lib.hid hc
              have HN := Lib.hid hN
              have Hkg := Lib.hid hkg
              have Hkk := Lib.hid hkk
              clear hc hN hkg hkk HS HR
              cases cq
              · by_cases i1 : (97 : Int) ≤ cb.toNat
                · by_cases i2 : (cb.toNat : Int) ≤ 122
                  · have hlow : isLow t[k] = true := by
                      rw [← Hc.out]; unfold isLow
                      simp only [Bool.not_false, Bool.true_and, Bool.and_eq_true, decide_eq_true_eq, UInt8.le_iff_toNat_le]
                      exact ⟨by show 97 ≤ cb.toNat; omega, by show cb.toNat ≤ 122; omega⟩
                    have hnx := lowL_yes hkl hlow
                    have Hnx := Lib.hid hnx
                    clear hnx hlow
                    go_wp2_with fail
                    go_roundg (gk - 1)
                    case measure => have := Hkg.out; omega
                    case rel => exact ⟨k + 1, by omega, by have := Hkg.out; omega, by go_num, by rw [HN.out, Hnx.out]; omega, rfl⟩
                  · have hlow : ∀ h : k < t.length, isLow t[k] = false := fun _ => by
                      rw [← Hc.out]; unfold isLow
                      rw [show decide (cb ≤ 122) = false by rw [decide_eq_false_iff_not, UInt8.le_iff_toNat_le]; show ¬ cb.toNat ≤ 122; omega]; simp
                    have hNn := Lib.hid (lowL_no hlow)
                    clear hlow
                    go_wp2_with fail
                    go_meet
                    exact ⟨by rw [Hkk.out, HN.out, hNn.out]; rfl, rfl⟩
                · have hlow : ∀ h : k < t.length, isLow t[k] = false := fun _ => by
                    rw [← Hc.out]; unfold isLow
                    rw [show decide (97 ≤ cb) = false by rw [decide_eq_false_iff_not, UInt8.le_iff_toNat_le]; show ¬ 97 ≤ cb.toNat; omega]; simp
                  have hNn := Lib.hid (lowL_no hlow)
                  clear hlow
                  go_wp2_with fail
                  go_meet
                  exact ⟨by rw [Hkk.out, HN.out, hNn.out]; rfl, rfl⟩
              · have hlow : ∀ h : k < t.length, isLow t[k] = false := fun _ => by
                  rw [← Hc.out]; rfl
                have hNn := Lib.hid (lowL_no hlow)
                clear hlow
                go_wp2_with fail
                go_meet
                exact ⟨by rw [Hkk.out, HN.out, hNn.out]; rfl, rfl⟩
            · have hkl' : ¬ ((k : Int) < t.length) := by omega
              have hNn := Lib.hid (lowL_no (t := t) (n := k) (fun h => absurd h hkl))
              have HN := Lib.hid hN
              have Hkk := Lib.hid hkk
              clear hN hkk HS HR
              go_wp2_with fail
              go_meet
              exact ⟨by rw [Hkk.out, HN.out, hNn.out]; rfl, rfl⟩
        case rest =>
        obtain ⟨rfl, rfl⟩ := hcut
        have hnmi := namedOk_is t j
        have e2 : decide (2 < namedN (t.drop j)) = decide (j + 2 < kk) := by rw [Bool.eq_iff_iff]; simp; omega
        rw [← hkk, e2] at hnmi
        obtain ⟨v1, g1⟩ : ∃ v, bareL (t.drop j) [91] = v := ⟨_, rfl⟩
        obtain ⟨v2, g2⟩ : ∃ v, bareL (t.drop (j + 1)) [58] = v := ⟨_, rfl⟩
        obtain ⟨v3, g3⟩ : ∃ v, bareL (t.drop kk) [58] = v := ⟨_, rfl⟩
        obtain ⟨v4, g4⟩ : ∃ v, bareL (t.drop (kk + 1)) [93] = v := ⟨_, rfl⟩
        rw [g1, g2, g3, g4] at hnmi
        obtain ⟨nm, hnm⟩ : ∃ v, namedOk (t.drop j) = v := ⟨_, rfl⟩
        rw [hnm] at hnmi
        have P1 := Lib.hid (is_at t j (j : Int) rfl 91 91 rfl v1 g1 ao cap wr hW hm)
        have P2 := Lib.hid (is_at t (j + 1) ((j : Int) + 1) (by omega) 58 58 rfl v2 g2 ao cap wr hW hm)
        have P3 := Lib.hid (is_at t kk (kk : Int) rfl 58 58 rfl v3 g3 ao cap wr hW hm)
        have P4 := Lib.hid (is_at t (kk + 1) ((kk : Int) + 1) (by omega) 93 93 rfl v4 g4 ao cap wr hW hm)
        have Hnmi := Lib.hid hnmi
        have Hnm := Lib.hid hnm
        have Hkk := Lib.hid hkk
        clear hnmi hnm hkk e2 g1 g2 g3 g4
        go_upto_region 13 with fail
        go_cut [96] from 24 to 178 (fun s96 wx => s96 = .bool nm ∧ wr = wx)
        case first =>
          as_aux_lemma =>
          clear HS HR
          cases v1
          · skip
            go_wp2_with fail
            refine P1.out.mono ?_
            rintro e w' ⟨rfl, rfl⟩
            go_wp2_with fail
            go_meet
            exact ⟨by rw [Hnmi.out]; rfl, rfl⟩
          · cases v2
            · skip
              go_wp2_with fail
              refine P1.out.mono ?_
              rintro e w' ⟨rfl, rfl⟩
              go_wp2_with fail
              refine P2.out.mono ?_
              rintro e w' ⟨rfl, rfl⟩
              go_wp2_with fail
              go_meet
              exact ⟨by rw [Hnmi.out]; rfl, rfl⟩
            · by_cases hgt : j + 2 < kk
              · have hgt2 : (j : Int) + 2 < kk := by omega
                cases v3
                · have Hd := Lib.hid hgt
                  clear hgt
                  go_wp2_with fail
                  refine P1.out.mono ?_
                  rintro e w' ⟨rfl, rfl⟩
                  go_wp2_with fail
                  refine P2.out.mono ?_
                  rintro e w' ⟨rfl, rfl⟩
                  go_wp2_with fail
                  refine P3.out.mono ?_
                  rintro e w' ⟨rfl, rfl⟩
                  go_wp2_with fail
                  go_meet
                  exact ⟨by rw [Hnmi.out, decide_eq_true Hd.out]; rfl, rfl⟩
                · have Hd := Lib.hid hgt
                  clear hgt
                  go_wp2_with fail
                  refine P1.out.mono ?_
                  rintro e w' ⟨rfl, rfl⟩
                  go_wp2_with fail
                  refine P2.out.mono ?_
                  rintro e w' ⟨rfl, rfl⟩
                  go_wp2_with fail
                  refine P3.out.mono ?_
                  rintro e w' ⟨rfl, rfl⟩
                  go_wp2_with fail
                  refine P4.out.mono ?_
                  rintro e w' ⟨rfl, rfl⟩
                  go_wp2_with fail
                  go_meet
                  exact ⟨by rw [Hnmi.out, decide_eq_true Hd.out]; cases v4 <;> rfl, rfl⟩
              · have hgt2 : ¬ ((j : Int) + 2 < kk) := by omega
                have Hd := Lib.hid hgt
                clear hgt
                go_wp2_with fail
                refine P1.out.mono ?_
                rintro e w' ⟨rfl, rfl⟩
                go_wp2_with fail
                refine P2.out.mono ?_
                rintro e w' ⟨rfl, rfl⟩
                go_wp2_with fail
                go_meet
                exact ⟨by rw [Hnmi.out, decide_eq_false Hd.out]; rfl, rfl⟩
        case rest =>
        obtain ⟨rfl, rfl⟩ := hcut
        clear P1 P2 P3 P4 Hnmi
        cases nm
        · -- NOT NAMED
          have HT := Lib.hid (thingL_TT path Hnm.out)
          obtain ⟨tb, o, rfl, htb, c0, c1⟩ := hW.2.2 j hlt
          obtain ⟨a, ha⟩ : ∃ a, a = t[j].b := ⟨_, rfl⟩
          rw [← ha] at c0
          have hg0 : ((t.drop j).getD 0 default).b = a := by rw [List.getD_eq_getElem?_getD, List.getElem?_drop, Nat.add_zero, List.getElem?_eq_getElem hlt, ha]; rfl
          rw [hg0] at HT
          have hri := isRng_is t j
          obtain ⟨v1, g1⟩ : ∃ v, bareL (t.drop (j + 1)) [45] = v := ⟨_, rfl⟩
          obtain ⟨v2, g2⟩ : ∃ v, bareL (t.drop (j + 2)) [93] = v := ⟨_, rfl⟩
          rw [g1, g2] at hri
          obtain ⟨rg, hrg⟩ : ∃ v, isRng (t.drop j) = v := ⟨_, rfl⟩
          rw [hrg] at hri
          have K2 : Kept wr (wr.alloc (rngO a a)).drew := kept_drew (kept_alloc _ _)
          have P1 := Lib.hid (is_at t (j + 1) ((j : Int) + 1) (by omega) 45 45 rfl v1 g1 (some ⟨tb, o, none⟩) cap _ (hW.keep K2) hm)
          have P2 := Lib.hid (is_at t (j + 2) ((j : Int) + 1 + 1) (by omega) 93 93 rfl v2 g2 (some ⟨tb, o, none⟩) cap _ (hW.keep K2) hm)
          have hmore : rg = true → j + 2 < t.length := fun e => by rw [e] at hri; cases v1 <;> simp at hri; omega
          have hCF : ∀ W, CharsAt W (some ⟨tb, o, none⟩) cap t → ∀ h2 : j + 2 < t.length, W.cell? ⟨tb, o + (j + 2) * 2, none⟩ = some (.int .u8 t[j + 2].b.toNat) := fun W hw h2 => by
            obtain ⟨tb2, o2, e, _, d0, _⟩ := hw.2.2 (j + 2) h2
            cases e
            exact d0
          have HCF := Lib.hid (hCF _ (hW.keep K2))
          have CF : ∀ w' : World, Kept wr w' → w'.cell? ⟨tb, o + j * 2, none⟩ = some (.int .u8 a.toNat) := fun w' k => (k.cell htb _).trans c0
          have Hcf := Lib.hid CF
          clear CF
          have hx := HS.alloc (rngO a a)
          have rx := Ran.new HR (rngO a a)
          have hCa := hW.keep K2
          have Hri := Lib.hid hri
          have Hrg := Lib.hid hrg
          have Hg0 := Lib.hid hg0
          have Hmore := Lib.hid hmore
          clear hri hrg hmore g1 g2 hCF ha hg0 c1 HS HR
          go_wp2_with fail
          refine region_plan (S := (fun w' => w'.cell? ⟨tb, o + j * 2, none⟩ = some (.int .u8 a.toNat))) [(0, true), (1, true), (2, true), (3, true), (4, true), (5, true), (6, true), (7, true), (8, true), (9, true), (10, true), (11, false), (12, false)] (by kernel_rfl) (by kernel_rfl) (by kernel_rfl) ?_ ?_
          · ((try dsimp only); (first | done | (first | exact c0 | exact Hcf.out _ (kept_drew (kept_alloc _ _)) | exact Hcf.out _ ((kept_drew (Kept.refl wr)).trans (kept_alloc _ _)))))
          simp only [planOps, List.map_cons, List.map_nil, List.getElem?_toArray, List.getElem?_cons_zero, List.getElem?_cons_succ]
          repeat (first
            | ((refine plan_yes (v := ?_) (by rfl) ?_ ?_); rotate_left; (focus (intro w hSw; (try dsimp only at hSw); go_simp; try (with_reducible rfl))); (try simp only [Act.put, List.setIfInBounds_toArray, List.set_cons_zero, List.set_cons_succ]))
            | ((refine plan_no (by rfl) ?_); (try simp only [Act.put, List.setIfInBounds_toArray, List.set_cons_zero, List.set_cons_succ]))
            | ((refine plan_step (fun K hK => ?_)); (first | (fail) | (go_simp; (fail); (try go_wp2_with fail)) | go_simp); (refine hK.out _ _ ?_ (fun hHeld => ?_)); (focus ((try dsimp only); (first | done | (first | exact c0 | exact Hcf.out _ (kept_drew (kept_alloc _ _)) | exact Hcf.out _ ((kept_drew (Kept.refl wr)).trans (kept_alloc _ _)))))); clear hK K; (try simp only [Act.put, List.setIfInBounds_toArray, List.set_cons_zero, List.set_cons_succ])))
          refine plan_done ?_
          obtain ⟨w2, hw2⟩ : ∃ w2, w2 = (wr.alloc (rngO a a)).drew := ⟨_, rfl⟩
          obtain ⟨xb, hxb⟩ : ∃ xb, xb = wr.heap.size := ⟨_, rfl⟩
          have HX : Sat w2 (pts xb (rngO a a) * (pts ib (rgitO 4 0 neg (.slice p acc.length cap2)) * (pts rb (rgitO 0 0 false (.slice none 0 0)) * (arr 171 2 p acc.length cap2 (rgCells acc) * keep w)))) := by rw [hw2, hxb]; exact hx
          have RX : Ran w w2 := by rw [hw2]; exact Below.drew rx
          rw [← hw2] at P1 P2 HCF hCa ⊢
          rw [← hxb]
          clear hx rx hw2 hxb K2 hW hK c0 htb
          go_upto_region 21 with fail
          go_cut [146] from 24 to 178 (fun s146 wx => s146 = .bool rg ∧ w2 = wx)
          case first =>
            as_aux_lemma =>
            clear HX RX
            cases v1
            · skip
              go_wp2_with fail
              refine P1.out.mono ?_
              rintro e w' ⟨rfl, rfl⟩
              go_wp2_with fail
              go_meet
              exact ⟨by rw [Hri.out]; rfl, rfl⟩
            · by_cases hgt : j + 2 < t.length
              · have hgt2 : (j : Int) + 1 + 1 < t.length := by omega
                have Hd := Lib.hid hgt
                clear hgt
                go_wp2_with fail
                refine P1.out.mono ?_
                rintro e w' ⟨rfl, rfl⟩
                go_wp2_with fail
                refine P2.out.mono ?_
                rintro e w' ⟨rfl, rfl⟩
                go_wp2_with fail
                go_meet
                exact ⟨by rw [Hri.out, decide_eq_true Hd.out]; cases v2 <;> rfl, rfl⟩
              · have hgt2 : ¬ ((j : Int) + 1 + 1 < t.length) := by omega
                have Hd := Lib.hid hgt
                clear hgt
                go_wp2_with fail
                refine P1.out.mono ?_
                rintro e w' ⟨rfl, rfl⟩
                go_wp2_with fail
                go_meet
                exact ⟨by rw [Hri.out, decide_eq_false Hd.out]; rfl, rfl⟩
          case rest =>
          obtain ⟨rfl, rfl⟩ := hcut
          clear P1 P2 Hri
          cases rg
          · as_aux_lemma =>
            have h1 : rngTo (t.drop j) = a := by unfold rngTo; rw [Hrg.out, if_neg (by simp)]; exact Hg0.out
            have h2 : rngN (t.drop j) = 1 := by unfold rngN; rw [Hrg.out]; rfl
            rw [h1, h2] at HT
            clear h1 h2 HCF Hrg Hmore
            go_upto_region 24 with fail
            obtain ⟨x0, x1, xf⟩ := rng_cells HX.get
            obtain ⟨i0, i1, i2, i3, ifz⟩ := rgit_cells HX.right.get
            obtain ⟨r0, r1, r2, r3, rfz⟩ := rgit_cells HX.right.right.get
            cases path
            · have hp3 : false = false ∨ (a == 47) = false ∧ (a == 47) = false := .inl rfl
              clear r0 r1 r2 r3 rfz
              by_cases hle : (a.toNat : Int) ≤ a.toNat
              · have hnl : ¬ a < a := by rw [UInt8.lt_iff_toNat_lt]; omega
                have HG4 := HG.out
                rw [HT.out, TT_le hp3 hnl, if_neg (by simp)] at HG4
                have HG5 := Lib.hid HG4
                have HY := (HX.perm (show _ = arr 171 2 p acc.length cap2 (rgCells acc) * (pts xb (rngO a a) * (pts ib (rgitO 4 0 neg (.slice p acc.length cap2)) * (pts rb (rgitO 0 0 false (.slice none 0 0)) * keep w))) by ac_rfl)).old (rngO a a)
                have RY := Ran.new RX (rngO a a)
                have hacc2 : acc.length + 1 ≤ 1000000000 := by omega
                clear hnl HG4 HX RX HG
                go_wp2_with (at_builtin; refine appRR rfl _ _ rfl p acc.length cap2 _ rfl _ rfl HY 1 (rgCells [(a, a)]) (rng_src1 (block_new rfl)) hacc2 ?_; intro p' cap' w4 HS5 HR5; clear HY i0 i1 i2 i3 ifz x0 x1 xf; have HS6 := (HS5.perm (show _ = pts xb (rngO a a) * (pts ib (rgitO 4 0 neg (.slice p acc.length cap2)) * (pts rb (rgitO 0 0 false (.slice none 0 0)) * (arr 171 2 p' (acc.length + 1) cap' (rgCells acc ++ rgCells [(a, a)]) * keep w))) by ac_rfl)).right; obtain ⟨i0, i1, i2, i3, ifz⟩ := rgit_cells HS6.get)
                go_roundg f
                case measure => omega
                case rel => exact ⟨j + 1, false, acc ++ [(a, a)], p', cap', by go_num, by omega, (decide_eq_false (by omega)).symm, by omega, by omega, by rw [List.length_append]; simp; omega, HG5.out, by rw [List.length_append, rgCells_append]; exact HS6.set (i := 3) _, Ran.set (RY.trans HR5) _ _⟩
              · exact absurd (Int.le_refl _) hle
            · by_cases ha : (a == 47) = true
              · have ea : ((a.toNat : Int) == 47) = true := by have := u8_lit a 47 (by omega); rw [show ((47 : Nat) : Int) = 47 from rfl] at this; rw [this]; exact ha
                have hnone : groupL (t.drop (i + 1)) true = none := by unfold groupL; rw [HG.out, HT.out, TT_a _ _ ha, if_pos rfl]; rfl
                have Hnone := Lib.hid hnone
                have SZ := HX.perm (show _ = pts rb (rgitO 0 0 false (.slice none 0 0)) * (pts xb (rngO a a) * (pts ib (rgitO 4 0 neg (.slice p acc.length cap2)) * (arr 171 2 p acc.length cap2 (rgCells acc) * keep w))) by ac_rfl)
                clear hnone HX HG HT
                go_wp2_with fail
                refine bodyPost_ret (v := .tuple #[zeroItem, .int .i64 0]) (by simp [results, Tryz.results63, go_sem, zeroItem, r0, r1, r2, r3]) rfl ⟨.inr ⟨Hnone.out, rfl⟩, ?_⟩
                exact Ran.whole' (Ran.set (Ran.set (Ran.set (Ran.set RX _ _) _ _) _ _) _ _) ((((SZ.set (i := 0) _).set (i := 1) _).set (i := 2) _).set (i := 3) _).right.right.right.right
              · have ha2 : (a == 47) = false := by simpa using ha
                have ea : ((a.toNat : Int) == 47) = false := by have := u8_lit a 47 (by omega); rw [show ((47 : Nat) : Int) = 47 from rfl] at this; rw [this]; exact ha2
                by_cases hb : (a == 47) = true
                · exact absurd hb (by rw [ha2]; simp)
                · have hb2 : (a == 47) = false := by simpa using hb
                  have eb : ((a.toNat : Int) == 47) = false := by have := u8_lit a 47 (by omega); rw [show ((47 : Nat) : Int) = 47 from rfl] at this; rw [this]; exact hb2
                  have hp3 : true = false ∨ (a == 47) = false ∧ (a == 47) = false := .inr ⟨ha2, hb2⟩
                  clear ha hb ha2 hb2
                  clear r0 r1 r2 r3 rfz
                  by_cases hle : (a.toNat : Int) ≤ a.toNat
                  · have hnl : ¬ a < a := by rw [UInt8.lt_iff_toNat_lt]; omega
                    have HG4 := HG.out
                    rw [HT.out, TT_le hp3 hnl, if_neg (by simp)] at HG4
                    have HG5 := Lib.hid HG4
                    have HY := (HX.perm (show _ = arr 171 2 p acc.length cap2 (rgCells acc) * (pts xb (rngO a a) * (pts ib (rgitO 4 0 neg (.slice p acc.length cap2)) * (pts rb (rgitO 0 0 false (.slice none 0 0)) * keep w))) by ac_rfl)).old (rngO a a)
                    have RY := Ran.new RX (rngO a a)
                    have hacc2 : acc.length + 1 ≤ 1000000000 := by omega
                    clear hnl HG4 HX RX HG
                    go_wp2_with (at_builtin; refine appRR rfl _ _ rfl p acc.length cap2 _ rfl _ rfl HY 1 (rgCells [(a, a)]) (rng_src1 (block_new rfl)) hacc2 ?_; intro p' cap' w4 HS5 HR5; clear HY i0 i1 i2 i3 ifz x0 x1 xf; have HS6 := (HS5.perm (show _ = pts xb (rngO a a) * (pts ib (rgitO 4 0 neg (.slice p acc.length cap2)) * (pts rb (rgitO 0 0 false (.slice none 0 0)) * (arr 171 2 p' (acc.length + 1) cap' (rgCells acc ++ rgCells [(a, a)]) * keep w))) by ac_rfl)).right; obtain ⟨i0, i1, i2, i3, ifz⟩ := rgit_cells HS6.get)
                    go_roundg f
                    case measure => omega
                    case rel => exact ⟨j + 1, false, acc ++ [(a, a)], p', cap', by go_num, by omega, (decide_eq_false (by omega)).symm, by omega, by omega, by rw [List.length_append]; simp; omega, HG5.out, by rw [List.length_append, rgCells_append]; exact HS6.set (i := 3) _, Ran.set (RY.trans HR5) _ _⟩
                  · exact absurd (Int.le_refl _) hle
          · as_aux_lemma =>
            have hl2 := Hmore.out rfl
            have hd := HCF.out hl2
            obtain ⟨b, hb0⟩ : ∃ b, b = t[j + 2].b := ⟨_, rfl⟩
            rw [← hb0] at hd
            have h1 : rngTo (t.drop j) = b := by unfold rngTo; rw [Hrg.out, if_pos rfl, List.getD_eq_getElem?_getD, List.getElem?_drop, List.getElem?_eq_getElem hl2, hb0]; rfl
            have h2 : rngN (t.drop j) = 3 := by unfold rngN; rw [Hrg.out]; rfl
            rw [h1, h2] at HT
            have n1 : (0 : Int) ≤ (j : Int) + 1 + 1 := by omega
            have n2 : (j : Int) + 1 + 1 < t.length := by omega
            have n3 : ((j : Int) + 1 + 1).toNat = j + 2 := by omega
            obtain ⟨x0, x1, xf⟩ := rng_cells HX.get
            have HZ := HX.set (i := 1) (.int .u8 b.toNat)
            have RZ := Ran.set RX ⟨xb, 1, none⟩ (.int .u8 b.toNat)
            clear h1 h2 HCF Hrg Hmore hb0 HX RX
            go_upto_region 24 with fail
            obtain ⟨w3, hw3⟩ : ∃ w3, w3 = w2.setCell ⟨xb, 1, none⟩ (.int .u8 b.toNat) := ⟨_, rfl⟩
            have HX : Sat w3 (pts xb (rngO a b) * (pts ib (rgitO 4 0 neg (.slice p acc.length cap2)) * (pts rb (rgitO 0 0 false (.slice none 0 0)) * (arr 171 2 p acc.length cap2 (rgCells acc) * keep w)))) := by rw [hw3]; exact HZ
            have RX : Ran w w3 := by rw [hw3]; exact RZ
            rw [← hw3]
            clear hw3 HZ RZ x0 x1 xf hd n1 n2 n3
            obtain ⟨x0, x1, xf⟩ := rng_cells HX.get
            obtain ⟨i0, i1, i2, i3, ifz⟩ := rgit_cells HX.right.get
            obtain ⟨r0, r1, r2, r3, rfz⟩ := rgit_cells HX.right.right.get
            cases path
            · have hp3 : false = false ∨ (a == 47) = false ∧ (b == 47) = false := .inl rfl
              clear r0 r1 r2 r3 rfz
              by_cases hle : (a.toNat : Int) ≤ b.toNat
              · have hnl : ¬ b < a := by rw [UInt8.lt_iff_toNat_lt]; omega
                have HG4 := HG.out
                rw [HT.out, TT_le hp3 hnl, if_neg (by simp)] at HG4
                have HG5 := Lib.hid HG4
                have HY := (HX.perm (show _ = arr 171 2 p acc.length cap2 (rgCells acc) * (pts xb (rngO a b) * (pts ib (rgitO 4 0 neg (.slice p acc.length cap2)) * (pts rb (rgitO 0 0 false (.slice none 0 0)) * keep w))) by ac_rfl)).old (rngO a b)
                have RY := Ran.new RX (rngO a b)
                have hacc2 : acc.length + 1 ≤ 1000000000 := by omega
                clear hnl HG4 HX RX HG
                go_wp2_with (at_builtin; refine appRR rfl _ _ rfl p acc.length cap2 _ rfl _ rfl HY 1 (rgCells [(a, b)]) (rng_src1 (block_new rfl)) hacc2 ?_; intro p' cap' w4 HS5 HR5; clear HY i0 i1 i2 i3 ifz x0 x1 xf; have HS6 := (HS5.perm (show _ = pts xb (rngO a b) * (pts ib (rgitO 4 0 neg (.slice p acc.length cap2)) * (pts rb (rgitO 0 0 false (.slice none 0 0)) * (arr 171 2 p' (acc.length + 1) cap' (rgCells acc ++ rgCells [(a, b)]) * keep w))) by ac_rfl)).right; obtain ⟨i0, i1, i2, i3, ifz⟩ := rgit_cells HS6.get)
                go_roundg f
                case measure => omega
                case rel => exact ⟨j + 3, false, acc ++ [(a, b)], p', cap', by go_num, by omega, (decide_eq_false (by omega)).symm, by omega, by omega, by rw [List.length_append]; simp; omega, HG5.out, by rw [List.length_append, rgCells_append]; exact HS6.set (i := 3) _, Ran.set (RY.trans HR5) _ _⟩
              · have hlt2 : b < a := by rw [UInt8.lt_iff_toNat_lt]; omega
                have HG4 := HG.out
                rw [HT.out, TT_gt hp3 hlt2, if_neg (by simp), List.append_nil] at HG4
                have HG5 := Lib.hid HG4
                clear hlt2 HG4 HG
                go_wp2_with fail
                go_roundg f
                case measure => omega
                case rel => exact ⟨j + 3, false, acc, p, cap2, by go_num, by omega, (decide_eq_false (by omega)).symm, by omega, by omega, by omega, HG5.out, HX.right, RX⟩
            · by_cases ha : (a == 47) = true
              · have ea : ((a.toNat : Int) == 47) = true := by have := u8_lit a 47 (by omega); rw [show ((47 : Nat) : Int) = 47 from rfl] at this; rw [this]; exact ha
                have hnone : groupL (t.drop (i + 1)) true = none := by unfold groupL; rw [HG.out, HT.out, TT_a _ _ ha, if_pos rfl]; rfl
                have Hnone := Lib.hid hnone
                have SZ := HX.perm (show _ = pts rb (rgitO 0 0 false (.slice none 0 0)) * (pts xb (rngO a b) * (pts ib (rgitO 4 0 neg (.slice p acc.length cap2)) * (arr 171 2 p acc.length cap2 (rgCells acc) * keep w))) by ac_rfl)
                clear hnone HX HG HT
                go_wp2_with fail
                refine bodyPost_ret (v := .tuple #[zeroItem, .int .i64 0]) (by simp [results, Tryz.results63, go_sem, zeroItem, r0, r1, r2, r3]) rfl ⟨.inr ⟨Hnone.out, rfl⟩, ?_⟩
                exact Ran.whole' (Ran.set (Ran.set (Ran.set (Ran.set RX _ _) _ _) _ _) _ _) ((((SZ.set (i := 0) _).set (i := 1) _).set (i := 2) _).set (i := 3) _).right.right.right.right
              · have ha2 : (a == 47) = false := by simpa using ha
                have ea : ((a.toNat : Int) == 47) = false := by have := u8_lit a 47 (by omega); rw [show ((47 : Nat) : Int) = 47 from rfl] at this; rw [this]; exact ha2
                by_cases hb : (b == 47) = true
                · have eb : ((b.toNat : Int) == 47) = true := by have := u8_lit b 47 (by omega); rw [show ((47 : Nat) : Int) = 47 from rfl] at this; rw [this]; exact hb
                  have hnone : groupL (t.drop (i + 1)) true = none := by unfold groupL; rw [HG.out, HT.out, TT_b _ _ hb, if_pos rfl]; rfl
                  have Hnone := Lib.hid hnone
                  have SZ := HX.perm (show _ = pts rb (rgitO 0 0 false (.slice none 0 0)) * (pts xb (rngO a b) * (pts ib (rgitO 4 0 neg (.slice p acc.length cap2)) * (arr 171 2 p acc.length cap2 (rgCells acc) * keep w))) by ac_rfl)
                  clear hnone HX HG HT
                  go_wp2_with fail
                  refine bodyPost_ret (v := .tuple #[zeroItem, .int .i64 0]) (by simp [results, Tryz.results63, go_sem, zeroItem, r0, r1, r2, r3]) rfl ⟨.inr ⟨Hnone.out, rfl⟩, ?_⟩
                  exact Ran.whole' (Ran.set (Ran.set (Ran.set (Ran.set RX _ _) _ _) _ _) _ _) ((((SZ.set (i := 0) _).set (i := 1) _).set (i := 2) _).set (i := 3) _).right.right.right.right
                · have hb2 : (b == 47) = false := by simpa using hb
                  have eb : ((b.toNat : Int) == 47) = false := by have := u8_lit b 47 (by omega); rw [show ((47 : Nat) : Int) = 47 from rfl] at this; rw [this]; exact hb2
                  have hp3 : true = false ∨ (a == 47) = false ∧ (b == 47) = false := .inr ⟨ha2, hb2⟩
                  clear ha hb ha2 hb2
                  clear r0 r1 r2 r3 rfz
                  by_cases hle : (a.toNat : Int) ≤ b.toNat
                  · have hnl : ¬ b < a := by rw [UInt8.lt_iff_toNat_lt]; omega
                    have HG4 := HG.out
                    rw [HT.out, TT_le hp3 hnl, if_neg (by simp)] at HG4
                    have HG5 := Lib.hid HG4
                    have HY := (HX.perm (show _ = arr 171 2 p acc.length cap2 (rgCells acc) * (pts xb (rngO a b) * (pts ib (rgitO 4 0 neg (.slice p acc.length cap2)) * (pts rb (rgitO 0 0 false (.slice none 0 0)) * keep w))) by ac_rfl)).old (rngO a b)
                    have RY := Ran.new RX (rngO a b)
                    have hacc2 : acc.length + 1 ≤ 1000000000 := by omega
                    clear hnl HG4 HX RX HG
                    go_wp2_with (at_builtin; refine appRR rfl _ _ rfl p acc.length cap2 _ rfl _ rfl HY 1 (rgCells [(a, b)]) (rng_src1 (block_new rfl)) hacc2 ?_; intro p' cap' w4 HS5 HR5; clear HY i0 i1 i2 i3 ifz x0 x1 xf; have HS6 := (HS5.perm (show _ = pts xb (rngO a b) * (pts ib (rgitO 4 0 neg (.slice p acc.length cap2)) * (pts rb (rgitO 0 0 false (.slice none 0 0)) * (arr 171 2 p' (acc.length + 1) cap' (rgCells acc ++ rgCells [(a, b)]) * keep w))) by ac_rfl)).right; obtain ⟨i0, i1, i2, i3, ifz⟩ := rgit_cells HS6.get)
                    go_roundg f
                    case measure => omega
                    case rel => exact ⟨j + 3, false, acc ++ [(a, b)], p', cap', by go_num, by omega, (decide_eq_false (by omega)).symm, by omega, by omega, by rw [List.length_append]; simp; omega, HG5.out, by rw [List.length_append, rgCells_append]; exact HS6.set (i := 3) _, Ran.set (RY.trans HR5) _ _⟩
                  · have hlt2 : b < a := by rw [UInt8.lt_iff_toNat_lt]; omega
                    have HG4 := HG.out
                    rw [HT.out, TT_gt hp3 hlt2, if_neg (by simp), List.append_nil] at HG4
                    have HG5 := Lib.hid HG4
                    clear hlt2 HG4 HG
                    go_wp2_with fail
                    go_roundg f
                    case measure => omega
                    case rel => exact ⟨j + 3, false, acc, p, cap2, by go_num, by omega, (decide_eq_false (by omega)).symm, by omega, by omega, by omega, HG5.out, HX.right, RX⟩
        · -- NAMED
          as_aux_lemma =>
          have hle := namedN_le Hnm.out
          rw [List.length_drop] at hle
          have hk1 : kk + 2 ≤ t.length := by have := Hkk.out; omega
          have hk3 : j + 3 ≤ kk := by have := Hkk.out; omega
          have hcap2 : kk ≤ cap := by omega
          have hsm : ∀ W, (Instr.slice 28 (.slice ao t.length cap) (some (.int .i64 ((j : Int) + 2))) (some (.int .i64 (kk : Int))) none).run Tryz.prog W = .ok (.slice (tailA ao (j + 2) cap 2) (kk - (j + 2)) (cap - (j + 2))) W := fun W => by
            have := rslice_mid ao t.length cap (j + 2) kk hkk2 hcap2 W
            rwa [show ((j + 2 : Nat) : Int) = (j : Int) + 2 by omega] at this
          have hnm2 : (((t.take kk).drop (j + 2)).map (·.b)) = nameOf (t.drop j) := by
            unfold nameOf
            rw [show namedN (t.drop j) = kk - j by have := Hkk.out; omega, List.take_drop, List.drop_drop, show j + (kk - j) = kk by omega]
          have hpl : ((t.take kk).drop (j + 2)).length = kk - (j + 2) := by rw [List.length_drop, List.length_take]; omega
          have HP : Hid (Calls Tryz.prog 51 #[.slice (tailA ao (j + 2) cap 2) (kk - (j + 2)) (cap - (j + 2))] wr fun e w' => e = .returned (.string ⟨(nameOf (t.drop j)).toArray⟩) ∧ Below wr.heap.size wr w') := Lib.hid (by
            have := rplain_calls ((t.take kk).drop (j + 2)) (tailA ao (j + 2) cap 2) (cap - (j + 2)) wr ((hW.take kk).tail (j + 2) (by rw [List.length_take]; omega)) (by rw [hpl]; omega)
            unfold PlainPost at this
            rw [hpl, hnm2] at this
            exact this)
          obtain ⟨nmL, hnl⟩ : ∃ l, l = nameOf (t.drop j) := ⟨_, rfl⟩
          have hth : thingL (t.drop j) path = if classL nmL = [] then ([], 0) else (classL nmL, kk - j + 2) := by
            unfold thingL; rw [if_pos Hnm.out, ← hnl, show namedN (t.drop j) = kk - j by have := Hkk.out; omega]
          rw [← hnl] at HP
          have HT := Lib.hid hth
          clear hnm2 hpl hth hnl hle
          go_wp2_with fail
          refine HP.out.mono ?_
          rintro e w2 ⟨rfl, hb2⟩
          have HS2 := HS.below hb2
          have HR2 := HR.below hb2
          clear HS HR hb2 HP hsm hW hK
          by_cases hcl : classL nmL = []
          · have HC := Lib.hid (rclass_no ⟨nmL.toArray⟩ w2 hcl)
            have hnone : groupL (t.drop (i + 1)) path = none := by unfold groupL; rw [HG.out, HT.out, if_pos hcl, if_pos rfl]; rfl
            have Hnone := Lib.hid hnone
            clear hnone hcl HG HT
            go_wp2_with fail
            refine HC.out.mono ?_
            rintro e w3 ⟨rfl, hb3⟩
            have HS3 := HS2.below hb3
            have RX := HR2.below hb3
            clear hb3 HS2 HR2 HC
            obtain ⟨r0, r1, r2, r3, rfz⟩ := rgit_cells HS3.right.get
            have SZ := HS3.perm (show _ = pts rb (rgitO 0 0 false (.slice none 0 0)) * (pts ib (rgitO 4 0 neg (.slice p acc.length cap2)) * (arr 171 2 p acc.length cap2 (rgCells acc) * keep w)) by ac_rfl)
            clear HS3
            go_wp2_with fail
            refine bodyPost_ret (v := .tuple #[zeroItem, .int .i64 0]) (by simp [results, Tryz.results63, go_sem, zeroItem, r0, r1, r2, r3]) rfl ⟨.inr ⟨Hnone.out, rfl⟩, ?_⟩
            exact Ran.whole' (Ran.set (Ran.set (Ran.set (Ran.set RX _ _) _ _) _ _) _ _) ((((SZ.set (i := 0) _).set (i := 1) _).set (i := 2) _).set (i := 3) _).right.right.right
          · have HC := Lib.hid (rclass_yes ⟨nmL.toArray⟩ w2 hcl)
            have HG4 := HG.out
            rw [HT.out, if_neg hcl, if_neg (by simp)] at HG4
            have HG5 := Lib.hid HG4
            have hcl4 := classL_le nmL
            clear hcl HG4 HG HT
            go_wp2_with fail
            refine HC.out.mono ?_
            rintro e w3 ⟨b3, rc3, rfl, hrg3, hb3⟩
            rw [show bs ⟨nmL.toArray⟩ = nmL from rfl] at hrg3 ⊢
            have HS3 := HS2.below hb3
            have RX := HR2.below hb3
            clear hb3 HS2 HR2 HC
            obtain ⟨i0, i1, i2, i3, ifz⟩ := rgit_cells HS3.get
            have HY := HS3.perm (show _ = arr 171 2 p acc.length cap2 (rgCells acc) * (pts ib (rgitO 4 0 neg (.slice p acc.length cap2)) * (pts rb (rgitO 0 0 false (.slice none 0 0)) * keep w)) by ac_rfl)
            have hacc2 : acc.length + (classL nmL).length ≤ 1000000000 := by omega
            have Hsrc := Lib.hid (rg_srcR (rc := rc3) hrg3)
            generalize classL nmL = ll at *
            clear HS3 hrg3
            go_wp2_with (at_builtin; refine appRR rfl _ _ rfl p acc.length cap2 _ rfl _ rfl HY _ _ Hsrc.out hacc2 ?_; intro p' cap' w4 HS5 HR5; clear HY i0 i1 i2 i3 ifz; have HS6 := HS5.perm (show _ = pts ib (rgitO 4 0 neg (.slice p acc.length cap2)) * (pts rb (rgitO 0 0 false (.slice none 0 0)) * (arr 171 2 p' (acc.length + ll.length) cap' (rgCells acc ++ rgCells ll) * keep w)) by ac_rfl); obtain ⟨i0, i1, i2, i3, ifz⟩ := rgit_cells HS6.get)
            go_roundg f
            case measure => omega
            case rel => exact ⟨kk + 2, false, acc ++ ll, p', cap', by go_num, by omega, (decide_eq_false (by omega)).symm, by omega, by omega, by rw [List.length_append]; omega, by rw [HG5.out, show j + (kk - j + 2) - (i + 1) = kk + 2 - (i + 1) by omega], by rw [List.length_append, rgCells_append]; exact HS6.set (i := 3) _, Ran.set (RX.trans HR5) _ _⟩
    · have hge : ¬ ((j : Int) < t.length) := by omega
      have hnone : groupL (t.drop (i + 1)) path = none := by
        unfold groupL; rw [hG]
        cases gk with
        | zero => rfl
        | succ f => unfold groupF; rw [if_neg (by rw [List.length_drop]; omega)]; rfl
      have Hnone := Lib.hid hnone
      obtain ⟨r0, r1, r2, r3, rfz⟩ := rgit_cells HS.right.get
      clear hnone hG
      go_wp2_with fail
      refine bodyPost_ret (v := .tuple #[zeroItem, .int .i64 0]) (by simp [results, Tryz.results63, go_sem, zeroItem, r0, r1, r2, r3]) rfl ⟨.inr ⟨Hnone.out, rfl⟩, ?_⟩
      exact Ran.whole' (Ran.set (Ran.set (Ran.set (Ran.set HR _ _) _ _) _ _) _ _) ((((HS.right.set (i := 0) _).set (i := 1) _).set (i := 2) _).set (i := 3) _).right.right
end Go.Proofs.YtndjgeohkfenfaaGreatDoor.Globs

