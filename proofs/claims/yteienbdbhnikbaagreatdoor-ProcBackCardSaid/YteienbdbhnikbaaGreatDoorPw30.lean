/- HandlesPlays, part 30 of 31: the texts PrBp PrBk, joined by a program. -/
import Derived.Test.YteienbdbhnikbaaGreatDoorPw28
import Derived.Test.YteienbdbhnikbaaGreatDoorTie
import Derived.Test.YteienbdbhnikbaaGreatDoorCards
import Derived.SevenTiedAt
import Derived.Stop.Joined
namespace Go.Proofs.YteienbdbhnikbaaGreatDoor.Pr
open Go.RowKit Go.Maps Go.Proofs.YteienbdbhnikbaaGreatDoor Go.Proofs.YteienbdbhnikbaaGreatDoor.Hp Go.Proofs.YteienbdbhnikbaaGreatDoor.Hd
set_option linter.unusedVariables false

/-- What stands in notes, marks and slots behind a mark, so that its Undo brings back p0. -/
structure Bk (p0 : Pc) (nl0 : List Nt) (ms0 : List Nat) (p : Pc) (nl : List Nt) (ms : List Nat) : Prop where
  mks : ∃ ms2, ms = ms0 ++ nl0.length :: ms2 ∧ ∀ m ∈ ms2, nl0.length ≤ m
  tk : nl.take nl0.length = nl0
  le : nl0.length ≤ nl.length
  sl : ∀ q, q ≤ 17 → restoS (nl.drop nl0.length) p.sl q = p0.sl q
section
variable {most : Int} {p p' p0 : Pc} {nl nl' nl0 : List Nt} {ms ms' ms0 : List Nat} {er : Int}
theorem bk_begin : Bk p nl ms p nl (ms ++ [nl.length]) :=
  ⟨⟨[], rfl, fun m hm => by cases hm⟩, List.take_length, Nat.le_refl _, fun q _ => by rw [List.drop_length]; rfl⟩
theorem Bk.len (h : Bk p0 nl0 ms0 p nl ms) : ms0.length + 1 ≤ ms.length := by
  obtain ⟨ms2, e, -⟩ := h.mks
  rw [e, List.length_append, List.length_cons]
  omega
theorem Bk.last (h : Bk p0 nl0 ms0 p nl ms) {m : Nat} {ms1 : List Nat} (e : ms = ms1 ++ [m]) : nl0.length ≤ m ∧ ((ms1 = ms0 ∧ m = nl0.length) ∨ ∃ ms3, ms1 = ms0 ++ nl0.length :: ms3 ∧ ∀ x ∈ ms3, nl0.length ≤ x) := by
  obtain ⟨ms2, e2, h2⟩ := h.mks
  rcases snoc_cases ms2 with rfl | ⟨ms3, y, rfl⟩
  · have e3 : ms1 ++ [m] = ms0 ++ [nl0.length] := e.symm.trans e2
    obtain ⟨e4, e5⟩ := List.append_inj' e3 rfl
    injection e5 with e5 _
    exact ⟨by omega, .inl ⟨e4, e5⟩⟩
  · have e3 : ms1 ++ [m] = (ms0 ++ nl0.length :: ms3) ++ [y] := by rw [← e, e2, List.append_assoc]; rfl
    obtain ⟨e4, e5⟩ := List.append_inj' e3 rfl
    injection e5 with e5 _
    have hy := h2 y (List.mem_append_right _ List.mem_cons_self)
    exact ⟨by omega, .inr ⟨ms3, e4, fun x hx => h2 x (List.mem_append_left _ hx)⟩⟩
theorem drop_sub {m n : Nat} (h : n ≤ m) {x : Nt} (hx : x ∈ nl.drop m) : x ∈ nl.drop n := by
  have e : nl.drop m = (nl.drop n).drop (m - n) := by rw [List.drop_drop]; congr 1; omega
  rw [e] at hx
  exact List.mem_of_mem_drop hx
theorem step_len (hs : PStep most p nl ms er p' nl' ms') : ms.length ≤ ms'.length + 1 := by
  cases hs with
  | same _ _ => omega
  | set _ _ _ _ _ _ _ _ _ => omega
  | mark _ => rw [List.length_append]; omega
  | undo m _ e => rw [e, List.length_append]; exact Nat.le_refl _
theorem bk_undo (hi : PInv most p nl ms) (hb : Bk p0 nl0 ms0 p nl ms) {m : Nat} {ms1 : List Nat} (e : ms = ms1 ++ [m]) :
    (nl.take m).take nl0.length = nl0 ∧ nl0.length ≤ (nl.take m).length ∧ ∀ q, q ≤ 17 → restoS ((nl.take m).drop nl0.length) (resto (nl.drop m) p).sl q = p0.sl q := by
  have hle := (hb.last e).1
  have hm : m ≤ nl.length := hi.marks m (by rw [e]; exact List.mem_append_right _ List.mem_cons_self)
  have hl : nl0.length ≤ (nl.take m).length := by rw [List.length_take]; omega
  refine ⟨by rw [List.take_take, Nat.min_eq_left hle]; exact hb.tk, hl, fun q hq => ?_⟩
  have h1 := resto_sl hi.len (nl.drop m) (fun x hx => (hi.ok.nts x (List.mem_of_mem_drop hx)).1) q hq
  rw [restoS_at _ _ (restoS (nl.drop m) p.sl) q h1]
  have e2 : (nl.take m).drop nl0.length ++ nl.drop m = nl.drop nl0.length := by
    rw [← List.drop_append_of_le_length hl, List.take_append_drop]
  have e3 : restoS ((nl.take m).drop nl0.length) (restoS (nl.drop m) p.sl) = restoS ((nl.take m).drop nl0.length ++ nl.drop m) p.sl := by
    unfold restoS
    rw [List.foldr_append]
  rw [e3, e2]
  exact hb.sl q hq
theorem bk_step (hi : PInv most p nl ms) (hb : Bk p0 nl0 ms0 p nl ms) (hs : PStep most p nl ms er p' nl' ms') (hlt : ms0.length < ms'.length) : Bk p0 nl0 ms0 p' nl' ms' := by
  cases hs with
  | same _ _ => exact hb
  | set q n _ _ _ hq h0 h1 hs =>
    cases hs with
    | full _ _ => exact hb
    | now hm =>
      refine ⟨hb.mks, hb.tk, hb.le, fun j hj => ?_⟩
      rw [restoS_at _ _ (upS p.sl q ⟨n, (p.sl q).mark⟩) j (put_sl hi.len hq _ j hj)]
      have hx : ∃ x ∈ nl.drop nl0.length, x.q = q := by
        have hmk := hist_mark _ _ _ hi.hist q hq
        rw [List.length_reverse] at hmk
        have hne := hb.len
        rcases snoc_cases ms with e | ⟨ms1, m, e⟩
        · rw [e] at hne; simp at hne
        · have hh := hi.hist
          rw [e, List.reverse_append] at hh
          obtain ⟨g1, g2, g3⟩ : Hist (m :: ms1.reverse) nl p.sl := hh
          obtain ⟨x, hx, hxq⟩ := (g2 q hq).2 (by
            rw [List.length_reverse]
            have : ms.length = ms1.length + 1 := by rw [e, List.length_append]; rfl
            omega)
          exact ⟨x, drop_sub (hb.last e).1 hx, hxq⟩
      rw [restoS_over _ _ _ _ hx]
      exact hb.sl j hj
    | noted sb wb hm hl =>
      refine ⟨hb.mks, by rw [List.take_append_of_le_length hb.le]; exact hb.tk, by rw [List.length_append]; have := hb.le; omega, fun j hj => ?_⟩
      rw [List.drop_append_of_le_length hb.le, restoS_snoc]
      rw [restoS_at _ _ p.sl j (by
        show upS (p.put q ⟨n, (ms.length : Int)⟩).sl q (p.sl q) j = p.sl j
        unfold upS
        by_cases e : j = q
        · rw [if_pos e, e]
        · rw [if_neg e, put_sl hi.len hq _ j hj]
          unfold upS
          rw [if_neg e])]
      exact hb.sl j hj
  | mark _ =>
    obtain ⟨ms2, e, h2⟩ := hb.mks
    refine ⟨⟨ms2 ++ [nl.length], by rw [e, List.append_assoc]; rfl, fun m hm => ?_⟩, hb.tk, hb.le, hb.sl⟩
    rcases List.mem_append.1 hm with h | h
    · exact h2 m h
    · rw [List.mem_singleton] at h
      rw [h]
      exact hb.le
  | undo m ms1 e =>
    obtain ⟨u1, u2, u3⟩ := bk_undo hi hb e
    rcases (hb.last e).2 with ⟨e1, -⟩ | ⟨ms3, e1, h3⟩
    · rw [e1] at hlt; exact absurd hlt (Nat.lt_irrefl _)
    · exact ⟨⟨ms3, e1, h3⟩, u1, u2, u3⟩
/-- The mark's own Undo. -/
theorem bk_last (hi : PInv most p nl ms) (hb : Bk p0 nl0 ms0 p nl ms) {m : Nat} {ms1 : List Nat} (e : ms = ms1 ++ [m]) (hl : ms1.length = ms0.length) :
    ms1 = ms0 ∧ nl.take m = nl0 ∧ ∀ q, q ≤ 17 → (resto (nl.drop m) p).sl q = p0.sl q := by
  obtain ⟨u1, u2, u3⟩ := bk_undo hi hb e
  rcases (hb.last e).2 with ⟨e1, e2⟩ | ⟨ms3, e1, -⟩
  · subst e2
    refine ⟨e1, hb.tk, fun q hq => ?_⟩
    have := u3 q hq
    rw [show (nl.take nl0.length).drop nl0.length = [] by rw [List.drop_eq_nil_iff]; exact List.length_take_le _ _] at this
    exact this
  · rw [e1, List.length_append, List.length_cons] at hl
    omega
theorem pc_back (h1 : p.fds.length = 16) (h2 : p0.fds.length = 16) (h : ∀ q, q ≤ 17 → p.sl q = p0.sl q) : p.fds = p0.fds ∧ p.dir = p0.dir ∧ p.mask = p0.mask := by
  refine ⟨?_, h 16 (by omega), h 17 (by omega)⟩
  refine List.ext_getElem (by omega) fun i hi hi2 => ?_
  have := h i (by omega)
  rw [sl_fd (by omega) hi, sl_fd (by omega) hi2] at this
  exact this
theorem told_back {ks ks' T T' : List Int} (g1 : p.fds.length = 16) (g2 : p0.fds.length = 16) (h : ∀ q, q ≤ 17 → p.sl q = p0.sl q) (h1 : KsF (fOf b0 p0 nl) ks) (h2 : KsF (fOf b0 p nl) ks') (e1 : T = toldL (fOf b0 p0 nl) p0 nl ms ks) (e2 : T' = toldL (fOf b0 p nl) p nl ms ks') : T' = T := by
  obtain ⟨a1, a2, a3⟩ := pc_back g1 g2 h
  have hf : fOf b0 p nl = fOf b0 p0 nl := by
    funext k
    unfold fOf
    rw [a1]
  rw [hf] at h2 e2
  rw [e1, e2, ksF_unique h2 h1]
  unfold toldL preL hasL
  rw [a1, a2, a3]
end
/-- The loop of calls behind the mark. -/
def LpB (c : Pls) (pb lb : Nat) (p0 : Pc) (nl0 : List Nt) (ms0 : List Nat) (len wb : Nat) (X : Hp) (W : World) (g : Nat) (vi : Value) (wr : World) : Prop :=
  ∃ (i : Nat) (p : Pc) (nl : List Nt) (ms : List Nat), vi = .int .i64 (i : Int) ∧ i + g = len ∧ Gd c pb lb 1000 p nl ms ∧ Bk p0 nl0 ms0 p nl ms ∧ Sat wr (PH c (200000 + 2000 * i) b0 1000 p nl ms * (pts wb (BX c lb pb) * X)) ∧ Ran W wr
/-- The loop of Undo, back to the mark. -/
def LpU (c : Pls) (pb lb : Nat) (p0 : Pc) (nl0 : List Nt) (ms0 : List Nat) (wb : Nat) (X : Hp) (W : World) (g : Nat) (wr : World) : Prop :=
  ∃ (p : Pc) (nl : List Nt) (ms : List Nat), ms.length = ms0.length + g ∧ g ≤ 4 ∧ Gd c pb lb 1000 p nl ms ∧ (0 < g → Bk p0 nl0 ms0 p nl ms) ∧ (g = 0 → ms = ms0 ∧ nl = nl0 ∧ ∀ q, q ≤ 17 → p.sl q = p0.sl q) ∧ Sat wr (PH c (400000 + 1000 * (4 - g)) b0 1000 p nl ms * (pts wb (BX c lb pb) * X)) ∧ Ran W wr
end Go.Proofs.YteienbdbhnikbaaGreatDoor.Pr

namespace Go.Proofs.YteienbdbhnikbaaGreatDoor.procBack
open Go.ChangeShapes Go.WideShapes Go.ChangeAt Go.RowKit Go.Maps Go.Proofs.YteienbdbhnikbaaGreatDoor Go.Proofs.YteienbdbhnikbaaGreatDoor.Hp Go.Proofs.YteienbdbhnikbaaGreatDoor.Hd Go.Proofs.YteienbdbhnikbaaGreatDoor.Pr Go.ChangeMaps
set_option linter.unusedVariables false
attribute [local go_sem] Oper.semAt_some

set_option maxRecDepth 100000 in
set_option maxHeartbeats 4000000 in
theorem walk (ao : Option Addr) (acap : Nat) (la : List Opr) (bo : Option Addr) (bcap : Nat) (lw : List Opr) (W : World) (hla : OpsAt W ao la) (hlb : OpsAt W bo lw) (hg : Glob (keep W)) :
    Calls Tryz.prog 5 #[.slice ao la.length acap, .slice bo lw.length bcap] W fun e w' => e = .returned (.bool true) ∧ Below W.heap.size W w' := by
  have HF := Lib.hid (few_calls la ao acap W hla)
  have HF2 := Lib.hid (few_calls lw bo bcap W hlb)
  have HA := Lib.hid (fun w hw => awake_calls w (keep W) hg hw)
  have HLa := Lib.hid hla
  have HLb := Lib.hid hlb
  have HG := Lib.hid hg
  clear hla hlb hg
  go_enter Tryz.func5, Tryz.ntmps5
  go_wp2_with fail
  refine HF.out.mono ?_
  rintro e w1 ⟨⟨r, rfl, hr⟩, rfl⟩
  clear HF
  cases r with
  | false =>
    have hA := Lib.hid (HA.out W (Sat.start W))
    clear hr HF2
    go_wp2_with fail
    refine hA.out.mono ?_
    rintro e w9 ⟨⟨rfl, h2⟩, h3⟩
    have h2 := Lib.hid h2
    have h3 := Lib.hid h3
    clear hA
    go_wp2_with fail
    go_ret
    exact ⟨rfl, fin_true (Below.refl 0 W) h2.out h3.out⟩
  | true =>
    have HFa := Lib.hid (hr rfl)
    clear hr
    go_wp2_with fail
    refine HF2.out.mono ?_
    rintro e w1 ⟨⟨r2, rfl, hr2⟩, rfl⟩
    clear HF2
    cases r2 with
    | false =>
      have hA := Lib.hid (HA.out W (Sat.start W))
      clear hr2
      go_wp2_with fail
      refine hA.out.mono ?_
      rintro e w9 ⟨⟨rfl, h2⟩, h3⟩
      have h2 := Lib.hid h2
      have h3 := Lib.hid h3
      clear hA
      go_wp2_with fail
      go_ret
      exact ⟨rfl, fin_true (Below.refl 0 W) h2.out h3.out⟩
    | true =>
      have HFb := Lib.hid (hr2 rfl)
      clear hr2
      have HB := Lib.hid (begun_gd 1000 (by omega) (by omega) W (keep W) HG.out (Sat.start W))
      go_wp2_with fail
      refine HB.out.mono ?_
      rintro e w1 ⟨⟨c, pb, lb, p0, rfl, hgd0, S0⟩, R0⟩
      clear HB
      have S1 := (S0.alloc (BX c lb pb)).perm (show _ = PH c 20 b0 1000 p0 [] [] * (pts w1.heap.size (BX c lb pb) * keep W) by ac_rfl)
      have R1 := Lib.hid (Ran.new R0 (BX c lb pb))
      obtain ⟨wb, hwb⟩ : ∃ b, b = w1.heap.size := ⟨_, rfl⟩
      obtain ⟨w2, hw2⟩ : ∃ w2, w2 = w1.alloc (BX c lb pb) := ⟨_, rfl⟩
      rw [← hwb, ← hw2] at S1
      rw [← hw2] at R1
      have S1 := Lib.hid S1
      have Hgd0 := Lib.hid hgd0
      clear S0 R0 hgd0
      go_upto_region 6 with fail
      rw [← hwb, ← hw2]
      clear hwb hw2
      go_wp2_with fail
      go_loopg [7] (la.length) (fun (g : Nat) (v7 : Value) (wr : World) => LpD c pb lb 1000 la.length 20 wb (keep W) W g v7 wr)
      case atStart => exact ⟨0, p0, [], [], rfl, by omega, Hgd0.out, S1.out, R1.out⟩
      case round =>
        clear S1 R1
        obtain ⟨i, p, nl, ms, rfl, hgk, hgd, HSi, HRi⟩ := hrel
        have h50 : la.length ≤ 50 := HFa.out.1
        by_cases hlt : i < la.length
        · have hltI : (i : Int) < la.length := by omega
          have hi0 : (0 : Int) ≤ (i : Int) := by omega
          have Hgd := Lib.hid hgd
          have HRi := Lib.hid HRi
          clear hgd
          obtain ⟨op, hope⟩ : ∃ op, op = la[i] := ⟨_, rfl⟩
          have hfo : FewO op := HFa.out.2 op (by rw [hope]; exact List.getElem_mem hlt)
          obtain ⟨okx, b, o, rfl, hbW, hop⟩ := HLa.out i hlt
          rw [← hope] at okx hop
          have HopA := Lib.hid (fun (W' : World) (hk : ∀ k, k < W.heap.size → W'.heap[k]? = W.heap[k]?) => hop.keep (hk b hbW))
          have Sd := HSi.drew
          have HD := Lib.hid (does_lp Hgd.out op okx hfo (HG.out.more) (by omega) Sd)
          have HK : Hid (∀ (W' : World) (A : Hp), Sat W' (A * (pts wb (BX c lb pb) * keep W)) → W'.cell? ⟨wb, 0, none⟩ = some (Hd.pp c.fb) ∧ W'.cell? ⟨wb, 1, none⟩ = some (Hd.pp c.bp) ∧ W'.cell? ⟨wb, 2, none⟩ = some (Hd.pp c.tb) ∧ W'.cell? ⟨wb, 3, none⟩ = some (Hd.pp lb) ∧ W'.cell? ⟨wb, 4, none⟩ = some (Hd.pp pb) ∧ W'.cell? ⟨b, o + i * 7, none⟩ = some (.int .i64 op.ask) ∧ W'.cell? ⟨b, o + i * 7 + 1, none⟩ = some (.int .i64 op.fd) ∧ W'.cell? ⟨b, o + i * 7 + 2, none⟩ = some (.int .i64 op.frm) ∧ W'.cell? ⟨b, o + i * 7 + 3, none⟩ = some (.int .i64 op.kind) ∧ W'.cell? ⟨b, o + i * 7 + 4, none⟩ = some (.int .i64 op.n) ∧ W'.cell? ⟨b, o + i * 7 + 5, none⟩ = some (.string op.path) ∧ W'.cell? ⟨b, o + i * 7 + 6, none⟩ = some (.string op.data)) := Lib.hid fun W' A h => by
            have q := woP_cells h.right
            exact ⟨q.1, q.2.1, q.2.2.1, q.2.2.2.1, q.2.2.2.2, HopA.out W' h.right.right.kept⟩
          obtain ⟨oa, ofd, ofr, okd, on, opt, od⟩ := op
          dsimp only at HK
          have K4 := HK.out _ _ Sd
          have Rd := Lib.hid (Ran.drewN HRi.out 1)
          clear Sd okx hfo hbW hop hope HopA
          go_upto_region 9 with fail
          refine region_plan (S := (fun w' => w'.cell? ⟨wb, 0, none⟩ = some (Hd.pp c.fb) ∧ w'.cell? ⟨wb, 1, none⟩ = some (Hd.pp c.bp) ∧ w'.cell? ⟨wb, 2, none⟩ = some (Hd.pp c.tb) ∧ w'.cell? ⟨wb, 3, none⟩ = some (Hd.pp lb) ∧ w'.cell? ⟨wb, 4, none⟩ = some (Hd.pp pb) ∧ w'.cell? ⟨b, o + i * 7, none⟩ = some (.int .i64 oa) ∧ w'.cell? ⟨b, o + i * 7 + 1, none⟩ = some (.int .i64 ofd) ∧ w'.cell? ⟨b, o + i * 7 + 2, none⟩ = some (.int .i64 ofr) ∧ w'.cell? ⟨b, o + i * 7 + 3, none⟩ = some (.int .i64 okd) ∧ w'.cell? ⟨b, o + i * 7 + 4, none⟩ = some (.int .i64 on) ∧ w'.cell? ⟨b, o + i * 7 + 5, none⟩ = some (.string opt) ∧ w'.cell? ⟨b, o + i * 7 + 6, none⟩ = some (.string od))) [(0, true), (1, true), (2, true), (3, true), (4, true), (5, false)] (by kernel_rfl) (by kernel_rfl) (by kernel_rfl) ?_ ?_
          · ((try dsimp only); (first | done | (first | with_reducible exact K4 | with_reducible exact K5)))
          simp only [planOps, List.map_cons, List.map_nil, List.getElem?_toArray, List.getElem?_cons_zero, List.getElem?_cons_succ]
          repeat (first
            | ((refine plan_yes (v := ?_) (by rfl) ?_ ?_); rotate_left; (focus (intro w hSw; (try dsimp only at hSw); go_simp; try (with_reducible rfl))); (try simp only [Act.put, List.setIfInBounds_toArray, List.set_cons_zero, List.set_cons_succ]))
            | ((refine plan_no (by rfl) ?_); (try simp only [Act.put, List.setIfInBounds_toArray, List.set_cons_zero, List.set_cons_succ]))
            | ((refine plan_step (fun K hK => ?_)); (first | (go_simp; ((go_at_call 11; refine HD.out.mono ?_; rintro e w5 ⟨n, s, er, rfl, p', nl', ms', hst, hgd', S5, R5⟩; have K5 := HK.out _ _ S5)); (try go_wp2_with fail)) | go_simp); (refine hK.out _ _ ?_ (fun hHeld => ?_)); (focus ((try dsimp only); (first | done | (first | with_reducible exact K4 | with_reducible exact K5)))); clear hK K; (try simp only [Act.put, List.setIfInBounds_toArray, List.set_cons_zero, List.set_cons_succ])))
          refine plan_done ?_
          have R5 := Lib.hid (Below.trans Rd.out R5)
          have Hst := Lib.hid hst
          have Hgd' := Lib.hid hgd'
          clear HD HK K4 K5 Rd hst hgd'
          have S5 := Lib.hid S5
          clear HSi
          go_wp2_with fail
          go_roundg (la.length - (i + 1))
          case measure => omega
          case rel => exact ⟨i + 1, p', nl', ms', by simp, by omega, Hgd'.out, S5.out, R5.out⟩
        · have hge : (la.length : Int) ≤ i := by omega
          have S6 := ph_more (M := 200000) (by omega) HSi
          have R6 := Lib.hid HRi
          have HT := Lib.hid (told_gd hgd (by omega) S6)
          have Hgd := Lib.hid hgd
          obtain ⟨c0, c1, c2, c3, c4⟩ := woP_cells (S6.perm (show _ = pts wb (BX c lb pb) * (PH c 200000 b0 1000 p nl ms * keep W) by ac_rfl))
          clear HSi HRi hgd S6 hlt hgk h50 HLa HFa
          go_wp2_with fail
          refine HT.out.mono ?_
          rintro e w3 ⟨ks, T, q, qc, hks, hT, hTl, rfl, S3, R3⟩
          have hTp := told_pos Hgd.out.link.len hT
          obtain ⟨b1, o1, rfl⟩ := (S3.perm (show _ = arr 3 1 q T.length qc (T.map iv) * (PH c 200000 b0 1000 p nl ms * (pts wb (BX c lb pb) * keep W)) by ac_rfl)).arr_addr (by have := (S3.perm (show _ = arr 3 1 q T.length qc (T.map iv) * (PH c 200000 b0 1000 p nl ms * (pts wb (BX c lb pb) * keep W)) by ac_rfl)).arr_len.2.1; omega)
          have HT1 := Lib.hid (And.intro hks hT)
          have HTl := Lib.hid (And.intro hTp hTl)
          have S3 := S3.perm (show _ = PH c 200000 b0 1000 p nl ms * (pts wb (BX c lb pb) * (arr 3 1 (some ⟨b1, o1, none⟩) T.length qc (T.map iv) * keep W)) by ac_rfl)
          have R3 := Lib.hid (Below.trans R6.out R3)
          have HMk := marks_gd Hgd.out S3
          have HMa := mark_gd Hgd.out S3
          obtain ⟨m0, hm0⟩ : ∃ x, x = (ms.length : Int) := ⟨_, rfl⟩
          rw [← hm0] at HMk
          have HMk := Lib.hid HMk
          have HMa := Lib.hid HMa
          obtain ⟨c0, c1, c2, c3, c4⟩ := woP_cells (S3.perm (show _ = pts wb (BX c lb pb) * (PH c 200000 b0 1000 p nl ms * (arr 3 1 (some ⟨b1, o1, none⟩) T.length qc (T.map iv) * keep W)) by ac_rfl))
          have Hm0 := Lib.hid hm0
          have hms4 := Hgd.out.inv.few
          have hm0r : 0 ≤ m0 ∧ m0 ≤ 4 := by omega
          have Hp16 := Lib.hid Hgd.out.link.len
          clear HT hks hT hTp hTl S3 hm0 R6
          go_wp2_with fail
          refine HMk.out.mono ?_
          rintro e w4 ⟨rfl, rfl⟩
          clear HMk c3
          go_wp2_with fail
          refine HMa.out.mono ?_
          rintro e w4 ⟨n, er, rfl, (⟨rfl, h4, S4, R4⟩ | ⟨rfl, hgd, S4, R4⟩)⟩
          · have hm4 : m0 = 4 := by have := Hm0.out; omega
            subst hm4
            have S4k := Lib.hid S4.right.right
            have R4 := Lib.hid (Below.trans R3.out R4)
            clear HMa c4 h4 S4 R3
            have hA := Lib.hid (HA.out w4 S4k.out)
            go_wp2_with fail
            refine hA.out.mono ?_
            rintro e w9 ⟨⟨rfl, h2⟩, h3⟩
            have h2 := Lib.hid h2
            have h3 := Lib.hid h3
            clear hA
            go_wp2_with fail
            go_ret
            exact ⟨rfl, fin_true R4.out h2.out h3.out⟩
          · have Hb0 : Hid (Bk p nl ms p nl (ms ++ [nl.length])) := Lib.hid bk_begin
            have S4 := Lib.hid S4
            have R4 := Lib.hid (Below.trans R3.out R4)
            have Hgd1 := Lib.hid hgd
            clear HMa c4 R3 hgd hms4
            go_wp2_with fail
            go_loopg [12] (lw.length) (fun (g : Nat) (v12 : Value) (wr : World) => LpB c pb lb p nl ms lw.length wb (arr 3 1 (some ⟨b1, o1, none⟩) T.length qc (T.map iv) * keep W) W g v12 wr)
            case atStart => exact ⟨0, p, nl, _, rfl, by omega, Hgd1.out, Hb0.out, S4.out, R4.out⟩
            case round =>
              clear S4 R4 Hb0 Hgd1
              obtain ⟨i, pi, nli, msi, rfl, hgk, hgd, hbk, HSi, HRi⟩ := hrel
              have h50 : lw.length ≤ 50 := HFb.out.1
              by_cases hlt : i < lw.length
              · have hltI : (i : Int) < lw.length := by omega
                have hi0 : (0 : Int) ≤ (i : Int) := by omega
                obtain ⟨op, hope⟩ : ∃ op, op = lw[i] := ⟨_, rfl⟩
                have hfo : FewO op := HFb.out.2 op (by rw [hope]; exact List.getElem_mem hlt)
                obtain ⟨okx, b, o, rfl, hbW, hop⟩ := HLb.out i hlt
                rw [← hope] at okx hop
                have HopA := Lib.hid (fun (W' : World) (hk : ∀ k, k < W.heap.size → W'.heap[k]? = W.heap[k]?) => hop.keep (hk b hbW))
                have HAk := ask_calls op wr
                obtain ⟨ak, hak⟩ : ∃ k, k = askI op := ⟨_, rfl⟩
                rw [← hak] at HAk
                have HAk := Lib.hid HAk
                have HS1 := (HSi.alloc (opO op)).right
                have HR1 := Lib.hid (Ran.new HRi (opO op))
                have kp := HSi.right.right.right.kept
                obtain ⟨w4b, hw4⟩ : ∃ w4b, w4b = wr.alloc (opO op) := ⟨_, rfl⟩
                rw [← hw4] at HS1 HR1
                have HAk : Hid (Calls Tryz.prog 10 #[opA op] wr fun e w' => e = .returned (.int .i64 ak) ∧ w4b = w') := Lib.hid (by rw [hw4]; exact HAk.out.mono fun e w' h => ⟨h.1, h.2.symm⟩)
                have HMk := marks_gd hgd HS1
                obtain ⟨mi, hmi⟩ : ∃ x, x = (msi.length : Int) := ⟨_, rfl⟩
                rw [← hmi] at HMk
                have HMk := Lib.hid HMk
                obtain ⟨-, -, -, c3, -⟩ := woP_cells (HS1.perm (show _ = pts wb (BX c lb pb) * (PH c (200000 + 2000 * i) b0 1000 pi nli msi * (arr 3 1 (some ⟨b1, o1, none⟩) T.length qc (T.map iv) * keep W)) by ac_rfl))
                have hmir : 0 ≤ mi ∧ mi ≤ 4 := by have := hgd.inv.few; omega
                have Hst1 := Lib.hid (fun (er : Int) (p' : Pc) (nl' : List Nt) (ms' : List Nat) (hs : PStep 1000 pi nli msi er p' nl' ms') (hu : askI op ≠ 10 → msi.length ≤ ms'.length) (h : askI op ≠ 10 ∨ mi ≠ m0 + 1) => (bk_step hgd.inv hbk hs (by
                  have h1 := hbk.len
                  have h2 := step_len hs
                  rcases h with h | h
                  · have := hu h; omega
                  · have h3 := Hm0.out; omega) : Bk p nl ms p' nl' ms'))
                have Hbk := Lib.hid hbk
                have Hgd := Lib.hid hgd
                have Hmi := Lib.hid hmi
                obtain ⟨a0, a1, a2, a3, a4, a5, a6⟩ := HopA.out wr kp
                clear hbk hgd HSi HRi kp hw4 hmi
                by_cases h10 : ak = 10
                · by_cases hme : mi = m0 + 1
                  · subst h10
                    subst hme
                    have HS1 := Lib.hid HS1
                    obtain ⟨oa, ofd, ofr, okd, on, opt, od⟩ := op
                    dsimp only at a0 a1 a2 a3 a4 a5 a6
                    clear hope okx hfo hbW hop hak Hst1 HopA
                    go_wp2_with fail
                    refine HAk.out.mono ?_
                    rintro e w5 ⟨rfl, rfl⟩
                    clear HAk a0 a1 a2 a3 a4 a5 a6
                    go_wp2_with fail
                    refine HMk.out.mono ?_
                    rintro e w5 ⟨rfl, rfl⟩
                    clear HMk c3
                    go_wp2_with fail
                    go_roundg (lw.length - (i + 1))
                    case measure => omega
                    case rel => exact ⟨i + 1, pi, nli, msi, by simp, by omega, Hgd.out, Hbk.out, ph_more (by omega) HS1.out, HR1.out⟩
                  · subst h10
                    have hmeb : (mi == m0 + 1) = false := by simpa using hme
                    have Hst2 := Lib.hid (fun er p' nl' ms' hs hu => Hst1.out er p' nl' ms' hs hu (.inr hme))
                    clear Hst1 hak
                    obtain ⟨oa, ofd, ofr, okd, on, opt, od⟩ := op
                    dsimp only at a0 a1 a2 a3 a4 a5 a6
                    go_wp2_with fail
                    refine HAk.out.mono ?_
                    rintro e w5 ⟨rfl, rfl⟩
                    clear HAk a0 a1 a2 a3 a4 a5 a6
                    go_wp2_with fail
                    refine HMk.out.mono ?_
                    rintro e w5 ⟨rfl, rfl⟩
                    clear HMk c3
                    have Sd := HS1.drew
                    have HD := Lib.hid (does_all2 Hgd.out ⟨oa, ofd, ofr, okd, on, opt, od⟩ okx hfo (HG.out.more.more) (by omega) Sd)
                    have HK : Hid (∀ (W' : World) (A : Hp), Sat W' (A * (pts wb (BX c lb pb) * (arr 3 1 (some ⟨b1, o1, none⟩) T.length qc (T.map iv) * keep W))) → W'.cell? ⟨wb, 0, none⟩ = some (Hd.pp c.fb) ∧ W'.cell? ⟨wb, 1, none⟩ = some (Hd.pp c.bp) ∧ W'.cell? ⟨wb, 2, none⟩ = some (Hd.pp c.tb) ∧ W'.cell? ⟨wb, 3, none⟩ = some (Hd.pp lb) ∧ W'.cell? ⟨wb, 4, none⟩ = some (Hd.pp pb) ∧ W'.cell? ⟨b, o + i * 7, none⟩ = some (.int .i64 oa) ∧ W'.cell? ⟨b, o + i * 7 + 1, none⟩ = some (.int .i64 ofd) ∧ W'.cell? ⟨b, o + i * 7 + 2, none⟩ = some (.int .i64 ofr) ∧ W'.cell? ⟨b, o + i * 7 + 3, none⟩ = some (.int .i64 okd) ∧ W'.cell? ⟨b, o + i * 7 + 4, none⟩ = some (.int .i64 on) ∧ W'.cell? ⟨b, o + i * 7 + 5, none⟩ = some (.string opt) ∧ W'.cell? ⟨b, o + i * 7 + 6, none⟩ = some (.string od)) := Lib.hid fun W' A h => by
                      have q := woP_cells h.right
                      exact ⟨q.1, q.2.1, q.2.2.1, q.2.2.2.1, q.2.2.2.2, HopA.out W' h.right.right.right.kept⟩
                    have K4 := HK.out _ _ Sd
                    have Rd := Lib.hid (Ran.drewN HR1.out 1)
                    clear Sd okx hfo hbW hop hope HopA
                    go_upto_region 19 with fail
                    refine region_plan (S := (fun w' => w'.cell? ⟨wb, 0, none⟩ = some (Hd.pp c.fb) ∧ w'.cell? ⟨wb, 1, none⟩ = some (Hd.pp c.bp) ∧ w'.cell? ⟨wb, 2, none⟩ = some (Hd.pp c.tb) ∧ w'.cell? ⟨wb, 3, none⟩ = some (Hd.pp lb) ∧ w'.cell? ⟨wb, 4, none⟩ = some (Hd.pp pb) ∧ w'.cell? ⟨b, o + i * 7, none⟩ = some (.int .i64 oa) ∧ w'.cell? ⟨b, o + i * 7 + 1, none⟩ = some (.int .i64 ofd) ∧ w'.cell? ⟨b, o + i * 7 + 2, none⟩ = some (.int .i64 ofr) ∧ w'.cell? ⟨b, o + i * 7 + 3, none⟩ = some (.int .i64 okd) ∧ w'.cell? ⟨b, o + i * 7 + 4, none⟩ = some (.int .i64 on) ∧ w'.cell? ⟨b, o + i * 7 + 5, none⟩ = some (.string opt) ∧ w'.cell? ⟨b, o + i * 7 + 6, none⟩ = some (.string od))) [(0, true), (1, true), (2, true), (3, true), (4, true), (5, false)] (by kernel_rfl) (by kernel_rfl) (by kernel_rfl) ?_ ?_
                    · ((try dsimp only); (first | done | (first | with_reducible exact K4 | with_reducible exact K5)))
                    simp only [planOps, List.map_cons, List.map_nil, List.getElem?_toArray, List.getElem?_cons_zero, List.getElem?_cons_succ]
                    repeat (first
                      | ((refine plan_yes (v := ?_) (by rfl) ?_ ?_); rotate_left; (focus (intro w hSw; (try dsimp only at hSw); go_simp; try (with_reducible rfl))); (try simp only [Act.put, List.setIfInBounds_toArray, List.set_cons_zero, List.set_cons_succ]))
                      | ((refine plan_no (by rfl) ?_); (try simp only [Act.put, List.setIfInBounds_toArray, List.set_cons_zero, List.set_cons_succ]))
                      | ((refine plan_step (fun K hK => ?_)); (first | (go_simp; ((go_at_call 11; refine HD.out.mono ?_; rintro e w5 ⟨n, s, er, rfl, p', nl', ms', hst, hgd', S5, R5, hu⟩; have K5 := HK.out _ _ S5)); (try go_wp2_with fail)) | go_simp); (refine hK.out _ _ ?_ (fun hHeld => ?_)); (focus ((try dsimp only); (first | done | (first | with_reducible exact K4 | with_reducible exact K5)))); clear hK K; (try simp only [Act.put, List.setIfInBounds_toArray, List.set_cons_zero, List.set_cons_succ])))
                    refine plan_done ?_
                    have R5 := Lib.hid (Below.trans Rd.out R5)
                    have Hbk' := Lib.hid (Hst2.out er p' nl' ms' hst hu)
                    have Hgd' := Lib.hid hgd'
                    clear HD HK K4 K5 Rd hst hgd' hu
                    have S5 := Lib.hid S5
                    clear HS1 Hst2 Hbk
                    go_wp2_with fail
                    go_roundg (lw.length - (i + 1))
                    case measure => omega
                    case rel => exact ⟨i + 1, p', nl', ms', by simp, by omega, Hgd'.out, Hbk'.out, S5.out, R5.out⟩
                · have h10b : (ak == 10) = false := by simpa using h10
                  have Hst2 := Lib.hid (fun er p' nl' ms' hs hu => Hst1.out er p' nl' ms' hs hu (.inl (by rw [← hak]; exact h10)))
                  clear Hst1 hak
                  obtain ⟨oa, ofd, ofr, okd, on, opt, od⟩ := op
                  dsimp only at a0 a1 a2 a3 a4 a5 a6
                  go_wp2_with fail
                  refine HAk.out.mono ?_
                  rintro e w5 ⟨rfl, rfl⟩
                  clear HAk a0 a1 a2 a3 a4 a5 a6
                  clear HMk c3
                  have Sd := HS1.drew
                  have HD := Lib.hid (does_all2 Hgd.out ⟨oa, ofd, ofr, okd, on, opt, od⟩ okx hfo (HG.out.more.more) (by omega) Sd)
                  have HK : Hid (∀ (W' : World) (A : Hp), Sat W' (A * (pts wb (BX c lb pb) * (arr 3 1 (some ⟨b1, o1, none⟩) T.length qc (T.map iv) * keep W))) → W'.cell? ⟨wb, 0, none⟩ = some (Hd.pp c.fb) ∧ W'.cell? ⟨wb, 1, none⟩ = some (Hd.pp c.bp) ∧ W'.cell? ⟨wb, 2, none⟩ = some (Hd.pp c.tb) ∧ W'.cell? ⟨wb, 3, none⟩ = some (Hd.pp lb) ∧ W'.cell? ⟨wb, 4, none⟩ = some (Hd.pp pb) ∧ W'.cell? ⟨b, o + i * 7, none⟩ = some (.int .i64 oa) ∧ W'.cell? ⟨b, o + i * 7 + 1, none⟩ = some (.int .i64 ofd) ∧ W'.cell? ⟨b, o + i * 7 + 2, none⟩ = some (.int .i64 ofr) ∧ W'.cell? ⟨b, o + i * 7 + 3, none⟩ = some (.int .i64 okd) ∧ W'.cell? ⟨b, o + i * 7 + 4, none⟩ = some (.int .i64 on) ∧ W'.cell? ⟨b, o + i * 7 + 5, none⟩ = some (.string opt) ∧ W'.cell? ⟨b, o + i * 7 + 6, none⟩ = some (.string od)) := Lib.hid fun W' A h => by
                    have q := woP_cells h.right
                    exact ⟨q.1, q.2.1, q.2.2.1, q.2.2.2.1, q.2.2.2.2, HopA.out W' h.right.right.right.kept⟩
                  have K4 := HK.out _ _ Sd
                  have Rd := Lib.hid (Ran.drewN HR1.out 1)
                  clear Sd okx hfo hbW hop hope HopA
                  go_upto_region 19 with fail
                  refine region_plan (S := (fun w' => w'.cell? ⟨wb, 0, none⟩ = some (Hd.pp c.fb) ∧ w'.cell? ⟨wb, 1, none⟩ = some (Hd.pp c.bp) ∧ w'.cell? ⟨wb, 2, none⟩ = some (Hd.pp c.tb) ∧ w'.cell? ⟨wb, 3, none⟩ = some (Hd.pp lb) ∧ w'.cell? ⟨wb, 4, none⟩ = some (Hd.pp pb) ∧ w'.cell? ⟨b, o + i * 7, none⟩ = some (.int .i64 oa) ∧ w'.cell? ⟨b, o + i * 7 + 1, none⟩ = some (.int .i64 ofd) ∧ w'.cell? ⟨b, o + i * 7 + 2, none⟩ = some (.int .i64 ofr) ∧ w'.cell? ⟨b, o + i * 7 + 3, none⟩ = some (.int .i64 okd) ∧ w'.cell? ⟨b, o + i * 7 + 4, none⟩ = some (.int .i64 on) ∧ w'.cell? ⟨b, o + i * 7 + 5, none⟩ = some (.string opt) ∧ w'.cell? ⟨b, o + i * 7 + 6, none⟩ = some (.string od))) [(0, true), (1, true), (2, true), (3, true), (4, true), (5, false)] (by kernel_rfl) (by kernel_rfl) (by kernel_rfl) ?_ ?_
                  · ((try dsimp only); (first | done | (first | with_reducible exact K4 | with_reducible exact K5)))
                  simp only [planOps, List.map_cons, List.map_nil, List.getElem?_toArray, List.getElem?_cons_zero, List.getElem?_cons_succ]
                  repeat (first
                    | ((refine plan_yes (v := ?_) (by rfl) ?_ ?_); rotate_left; (focus (intro w hSw; (try dsimp only at hSw); go_simp; try (with_reducible rfl))); (try simp only [Act.put, List.setIfInBounds_toArray, List.set_cons_zero, List.set_cons_succ]))
                    | ((refine plan_no (by rfl) ?_); (try simp only [Act.put, List.setIfInBounds_toArray, List.set_cons_zero, List.set_cons_succ]))
                    | ((refine plan_step (fun K hK => ?_)); (first | (go_simp; ((go_at_call 11; refine HD.out.mono ?_; rintro e w5 ⟨n, s, er, rfl, p', nl', ms', hst, hgd', S5, R5, hu⟩; have K5 := HK.out _ _ S5)); (try go_wp2_with fail)) | go_simp); (refine hK.out _ _ ?_ (fun hHeld => ?_)); (focus ((try dsimp only); (first | done | (first | with_reducible exact K4 | with_reducible exact K5)))); clear hK K; (try simp only [Act.put, List.setIfInBounds_toArray, List.set_cons_zero, List.set_cons_succ])))
                  refine plan_done ?_
                  have R5 := Lib.hid (Below.trans Rd.out R5)
                  have Hbk' := Lib.hid (Hst2.out er p' nl' ms' hst hu)
                  have Hgd' := Lib.hid hgd'
                  clear HD HK K4 K5 Rd hst hgd' hu
                  have S5 := Lib.hid S5
                  clear HS1 Hst2 Hbk
                  go_wp2_with fail
                  go_roundg (lw.length - (i + 1))
                  case measure => omega
                  case rel => exact ⟨i + 1, p', nl', ms', by simp, by omega, Hgd'.out, Hbk'.out, S5.out, R5.out⟩
              · have hge : (lw.length : Int) ≤ i := by omega
                have Hbk := Lib.hid hbk
                have hml := hbk.len
                have hmf := hgd.inv.few
                have S6 := Lib.hid (ph_more (M := 400000) (by omega) HSi)
                have R6 := Lib.hid HRi
                have Hgd := Lib.hid hgd
                clear HSi HRi hgd hbk
                go_wp2_with fail
                go_loopg [] (msi.length - ms.length) (fun (g : Nat) (wr : World) => LpU c pb lb p nl ms wb (arr 3 1 (some ⟨b1, o1, none⟩) T.length qc (T.map iv) * keep W) W g wr)
                case atStart => exact ⟨pi, nli, msi, by omega, by omega, Hgd.out, fun _ => Hbk.out, fun h => absurd h (by omega), ph_more (by omega) S6.out, R6.out⟩
                case round =>
                  clear S6 R6 Hgd Hbk hml hmf hgk hlt hge
                  obtain ⟨pj, nlj, msj, hml, hg4, hgd, hbk, hbak, S7, R7⟩ := hrel
                  have HMk := marks_gd hgd S7
                  obtain ⟨mj, hmj⟩ : ∃ x, x = (msj.length : Int) := ⟨_, rfl⟩
                  rw [← hmj] at HMk
                  have HMk := Lib.hid HMk
                  obtain ⟨c0, c1, c2, c3, c4⟩ := woP_cells (S7.perm (show _ = pts wb (BX c lb pb) * (PH c (400000 + 1000 * (4 - gk)) b0 1000 pj nlj msj * (arr 3 1 (some ⟨b1, o1, none⟩) T.length qc (T.map iv) * keep W)) by ac_rfl))
                  have R7 := Lib.hid R7
                  by_cases hg0 : gk = 0
                  · have hnl : mj ≤ m0 := by have := Hm0.out; omega
                    obtain ⟨e1, e2, e3⟩ := hbak hg0
                    have S7 := ph_more (M := 404000) (by omega) S7
                    subst e1
                    subst e2
                    have HT := Lib.hid (told_gd hgd (by omega) S7)
                    have Hb := Lib.hid (And.intro hgd.link.len e3)
                    have Hgd := Lib.hid hgd
                    clear hml hgd hbk hbak S7 e3 hmj hg4
                    go_wp2_with fail
                    refine HMk.out.mono ?_
                    rintro e w8 ⟨rfl, rfl⟩
                    clear HMk
                    go_wp2_with fail
                    refine HT.out.mono ?_
                    rintro e w9 ⟨ks2, T2, q2, qc2, hks2, hT2, hTl2, rfl, S9, R9⟩
                    obtain rfl : T2 = T := told_back Hb.out.1 Hp16.out Hb.out.2 HT1.out.1 hks2 HT1.out.2 hT2
                    obtain ⟨b2, o2, rfl⟩ := (S9.perm (show _ = arr 3 1 q2 T2.length qc2 (T2.map iv) * (PH c 404000 b0 1000 pj nlj msj * (pts wb (BX c lb pb) * (arr 3 1 (some ⟨b1, o1, none⟩) T2.length qc (T2.map iv) * keep W))) by ac_rfl)).arr_addr (by have := (S9.perm (show _ = arr 3 1 q2 T2.length qc2 (T2.map iv) * (PH c 404000 b0 1000 pj nlj msj * (pts wb (BX c lb pb) * (arr 3 1 (some ⟨b1, o1, none⟩) T2.length qc (T2.map iv) * keep W))) by ac_rfl)).arr_len.2.1; have := HTl.out.1; omega)
                    have S9 := Lib.hid (S9.perm (show _ = arr 3 1 (some ⟨b2, o2, none⟩) T2.length qc2 (T2.map iv) * (arr 3 1 (some ⟨b1, o1, none⟩) T2.length qc (T2.map iv) * (PH c 404000 b0 1000 pj nlj msj * (pts wb (BX c lb pb) * keep W))) by ac_rfl))
                    have R9 := Lib.hid (Below.trans R7.out R9)
                    clear HT hks2 hT2 hTl2 c0 c1 c2 c3 c4 R7 HT1 Hb
                    go_wp2_with fail
                    go_loopg [14] (T2.length) (fun (g : Nat) (v14 : Value) (wr : World) => LpC T2.length (arr 3 1 (some ⟨b2, o2, none⟩) T2.length qc2 (T2.map iv) * (arr 3 1 (some ⟨b1, o1, none⟩) T2.length qc (T2.map iv) * (PH c 404000 b0 1000 pj nlj msj * (pts wb (BX c lb pb) * keep W)))) W g v14 wr)
                    case atStart => exact ⟨0, rfl, by omega, S9.out, R9.out⟩
                    case round =>
                      clear S9 R9
                      obtain ⟨k, rfl, hgk2, S7, R7⟩ := hrel
                      by_cases hk : k < T2.length
                      · have hkI : (k : Int) < T2.length := by omega
                        have hk0 : (0 : Int) ≤ (k : Int) := by omega
                        have hkb : k ≤ 3000000 := by have := HTl.out.2; omega
                        obtain ⟨x, hx⟩ : ∃ x, x = T2[k] := ⟨_, rfl⟩
                        have S8 := S7.drew
                        have k1 := arr_int S8 k hk
                        have k2 := arr_int S8.right k hk
                        rw [← hx] at k1 k2
                        have R8 := Lib.hid (Ran.drewN R7 1)
                        have S8 := Lib.hid S8
                        clear hx S7 R7
                        go_upto_region 29 with fail
                        refine region_plan (S := (fun w' => w'.cell? ⟨b2, o2 + k, none⟩ = some (.int .i64 x) ∧ w'.cell? ⟨b1, o1 + k, none⟩ = some (.int .i64 x))) [(0, true), (1, true), (2, true), (3, true), (4, true), (5, true), (6, true), (7, true), (8, true)] (by kernel_rfl) (by kernel_rfl) (by kernel_rfl) ?_ ?_
                        · ((try dsimp only); (first | done | (exact ⟨k1, k2⟩)))
                        simp only [planOps, List.map_cons, List.map_nil, List.getElem?_toArray, List.getElem?_cons_zero, List.getElem?_cons_succ]
                        repeat (first
                          | ((refine plan_yes (v := ?_) (by rfl) ?_ ?_); rotate_left; (focus (intro w hSw; (try dsimp only at hSw); go_simp; try (with_reducible rfl))); (try simp only [Act.put, List.setIfInBounds_toArray, List.set_cons_zero, List.set_cons_succ]))
                          | ((refine plan_no (by rfl) ?_); (try simp only [Act.put, List.setIfInBounds_toArray, List.set_cons_zero, List.set_cons_succ]))
                          | ((refine plan_step (fun K hK => ?_)); (first | (fail) | (go_simp; (fail); (try go_wp2_with fail)) | go_simp); (refine hK.out _ _ ?_ (fun hHeld => ?_)); (focus ((try dsimp only); (first | done | (exact ⟨k1, k2⟩)))); clear hK K; (try simp only [Act.put, List.setIfInBounds_toArray, List.set_cons_zero, List.set_cons_succ])))
                        refine plan_done ?_
                        clear k1 k2
                        go_wp2_with fail
                        go_roundg (T2.length - (k + 1))
                        case measure => omega
                        case rel => exact ⟨k + 1, by simp, by omega, S8.out, R8.out⟩
                      · have hkI : (T2.length : Int) ≤ k := by omega
                        have S9 := Lib.hid S7.right.right.right.right
                        have R9 := Lib.hid R7
                        clear S7 R7
                        have hA := Lib.hid (HA.out wr S9.out)
                        clear S9
                        go_wp2_with fail
                        refine hA.out.mono ?_
                        rintro e w9 ⟨⟨rfl, h2⟩, h3⟩
                        have h2 := Lib.hid h2
                        have h3 := Lib.hid h3
                        clear hA
                        go_wp2_with fail
                        go_ret
                        exact ⟨rfl, fin_true R9.out h2.out h3.out⟩
                  · have hyes : m0 < mj := by have := Hm0.out; omega
                    have hne : msj ≠ [] := fun e => by rw [e] at hml; simp at hml; omega
                    have HUn := Lib.hid (undo_gd hgd (by omega) hne S7)
                    have Hml := Lib.hid hml
                    have Hbk := Lib.hid (hbk (by omega))
                    have Hin := Lib.hid hgd.inv
                    clear hml hgd S7 hne hbk hbak hmj
                    go_wp2_with fail
                    refine HMk.out.mono ?_
                    rintro e w8 ⟨rfl, rfl⟩
                    clear HMk c0 c1 c2 c3
                    go_wp2_with fail
                    refine HUn.out.mono ?_
                    rintro e w8 ⟨rfl, m, ms1, hms, hgd, S8, R8⟩
                    have hl0 : ms1.length = ms.length + (gk - 1) := by have := Hml.out; rw [hms, List.length_append] at this; have : ms1.length + 1 = ms.length + gk := this; omega
                    have Hl0 := Lib.hid hl0
                    have Hgd := Lib.hid hgd
                    have Hb1 : Hid (0 < gk - 1 → Bk p nl ms (resto (nlj.drop m) pj) (nlj.take m) ms1) := Lib.hid fun h => bk_step Hin.out Hbk.out (.undo m ms1 hms) (by omega)
                    have Hb2 : Hid (gk - 1 = 0 → ms1 = ms ∧ nlj.take m = nl ∧ ∀ q, q ≤ 17 → (resto (nlj.drop m) pj).sl q = p.sl q) := Lib.hid fun h => bk_last Hin.out Hbk.out hms (by omega)
                    have S8 := Lib.hid S8
                    have R8 := Lib.hid (Below.trans R7.out R8)
                    clear HUn c4 hms hgd hl0 Hbk Hin R7
                    go_wp2_with fail
                    go_roundg (gk - 1)
                    case measure => omega
                    case rel => exact ⟨_, _, ms1, Hl0.out, by omega, Hgd.out, Hb1.out, Hb2.out, ph_more (by omega) S8.out, R8.out⟩
theorem own : ownKnob Tryz.prog.godebug = none := by kernel_rfl
theorem laidOut : laidOutB Tryz.prog = true := by kernel_rfl

set_option maxRecDepth 100000 in
theorem lifted (os : Os) (started : os.Started) (H : Type) (enc : TypeId × Value → H) :
    ReturnsInHanded {} Tryz.checked os 5 .any (fun w args => (Rows.procBackSpec.pre enc Tryz.prog Tryz.f5 Rows.procBackRow.domain false w args ∧ laidMetH Tryz.prog Rows.procBackRow.laid w) ∧ sizedMet enc Tryz.prog Tryz.f5 (OpenSpec.ofChange Rows.procBackSpec) false w args) (Rows.procBackSpec.post enc Tryz.prog Tryz.f5 false true false false) := by
  refine handed_shaped (C := Tryz.checked) (X := fun w _ => laidMetH Tryz.prog Rows.procBackRow.laid w) (fun _ _ _ hh h => h.of_heap hh) own started (by kernel_rfl) Tryz.func5
    (ChangeSpec.witness_shaped (enc := enc) (C := Tryz.checked) (os := os) (X := fun w _ => laidMetH Tryz.prog Rows.procBackRow.laid w) false (World.laidAll Tryz.prog os Rows.procBackRow.laid) #[.slice none 0 0, .slice none 0 0] 8 (World.laidAll_os _ _ _)
      (World.shaped_of_ZipB (by kernel_rfl) (by kernel_rfl)) (by kernel_rfl) (by kernel_rfl) (by kernel_rfl)
      (by rw [MakeChecks.laidMetH_plain _ _ _ (by kernel_rfl)]; exact laidMet_laidAll _ (by kernel_rfl) (by kernel_rfl))) ?_
  intro W base args ds gs before hval0 hW hcnd _ hL hsh
  have hval : ∀ (j : Nat) t v, Tryz.f5.params[j]? = some t → args[j]? = some v → Value.okWide Tryz.prog W .any base t v := hval0
  have hW' := hW
  obtain ⟨p, q, hA0, hV, rfl, hfz, hnd⟩ := hW
  have hA : DataW.TrodAll enc Tryz.prog W 0 (fun _ => true) true Tryz.f5.params.toList args.toList ds p := hA0
  rw [Tryz.params5] at hA hval
  obtain ⟨v0, vs0, d0, ds0, p0, q0, hargs, rfl, rfl, h0, r0⟩ := trodAll_cons hA
  obtain ⟨v1, vs1, d1, ds1, p1, q1, rfl, rfl, rfl, h1, r1⟩ := trodAll_cons r0
  obtain ⟨rfl, rfl, rfl⟩ := trodAll_nil r1
  obtain rfl : args = #[v0, v1] := by cases args; simp_all
  obtain ⟨rfl, rfl⟩ := trodVars_none hV
  have k0 := h0
  have lt0 : ∀ x ∈ p0, x.block < W.heap.size := by obtain ⟨m, hm⟩ := k0; exact DataW.trod_lt m _ _ _ hm
  obtain ⟨ao0, l0, cap0, rfl, w0⟩ := ops_open (hval 0 22 v0 rfl rfl) h0
  have k1 := h1
  have lt1 : ∀ x ∈ p1, x.block < W.heap.size := by obtain ⟨m, hm⟩ := k1; exact DataW.trod_lt m _ _ _ hm
  obtain ⟨ao1, l1, cap1, rfl, w1⟩ := ops_open (hval 1 22 v1 rfl rfl) h1
  clear hA0 hval0
  refine (walk ao0 cap0 l0 ao1 cap1 l1 W w0 w1 (glob_keep hsh)).mono fun e W' ⟨he, bel⟩ => ?_
  subst he
  exact ⟨_, rfl, _, _, _, [], _, [], hW', trodAll_mk1 (shut_bool Tryz.underlying4 _), (trodAll_cons_mk (Below.trod laidOut (by kernel_rfl) (of_decide_eq_true (by kernel_rfl)) k0 bel lt0) (trodAll_cons_mk (Below.trod laidOut (by kernel_rfl) (of_decide_eq_true (by kernel_rfl)) k1 bel lt1) trodAll_mk0)), rfl, bel.frame _, fun h => by cases h⟩

theorem over : Rows.procBackRow.holds Tryz.pinned (OpenSpec.ofChange Rows.procBackSpec) :=
  OpenClaim.holds_of_wide 5 Tryz.f5 rfl rfl rfl rfl rfl rfl rfl ⟨rfl, rfl, rfl, rfl, rfl⟩ rfl rfl rfl rfl rfl (by kernel_rfl) Tryz.func5 (by kernel_rfl)
    (of_decide_eq_true (by kernel_rfl)) (by unfold Func.isWrapper; first | (rw [if_pos (by decide +kernel)]; kernel_rfl) | (rw [if_neg (by decide +kernel)]; exact ⟨rfl, rfl⟩))
    (fun os started H enc _ => lifted os started H enc)

theorem proved : Rows.ProcBackCardSaid :=
  Claim7.holds_tied_plain_at .later [] [.data, .pinned] true (true, "a035c5781683d6981f330a25f830d252f3d8558a1223b6fdcc43f87aa68114b7") false over (fun _ h => by cases h) (by kernel_rfl) (fun _ h => by cases h) procBack_row_tie rfl ⟨rfl, rfl⟩ (by kernel_rfl) rfl
    (fun f fn hf hfn => by
      obtain rfl : f = 5 := Option.some.inj ((show Tryz.prog.funcNamed "whelk/whelklaw09.ProcBack" = some 5 by kernel_rfl).symm.trans hf) |>.symm
      obtain rfl : fn = Tryz.f5 := (Option.some.inj (Tryz.func5.symm.trans hfn)).symm
      exact ⟨by kernel_rfl, fun j t ht => by
        rw [Tryz.params5] at ht
        have hm : t ∈ [22, 22] := by simpa using Array.mem_of_getElem? ht
        have hall : ([22, 22].all fun u => !Tryz.prog.wantsStandIn u) = true := by kernel_rfl
        exact (show Tryz.prog.wantsStandIn t = false by simpa using List.all_eq_true.1 hall t hm)⟩)
    (by kernel_rfl)
#print axioms proved
end Go.Proofs.YteienbdbhnikbaaGreatDoor.procBack

