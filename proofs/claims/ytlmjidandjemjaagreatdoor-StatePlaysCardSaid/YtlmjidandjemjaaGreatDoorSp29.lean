/- StatePlays: what each call answers, and what is known, call by call. -/
import Derived.Test.YtlmjidandjemjaaGreatDoorSp28
import Derived.Test.YtlmjidandjemjaaGreatDoorSp23
import Derived.Test.YtlmjidandjemjaaGreatDoorTie
import Derived.Test.YtlmjidandjemjaaGreatDoorCards
import Derived.SevenTiedAt
import Derived.Stop.Joined
namespace Go.Proofs.YtlmjidandjemjaaGreatDoor.statePlays
open Go.ChangeShapes Go.WideShapes Go.ChangeAt Go.RowKit Go.Proofs.YtlmjidandjemjaaGreatDoor Go.Proofs.YtlmjidandjemjaaGreatDoor.Hp Go.Proofs.YtlmjidandjemjaaGreatDoor.Undo Go.Proofs.YtlmjidandjemjaaGreatDoor.State Go.ChangeMaps
set_option linter.unusedVariables false
attribute [local go_sem] Oper.semAt_some

theorem fin_true {W w1 w2 : World} (h1 : Ran W w1) (hs : Sat w2 (keep W)) (h2 : Ran w1 w2) : Below W.heap.size W w2 := Ran.whole' (Below.trans h1 h2) hs
theorem keep_texts {W w : World} {p : Option Addr} {l : List ByteArray} (h : TextsAt W p l) {S : Hp} (hs : Sat w (S * keep W)) : StrsAt w p l := by
  have hk := hs.right.kept
  rcases h.strs with h0 | ⟨b, o, hp, hc⟩
  · exact .inl h0
  · refine .inr ⟨b, o, hp, fun j hj => ?_⟩
    rw [← hc j hj]
    exact World.cell?_of_block (w := W) (hk b (World.block_lt_of_cell? _ _ (hc j hj)))
set_option maxRecDepth 100000 in
set_option maxHeartbeats 4000000 in
theorem few_any (l : List Opr) (ao : Option Addr) (cap : Nat) (w : World) (hl : OpsAt w ao l) :
    Calls Tryz.prog 13 #[.slice ao l.length cap] w (FewSays l w) := by
  by_cases h : l.length ≤ 9223372036854775807
  · exact few_calls l ao cap w hl h
  · have h50I : (50 : Int) < l.length := by omega
    clear h hl
    go_enter Tryz.func13, Tryz.ntmps13
    go_wp2_with fail
    go_ret
    exact ⟨⟨false, rfl, fun h => by cases h⟩, rfl⟩
theorem ook_size {o : ByteArray} (h : OOk o) : o.size ≤ 100000 := by
  have h1 : (bs o).length ≤ 6 := by
    unfold OOk at h
    rw [h]
    exact List.length_filter_le ..
  rw [bs_length] at h1
  omega
theorem glob_eq {R S : Hp} (h : Glob R) (e : R = S) : Glob S := e ▸ h
/-- The names that are asked, and what was there. -/
abbrev plF (np : Option Addr) (nc : Nat) (l : List Opr) (W : World) : Hp := arr 9 1 np l.length nc ((l.map fun o => o.k).map sv) * keep W
abbrev plR (d : Dw) (s : Sr) (A : Hp) (np : Option Addr) (nc : Nat) (l : List Opr) (W : World) : Hp := pts d.b (srO s) * (A * (dwHp d * plF np nc l W))
theorem pl_keep {Kc : Ctx} {w W : World} {n : Now} {d : Dw} {s : Sr} {A : Hp} {np : Option Addr} {nc : Nat} {l : List Opr} (h : SAt Kc w n (plR d s A np nc l W)) : Sat w ((pts d.b (srO s) * (A * (dwHp d * arr 9 1 np l.length nc ((l.map fun o => o.k).map sv)))) * keep W) :=
  h.rest.perm (by unfold plR plF; ac_rfl)
theorem pl_glob {W : World} (hg : Glob (keep W)) (d : Dw) (s : Sr) (A : Hp) (np : Option Addr) (nc : Nat) (l : List Opr) : Glob (plR d s A np nc l W) :=
  glob_eq (hg.more (S := pts d.b (srO s) * (A * (dwHp d * arr 9 1 np l.length nc ((l.map fun o => o.k).map sv))))) (by unfold plR plF; ac_rfl)
/-- A state behind some calls. -/
structure PlOk (Kc : Ctx) (h c : Nat) (n : Now) (A : Hp) (d : Dw) (s : Sr) (ab : Nat) : Prop where
  g : GoodN c n
  h : n.hist.length ≤ h
  r : Dr A n c d s
  ab : d.ab = ab
theorem PlOk.room {Kc : Ctx} {h c : Nat} {n : Now} {A : Hp} {d : Dw} {s : Sr} {ab : Nat} {w : World} {R : Hp} (ho : PlOk Kc h c n A d s ab) (hs : SAt Kc w n R) (hm : Kc.most = 1000) (hh : h ≤ 900) : Room Kc.most n := ⟨hs.marked, by rw [hm]; have := ho.h; omega⟩
theorem good_putP {c : Nat} {n : Now} (most : Int) (h : GoodN c n) (k : ByteArray) (v : VM.T) (hk : k.size ≤ 200) (hv : v.val.size ≤ 5000) : GoodN (c + 20) (n.putP most k v).2 := by
  have hle : GoodN (c + 20) n := h.le (by omega)
  unfold Now.putP
  by_cases c1 : isName k = false
  · rw [if_pos c1]; exact hle
  rw [if_neg c1]
  show GoodN (c + 20) (if nilVar (dVar v) = true then n.delV most k else n.put most { n.s with V := putM n.s.V k (dVar v) }).2
  by_cases c2 : nilVar (dVar v) = true
  · rw [if_pos c2]
    unfold Now.delV
    split
    · exact hle
    · exact put_good _ h (goodP_delV h.s)
  · rw [if_neg c2]
    refine put_good _ h (goodP_putV h.s (by omega) ?_)
    unfold dVar
    split
    · exact hv
    · exact Nat.zero_le _
theorem plays_put {Kc : Ctx} {i : Nat} {n n2 : Now} {A A2 : Hp} {d : Dw} {s s2 : Sr} {ab : Nat} {op : Opr} (hP : PlOk Kc (10 * i) (40 * i) n A d s ab) (hf : FewO op) (hm : n2 = n ∨ n2 = (n.putP Kc.most op.k (pvO op)).2) (hD : Dr A2 n2 (40 * i + 1) d s2) (hi : i < 50) : PlOk Kc (10 * i + 5) (40 * i + 20) n2 A2 d s2 ab := by
  have hD2 : Dr A2 n2 (40 * i + 20) d s2 := hD.le (by omega) (by omega)
  rcases hm with rfl | rfl
  · exact ⟨hP.g.le (by omega), by have := hP.h; omega, hD2, hP.ab⟩
  · refine ⟨good_putP _ hP.g op.k (pvO op) hf.1 hf.2.1, ?_, hD2, hP.ab⟩
    have h1 := putP_hist Kc.most n op.k (pvO op)
    have h2 := hP.h
    omega
/-- What the document's machine makes of a call, beside the program's state. -/
def PlAsk (Kc : Ctx) (c ab : Nat) (en : Int) (m : Now) (np : Option Addr) (nc : Nat) (l : List Opr) (W w : World) (e : Ending) (w' : World) : Prop :=
  (∃ (A : Hp) (d : Dw) (s : Sr), e = .returned (.int .i64 en) ∧ d.ab = ab ∧ Dr A m c d s ∧ SAt Kc w' m (plR d s A np nc l W)) ∧ Ran w w'
theorem plays_asked {Kc : Ctx} {i : Nat} {n m : Now} {A : Hp} {d : Dw} {s : Sr} {ab : Nat} {op : Opr} {en : Int} {w W W0 : World} {np : Option Addr} {nc : Nat} {l : List Opr} (hP : PlOk Kc (10 * i + 5) (40 * i + 20) n A d s ab) (hr : Room Kc.most n) (hk : Kc.nest = 20) (hf : FewO op) (hok : OkOp W0 op) (hdo : DoR Kc n op en m) (hS : SAt Kc w m (plR d s A np nc l W)) (hT : TextsAt W op.p op.L) (hi : i < 50) :
    Calls Tryz.prog 31 #[pp ab, opA op] w (PlAsk Kc (40 * i + 21) ab en m np nc l W w) := by
  obtain ⟨X, hX1, hX2⟩ := hS.frame
  have h1 := asked_calls Kc n m en op (40 * i + 20) A (X * plF np nc l W) d s w hdo hr (fun ks hk => (keysT_le hP.g.s hk).1) hk hP.g.ms ⟨hok.1, hok.2.2.2.1, by have := hf.1; omega, hf.2.1, hf.2.2.1, keep_texts hT (pl_keep hS), ook_size hP.g.s.o⟩ (by omega) hP.r (hX1.perm (by unfold plR; ac_rfl))
  rw [hP.ab] at h1
  refine h1.mono ?_
  rintro e w' ⟨⟨rfl, A3, d3, s3, hab, hD, hS3⟩, hR⟩
  exact ⟨⟨A3, d3, s3, rfl, hab, hD, hX2 w' _ (hS3.perm (by unfold plR; ac_rfl))⟩, hR⟩
theorem plays_done {Kc : Ctx} {i : Nat} {n m : Now} {A A3 : Hp} {d d3 : Dw} {s s3 : Sr} {ab : Nat} (hP : PlOk Kc (10 * i + 5) (40 * i + 20) n A d s ab) (hg : GoodN (40 * i + 20 + 20) m ∧ m.hist.length ≤ n.hist.length + 5) (hab : d3.ab = ab) (hD : Dr A3 m (40 * i + 21) d3 s3) : PlOk Kc (10 * (i + 1)) (40 * (i + 1)) m A3 d3 s3 ab :=
  ⟨hg.1.le (by omega), by have := hP.h; have := hg.2; omega, hD.le (by omega) (by have := hD.g.sm.top; omega), hab⟩
theorem plays_cells {Kc : Ctx} {h c : Nat} {m : Now} {A : Hp} {d : Dw} {s : Sr} {ab : Nat} {w W : World} {np : Option Addr} {nc : Nat} {l : List Opr} (hP : PlOk Kc h c m A d s ab) (hS : SAt Kc w m (plR d s A np nc l W)) : w.cell? ⟨ab, 0, none⟩ = some (pp d.b) ∧ w.cell? ⟨ab, 1, none⟩ = some (.slice d.wp m.ms.length d.wc) ∧ ∀ i, w.frozen? ⟨ab, i, none⟩ = false := by
  have := dw_cells (d := d) (hS.rest.perm (show _ = dwHp d * (pts d.b (srO s) * (A * plF np nc l W)) by unfold plR; ac_rfl))
  rw [hP.ab, hP.r.len] at this
  exact this
theorem plays_same {Kc : Ctx} {i : Nat} {m : Now} {A : Hp} {d : Dw} {s : Sr} {ab : Nat} {w W : World} {np : Option Addr} {nc : Nat} {l : List Opr} (hP : PlOk Kc (10 * (i + 1)) (40 * (i + 1)) m A d s ab) (hf : FewP l) (hS : SAt Kc w m (plR d s A np nc l W)) (hi : i < 50) :
    Calls Tryz.prog 32 #[pp Kc.sb, pp d.b, .slice np l.length nc] w fun e w' => (e = .returned (.bool true) ∧ SAt Kc w' m (plR d s A np nc l W)) ∧ Ran w w' := by
  have h1 := same_calls Kc m d.b s (40 * (i + 1)) A (dwHp d * plF np nc l W) np nc (l.map fun o => o.k) w ⟨hP.r.g, hP.g.s, by have := hP.g.N; omega, by omega, fun W' Y hW => by
    have h2 := hW.perm (show _ = arr 9 1 np l.length nc ((l.map fun o => o.k).map sv) * (Y * (dwHp d * keep W)) by unfold plF; ac_rfl)
    have h3 : l.length = (l.map fun o => o.k).length := by rw [List.length_map]
    rw [h3] at h2
    exact StrsAt.arr h2, by rw [List.length_map]; have := hf.1; omega, fun x hx => by
    obtain ⟨y, hy, rfl⟩ := List.mem_map.1 hx
    have := (hf.2 y hy).1
    omega⟩ hS
  rw [List.length_map] at h1
  exact h1
def PlRel (Kc : Ctx) (l : List Opr) (np : Option Addr) (nc : Nat) (ab : Nat) (W : World) (g : Nat) (v8 : Value) (wr : World) : Prop :=
  ∃ (i : Nat) (n : Now) (A : Hp) (d : Dw) (s : Sr), v8 = .int .i64 (i : Int) ∧ i + g = l.length ∧ PlOk Kc (10 * i) (40 * i) n A d s ab ∧ SAt Kc wr n (plR d s A np nc l W) ∧ Ran W wr
set_option maxRecDepth 100000 in
set_option maxHeartbeats 16000000 in
theorem walk (ao : Option Addr) (cap : Nat) (l : List Opr) (W : World) (hl : OpsAt W ao l) (hg : Glob (keep W)) :
    Calls Tryz.prog 7 #[.slice ao l.length cap] W fun e w' => e = .returned (.bool true) ∧ Below W.heap.size W w' := by
  have HF := Lib.hid (few_any l ao cap W hl)
  have HB := Lib.hid (begun_calls 1000 (by decide) (by decide) W (keep W) (Sat.start W))
  have HA := Lib.hid (fun w hw => awake_calls w (keep W) hg hw)
  have HL := Lib.hid hl
  have HG := Lib.hid hg
  clear hl hg
  go_enter Tryz.func7, Tryz.ntmps7
  go_wp2_with fail
  refine HF.out.mono ?_
  rintro e w1 ⟨⟨r, rfl, hr⟩, rfl⟩
  clear HF
  cases r with
  | false =>
    have hA := Lib.hid (HA.out W (Sat.start W))
    clear hr HB
    go_wp2_with fail
    refine hA.out.mono ?_
    rintro e w9 ⟨⟨rfl, h2⟩, h3⟩
    have h2 := Lib.hid h2
    have h3 := Lib.hid h3
    clear hA
    go_wp2_with fail
    go_ret
    exact ⟨rfl, fin_true (Below.refl 0 W) h2.out h3.out⟩
  | true =>
    have HFw := Lib.hid (hr rfl)
    have h50 : l.length ≤ 50 := HFw.out.1
    clear hr
    go_wp2_with fail
    refine HB.out.mono ?_
    rintro e w1 ⟨⟨Kc, hm, hnest, rfl, S1⟩, Rn1⟩
    have HM := Lib.hid hm
    have HK := Lib.hid hnest
    have HNw := Lib.hid (rnew_calls w1)
    have S2 := S1.alloc (srO sr0)
    have R2 := Ran.new Rn1 (srO sr0)
    obtain ⟨nb, hnb⟩ : ∃ nb, nb = w1.heap.size := ⟨_, rfl⟩
    obtain ⟨w2, hw2⟩ : ∃ w2, w2 = w1.alloc (srO sr0) := ⟨_, rfl⟩
    rw [← hnb, ← hw2] at S2
    rw [← hw2] at R2
    have HNw := Lib.hid (by rw [hnb, hw2]; exact HNw.out : Calls Tryz.prog 29 #[] w1 fun e w' => e = .returned (pp nb) ∧ w2 = w')
    have S3 := S2.alloc (allO nb none 0 0)
    have R3 := Ran.new R2 (allO nb none 0 0)
    obtain ⟨ab, hab⟩ : ∃ ab, ab = w2.heap.size := ⟨_, rfl⟩
    obtain ⟨w3, hw3⟩ : ∃ w3, w3 = w2.alloc (allO nb none 0 0) := ⟨_, rfl⟩
    rw [← hab, ← hw3] at S3
    rw [← hw3] at R3
    obtain ⟨d0, hd0⟩ : ∃ d0 : Dw, d0 = ⟨ab, nb, none, 0, []⟩ := ⟨_, rfl⟩
    have hdw : dwHp d0 = pts ab (allO nb none 0 0) := by
      rw [hd0]
      show pts ab (allO nb none 0 0) * (arr 59 1 none 0 0 [] * emp) = _
      rw [arr_nil, emp_sep]
      exact sep_emp _
    have hda : d0.ab = ab := by rw [hd0]
    have hdb : d0.b = nb := by rw [hd0]
    have hDr : Dr emp n0 0 d0 sr0 := ⟨sr0_good, ⟨sr0_good.is, by rw [hd0]; rfl, fun i h => absurd h (Nat.not_lt_zero i)⟩, fun x hx => by rw [hd0] at hx; cases hx⟩
    obtain ⟨X0, hX0, hXX⟩ := S3.frame
    have HNa := Lib.hid (nameds_calls l ao cap W w3 (X0 * (pts ab (allO nb none 0 0) * pts nb (srO sr0))) HL.out (by omega) (hX0.perm (by ac_rfl)))
    have HXX := Lib.hid (fun (w4 : World) (p : Option Addr) (cc : Nat) (h4 : Sat w4 (arr 9 1 p l.length cc (l.map fun o => sv o.k) * ((X0 * (pts ab (allO nb none 0 0) * pts nb (srO sr0))) * keep W))) => (by
      refine hXX w4 _ (h4.perm ?_)
      show _ = X0 * (pts d0.b (srO sr0) * (emp * (dwHp d0 * (arr 9 1 p l.length cc ((l.map fun o => o.k).map sv) * keep W))))
      rw [hdw, hdb, emp_sep, List.map_map]
      show _ = X0 * (pts nb (srO sr0) * (pts ab (allO nb none 0 0) * (arr 9 1 p l.length cc (l.map fun o => sv o.k) * keep W)))
      ac_rfl : SAt Kc w4 n0 (plR d0 sr0 emp p cc l W)))
    have HD0 := Lib.hid (And.intro hDr hda)
    have R3 := Lib.hid R3
    clear hm hnest HB S1 S2 R2 S3 Rn1 hX0 hXX hDr hd0 hdw hda hdb hnb hw2
    go_wp2_with fail
    refine HNw.out.mono ?_
    rintro e w4 ⟨rfl, rfl⟩
    clear HNw
    go_upto_region 5 with fail
    rw [← hw3, ← hab]
    clear hw3 hab
    go_wp2_with fail
    refine HNa.out.mono ?_
    rintro e w4 ⟨⟨np, nc, rfl, h4⟩, R4⟩
    have S4 := Lib.hid (HXX.out w4 np nc h4)
    have R4 := Lib.hid (Below.trans R3.out R4)
    clear HNa HXX h4 R3
    go_wp2_with fail
    go_loopg [8] (l.length) (PlRel Kc l np nc ab W)
    case atStart => exact ⟨0, n0, emp, d0, sr0, rfl, by omega, ⟨good0, Nat.le_refl _, HD0.out.1, HD0.out.2⟩, S4.out, R4.out⟩
    case round =>
      obtain ⟨i, n, A, d, s, rfl, hgk, hP, HSi, HRi⟩ := hrel
      clear S4 R4 HD0
      by_cases hlt : i < l.length
      · have hltI : (i : Int) < l.length := by omega
        have hi0 : (0 : Int) ≤ i := by omega
        have hi50 : i < 50 := by omega
        obtain ⟨op, hope⟩ : ∃ op, op = l[i] := ⟨_, rfl⟩
        have hfo : FewO op := by rw [hope]; exact HFw.out.2 _ (List.getElem_mem hlt)
        obtain ⟨okx, b, o, rfl, hbW, o0, o1, o2, o3, o4⟩ := HL.out i hlt
        rw [← hope] at okx o0 o1 o2 o3 o4
        have HopA := Lib.hid (fun (W' : World) (S : Hp) (hW' : Sat W' (S * keep W)) => (by
          have hk := hW'.right.kept
          exact ⟨(World.cell?_of_block (w := W) (hk b hbW)).trans o0, (World.cell?_of_block (w := W) (hk b hbW)).trans o1, (World.cell?_of_block (w := W) (hk b hbW)).trans o2, (World.cell?_of_block (w := W) (hk b hbW)).trans o3, (World.cell?_of_block (w := W) (hk b hbW)).trans o4⟩ : W'.cell? ⟨b, o + i * 5, none⟩ = some (.int .i64 op.ask) ∧ W'.cell? ⟨b, o + i * 5 + 1, none⟩ = some (.string op.k) ∧ W'.cell? ⟨b, o + i * 5 + 2, none⟩ = some (.string op.t) ∧ W'.cell? ⟨b, o + i * 5 + 3, none⟩ = some (.int .i64 op.n) ∧ W'.cell? ⟨b, o + i * 5 + 4, none⟩ = some (.slice op.p op.L.length op.c)))
        have HTx := Lib.hid okx.2.2.2.2
        have hSd := HSi.drew
        have P0 := Lib.hid (HopA.out _ _ (pl_keep hSd))
        obtain ⟨k0, -, -⟩ := dw_cells (d := d) (hSd.rest.perm (show _ = dwHp d * (pts d.b (srO s) * (A * plF np nc l W)) by unfold plR; ac_rfl))
        rw [hP.ab] at k0
        have hroom := hP.room hSd HM.out (by omega)
        have HPt := Lib.hid (puts_calls Kc n op (40 * i) A (plF np nc l W) d s wr.drew hroom okx.2.2.2.1 (by have := hfo.1; omega) (by have := hP.g.N; omega) (by have := hP.g.ms; omega) (by omega) hP.r hSd)
        have HP := Lib.hid hP
        have Hok := Lib.hid okx
        have HR0 := Lib.hid (Below.drew HRi : Ran W wr.drew)
        have Hfo := Lib.hid hfo
        have HFit := Lib.hid (fun (m : Now) (cc : Nat) (w : World) (A2 : Hp) (d2 : Dw) (s2 : Sr) (hgd : GoodN cc m) (hcc : cc ≤ 900000) (hS : SAt Kc w m (plR d2 s2 A2 np nc l W)) => (fit_of hgd hcc HK.out hfo okx.1 okx.2.2.2.1 (keep_texts HTx.out (pl_keep hS)) (pl_glob HG.out d2 s2 A2 np nc l) : Fit Kc m op w (plR d2 s2 A2 np nc l W)))
        clear hope hfo okx hP HSi HRi hbW hSd hroom o0 o1 o2 o3 o4
        go_upto_region 11 with fail
        refine region_tree (S := (fun w' => w'.cell? ⟨b, o + i * 5, none⟩ = some (.int .i64 op.ask) ∧ w'.cell? ⟨b, o + i * 5 + 1, none⟩ = some (.string op.k) ∧ w'.cell? ⟨b, o + i * 5 + 2, none⟩ = some (.string op.t) ∧ w'.cell? ⟨b, o + i * 5 + 3, none⟩ = some (.int .i64 op.n) ∧ w'.cell? ⟨b, o + i * 5 + 4, none⟩ = some (.slice op.p op.L.length op.c))) (.take 0 (.take 1 (.take 2 (.take 3 (.take 5 (.take 6 (.take 7 (.take 8 (.step 4 (.step 9 (.take 10 (.take 11 (.take 12 (.take 13 (.take 14 (.take 15 (.take 16 (.take 17 (.take 19 (.take 20 (.take 21 (.take 22 (.take 23 (.step 18 (.step 24 (.take 25 (.take 26 (.take 27 (.take 28 (.take 29 (.take 30 (.take 31 (.take 33 (.step 32 (.step 34 (.take 35 (.take 36 (.take 37 (.take 38 (.take 40 (.take 41 (.take 42 (.fork 39 (.step 43 (.take 44 (.take 45 (.take 46 (.nil))))) 43 (.take 44 (.step 39 (.take 45 (.take 46 (.nil)))))))))))))))))))))))))))))))))))))))))))))))) (by kernel_rfl) (by kernel_rfl) (by kernel_rfl) ?_ ?_
        · ((try dsimp only); (first | done | (first | with_reducible exact P0.out | with_reducible exact P1.out | with_reducible exact P2.out | with_reducible exact P3.out | with_reducible exact P4.out)))
        simp only [Plan.ops, List.getElem?_toArray, List.getElem?_cons_zero, List.getElem?_cons_succ]
        ((first | ((refine tree_yes (v := ?_) (by rfl) ?_ ?_); rotate_left; (focus (intro w hSw; (try dsimp only at hSw); go_simp; try (with_reducible rfl)))) | (refine tree_no (by rfl) ?_)); (try simp only [Act.put, List.setIfInBounds_toArray, List.set_cons_zero, List.set_cons_succ]))
        ((first | ((refine tree_yes (v := ?_) (by rfl) ?_ ?_); rotate_left; (focus (intro w hSw; (try dsimp only at hSw); go_simp; try (with_reducible rfl)))) | (refine tree_no (by rfl) ?_)); (try simp only [Act.put, List.setIfInBounds_toArray, List.set_cons_zero, List.set_cons_succ]))
        ((first | ((refine tree_yes (v := ?_) (by rfl) ?_ ?_); rotate_left; (focus (intro w hSw; (try dsimp only at hSw); go_simp; try (with_reducible rfl)))) | (refine tree_no (by rfl) ?_)); (try simp only [Act.put, List.setIfInBounds_toArray, List.set_cons_zero, List.set_cons_succ]))
        ((first | ((refine tree_yes (v := ?_) (by rfl) ?_ ?_); rotate_left; (focus (intro w hSw; (try dsimp only at hSw); go_simp; try (with_reducible rfl)))) | (refine tree_no (by rfl) ?_)); (try simp only [Act.put, List.setIfInBounds_toArray, List.set_cons_zero, List.set_cons_succ]))
        ((first | ((refine tree_yes (v := ?_) (by rfl) ?_ ?_); rotate_left; (focus (intro w hSw; (try dsimp only at hSw); go_simp; try (with_reducible rfl)))) | (refine tree_no (by rfl) ?_)); (try simp only [Act.put, List.setIfInBounds_toArray, List.set_cons_zero, List.set_cons_succ]))
        ((first | ((refine tree_yes (v := ?_) (by rfl) ?_ ?_); rotate_left; (focus (intro w hSw; (try dsimp only at hSw); go_simp; try (with_reducible rfl)))) | (refine tree_no (by rfl) ?_)); (try simp only [Act.put, List.setIfInBounds_toArray, List.set_cons_zero, List.set_cons_succ]))
        ((first | ((refine tree_yes (v := ?_) (by rfl) ?_ ?_); rotate_left; (focus (intro w hSw; (try dsimp only at hSw); go_simp; try (with_reducible rfl)))) | (refine tree_no (by rfl) ?_)); (try simp only [Act.put, List.setIfInBounds_toArray, List.set_cons_zero, List.set_cons_succ]))
        ((first | ((refine tree_yes (v := ?_) (by rfl) ?_ ?_); rotate_left; (focus (intro w hSw; (try dsimp only at hSw); go_simp; try (with_reducible rfl)))) | (refine tree_no (by rfl) ?_)); (try simp only [Act.put, List.setIfInBounds_toArray, List.set_cons_zero, List.set_cons_succ]))
        ((refine tree_step (fun K hK => ?_)); (first | (go_simp; (first | (go_at_call 30; refine HPt.out.mono ?_; rintro e w2 ⟨⟨n2, A2, s2, rfl, hm2, hD2, S2⟩, R2⟩; have HQ := Lib.hid (plays_put HP.out Hfo.out hm2 hD2 (by omega)); have P1 := Lib.hid (HopA.out _ _ (pl_keep S2)); have HDo := Lib.hid (does_calls Kc n2 op w2 _ (HFit.out n2 _ w2 A2 d s2 HQ.out.g (by omega) S2) S2); have Hroom := Lib.hid (HQ.out.room S2 HM.out (by omega)); have R2 := Lib.hid (Below.trans HR0.out R2); clear HPt hm2 hD2 S2 HR0 k0) | (go_at_call 19; refine HDo.out.mono ?_; rintro e w3 ⟨⟨en, m, rfl, hdo, S3⟩, R3⟩; have P2 := Lib.hid (HopA.out _ _ (pl_keep S3)); have HAs := Lib.hid (plays_asked HQ.out Hroom.out HK.out Hfo.out Hok.out hdo S3 HTx.out (by omega)); have HG5 := Lib.hid (And.intro (does_good HQ.out.g HK.out Hfo.out hdo) (does_hist (fun ks hk => (keysT_le HQ.out.g.s hk).1) hdo)); have R3 := Lib.hid (Below.trans R2.out R3); clear HDo hdo S3 R2) | (go_at_call 31; refine HAs.out.mono ?_; rintro e w4 ⟨⟨A3, d3, s3, rfl, hab3, hD3, S4⟩, R4⟩; have P3 := Lib.hid (HopA.out _ _ (pl_keep S4)); have HQ3 := Lib.hid (plays_done HQ.out HG5.out hab3 hD3); obtain ⟨k0, k1, -⟩ := plays_cells HQ3.out S4; have HSm := Lib.hid (plays_same HQ3.out HFw.out S4 (by omega)); have R4 := Lib.hid (Below.trans R3.out R4); clear HAs hab3 hD3 S4 R3 HG5 HQ) | (go_at_call 32; refine HSm.out.mono ?_; rintro e w5 ⟨⟨rfl, S5⟩, R5⟩; have P4 := Lib.hid (HopA.out _ _ (pl_keep S5)); clear k0 k1; obtain ⟨k0, k1, -⟩ := plays_cells HQ3.out S5; have HMk := Lib.hid (sMarks _ m w5 _ S5); have S5 := Lib.hid S5; have R5 := Lib.hid (Below.trans R4.out R5); clear HSm R4) | (go_at_call 26; refine HMk.out.mono ?_; rintro e w6 ⟨rfl, rfl⟩)); (try go_wp2_with fail)) | go_simp); (refine hK.out _ _ ?_ (fun hHeld => ?_)); (focus ((try dsimp only); (first | done | (first | with_reducible exact P0.out | with_reducible exact P1.out | with_reducible exact P2.out | with_reducible exact P3.out | with_reducible exact P4.out)))); clear hK K; (try simp only [Act.put, List.setIfInBounds_toArray, List.set_cons_zero, List.set_cons_succ]))
        ((refine tree_step (fun K hK => ?_)); (first | (go_simp; (first | (go_at_call 30; refine HPt.out.mono ?_; rintro e w2 ⟨⟨n2, A2, s2, rfl, hm2, hD2, S2⟩, R2⟩; have HQ := Lib.hid (plays_put HP.out Hfo.out hm2 hD2 (by omega)); have P1 := Lib.hid (HopA.out _ _ (pl_keep S2)); have HDo := Lib.hid (does_calls Kc n2 op w2 _ (HFit.out n2 _ w2 A2 d s2 HQ.out.g (by omega) S2) S2); have Hroom := Lib.hid (HQ.out.room S2 HM.out (by omega)); have R2 := Lib.hid (Below.trans HR0.out R2); clear HPt hm2 hD2 S2 HR0 k0) | (go_at_call 19; refine HDo.out.mono ?_; rintro e w3 ⟨⟨en, m, rfl, hdo, S3⟩, R3⟩; have P2 := Lib.hid (HopA.out _ _ (pl_keep S3)); have HAs := Lib.hid (plays_asked HQ.out Hroom.out HK.out Hfo.out Hok.out hdo S3 HTx.out (by omega)); have HG5 := Lib.hid (And.intro (does_good HQ.out.g HK.out Hfo.out hdo) (does_hist (fun ks hk => (keysT_le HQ.out.g.s hk).1) hdo)); have R3 := Lib.hid (Below.trans R2.out R3); clear HDo hdo S3 R2) | (go_at_call 31; refine HAs.out.mono ?_; rintro e w4 ⟨⟨A3, d3, s3, rfl, hab3, hD3, S4⟩, R4⟩; have P3 := Lib.hid (HopA.out _ _ (pl_keep S4)); have HQ3 := Lib.hid (plays_done HQ.out HG5.out hab3 hD3); obtain ⟨k0, k1, -⟩ := plays_cells HQ3.out S4; have HSm := Lib.hid (plays_same HQ3.out HFw.out S4 (by omega)); have R4 := Lib.hid (Below.trans R3.out R4); clear HAs hab3 hD3 S4 R3 HG5 HQ) | (go_at_call 32; refine HSm.out.mono ?_; rintro e w5 ⟨⟨rfl, S5⟩, R5⟩; have P4 := Lib.hid (HopA.out _ _ (pl_keep S5)); clear k0 k1; obtain ⟨k0, k1, -⟩ := plays_cells HQ3.out S5; have HMk := Lib.hid (sMarks _ m w5 _ S5); have S5 := Lib.hid S5; have R5 := Lib.hid (Below.trans R4.out R5); clear HSm R4) | (go_at_call 26; refine HMk.out.mono ?_; rintro e w6 ⟨rfl, rfl⟩)); (try go_wp2_with fail)) | go_simp); (refine hK.out _ _ ?_ (fun hHeld => ?_)); (focus ((try dsimp only); (first | done | (first | with_reducible exact P0.out | with_reducible exact P1.out | with_reducible exact P2.out | with_reducible exact P3.out | with_reducible exact P4.out)))); clear hK K; (try simp only [Act.put, List.setIfInBounds_toArray, List.set_cons_zero, List.set_cons_succ]))
        ((first | ((refine tree_yes (v := ?_) (by rfl) ?_ ?_); rotate_left; (focus (intro w hSw; (try dsimp only at hSw); go_simp; try (with_reducible rfl)))) | (refine tree_no (by rfl) ?_)); (try simp only [Act.put, List.setIfInBounds_toArray, List.set_cons_zero, List.set_cons_succ]))
        ((first | ((refine tree_yes (v := ?_) (by rfl) ?_ ?_); rotate_left; (focus (intro w hSw; (try dsimp only at hSw); go_simp; try (with_reducible rfl)))) | (refine tree_no (by rfl) ?_)); (try simp only [Act.put, List.setIfInBounds_toArray, List.set_cons_zero, List.set_cons_succ]))
        ((first | ((refine tree_yes (v := ?_) (by rfl) ?_ ?_); rotate_left; (focus (intro w hSw; (try dsimp only at hSw); go_simp; try (with_reducible rfl)))) | (refine tree_no (by rfl) ?_)); (try simp only [Act.put, List.setIfInBounds_toArray, List.set_cons_zero, List.set_cons_succ]))
        ((first | ((refine tree_yes (v := ?_) (by rfl) ?_ ?_); rotate_left; (focus (intro w hSw; (try dsimp only at hSw); go_simp; try (with_reducible rfl)))) | (refine tree_no (by rfl) ?_)); (try simp only [Act.put, List.setIfInBounds_toArray, List.set_cons_zero, List.set_cons_succ]))
        ((first | ((refine tree_yes (v := ?_) (by rfl) ?_ ?_); rotate_left; (focus (intro w hSw; (try dsimp only at hSw); go_simp; try (with_reducible rfl)))) | (refine tree_no (by rfl) ?_)); (try simp only [Act.put, List.setIfInBounds_toArray, List.set_cons_zero, List.set_cons_succ]))
        ((first | ((refine tree_yes (v := ?_) (by rfl) ?_ ?_); rotate_left; (focus (intro w hSw; (try dsimp only at hSw); go_simp; try (with_reducible rfl)))) | (refine tree_no (by rfl) ?_)); (try simp only [Act.put, List.setIfInBounds_toArray, List.set_cons_zero, List.set_cons_succ]))
        ((first | ((refine tree_yes (v := ?_) (by rfl) ?_ ?_); rotate_left; (focus (intro w hSw; (try dsimp only at hSw); go_simp; try (with_reducible rfl)))) | (refine tree_no (by rfl) ?_)); (try simp only [Act.put, List.setIfInBounds_toArray, List.set_cons_zero, List.set_cons_succ]))
        ((first | ((refine tree_yes (v := ?_) (by rfl) ?_ ?_); rotate_left; (focus (intro w hSw; (try dsimp only at hSw); go_simp; try (with_reducible rfl)))) | (refine tree_no (by rfl) ?_)); (try simp only [Act.put, List.setIfInBounds_toArray, List.set_cons_zero, List.set_cons_succ]))
        ((first | ((refine tree_yes (v := ?_) (by rfl) ?_ ?_); rotate_left; (focus (intro w hSw; (try dsimp only at hSw); go_simp; try (with_reducible rfl)))) | (refine tree_no (by rfl) ?_)); (try simp only [Act.put, List.setIfInBounds_toArray, List.set_cons_zero, List.set_cons_succ]))
        ((first | ((refine tree_yes (v := ?_) (by rfl) ?_ ?_); rotate_left; (focus (intro w hSw; (try dsimp only at hSw); go_simp; try (with_reducible rfl)))) | (refine tree_no (by rfl) ?_)); (try simp only [Act.put, List.setIfInBounds_toArray, List.set_cons_zero, List.set_cons_succ]))
        ((first | ((refine tree_yes (v := ?_) (by rfl) ?_ ?_); rotate_left; (focus (intro w hSw; (try dsimp only at hSw); go_simp; try (with_reducible rfl)))) | (refine tree_no (by rfl) ?_)); (try simp only [Act.put, List.setIfInBounds_toArray, List.set_cons_zero, List.set_cons_succ]))
        ((first | ((refine tree_yes (v := ?_) (by rfl) ?_ ?_); rotate_left; (focus (intro w hSw; (try dsimp only at hSw); go_simp; try (with_reducible rfl)))) | (refine tree_no (by rfl) ?_)); (try simp only [Act.put, List.setIfInBounds_toArray, List.set_cons_zero, List.set_cons_succ]))
        ((first | ((refine tree_yes (v := ?_) (by rfl) ?_ ?_); rotate_left; (focus (intro w hSw; (try dsimp only at hSw); go_simp; try (with_reducible rfl)))) | (refine tree_no (by rfl) ?_)); (try simp only [Act.put, List.setIfInBounds_toArray, List.set_cons_zero, List.set_cons_succ]))
        ((refine tree_step (fun K hK => ?_)); (first | (go_simp; (first | (go_at_call 30; refine HPt.out.mono ?_; rintro e w2 ⟨⟨n2, A2, s2, rfl, hm2, hD2, S2⟩, R2⟩; have HQ := Lib.hid (plays_put HP.out Hfo.out hm2 hD2 (by omega)); have P1 := Lib.hid (HopA.out _ _ (pl_keep S2)); have HDo := Lib.hid (does_calls Kc n2 op w2 _ (HFit.out n2 _ w2 A2 d s2 HQ.out.g (by omega) S2) S2); have Hroom := Lib.hid (HQ.out.room S2 HM.out (by omega)); have R2 := Lib.hid (Below.trans HR0.out R2); clear HPt hm2 hD2 S2 HR0 k0) | (go_at_call 19; refine HDo.out.mono ?_; rintro e w3 ⟨⟨en, m, rfl, hdo, S3⟩, R3⟩; have P2 := Lib.hid (HopA.out _ _ (pl_keep S3)); have HAs := Lib.hid (plays_asked HQ.out Hroom.out HK.out Hfo.out Hok.out hdo S3 HTx.out (by omega)); have HG5 := Lib.hid (And.intro (does_good HQ.out.g HK.out Hfo.out hdo) (does_hist (fun ks hk => (keysT_le HQ.out.g.s hk).1) hdo)); have R3 := Lib.hid (Below.trans R2.out R3); clear HDo hdo S3 R2) | (go_at_call 31; refine HAs.out.mono ?_; rintro e w4 ⟨⟨A3, d3, s3, rfl, hab3, hD3, S4⟩, R4⟩; have P3 := Lib.hid (HopA.out _ _ (pl_keep S4)); have HQ3 := Lib.hid (plays_done HQ.out HG5.out hab3 hD3); obtain ⟨k0, k1, -⟩ := plays_cells HQ3.out S4; have HSm := Lib.hid (plays_same HQ3.out HFw.out S4 (by omega)); have R4 := Lib.hid (Below.trans R3.out R4); clear HAs hab3 hD3 S4 R3 HG5 HQ) | (go_at_call 32; refine HSm.out.mono ?_; rintro e w5 ⟨⟨rfl, S5⟩, R5⟩; have P4 := Lib.hid (HopA.out _ _ (pl_keep S5)); clear k0 k1; obtain ⟨k0, k1, -⟩ := plays_cells HQ3.out S5; have HMk := Lib.hid (sMarks _ m w5 _ S5); have S5 := Lib.hid S5; have R5 := Lib.hid (Below.trans R4.out R5); clear HSm R4) | (go_at_call 26; refine HMk.out.mono ?_; rintro e w6 ⟨rfl, rfl⟩)); (try go_wp2_with fail)) | go_simp); (refine hK.out _ _ ?_ (fun hHeld => ?_)); (focus ((try dsimp only); (first | done | (first | with_reducible exact P0.out | with_reducible exact P1.out | with_reducible exact P2.out | with_reducible exact P3.out | with_reducible exact P4.out)))); clear hK K; (try simp only [Act.put, List.setIfInBounds_toArray, List.set_cons_zero, List.set_cons_succ]))
        ((refine tree_step (fun K hK => ?_)); (first | (go_simp; (first | (go_at_call 30; refine HPt.out.mono ?_; rintro e w2 ⟨⟨n2, A2, s2, rfl, hm2, hD2, S2⟩, R2⟩; have HQ := Lib.hid (plays_put HP.out Hfo.out hm2 hD2 (by omega)); have P1 := Lib.hid (HopA.out _ _ (pl_keep S2)); have HDo := Lib.hid (does_calls Kc n2 op w2 _ (HFit.out n2 _ w2 A2 d s2 HQ.out.g (by omega) S2) S2); have Hroom := Lib.hid (HQ.out.room S2 HM.out (by omega)); have R2 := Lib.hid (Below.trans HR0.out R2); clear HPt hm2 hD2 S2 HR0 k0) | (go_at_call 19; refine HDo.out.mono ?_; rintro e w3 ⟨⟨en, m, rfl, hdo, S3⟩, R3⟩; have P2 := Lib.hid (HopA.out _ _ (pl_keep S3)); have HAs := Lib.hid (plays_asked HQ.out Hroom.out HK.out Hfo.out Hok.out hdo S3 HTx.out (by omega)); have HG5 := Lib.hid (And.intro (does_good HQ.out.g HK.out Hfo.out hdo) (does_hist (fun ks hk => (keysT_le HQ.out.g.s hk).1) hdo)); have R3 := Lib.hid (Below.trans R2.out R3); clear HDo hdo S3 R2) | (go_at_call 31; refine HAs.out.mono ?_; rintro e w4 ⟨⟨A3, d3, s3, rfl, hab3, hD3, S4⟩, R4⟩; have P3 := Lib.hid (HopA.out _ _ (pl_keep S4)); have HQ3 := Lib.hid (plays_done HQ.out HG5.out hab3 hD3); obtain ⟨k0, k1, -⟩ := plays_cells HQ3.out S4; have HSm := Lib.hid (plays_same HQ3.out HFw.out S4 (by omega)); have R4 := Lib.hid (Below.trans R3.out R4); clear HAs hab3 hD3 S4 R3 HG5 HQ) | (go_at_call 32; refine HSm.out.mono ?_; rintro e w5 ⟨⟨rfl, S5⟩, R5⟩; have P4 := Lib.hid (HopA.out _ _ (pl_keep S5)); clear k0 k1; obtain ⟨k0, k1, -⟩ := plays_cells HQ3.out S5; have HMk := Lib.hid (sMarks _ m w5 _ S5); have S5 := Lib.hid S5; have R5 := Lib.hid (Below.trans R4.out R5); clear HSm R4) | (go_at_call 26; refine HMk.out.mono ?_; rintro e w6 ⟨rfl, rfl⟩)); (try go_wp2_with fail)) | go_simp); (refine hK.out _ _ ?_ (fun hHeld => ?_)); (focus ((try dsimp only); (first | done | (first | with_reducible exact P0.out | with_reducible exact P1.out | with_reducible exact P2.out | with_reducible exact P3.out | with_reducible exact P4.out)))); clear hK K; (try simp only [Act.put, List.setIfInBounds_toArray, List.set_cons_zero, List.set_cons_succ]))
        ((first | ((refine tree_yes (v := ?_) (by rfl) ?_ ?_); rotate_left; (focus (intro w hSw; (try dsimp only at hSw); go_simp; try (with_reducible rfl)))) | (refine tree_no (by rfl) ?_)); (try simp only [Act.put, List.setIfInBounds_toArray, List.set_cons_zero, List.set_cons_succ]))
        ((first | ((refine tree_yes (v := ?_) (by rfl) ?_ ?_); rotate_left; (focus (intro w hSw; (try dsimp only at hSw); go_simp; try (with_reducible rfl)))) | (refine tree_no (by rfl) ?_)); (try simp only [Act.put, List.setIfInBounds_toArray, List.set_cons_zero, List.set_cons_succ]))
        ((first | ((refine tree_yes (v := ?_) (by rfl) ?_ ?_); rotate_left; (focus (intro w hSw; (try dsimp only at hSw); go_simp; try (with_reducible rfl)))) | (refine tree_no (by rfl) ?_)); (try simp only [Act.put, List.setIfInBounds_toArray, List.set_cons_zero, List.set_cons_succ]))
        ((first | ((refine tree_yes (v := ?_) (by rfl) ?_ ?_); rotate_left; (focus (intro w hSw; (try dsimp only at hSw); go_simp; try (with_reducible rfl)))) | (refine tree_no (by rfl) ?_)); (try simp only [Act.put, List.setIfInBounds_toArray, List.set_cons_zero, List.set_cons_succ]))
        ((first | ((refine tree_yes (v := ?_) (by rfl) ?_ ?_); rotate_left; (focus (intro w hSw; (try dsimp only at hSw); go_simp; try (with_reducible rfl)))) | (refine tree_no (by rfl) ?_)); (try simp only [Act.put, List.setIfInBounds_toArray, List.set_cons_zero, List.set_cons_succ]))
        ((first | ((refine tree_yes (v := ?_) (by rfl) ?_ ?_); rotate_left; (focus (intro w hSw; (try dsimp only at hSw); go_simp; try (with_reducible rfl)))) | (refine tree_no (by rfl) ?_)); (try simp only [Act.put, List.setIfInBounds_toArray, List.set_cons_zero, List.set_cons_succ]))
        ((first | ((refine tree_yes (v := ?_) (by rfl) ?_ ?_); rotate_left; (focus (intro w hSw; (try dsimp only at hSw); go_simp; try (with_reducible rfl)))) | (refine tree_no (by rfl) ?_)); (try simp only [Act.put, List.setIfInBounds_toArray, List.set_cons_zero, List.set_cons_succ]))
        ((first | ((refine tree_yes (v := ?_) (by rfl) ?_ ?_); rotate_left; (focus (intro w hSw; (try dsimp only at hSw); go_simp; try (with_reducible rfl)))) | (refine tree_no (by rfl) ?_)); (try simp only [Act.put, List.setIfInBounds_toArray, List.set_cons_zero, List.set_cons_succ]))
        ((refine tree_step (fun K hK => ?_)); (first | (go_simp; (first | (go_at_call 30; refine HPt.out.mono ?_; rintro e w2 ⟨⟨n2, A2, s2, rfl, hm2, hD2, S2⟩, R2⟩; have HQ := Lib.hid (plays_put HP.out Hfo.out hm2 hD2 (by omega)); have P1 := Lib.hid (HopA.out _ _ (pl_keep S2)); have HDo := Lib.hid (does_calls Kc n2 op w2 _ (HFit.out n2 _ w2 A2 d s2 HQ.out.g (by omega) S2) S2); have Hroom := Lib.hid (HQ.out.room S2 HM.out (by omega)); have R2 := Lib.hid (Below.trans HR0.out R2); clear HPt hm2 hD2 S2 HR0 k0) | (go_at_call 19; refine HDo.out.mono ?_; rintro e w3 ⟨⟨en, m, rfl, hdo, S3⟩, R3⟩; have P2 := Lib.hid (HopA.out _ _ (pl_keep S3)); have HAs := Lib.hid (plays_asked HQ.out Hroom.out HK.out Hfo.out Hok.out hdo S3 HTx.out (by omega)); have HG5 := Lib.hid (And.intro (does_good HQ.out.g HK.out Hfo.out hdo) (does_hist (fun ks hk => (keysT_le HQ.out.g.s hk).1) hdo)); have R3 := Lib.hid (Below.trans R2.out R3); clear HDo hdo S3 R2) | (go_at_call 31; refine HAs.out.mono ?_; rintro e w4 ⟨⟨A3, d3, s3, rfl, hab3, hD3, S4⟩, R4⟩; have P3 := Lib.hid (HopA.out _ _ (pl_keep S4)); have HQ3 := Lib.hid (plays_done HQ.out HG5.out hab3 hD3); obtain ⟨k0, k1, -⟩ := plays_cells HQ3.out S4; have HSm := Lib.hid (plays_same HQ3.out HFw.out S4 (by omega)); have R4 := Lib.hid (Below.trans R3.out R4); clear HAs hab3 hD3 S4 R3 HG5 HQ) | (go_at_call 32; refine HSm.out.mono ?_; rintro e w5 ⟨⟨rfl, S5⟩, R5⟩; have P4 := Lib.hid (HopA.out _ _ (pl_keep S5)); clear k0 k1; obtain ⟨k0, k1, -⟩ := plays_cells HQ3.out S5; have HMk := Lib.hid (sMarks _ m w5 _ S5); have S5 := Lib.hid S5; have R5 := Lib.hid (Below.trans R4.out R5); clear HSm R4) | (go_at_call 26; refine HMk.out.mono ?_; rintro e w6 ⟨rfl, rfl⟩)); (try go_wp2_with fail)) | go_simp); (refine hK.out _ _ ?_ (fun hHeld => ?_)); (focus ((try dsimp only); (first | done | (first | with_reducible exact P0.out | with_reducible exact P1.out | with_reducible exact P2.out | with_reducible exact P3.out | with_reducible exact P4.out)))); clear hK K; (try simp only [Act.put, List.setIfInBounds_toArray, List.set_cons_zero, List.set_cons_succ]))
        ((refine tree_step (fun K hK => ?_)); (first | (go_simp; (first | (go_at_call 30; refine HPt.out.mono ?_; rintro e w2 ⟨⟨n2, A2, s2, rfl, hm2, hD2, S2⟩, R2⟩; have HQ := Lib.hid (plays_put HP.out Hfo.out hm2 hD2 (by omega)); have P1 := Lib.hid (HopA.out _ _ (pl_keep S2)); have HDo := Lib.hid (does_calls Kc n2 op w2 _ (HFit.out n2 _ w2 A2 d s2 HQ.out.g (by omega) S2) S2); have Hroom := Lib.hid (HQ.out.room S2 HM.out (by omega)); have R2 := Lib.hid (Below.trans HR0.out R2); clear HPt hm2 hD2 S2 HR0 k0) | (go_at_call 19; refine HDo.out.mono ?_; rintro e w3 ⟨⟨en, m, rfl, hdo, S3⟩, R3⟩; have P2 := Lib.hid (HopA.out _ _ (pl_keep S3)); have HAs := Lib.hid (plays_asked HQ.out Hroom.out HK.out Hfo.out Hok.out hdo S3 HTx.out (by omega)); have HG5 := Lib.hid (And.intro (does_good HQ.out.g HK.out Hfo.out hdo) (does_hist (fun ks hk => (keysT_le HQ.out.g.s hk).1) hdo)); have R3 := Lib.hid (Below.trans R2.out R3); clear HDo hdo S3 R2) | (go_at_call 31; refine HAs.out.mono ?_; rintro e w4 ⟨⟨A3, d3, s3, rfl, hab3, hD3, S4⟩, R4⟩; have P3 := Lib.hid (HopA.out _ _ (pl_keep S4)); have HQ3 := Lib.hid (plays_done HQ.out HG5.out hab3 hD3); obtain ⟨k0, k1, -⟩ := plays_cells HQ3.out S4; have HSm := Lib.hid (plays_same HQ3.out HFw.out S4 (by omega)); have R4 := Lib.hid (Below.trans R3.out R4); clear HAs hab3 hD3 S4 R3 HG5 HQ) | (go_at_call 32; refine HSm.out.mono ?_; rintro e w5 ⟨⟨rfl, S5⟩, R5⟩; have P4 := Lib.hid (HopA.out _ _ (pl_keep S5)); clear k0 k1; obtain ⟨k0, k1, -⟩ := plays_cells HQ3.out S5; have HMk := Lib.hid (sMarks _ m w5 _ S5); have S5 := Lib.hid S5; have R5 := Lib.hid (Below.trans R4.out R5); clear HSm R4) | (go_at_call 26; refine HMk.out.mono ?_; rintro e w6 ⟨rfl, rfl⟩)); (try go_wp2_with fail)) | go_simp); (refine hK.out _ _ ?_ (fun hHeld => ?_)); (focus ((try dsimp only); (first | done | (first | with_reducible exact P0.out | with_reducible exact P1.out | with_reducible exact P2.out | with_reducible exact P3.out | with_reducible exact P4.out)))); clear hK K; (try simp only [Act.put, List.setIfInBounds_toArray, List.set_cons_zero, List.set_cons_succ]))
        ((first | ((refine tree_yes (v := ?_) (by rfl) ?_ ?_); rotate_left; (focus (intro w hSw; (try dsimp only at hSw); go_simp; try (with_reducible rfl)))) | (refine tree_no (by rfl) ?_)); (try simp only [Act.put, List.setIfInBounds_toArray, List.set_cons_zero, List.set_cons_succ]))
        ((first | ((refine tree_yes (v := ?_) (by rfl) ?_ ?_); rotate_left; (focus (intro w hSw; (try dsimp only at hSw); go_simp; try (with_reducible rfl)))) | (refine tree_no (by rfl) ?_)); (try simp only [Act.put, List.setIfInBounds_toArray, List.set_cons_zero, List.set_cons_succ]))
        ((first | ((refine tree_yes (v := ?_) (by rfl) ?_ ?_); rotate_left; (focus (intro w hSw; (try dsimp only at hSw); go_simp; try (with_reducible rfl)))) | (refine tree_no (by rfl) ?_)); (try simp only [Act.put, List.setIfInBounds_toArray, List.set_cons_zero, List.set_cons_succ]))
        ((first | ((refine tree_yes (v := ?_) (by rfl) ?_ ?_); rotate_left; (focus (intro w hSw; (try dsimp only at hSw); go_simp; try (with_reducible rfl)))) | (refine tree_no (by rfl) ?_)); (try simp only [Act.put, List.setIfInBounds_toArray, List.set_cons_zero, List.set_cons_succ]))
        ((first | ((refine tree_yes (v := ?_) (by rfl) ?_ ?_); rotate_left; (focus (intro w hSw; (try dsimp only at hSw); go_simp; try (with_reducible rfl)))) | (refine tree_no (by rfl) ?_)); (try simp only [Act.put, List.setIfInBounds_toArray, List.set_cons_zero, List.set_cons_succ]))
        ((first | ((refine tree_yes (v := ?_) (by rfl) ?_ ?_); rotate_left; (focus (intro w hSw; (try dsimp only at hSw); go_simp; try (with_reducible rfl)))) | (refine tree_no (by rfl) ?_)); (try simp only [Act.put, List.setIfInBounds_toArray, List.set_cons_zero, List.set_cons_succ]))
        ((first | ((refine tree_yes (v := ?_) (by rfl) ?_ ?_); rotate_left; (focus (intro w hSw; (try dsimp only at hSw); go_simp; try (with_reducible rfl)))) | (refine tree_no (by rfl) ?_)); (try simp only [Act.put, List.setIfInBounds_toArray, List.set_cons_zero, List.set_cons_succ]))
        refine tree_fork (fun K hK => ?_) (fun K hK => ?_)
        focus
          ((first | (go_simp; (first | (go_at_call 30; refine HPt.out.mono ?_; rintro e w2 ⟨⟨n2, A2, s2, rfl, hm2, hD2, S2⟩, R2⟩; have HQ := Lib.hid (plays_put HP.out Hfo.out hm2 hD2 (by omega)); have P1 := Lib.hid (HopA.out _ _ (pl_keep S2)); have HDo := Lib.hid (does_calls Kc n2 op w2 _ (HFit.out n2 _ w2 A2 d s2 HQ.out.g (by omega) S2) S2); have Hroom := Lib.hid (HQ.out.room S2 HM.out (by omega)); have R2 := Lib.hid (Below.trans HR0.out R2); clear HPt hm2 hD2 S2 HR0 k0) | (go_at_call 19; refine HDo.out.mono ?_; rintro e w3 ⟨⟨en, m, rfl, hdo, S3⟩, R3⟩; have P2 := Lib.hid (HopA.out _ _ (pl_keep S3)); have HAs := Lib.hid (plays_asked HQ.out Hroom.out HK.out Hfo.out Hok.out hdo S3 HTx.out (by omega)); have HG5 := Lib.hid (And.intro (does_good HQ.out.g HK.out Hfo.out hdo) (does_hist (fun ks hk => (keysT_le HQ.out.g.s hk).1) hdo)); have R3 := Lib.hid (Below.trans R2.out R3); clear HDo hdo S3 R2) | (go_at_call 31; refine HAs.out.mono ?_; rintro e w4 ⟨⟨A3, d3, s3, rfl, hab3, hD3, S4⟩, R4⟩; have P3 := Lib.hid (HopA.out _ _ (pl_keep S4)); have HQ3 := Lib.hid (plays_done HQ.out HG5.out hab3 hD3); obtain ⟨k0, k1, -⟩ := plays_cells HQ3.out S4; have HSm := Lib.hid (plays_same HQ3.out HFw.out S4 (by omega)); have R4 := Lib.hid (Below.trans R3.out R4); clear HAs hab3 hD3 S4 R3 HG5 HQ) | (go_at_call 32; refine HSm.out.mono ?_; rintro e w5 ⟨⟨rfl, S5⟩, R5⟩; have P4 := Lib.hid (HopA.out _ _ (pl_keep S5)); clear k0 k1; obtain ⟨k0, k1, -⟩ := plays_cells HQ3.out S5; have HMk := Lib.hid (sMarks _ m w5 _ S5); have S5 := Lib.hid S5; have R5 := Lib.hid (Below.trans R4.out R5); clear HSm R4) | (go_at_call 26; refine HMk.out.mono ?_; rintro e w6 ⟨rfl, rfl⟩)); (try go_wp2_with fail)) | go_simp); (refine hK.out _ _ ?_ (fun hHeld => ?_)); (focus ((try dsimp only); (first | done | (first | with_reducible exact P0.out | with_reducible exact P1.out | with_reducible exact P2.out | with_reducible exact P3.out | with_reducible exact P4.out)))); clear hK K; (try simp only [Act.put, List.setIfInBounds_toArray, List.set_cons_zero, List.set_cons_succ]))
          ((refine tree_step (fun K hK => ?_)); (first | (go_simp; (first | (go_at_call 30; refine HPt.out.mono ?_; rintro e w2 ⟨⟨n2, A2, s2, rfl, hm2, hD2, S2⟩, R2⟩; have HQ := Lib.hid (plays_put HP.out Hfo.out hm2 hD2 (by omega)); have P1 := Lib.hid (HopA.out _ _ (pl_keep S2)); have HDo := Lib.hid (does_calls Kc n2 op w2 _ (HFit.out n2 _ w2 A2 d s2 HQ.out.g (by omega) S2) S2); have Hroom := Lib.hid (HQ.out.room S2 HM.out (by omega)); have R2 := Lib.hid (Below.trans HR0.out R2); clear HPt hm2 hD2 S2 HR0 k0) | (go_at_call 19; refine HDo.out.mono ?_; rintro e w3 ⟨⟨en, m, rfl, hdo, S3⟩, R3⟩; have P2 := Lib.hid (HopA.out _ _ (pl_keep S3)); have HAs := Lib.hid (plays_asked HQ.out Hroom.out HK.out Hfo.out Hok.out hdo S3 HTx.out (by omega)); have HG5 := Lib.hid (And.intro (does_good HQ.out.g HK.out Hfo.out hdo) (does_hist (fun ks hk => (keysT_le HQ.out.g.s hk).1) hdo)); have R3 := Lib.hid (Below.trans R2.out R3); clear HDo hdo S3 R2) | (go_at_call 31; refine HAs.out.mono ?_; rintro e w4 ⟨⟨A3, d3, s3, rfl, hab3, hD3, S4⟩, R4⟩; have P3 := Lib.hid (HopA.out _ _ (pl_keep S4)); have HQ3 := Lib.hid (plays_done HQ.out HG5.out hab3 hD3); obtain ⟨k0, k1, -⟩ := plays_cells HQ3.out S4; have HSm := Lib.hid (plays_same HQ3.out HFw.out S4 (by omega)); have R4 := Lib.hid (Below.trans R3.out R4); clear HAs hab3 hD3 S4 R3 HG5 HQ) | (go_at_call 32; refine HSm.out.mono ?_; rintro e w5 ⟨⟨rfl, S5⟩, R5⟩; have P4 := Lib.hid (HopA.out _ _ (pl_keep S5)); clear k0 k1; obtain ⟨k0, k1, -⟩ := plays_cells HQ3.out S5; have HMk := Lib.hid (sMarks _ m w5 _ S5); have S5 := Lib.hid S5; have R5 := Lib.hid (Below.trans R4.out R5); clear HSm R4) | (go_at_call 26; refine HMk.out.mono ?_; rintro e w6 ⟨rfl, rfl⟩)); (try go_wp2_with fail)) | go_simp); (refine hK.out _ _ ?_ (fun hHeld => ?_)); (focus ((try dsimp only); (first | done | (first | with_reducible exact P0.out | with_reducible exact P1.out | with_reducible exact P2.out | with_reducible exact P3.out | with_reducible exact P4.out)))); clear hK K; (try simp only [Act.put, List.setIfInBounds_toArray, List.set_cons_zero, List.set_cons_succ]))
          ((first | ((refine tree_yes (v := ?_) (by rfl) ?_ ?_); rotate_left; (focus (intro w hSw; (try dsimp only at hSw); go_simp; try (with_reducible rfl)))) | (refine tree_no (by rfl) ?_)); (try simp only [Act.put, List.setIfInBounds_toArray, List.set_cons_zero, List.set_cons_succ]))
          ((first | ((refine tree_yes (v := ?_) (by rfl) ?_ ?_); rotate_left; (focus (intro w hSw; (try dsimp only at hSw); go_simp; try (with_reducible rfl)))) | (refine tree_no (by rfl) ?_)); (try simp only [Act.put, List.setIfInBounds_toArray, List.set_cons_zero, List.set_cons_succ]))
          ((first | ((refine tree_yes (v := ?_) (by rfl) ?_ ?_); rotate_left; (focus (intro w hSw; (try dsimp only at hSw); go_simp; try (with_reducible rfl)))) | (refine tree_no (by rfl) ?_)); (try simp only [Act.put, List.setIfInBounds_toArray, List.set_cons_zero, List.set_cons_succ]))
          refine tree_done ?_
        rotate_left 1
        focus
          ((first | (go_simp; (first | (go_at_call 30; refine HPt.out.mono ?_; rintro e w2 ⟨⟨n2, A2, s2, rfl, hm2, hD2, S2⟩, R2⟩; have HQ := Lib.hid (plays_put HP.out Hfo.out hm2 hD2 (by omega)); have P1 := Lib.hid (HopA.out _ _ (pl_keep S2)); have HDo := Lib.hid (does_calls Kc n2 op w2 _ (HFit.out n2 _ w2 A2 d s2 HQ.out.g (by omega) S2) S2); have Hroom := Lib.hid (HQ.out.room S2 HM.out (by omega)); have R2 := Lib.hid (Below.trans HR0.out R2); clear HPt hm2 hD2 S2 HR0 k0) | (go_at_call 19; refine HDo.out.mono ?_; rintro e w3 ⟨⟨en, m, rfl, hdo, S3⟩, R3⟩; have P2 := Lib.hid (HopA.out _ _ (pl_keep S3)); have HAs := Lib.hid (plays_asked HQ.out Hroom.out HK.out Hfo.out Hok.out hdo S3 HTx.out (by omega)); have HG5 := Lib.hid (And.intro (does_good HQ.out.g HK.out Hfo.out hdo) (does_hist (fun ks hk => (keysT_le HQ.out.g.s hk).1) hdo)); have R3 := Lib.hid (Below.trans R2.out R3); clear HDo hdo S3 R2) | (go_at_call 31; refine HAs.out.mono ?_; rintro e w4 ⟨⟨A3, d3, s3, rfl, hab3, hD3, S4⟩, R4⟩; have P3 := Lib.hid (HopA.out _ _ (pl_keep S4)); have HQ3 := Lib.hid (plays_done HQ.out HG5.out hab3 hD3); obtain ⟨k0, k1, -⟩ := plays_cells HQ3.out S4; have HSm := Lib.hid (plays_same HQ3.out HFw.out S4 (by omega)); have R4 := Lib.hid (Below.trans R3.out R4); clear HAs hab3 hD3 S4 R3 HG5 HQ) | (go_at_call 32; refine HSm.out.mono ?_; rintro e w5 ⟨⟨rfl, S5⟩, R5⟩; have P4 := Lib.hid (HopA.out _ _ (pl_keep S5)); clear k0 k1; obtain ⟨k0, k1, -⟩ := plays_cells HQ3.out S5; have HMk := Lib.hid (sMarks _ m w5 _ S5); have S5 := Lib.hid S5; have R5 := Lib.hid (Below.trans R4.out R5); clear HSm R4) | (go_at_call 26; refine HMk.out.mono ?_; rintro e w6 ⟨rfl, rfl⟩)); (try go_wp2_with fail)) | go_simp); (refine hK.out _ _ ?_ (fun hHeld => ?_)); (focus ((try dsimp only); (first | done | (first | with_reducible exact P0.out | with_reducible exact P1.out | with_reducible exact P2.out | with_reducible exact P3.out | with_reducible exact P4.out)))); clear hK K; (try simp only [Act.put, List.setIfInBounds_toArray, List.set_cons_zero, List.set_cons_succ]))
          ((first | ((refine tree_yes (v := ?_) (by rfl) ?_ ?_); rotate_left; (focus (intro w hSw; (try dsimp only at hSw); go_simp; try (with_reducible rfl)))) | (refine tree_no (by rfl) ?_)); (try simp only [Act.put, List.setIfInBounds_toArray, List.set_cons_zero, List.set_cons_succ]))
          ((refine tree_step (fun K hK => ?_)); (first | (go_simp; (first | (go_at_call 30; refine HPt.out.mono ?_; rintro e w2 ⟨⟨n2, A2, s2, rfl, hm2, hD2, S2⟩, R2⟩; have HQ := Lib.hid (plays_put HP.out Hfo.out hm2 hD2 (by omega)); have P1 := Lib.hid (HopA.out _ _ (pl_keep S2)); have HDo := Lib.hid (does_calls Kc n2 op w2 _ (HFit.out n2 _ w2 A2 d s2 HQ.out.g (by omega) S2) S2); have Hroom := Lib.hid (HQ.out.room S2 HM.out (by omega)); have R2 := Lib.hid (Below.trans HR0.out R2); clear HPt hm2 hD2 S2 HR0 k0) | (go_at_call 19; refine HDo.out.mono ?_; rintro e w3 ⟨⟨en, m, rfl, hdo, S3⟩, R3⟩; have P2 := Lib.hid (HopA.out _ _ (pl_keep S3)); have HAs := Lib.hid (plays_asked HQ.out Hroom.out HK.out Hfo.out Hok.out hdo S3 HTx.out (by omega)); have HG5 := Lib.hid (And.intro (does_good HQ.out.g HK.out Hfo.out hdo) (does_hist (fun ks hk => (keysT_le HQ.out.g.s hk).1) hdo)); have R3 := Lib.hid (Below.trans R2.out R3); clear HDo hdo S3 R2) | (go_at_call 31; refine HAs.out.mono ?_; rintro e w4 ⟨⟨A3, d3, s3, rfl, hab3, hD3, S4⟩, R4⟩; have P3 := Lib.hid (HopA.out _ _ (pl_keep S4)); have HQ3 := Lib.hid (plays_done HQ.out HG5.out hab3 hD3); obtain ⟨k0, k1, -⟩ := plays_cells HQ3.out S4; have HSm := Lib.hid (plays_same HQ3.out HFw.out S4 (by omega)); have R4 := Lib.hid (Below.trans R3.out R4); clear HAs hab3 hD3 S4 R3 HG5 HQ) | (go_at_call 32; refine HSm.out.mono ?_; rintro e w5 ⟨⟨rfl, S5⟩, R5⟩; have P4 := Lib.hid (HopA.out _ _ (pl_keep S5)); clear k0 k1; obtain ⟨k0, k1, -⟩ := plays_cells HQ3.out S5; have HMk := Lib.hid (sMarks _ m w5 _ S5); have S5 := Lib.hid S5; have R5 := Lib.hid (Below.trans R4.out R5); clear HSm R4) | (go_at_call 26; refine HMk.out.mono ?_; rintro e w6 ⟨rfl, rfl⟩)); (try go_wp2_with fail)) | go_simp); (refine hK.out _ _ ?_ (fun hHeld => ?_)); (focus ((try dsimp only); (first | done | (first | with_reducible exact P0.out | with_reducible exact P1.out | with_reducible exact P2.out | with_reducible exact P3.out | with_reducible exact P4.out)))); clear hK K; (try simp only [Act.put, List.setIfInBounds_toArray, List.set_cons_zero, List.set_cons_succ]))
          ((first | ((refine tree_yes (v := ?_) (by rfl) ?_ ?_); rotate_left; (focus (intro w hSw; (try dsimp only at hSw); go_simp; try (with_reducible rfl)))) | (refine tree_no (by rfl) ?_)); (try simp only [Act.put, List.setIfInBounds_toArray, List.set_cons_zero, List.set_cons_succ]))
          ((first | ((refine tree_yes (v := ?_) (by rfl) ?_ ?_); rotate_left; (focus (intro w hSw; (try dsimp only at hSw); go_simp; try (with_reducible rfl)))) | (refine tree_no (by rfl) ?_)); (try simp only [Act.put, List.setIfInBounds_toArray, List.set_cons_zero, List.set_cons_succ]))
          refine tree_done ?_
        all_goals
          go_wp2_with fail
          go_roundg (gk - 1)
          case rel => exact ⟨i + 1, m, A3, d3, s3, by simp, by omega, HQ3.out, S5.out, R5.out⟩
          case measure => omega
      · have hge : i = l.length := by omega
        subst hge
        have S4 := Lib.hid HSi
        have R4 := Lib.hid HRi
        clear HSi HRi hP
        have hA := Lib.hid (HA.out wr (pl_keep S4.out).right)
        skip
        go_wp2_with fail
        refine hA.out.mono ?_
        rintro e w9 ⟨⟨rfl, h2⟩, h3⟩
        have h2 := Lib.hid h2
        have h3 := Lib.hid h3
        clear hA
        go_wp2_with fail
        go_ret
        exact ⟨rfl, fin_true R4.out h2.out h3.out⟩
theorem own : ownKnob Tryz.prog.godebug = none := by kernel_rfl
theorem laidOut : laidOutB Tryz.prog = true := by kernel_rfl

set_option maxRecDepth 100000 in
theorem lifted (os : Os) (started : os.Started) (H : Type) (enc : TypeId × Value → H) :
    ReturnsInHanded {} Tryz.checked os 7 .any (fun w args => (Rows.statePlaysSpec.pre enc Tryz.prog Tryz.f7 Rows.statePlaysRow.domain false w args ∧ laidMetH Tryz.prog Rows.statePlaysRow.laid w) ∧ sizedMet enc Tryz.prog Tryz.f7 (OpenSpec.ofChange Rows.statePlaysSpec) false w args) (Rows.statePlaysSpec.post enc Tryz.prog Tryz.f7 false true false false) := by
  refine handed_shaped (C := Tryz.checked) (X := fun w _ => laidMetH Tryz.prog Rows.statePlaysRow.laid w) (fun _ _ _ hh h => h.of_heap hh) own started (by kernel_rfl) Tryz.func7
    (ChangeSpec.witness_shaped (enc := enc) (C := Tryz.checked) (os := os) (X := fun w _ => laidMetH Tryz.prog Rows.statePlaysRow.laid w) false (World.laidAll Tryz.prog os Rows.statePlaysRow.laid) #[.slice none 0 0] 8 (World.laidAll_os _ _ _)
      (World.shaped_of_ZipB (by kernel_rfl) (by kernel_rfl)) (by kernel_rfl) (by kernel_rfl) (by kernel_rfl)
      (by rw [MakeChecks.laidMetH_plain _ _ _ (by kernel_rfl)]; exact laidMet_laidAll _ (by kernel_rfl) (by kernel_rfl))) ?_
  intro W base args ds gs before hval0 hW hcnd _ hL hsh
  have hval : ∀ (j : Nat) t v, Tryz.f7.params[j]? = some t → args[j]? = some v → Value.okWide Tryz.prog W .any base t v := hval0
  have hW' := hW
  obtain ⟨p, q, hA0, hV, rfl, hfz, hnd⟩ := hW
  have hA : DataW.TrodAll enc Tryz.prog W 0 (fun _ => true) true Tryz.f7.params.toList args.toList ds p := hA0
  rw [Tryz.params7] at hA hval
  obtain ⟨v0, vs0, d0, ds0, p0, q0, hargs, rfl, rfl, h0, r0⟩ := trodAll_cons hA
  obtain ⟨rfl, rfl, rfl⟩ := trodAll_nil r0
  obtain rfl : args = #[v0] := by cases args; simp_all
  obtain ⟨rfl, rfl⟩ := trodVars_none hV
  have k0 := h0
  have lt0 : ∀ x ∈ p0, x.block < W.heap.size := by obtain ⟨m, hm⟩ := k0; exact DataW.trod_lt m _ _ _ hm
  obtain ⟨ao0, l0, cap0, rfl, w0⟩ := ops_open (hval 0 33 v0 rfl rfl) h0
  clear hA0 hval0
  refine (walk ao0 cap0 l0 W w0 (glob_keep hsh)).mono fun e W' ⟨he, bel⟩ => ?_
  subst he
  exact ⟨_, rfl, _, _, _, [], _, [], hW', trodAll_mk1 (shut_bool Tryz.underlying4 _), (trodAll_cons_mk (Below.trod laidOut (by kernel_rfl) (of_decide_eq_true (by kernel_rfl)) k0 bel lt0) trodAll_mk0), rfl, bel.frame _, fun h => by cases h⟩

theorem over : Rows.statePlaysRow.holds Tryz.pinned (OpenSpec.ofChange Rows.statePlaysSpec) :=
  OpenClaim.holds_of_wide 7 Tryz.f7 rfl rfl rfl rfl rfl rfl rfl ⟨rfl, rfl, rfl, rfl, rfl⟩ rfl rfl rfl rfl rfl (by kernel_rfl) Tryz.func7 (by kernel_rfl)
    (of_decide_eq_true (by kernel_rfl)) (by unfold Func.isWrapper; first | (rw [if_pos (by decide +kernel)]; kernel_rfl) | (rw [if_neg (by decide +kernel)]; exact ⟨rfl, rfl⟩))
    (fun os started H enc _ => lifted os started H enc)

theorem proved : Rows.StatePlaysCardSaid :=
  Claim7.holds_tied_plain_at .later [] [.data, .pinned] true (true, "83f1ec9fe5598e44ca1373aaa29f11eda85e46993f0c38abd82652bee74b7ab8") false over (fun _ h => by cases h) (by kernel_rfl) (fun _ h => by cases h) statePlays_row_tie rfl ⟨rfl, rfl⟩ (by kernel_rfl) rfl
    (fun f fn hf hfn => by
      obtain rfl : f = 7 := Option.some.inj ((show Tryz.prog.funcNamed "whelk/whelklaw10.StatePlays" = some 7 by kernel_rfl).symm.trans hf) |>.symm
      obtain rfl : fn = Tryz.f7 := (Option.some.inj (Tryz.func7.symm.trans hfn)).symm
      exact ⟨by kernel_rfl, fun j t ht => by
        rw [Tryz.params7] at ht
        have hm : t ∈ [33] := by simpa using Array.mem_of_getElem? ht
        have hall : ([33].all fun u => !Tryz.prog.wantsStandIn u) = true := by kernel_rfl
        exact (show Tryz.prog.wantsStandIn t = false by simpa using List.all_eq_true.1 hall t hm)⟩)
    (by kernel_rfl)
#print axioms proved
end Go.Proofs.YtlmjidandjemjaaGreatDoor.statePlays

