/- HandlesPlays, part 21 of 31: the texts PrP PrQ PrR, joined by a program. -/
import Derived.Test.YteienbdbhnikbaaGreatDoorPw20
namespace Go.Proofs.YteienbdbhnikbaaGreatDoor.Pr
open Go.RowKit Go.Maps Go.Proofs.YteienbdbhnikbaaGreatDoor Go.Proofs.YteienbdbhnikbaaGreatDoor.Hp Go.Proofs.YteienbdbhnikbaaGreatDoor.Hd
set_option linter.unusedVariables false
attribute [local go_sem] Oper.semAt_some

/-- What a call leaves. -/
def Res (c : Pls) (M : Nat) (b : Int → Int) (most : Int) (p : Pc) (nl : List Nt) (ms : List Nat) (w : World) (R : Hp) (er : Int) (w' : World) : Prop :=
  ∃ p' nl' ms', PStep most p nl ms er p' nl' ms' ∧ Sat w' (PH c M b most p' nl' ms' * R) ∧ Ran w w' ∧ ms' = ms
theorem snoc_cases {α : Type} (l : List α) : l = [] ∨ ∃ l0 x, l = l0 ++ [x] := by
  rcases List.eq_nil_or_concat l with h | ⟨L, b, h⟩
  · exact .inl h
  · exact .inr ⟨L, b, by simpa using h⟩
section
variable {c : Pls} {N : Nat} {b : Int → Int} {most : Int} {p : Pc} {nl : List Nt} {ms : List Nat} {w : World} {R : Hp}
theorem res_same {M : Nat} (hm : N ≤ M) {er : Int} (he : er ≠ 43) {w' : World} (h : Sat w' (PH c N b most p nl ms * R)) (hR : Ran w w') : Res c M b most p nl ms w R er w' := ⟨p, nl, ms, .same er he, ph_more hm h, hR, rfl⟩
theorem res_fd (hl : Link c p) (ho : POk p nl) (hN : N ≤ 700000) (hb : Base b) (hm4 : ms.length ≤ 4) {i : Nat} (hi : i < 16) {n : Int} (h0 : 0 ≤ n) (h1 : n ≤ 1000000) (hn : 1 ≤ n → 1 ≤ fOf b p nl n) {W : World} (hR : Ran w W) (h : Sat W (PH c N b most p nl ms * R)) :
    Calls Tryz.prog 56 #[pp p.pb, slP p.pb i, .int .i64 n] W fun e w' => ∃ er, e = .returned (.int .i64 er) ∧ Res c (N + 3) b most p nl ms w R er w' := by
  refine (fd_set hl hN hb hi n hn hm4 (by have := ho.len; omega) (ho.vals i (by omega)).2.2 (php h)).mono ?_
  rintro e w' ⟨er, p', nl', rfl, hs, hS, hR'⟩
  exact ⟨er, rfl, p', nl', ms, .set i n er p' nl' (by omega) h0 h1 hs, ph_more (by omega) hS, Below.trans hR hR', rfl⟩
set_option maxRecDepth 100000 in
set_option maxHeartbeats 4000000 in
theorem p_Put (hl : Link c p) (ho : POk p nl) (hN : N ≤ 700000) (hb : Base b) (hm4 : ms.length ≤ 4) (fd id : Int) (hid : I64 id) (h : Sat w (PH c N b most p nl ms * R)) :
    Calls Tryz.prog 38 #[pp p.pb, .int .i64 fd, .int .i64 id] w fun e w' => ∃ er, e = .returned (.int .i64 er) ∧ Res c (N + 3) b most p nl ms w R er w' := by
  by_cases hr : 0 ≤ fd ∧ fd < 16
  · obtain ⟨i, rfl⟩ : ∃ i : Nat, fd = i := ⟨fd.toNat, by omega⟩
    have hi : i < 16 := by omega
    have HA := Lib.hid (at_calls p.pb i hi w)
    have HT := Lib.hid (l_Stat hN hid h)
    obtain ⟨-, a1, -⟩ := pc_heads (ph_pc h)
    rw [hl.tb] at a1
    have HS := Lib.hid (fun (W : World) (h0 : 0 ≤ id) (h1 : id ≤ 1000000) (hn : 1 ≤ fOf b p nl id) (hR : Ran w W) (hW : Sat W (PH c N b most p nl ms * R)) => res_fd hl ho hN hb hm4 hi h0 h1 (fun _ => hn) hR hW)
    have HI := Lib.hid (fun (hn : 1 ≤ fOf b p nl id) => ph_id hN h hn)
    clear h hr ho hb
    go_enter Tryz.func38, Tryz.ntmps38
    go_wp2_with fail
    refine HA.out.mono ?_
    rintro e w1 ⟨rfl, rfl⟩
    go_wp2_with fail
    refine HT.out.mono ?_
    rintro e w2 ⟨⟨k, a, d, m, er, rfl, her⟩, S2, R2⟩
    by_cases hz : er = 0
    · subst hz
      have hn := her.1 rfl
      have hid2 := HI.out hn
      have S2 := Lib.hid S2
      have R2 := Lib.hid R2
      have Hn := Lib.hid hn
      clear her hn
      go_wp2_with fail
      refine (HS.out _ (by omega) hid2.2 Hn.out (Ran.new R2.out _) (S2.out.old _)).mono ?_
      rintro e w3 ⟨er, rfl, hres⟩
      have hres := Lib.hid hres
      go_wp2_with fail
      go_ret
      exact ⟨er, rfl, hres.out⟩
    · have S2 := Lib.hid S2
      have R2 := Lib.hid R2
      clear her
      go_wp2_with fail
      go_ret
      exact ⟨1, rfl, res_same (by omega) (by decide) (S2.out.old _) (Ran.new R2.out _)⟩
  · have HA := Lib.hid (at_bad p.pb fd (by omega) w)
    have H0 := Lib.hid h
    clear h ho hr
    go_enter Tryz.func38, Tryz.ntmps38
    go_wp2_with fail
    refine HA.out.mono ?_
    rintro e w1 ⟨rfl, rfl⟩
    go_wp2_with fail
    go_ret
    exact ⟨18, rfl, res_same (by omega) (by decide) H0.out (Below.refl 0 _)⟩
set_option maxRecDepth 100000 in
set_option maxHeartbeats 4000000 in
theorem p_Dup (hl : Link c p) (ho : POk p nl) (hN : N ≤ 700000) (hb : Base b) (hm4 : ms.length ≤ 4) (fd from_ : Int) (h : Sat w (PH c N b most p nl ms * R)) :
    Calls Tryz.prog 39 #[pp p.pb, .int .i64 fd, .int .i64 from_] w fun e w' => ∃ er, e = .returned (.int .i64 er) ∧ Res c (N + 3) b most p nl ms w R er w' := by
  have h16 := hl.len
  have H0 := Lib.hid h
  by_cases hr : 0 ≤ fd ∧ fd < 16
  · obtain ⟨i, rfl⟩ : ∃ i : Nat, fd = i := ⟨fd.toNat, by omega⟩
    have hi : i < 16 := by omega
    have HA := Lib.hid (at_calls p.pb i hi w)
    by_cases hr2 : 0 ≤ from_ ∧ from_ < 16
    · obtain ⟨j, rfl⟩ : ∃ j : Nat, from_ = j := ⟨from_.toNat, by omega⟩
      have hj : j < 16 := by omega
      have hjl : j < p.fds.length := by omega
      have HO := open_calls p j hj h16 w _ (ph_pc h)
      have hv := ho.vals j (by omega)
      rw [sl_fd hj hjl] at hv
      have hf := f_has (nl := nl) hb hjl
      have k2 := (pc_fd (ph_pc h) j hjl).1
      obtain ⟨x, hx⟩ : ∃ x, x = p.fds[j].has := ⟨_, rfl⟩
      rw [← hx] at HO k2 hf hv
      have HS := Lib.hid (res_fd hl ho hN hb hm4 hi hv.1 hv.2.1 (fun h1 => (hf h1).1) (Below.refl 0 w) h)
      clear hf hv hx h ho hb
      by_cases hz : x = 0
      · subst hz
        rw [if_pos rfl] at HO
        have HO := Lib.hid HO
        go_enter Tryz.func39, Tryz.ntmps39
        go_wp2_with fail
        refine HA.out.mono ?_
        rintro e w1 ⟨rfl, rfl⟩
        go_wp2_with fail
        refine HO.out.mono ?_
        rintro e w1 ⟨rfl, rfl⟩
        go_wp2_with fail
        go_ret
        exact ⟨18, rfl, res_same (by omega) (by decide) H0.out (Below.refl 0 _)⟩
      · rw [if_neg hz] at HO
        have HO := Lib.hid HO
        by_cases hij : i = j
        · have hij' : i = j := by omega
          subst hij'
          clear hij
          go_enter Tryz.func39, Tryz.ntmps39
          go_wp2_with fail
          refine HA.out.mono ?_
          rintro e w1 ⟨rfl, rfl⟩
          go_wp2_with fail
          refine HO.out.mono ?_
          rintro e w1 ⟨rfl, rfl⟩
          go_wp2_with fail
          go_ret
          exact ⟨0, rfl, res_same (by omega) (by decide) H0.out (Below.refl 0 _)⟩
        · have hijb : ((i : Int) == (j : Int)) = false := by rw [beq_eq_false_iff_ne]; omega
          go_enter Tryz.func39, Tryz.ntmps39
          go_wp2_with fail
          refine HA.out.mono ?_
          rintro e w1 ⟨rfl, rfl⟩
          go_wp2_with fail
          refine HO.out.mono ?_
          rintro e w1 ⟨rfl, rfl⟩
          go_wp2_with fail
          refine HS.out.mono ?_
          rintro e w3 ⟨er, rfl, hres⟩
          have hres := Lib.hid hres
          go_wp2_with fail
          go_ret
          exact ⟨er, rfl, hres.out⟩
    · have HO := Lib.hid (open_bad p.pb from_ (by omega) w)
      clear h ho hr hr2
      go_enter Tryz.func39, Tryz.ntmps39
      go_wp2_with fail
      refine HA.out.mono ?_
      rintro e w1 ⟨rfl, rfl⟩
      go_wp2_with fail
      refine HO.out.mono ?_
      rintro e w1 ⟨rfl, rfl⟩
      go_wp2_with fail
      go_ret
      exact ⟨18, rfl, res_same (by omega) (by decide) H0.out (Below.refl 0 _)⟩
  · have HA := Lib.hid (at_bad p.pb fd (by omega) w)
    clear h ho hr
    go_enter Tryz.func39, Tryz.ntmps39
    go_wp2_with fail
    refine HA.out.mono ?_
    rintro e w1 ⟨rfl, rfl⟩
    go_wp2_with fail
    go_ret
    exact ⟨18, rfl, res_same (by omega) (by decide) H0.out (Below.refl 0 _)⟩
set_option maxRecDepth 100000 in
set_option maxHeartbeats 4000000 in
theorem p_Close (hl : Link c p) (ho : POk p nl) (hN : N ≤ 700000) (hb : Base b) (hm4 : ms.length ≤ 4) (fd : Int) (h : Sat w (PH c N b most p nl ms * R)) :
    Calls Tryz.prog 19 #[pp p.pb, .int .i64 fd] w fun e w' => ∃ er, e = .returned (.int .i64 er) ∧ Res c (N + 3) b most p nl ms w R er w' := by
  have h16 := hl.len
  have H0 := Lib.hid h
  by_cases hr : 0 ≤ fd ∧ fd < 16
  · obtain ⟨i, rfl⟩ : ∃ i : Nat, fd = i := ⟨fd.toNat, by omega⟩
    have hi : i < 16 := by omega
    have hil : i < p.fds.length := by omega
    have HA := Lib.hid (at_calls p.pb i hi w)
    have k2 := (pc_fd (ph_pc h) i hil).1
    obtain ⟨x, hx⟩ : ∃ x, x = p.fds[i].has := ⟨_, rfl⟩
    rw [← hx] at k2
    have HS := Lib.hid (res_fd hl ho hN hb hm4 hi (Int.le_refl 0) (by omega) (fun h1 => absurd h1 (by omega)) (Below.refl 0 w) h)
    clear hx h ho hb
    by_cases hz : x = 0
    · subst hz
      go_enter Tryz.func19, Tryz.ntmps19
      go_wp2_with fail
      refine HA.out.mono ?_
      rintro e w1 ⟨rfl, rfl⟩
      go_wp2_with fail
      go_ret
      exact ⟨0, rfl, res_same (by omega) (by decide) H0.out (Below.refl 0 _)⟩
    · have hzb : (x == 0) = false := by simpa using hz
      go_enter Tryz.func19, Tryz.ntmps19
      go_wp2_with fail
      refine HA.out.mono ?_
      rintro e w1 ⟨rfl, rfl⟩
      go_wp2_with fail
      refine HS.out.mono ?_
      rintro e w3 ⟨er, rfl, hres⟩
      have hres := Lib.hid hres
      go_wp2_with fail
      go_ret
      exact ⟨er, rfl, hres.out⟩
  · have HA := Lib.hid (at_bad p.pb fd (by omega) w)
    clear h ho hr
    go_enter Tryz.func19, Tryz.ntmps19
    go_wp2_with fail
    refine HA.out.mono ?_
    rintro e w1 ⟨rfl, rfl⟩
    go_wp2_with fail
    go_ret
    exact ⟨18, rfl, res_same (by omega) (by decide) H0.out (Below.refl 0 _)⟩
set_option maxRecDepth 100000 in
set_option maxHeartbeats 4000000 in
theorem p_SetMask (hl : Link c p) (ho : POk p nl) (hN : N ≤ 700000) (hm4 : ms.length ≤ 4) (n : Int) (h : Sat w (PH c N b most p nl ms * R)) :
    Calls Tryz.prog 42 #[pp p.pb, .int .i64 n] w fun e w' => ∃ er, e = .returned (.int .i64 er) ∧ Res c (N + 3) b most p nl ms w R er w' := by
  have H0 := Lib.hid h
  by_cases hr : 0 ≤ n ∧ n ≤ 511
  · obtain ⟨h1, h2⟩ := hr
    have HS := Lib.hid (mask_set hl hN n hm4 (by have := ho.len; omega) (ho.vals 17 (by omega)).2.2 (php h))
    have h3 : ¬ n < 0 := by omega
    have h4 : ¬ 511 < n := by omega
    clear h ho
    go_enter Tryz.func42, Tryz.ntmps42
    go_wp2_with fail
    refine HS.out.mono ?_
    rintro e w3 ⟨er, p', nl', rfl, hs, hS, hR⟩
    have hs := Lib.hid hs
    have hS := Lib.hid hS
    have hR := Lib.hid hR
    go_wp2_with fail
    go_ret
    exact ⟨er, rfl, p', nl', ms, .set 17 n er p' nl' (by omega) h1 (by omega) hs.out, ph_more (by omega) hS.out, hR.out, rfl⟩
  · by_cases h1 : n < 0
    · clear h ho hr
      go_enter Tryz.func42, Tryz.ntmps42
      go_wp2_with fail
      go_ret
      exact ⟨1, rfl, res_same (by omega) (by decide) H0.out (Below.refl 0 _)⟩
    · have h2 : 511 < n := by omega
      clear h ho hr
      go_enter Tryz.func42, Tryz.ntmps42
      go_wp2_with fail
      go_ret
      exact ⟨1, rfl, res_same (by omega) (by decide) H0.out (Below.refl 0 _)⟩
theorem p_Mark (ho : POk p nl) (hm4 : ms.length ≤ 4) (h : Sat w (PH c N b most p nl ms * R)) :
    Calls Tryz.prog 24 #[pp p.pb] w fun e w' => ∃ n er, e = .returned (.tuple #[.int .i64 n, .int .i64 er]) ∧ ((er = 42 ∧ ms.length = 4 ∧ Res c N b most p nl ms w R 42 w') ∨ (er = 0 ∧ ms.length < 4 ∧ Sat w' (PH c N b most p nl (ms ++ [nl.length]) * R) ∧ Ran w w')) := by
  refine p_mark_of _ h ((l_mark (by have := ho.len; omega) hm4 h).mono ?_)
  rintro e w' (⟨h4, rfl, hS, hR⟩ | ⟨h4, rfl, hS, hR⟩)
  · exact ⟨0, 42, rfl, 0, 42, rfl, .inl ⟨rfl, h4, res_same (Nat.le_refl _) (by decide) hS hR⟩⟩
  · exact ⟨_, 0, rfl, _, 0, rfl, .inr ⟨rfl, h4, hS, hR⟩⟩
theorem p_Undo (hl : Link c p) (ho : POk p nl) (hN : N + nl.length ≤ 600000) (hb : Base b) (hm4 : ms.length ≤ 4) (hmm : ∀ m ∈ ms, m ≤ nl.length) (h : Sat w (PH c N b most p nl ms * R)) :
    Calls Tryz.prog 18 #[pp p.pb] w fun e w' => ∃ er, e = .returned (.int .i64 er) ∧ (∃ p' nl' ms', PStep most p nl ms er p' nl' ms' ∧ Sat w' (PH c (N + nl.length) b most p' nl' ms' * R) ∧ Ran w w') ∧ (ms ≠ [] → er = 0 ∧ ∃ m ms0, ms = ms0 ++ [m] ∧ Sat w' (PH c (N + nl.length) b most (resto (nl.drop m) p) (nl.take m) ms0 * R) ∧ Ran w w') := by
  refine p_undo_of _ h ?_
  rcases snoc_cases ms with e | ⟨ms0, m, e⟩
  · subst e
    refine (l_undo_idle h).mono ?_
    rintro e w' ⟨rfl, hS, hR⟩
    exact ⟨1, rfl, 1, rfl, ⟨p, nl, [], .same 1 (by decide), ph_more (by omega) hS, hR⟩, fun h => absurd rfl h⟩
  · subst e
    refine (l_undo hl hN hb (fun x hx => (ho.nts x hx).1) (hmm m (by simp)) (by simp at hm4; omega) h).mono ?_
    rintro e w' ⟨rfl, hS, hR⟩
    exact ⟨0, rfl, 0, rfl, ⟨_, _, _, .undo m ms0 rfl, hS, hR⟩, fun _ => ⟨rfl, m, ms0, rfl, hS, hR⟩⟩
end
end Go.Proofs.YteienbdbhnikbaaGreatDoor.Pr

namespace Go.Proofs.YteienbdbhnikbaaGreatDoor.Pr
open Go.RowKit Go.Maps Go.Proofs.YteienbdbhnikbaaGreatDoor Go.Proofs.YteienbdbhnikbaaGreatDoor.Hp Go.Proofs.YteienbdbhnikbaaGreatDoor.Hd
set_option linter.unusedVariables false
attribute [local go_sem] Oper.semAt_some

/-- What stands beside tree and table. -/
def Bes (most : Int) (p : Pc) (nl : List Nt) (ms : List Nat) : Hp := LG p most nl ms * (notesHp p nl * pcHp p)
section
variable {c : Pls} {N : Nat} {b : Int → Int} {most : Int} {p : Pc} {nl : List Nt} {ms : List Nat} {w : World} {R : Hp} {s : Sg}
theorem ph_bes (h : Sat w (PH c N b most p nl ms * R)) : ∃ s, InvT N s ∧ (∀ k, rf s.L k = fOf b p nl k) ∧ (∀ k, xt s k = gOf p nl k) ∧ Sat w (SgHp c s * (Bes most p nl ms * R)) := ph_open h
theorem bes_pc (h : Sat w (SgHp c s * (Bes most p nl ms * R))) : Sat w (pcHp p * (SgHp c s * (LG p most nl ms * notesHp p nl * R))) := h.perm (by unfold Bes; ac_rfl)
theorem bes_cells (h16 : p.fds.length = 16) (h : Sat w (SgHp c s * (Bes most p nl ms * R))) : w.cell? ⟨p.pb, 0, none⟩ = some (pp p.fb) ∧ w.cell? ⟨p.pb, 67, none⟩ = some (.int .i64 p.dir.has) :=
  ⟨(pc_heads (bes_pc h)).1, (pc_tail (bes_pc h) h16).1⟩
theorem res_dir (hl : Link c p) (ho : POk p nl) (hN : N ≤ 600000) (hm4 : ms.length ≤ 4) (hI : InvT N s) (hf : ∀ k, rf s.L k = fOf b p nl k) (hg : ∀ k, xt s k = gOf p nl k) {n : Int} {x : Nd} (hx : Hd.find s.F.L n = some x) {W : World} (hR : Ran w W) (hW : Sat W (SgHp c s * (Bes most p nl ms * R))) :
    Calls Tryz.prog 56 #[pp p.pb, slD p.pb, .int .i64 n] W fun e w' => ∃ er, e = .returned (.int .i64 er) ∧ Res c (N + 3) b most p nl ms w R er w' := by
  have h1 : Sat W (PHP c N b most p nl ms (fun s' => ∃ x, Hd.find s'.F.L n = some x) * R) := ph_in hI hf hg (Exists.intro x hx) hW
  have h2 := hI.tree.rng n x hx
  refine (dir_set hl (by omega) n (fun s' hs' => hs') hm4 (by have := ho.len; omega) (ho.vals 16 (by omega)).2.2 h1).mono ?_
  rintro e w' ⟨er, p', nl', rfl, hs, hS, hR'⟩
  exact ⟨er, rfl, p', nl', ms, .set 16 n er p' nl' (by omega) (by omega) h2.2 hs, ph_more (by omega) hS, Below.trans hR hR', rfl⟩
theorem res_bes (hI : InvT N s) (hf : ∀ k, rf s.L k = fOf b p nl k) (hg : ∀ k, xt s k = gOf p nl k) {er : Int} (he : er ≠ 43) {W : World} (hR : Ran w W) (hW : Sat W (SgHp c s * (Bes most p nl ms * R))) : Res c (N + 3) b most p nl ms w R er W := by
  have h1 : Sat W (PHP c N b most p nl ms (fun _ => True) * R) := ph_in hI hf hg trivial hW
  exact res_same (by omega) he (show Sat W (PH c N b most p nl ms * R) from h1) hR
set_option maxRecDepth 100000 in
set_option maxHeartbeats 2000000 in
theorem p_Chdir (hl : Link c p) (ho : POk p nl) (hN : N ≤ 600000) (hm4 : ms.length ≤ 4) (path : ByteArray) (hp : path.size ≤ 1000) (hG : Glob R) (h : Sat w (PH c N b most p nl ms * R)) :
    Calls Tryz.prog 41 #[pp p.pb, .string path] w fun e w' => ∃ er, e = .returned (.int .i64 er) ∧ Res c (N + 3) b most p nl ms w R er w' := by
  obtain ⟨s, hI, hf, hg, hS⟩ := ph_bes h
  have hv := ho.vals 16 (by omega)
  have hv : 0 ≤ p.dir.has ∧ p.dir.has ≤ 1000000 ∧ 0 ≤ p.dir.mark := hv
  have HWk := m_Walk (d := p.dir.has) (by omega) hI (has_i64 ⟨hv.1, hv.2.1⟩) path (by omega) true hG.more hS.drew
  rw [← hl.fb] at HWk
  have HWk := Lib.hid HWk
  obtain ⟨k1, k2⟩ := bes_cells hl.len hS.drew
  have Hc := Lib.hid (fun (W : World) (hW : Sat W (SgHp c s * (Bes most p nl ms * R))) => bes_cells hl.len hW)
  have HF := Lib.hid (fun (n : Int) (x : Nd) (hx : Hd.find s.F.L n = some x) (W : World) (hW : Sat W (SgHp c s * (Bes most p nl ms * R))) => m_FStat (n := n) (by omega) hI hx hW)
  have hfb := hl.fb
  have HSet := Lib.hid (fun (n : Int) (x : Nd) (hx : Hd.find s.F.L n = some x) (W : World) (hR : Ran w W) (hW : Sat W (SgHp c s * (Bes most p nl ms * R))) => res_dir hl ho hN hm4 hI hf hg hx hR hW)
  have HSm := Lib.hid (fun (er : Int) (he : er ≠ 43) (W : World) (hR : Ran w W) (hW : Sat W (SgHp c s * (Bes most p nl ms * R))) => res_bes (b := b) hI hf hg he hR hW)
  obtain ⟨dh, hdh⟩ : ∃ x, x = p.dir.has := ⟨_, rfl⟩
  rw [← hdh] at HWk k2 Hc
  have Hfb := Lib.hid hfb
  clear h hS hI hf hg ho hl hv hdh hfb
  go_enter Tryz.func41, Tryz.ntmps41
  go_upto_region 3 with fail
  refine region_plan (S := (fun w' => w'.cell? ⟨p.pb, 0, none⟩ = some (pp p.fb) ∧ w'.cell? ⟨p.pb, 67, none⟩ = some (.int .i64 dh))) [(0, true), (1, true), (2, true), (3, true), (4, true), (5, true), (6, true), (7, true), (8, true), (9, true), (10, false), (11, true), (12, true), (13, true), (14, true), (15, true)] (by kernel_rfl) (by kernel_rfl) (by kernel_rfl) ?_ ?_
  · ((try dsimp only); (first | done | (first | exact ⟨k1, k2⟩ | exact K5)))
  simp only [planOps, List.map_cons, List.map_nil, List.getElem?_toArray, List.getElem?_cons_zero, List.getElem?_cons_succ]
  repeat (first
    | ((refine plan_yes (v := ?_) (by rfl) ?_ ?_); rotate_left; (focus (intro w hSw; (try dsimp only at hSw); go_simp; try (with_reducible rfl))); (try simp only [Act.put, List.setIfInBounds_toArray, List.set_cons_zero, List.set_cons_succ]))
    | ((refine plan_no (by rfl) ?_); (try simp only [Act.put, List.setIfInBounds_toArray, List.set_cons_zero, List.set_cons_succ]))
    | ((refine plan_step (fun K hK => ?_)); (first | (go_simp; ((go_at_call 28; refine HWk.out.mono ?_; rintro e w5 ⟨⟨n, er, rfl, her, hin⟩, S5, R5⟩; have K5 := Hc.out _ S5)); (try go_wp2_with fail)) | go_simp); (refine hK.out _ _ ?_ (fun hHeld => ?_)); (focus ((try dsimp only); (first | done | (first | exact ⟨k1, k2⟩ | exact K5)))); clear hK K; (try simp only [Act.put, List.setIfInBounds_toArray, List.set_cons_zero, List.set_cons_succ])))
  refine plan_done ?_
  have R5 := Lib.hid (Below.trans (Ran.drewN (Below.refl 0 w) 1) R5)
  by_cases hz : er = 0
  · subst hz
    obtain ⟨x, hx⟩ := hin rfl
    have hFs := HF.out n x hx _ S5
    rw [← Hfb.out] at hFs
    have HFs := Lib.hid hFs
    have Hx := Lib.hid hx
    obtain ⟨j1, j2⟩ := K5
    clear hin her S5 hFs hx HF
    go_wp2_with fail
    refine HFs.out.mono ?_
    rintro e w6 ⟨rfl, S6, R6⟩
    have S7 := S6.alloc (infoO x.kind (sizeN x) x.names x.holds)
    have R7 := Lib.hid (Ran.new (Below.trans R5.out R6) (infoO x.kind (sizeN x) x.names x.holds))
    obtain ⟨r0, r1, r2, r3⟩ := info_cells S7
    have S7 := Lib.hid S7.right
    clear S6 R6 R5
    by_cases hk : x.kind = 1
    · rw [hk] at r0 S7 R7
      rw [hk]
      have HS2 := Lib.hid (HSet.out n x Hx.out _ R7.out S7.out)
      go_wp2_with fail
      refine HS2.out.mono ?_
      rintro e w8 ⟨er, rfl, hres⟩
      have hres := Lib.hid hres
      go_wp2_with fail
      go_ret
      exact ⟨er, rfl, hres.out⟩
    · have hkb : (x.kind == 1) = false := by simpa using hk
      go_wp2_with fail
      go_ret
      exact ⟨12, rfl, HSm.out 12 (by decide) _ R7.out S7.out⟩
  · have S5 := Lib.hid S5
    have Her := Lib.hid her
    clear hin her HF HSet K5
    go_wp2_with fail
    go_ret
    exact ⟨er, rfl, HSm.out er (by have := Her.out; omega) _ R5.out S5.out⟩
end
end Go.Proofs.YteienbdbhnikbaaGreatDoor.Pr

namespace Go.Proofs.YteienbdbhnikbaaGreatDoor.Pr
open Go.RowKit Go.Maps Go.Proofs.YteienbdbhnikbaaGreatDoor Go.Proofs.YteienbdbhnikbaaGreatDoor.Hp Go.Proofs.YteienbdbhnikbaaGreatDoor.Hd
set_option linter.unusedVariables false
attribute [local go_sem] Oper.semAt_some

section
variable {c : Pls} {N : Nat} {b : Int → Int} {most : Int} {p : Pc} {nl : List Nt} {ms : List Nat} {w : World} {R : Hp} {s : Sg}
set_option maxRecDepth 100000 in
set_option maxHeartbeats 2000000 in
theorem p_file (hl : Link c p) (hv : 0 ≤ p.dir.has ∧ p.dir.has ≤ 1000000) (hN : N ≤ 600000) (path : ByteArray) (hp : path.size ≤ 1000) (kind : Int) (hI : InvT N s) (hG : Glob R) (hS : Sat w (SgHp c s * (Bes most p nl ms * R))) :
    Calls Tryz.prog 61 #[pp p.pb, .string path, .int .i64 kind] w fun e w' => ∃ n er s', e = .returned (.tuple #[.int .i64 n, .int .i64 er]) ∧ er ≤ 21 ∧ (er = 0 → ∃ y, Hd.find s'.F.L n = some y) ∧ InvT (N + 1) s' ∧ (∀ k, rf s'.L k = rf s.L k) ∧ (∀ k, xt s' k = xt s k) ∧ Sat w' (SgHp c s' * (Bes most p nl ms * R)) ∧ Ran w w' := by
  have HWk := m_Walk (d := p.dir.has) (by omega) hI (has_i64 hv) path (by omega) true hG.more hS.drew
  have HM0 := fun (W : World) (hW : Sat W (SgHp c s * (Bes most p nl ms * R))) => m_Make (d := p.dir.has) (by omega) hI (has_i64 hv) path (by omega) hG.more hW
  rw [← hl.fb] at HWk HM0
  obtain ⟨k1, k2⟩ := bes_cells hl.len hS.drew
  have h16 := hl.len
  have hc7 := fun (s : Sg) (W : World) (hW : Sat W (SgHp c s * (Bes most p nl ms * R))) => bes_cells h16 hW
  have hc := hc7 s
  have HF := Lib.hid (fun (n : Int) (x : Nd) (hx : Hd.find s.F.L n = some x) (W : World) (hW : Sat W (SgHp c s * (Bes most p nl ms * R))) => m_FStat (n := n) (by omega) hI hx hW)
  have Hfb := Lib.hid hl.fb
  obtain ⟨dh, hdh⟩ : ∃ x, x = p.dir.has := ⟨_, rfl⟩
  rw [← hdh] at HWk k2 hc HM0
  have hc7 : ∀ (s : Sg) (W : World), Sat W (SgHp c s * (Bes most p nl ms * R)) → W.cell? ⟨p.pb, 0, none⟩ = some (pp p.fb) ∧ W.cell? ⟨p.pb, 67, none⟩ = some (.int .i64 dh) := fun s W hW => by rw [hdh]; exact hc7 s W hW
  have HWk := Lib.hid HWk
  have HMk := Lib.hid HM0
  have Hc := Lib.hid hc
  have Hc7 := Lib.hid hc7
  have HI := Lib.hid hI
  clear hS hI hl hv hdh hc hc7 HM0 h16 hG
  by_cases hk1 : kind = 1
  · subst hk1
    go_enter Tryz.func61, Tryz.ntmps61
    go_upto_region 1 with fail
    refine region_plan (S := (fun w' => w'.cell? ⟨p.pb, 0, none⟩ = some (pp p.fb) ∧ w'.cell? ⟨p.pb, 67, none⟩ = some (.int .i64 dh))) [(0, true), (1, true), (2, true), (3, true), (4, true), (5, true), (6, true), (7, true), (8, true), (9, true), (10, false), (11, true), (12, true), (13, true), (14, true), (15, true)] (by kernel_rfl) (by kernel_rfl) (by kernel_rfl) ?_ ?_
    · ((try dsimp only); (first | done | (first | exact ⟨k1, k2⟩ | exact K5)))
    simp only [planOps, List.map_cons, List.map_nil, List.getElem?_toArray, List.getElem?_cons_zero, List.getElem?_cons_succ]
    repeat (first
      | ((refine plan_yes (v := ?_) (by rfl) ?_ ?_); rotate_left; (focus (intro w hSw; (try dsimp only at hSw); go_simp; try (with_reducible rfl))); (try simp only [Act.put, List.setIfInBounds_toArray, List.set_cons_zero, List.set_cons_succ]))
      | ((refine plan_no (by rfl) ?_); (try simp only [Act.put, List.setIfInBounds_toArray, List.set_cons_zero, List.set_cons_succ]))
      | ((refine plan_step (fun K hK => ?_)); (first | (go_simp; ((go_at_call 28; refine HWk.out.mono ?_; rintro e w5 ⟨⟨n, er, rfl, her, hin⟩, S5, R5⟩; have K5 := Hc.out _ S5)); (try go_wp2_with fail)) | go_simp); (refine hK.out _ _ ?_ (fun hHeld => ?_)); (focus ((try dsimp only); (first | done | (first | exact ⟨k1, k2⟩ | exact K5)))); clear hK K; (try simp only [Act.put, List.setIfInBounds_toArray, List.set_cons_zero, List.set_cons_succ])))
    refine plan_done ?_
    have R5 := Lib.hid (Below.trans (Ran.drewN (Below.refl 0 w) 1) R5)
    by_cases hz : er = 0
    · subst hz
      clear her
      obtain ⟨x, hx⟩ := hin rfl
      have hFs := HF.out n x hx _ S5
      have hCt := fun (h1 : x.kind ≠ 1) (W : World) (hW : Sat W (SgHp c s * (Bes most p nl ms * R))) => m_Cut (k := n) (by omega) HI.out hx h1 hW
      rw [← Hfb.out] at hFs hCt
      have HFs := Lib.hid hFs
      have HCt := Lib.hid hCt
      have Hx := Lib.hid hx
      obtain ⟨j1, j2⟩ := K5
      clear hin S5 hFs hCt hx HF HMk
      go_wp2_with fail
      refine HFs.out.mono ?_
      rintro e w6 ⟨rfl, S6, R6⟩
      have S7 := S6.alloc (infoO x.kind (sizeN x) x.names x.holds)
      have q0 := (Hc.out _ (S6.old (infoO x.kind (sizeN x) x.names x.holds))).1
      have R7 := Lib.hid (Ran.new (Below.trans R5.out R6) (infoO x.kind (sizeN x) x.names x.holds))
      obtain ⟨r0, r1, r2, r3⟩ := info_cells S7
      have S7 := Lib.hid S7.right
      clear S6 R6 R5
      by_cases hk : x.kind = 1
      · rw [hk] at r0 S7 R7 q0
        rw [hk]
        clear HCt
        go_wp2_with fail
        go_ret2
        exact ⟨0, 13, s, rfl, by decide, fun e => absurd e (by decide), HI.out.more (Nat.le_succ _), fun _ => rfl, fun _ => rfl, S7.out, R7.out⟩
      · have hkb : (x.kind == 1) = false := by simpa using hk
        clear HCt
        go_wp2_with fail
        go_ret2
        exact ⟨n, 0, s, rfl, by decide, fun _ => ⟨x, Hx.out⟩, HI.out.more (Nat.le_succ _), fun _ => rfl, fun _ => rfl, S7.out, R7.out⟩
    · have Her := Lib.hid her
      have hzb : (er == 0) = false := by simpa using hz
      clear her
      by_cases h10 : er = 10
      · subst h10
        have S5 := Lib.hid S5
        clear hin HF HMk K5
        go_wp2_with fail
        go_ret2
        exact ⟨0, 10, s, rfl, by have := Her.out; omega, fun e => absurd e hz, HI.out.more (Nat.le_succ _), fun _ => rfl, fun _ => rfl, S5.out, R5.out⟩
      · have h10b : (er == 10) = false := by simpa using h10
        have S5 := Lib.hid S5
        clear hin HF HMk K5
        go_wp2_with fail
        go_ret2
        exact ⟨0, er, s, rfl, by have := Her.out; omega, fun e => absurd e hz, HI.out.more (Nat.le_succ _), fun _ => rfl, fun _ => rfl, S5.out, R5.out⟩
  have hk1b : (kind == 1) = false := by simpa using hk1
  by_cases hk2 : kind = 2
  · subst hk2
    go_enter Tryz.func61, Tryz.ntmps61
    go_upto_region 1 with fail
    refine region_plan (S := (fun w' => w'.cell? ⟨p.pb, 0, none⟩ = some (pp p.fb) ∧ w'.cell? ⟨p.pb, 67, none⟩ = some (.int .i64 dh))) [(0, true), (1, true), (2, true), (3, true), (4, true), (5, true), (6, true), (7, true), (8, true), (9, true), (10, false), (11, true), (12, true), (13, true), (14, true), (15, true)] (by kernel_rfl) (by kernel_rfl) (by kernel_rfl) ?_ ?_
    · ((try dsimp only); (first | done | (first | exact ⟨k1, k2⟩ | exact K5)))
    simp only [planOps, List.map_cons, List.map_nil, List.getElem?_toArray, List.getElem?_cons_zero, List.getElem?_cons_succ]
    repeat (first
      | ((refine plan_yes (v := ?_) (by rfl) ?_ ?_); rotate_left; (focus (intro w hSw; (try dsimp only at hSw); go_simp; try (with_reducible rfl))); (try simp only [Act.put, List.setIfInBounds_toArray, List.set_cons_zero, List.set_cons_succ]))
      | ((refine plan_no (by rfl) ?_); (try simp only [Act.put, List.setIfInBounds_toArray, List.set_cons_zero, List.set_cons_succ]))
      | ((refine plan_step (fun K hK => ?_)); (first | (go_simp; ((go_at_call 28; refine HWk.out.mono ?_; rintro e w5 ⟨⟨n, er, rfl, her, hin⟩, S5, R5⟩; have K5 := Hc.out _ S5)); (try go_wp2_with fail)) | go_simp); (refine hK.out _ _ ?_ (fun hHeld => ?_)); (focus ((try dsimp only); (first | done | (first | exact ⟨k1, k2⟩ | exact K5)))); clear hK K; (try simp only [Act.put, List.setIfInBounds_toArray, List.set_cons_zero, List.set_cons_succ])))
    refine plan_done ?_
    have R5 := Lib.hid (Below.trans (Ran.drewN (Below.refl 0 w) 1) R5)
    by_cases hz : er = 0
    · subst hz
      clear her
      obtain ⟨x, hx⟩ := hin rfl
      have hFs := HF.out n x hx _ S5
      have hCt := fun (h1 : x.kind ≠ 1) (W : World) (hW : Sat W (SgHp c s * (Bes most p nl ms * R))) => m_Cut (k := n) (by omega) HI.out hx h1 hW
      rw [← Hfb.out] at hFs hCt
      have HFs := Lib.hid hFs
      have HCt := Lib.hid hCt
      have Hx := Lib.hid hx
      obtain ⟨j1, j2⟩ := K5
      clear hin S5 hFs hCt hx HF HMk
      go_wp2_with fail
      refine HFs.out.mono ?_
      rintro e w6 ⟨rfl, S6, R6⟩
      have S7 := S6.alloc (infoO x.kind (sizeN x) x.names x.holds)
      have q0 := (Hc.out _ (S6.old (infoO x.kind (sizeN x) x.names x.holds))).1
      have R7 := Lib.hid (Ran.new (Below.trans R5.out R6) (infoO x.kind (sizeN x) x.names x.holds))
      obtain ⟨r0, r1, r2, r3⟩ := info_cells S7
      have S7 := Lib.hid S7.right
      clear S6 R6 R5
      by_cases hk : x.kind = 1
      · rw [hk] at r0 S7 R7 q0
        rw [hk]
        clear HCt
        go_wp2_with fail
        go_ret2
        exact ⟨0, 13, s, rfl, by decide, fun e => absurd e (by decide), HI.out.more (Nat.le_succ _), fun _ => rfl, fun _ => rfl, S7.out, R7.out⟩
      · have hkb : (x.kind == 1) = false := by simpa using hk
        have HC2 := Lib.hid (HCt.out hk _ S7.out)
        clear HCt
        go_wp2_with fail
        refine HC2.out.mono ?_
        rintro e w8 ⟨⟨er8, rfl, he8⟩, s8, hI8, hf8, hg8, hin8, S8, R8⟩
        have hA := Lib.hid (And.intro he8 (And.intro hin8 (And.intro hI8 (And.intro hf8 (And.intro hg8 S8)))))
        have R8 := Lib.hid (Below.trans R7.out R8)
        clear he8 hin8 hI8 hf8 hg8 S8
        go_wp2_with fail
        go_ret2
        exact ⟨n, er8, s8, rfl, hA.out.1, fun _ => hA.out.2.1, hA.out.2.2.1, hA.out.2.2.2.1, hA.out.2.2.2.2.1, hA.out.2.2.2.2.2, R8.out⟩
    · have Her := Lib.hid her
      have hzb : (er == 0) = false := by simpa using hz
      clear her
      by_cases h10 : er = 10
      · subst h10
        have HM2 := Lib.hid (HMk.out _ S5.drew)
        obtain ⟨j1, j2⟩ := Hc.out _ S5.drew
        clear hin HF HMk K5 S5
        go_upto_region 3 with fail
        refine region_plan (S := (fun w' => w'.cell? ⟨p.pb, 0, none⟩ = some (pp p.fb) ∧ w'.cell? ⟨p.pb, 67, none⟩ = some (.int .i64 dh))) [(0, true), (1, true), (2, true), (3, true), (4, true), (5, true), (6, true), (7, true), (8, true), (9, true), (10, false), (11, true), (12, true), (13, true), (14, true)] (by kernel_rfl) (by kernel_rfl) (by kernel_rfl) ?_ ?_
        · ((try dsimp only); (first | done | (first | exact ⟨j1, j2⟩ | exact K7)))
        simp only [planOps, List.map_cons, List.map_nil, List.getElem?_toArray, List.getElem?_cons_zero, List.getElem?_cons_succ]
        repeat (first
          | ((refine plan_yes (v := ?_) (by rfl) ?_ ?_); rotate_left; (focus (intro w hSw; (try dsimp only at hSw); go_simp; try (with_reducible rfl))); (try simp only [Act.put, List.setIfInBounds_toArray, List.set_cons_zero, List.set_cons_succ]))
          | ((refine plan_no (by rfl) ?_); (try simp only [Act.put, List.setIfInBounds_toArray, List.set_cons_zero, List.set_cons_succ]))
          | ((refine plan_step (fun K hK => ?_)); (first | (go_simp; ((go_at_call 33; refine HM2.out.mono ?_; rintro e w7 ⟨n7, er7, s7, rfl, he7, hI7, hf7, hg7, hin7, S7, R7⟩; have K7 := Hc7.out s7 _ S7)); (try go_wp2_with fail)) | go_simp); (refine hK.out _ _ ?_ (fun hHeld => ?_)); (focus ((try dsimp only); (first | done | (first | exact ⟨j1, j2⟩ | exact K7)))); clear hK K; (try simp only [Act.put, List.setIfInBounds_toArray, List.set_cons_zero, List.set_cons_succ])))
        refine plan_done ?_
        have hA := Lib.hid (And.intro he7 (And.intro hin7 (And.intro hI7 (And.intro hf7 (And.intro hg7 S7)))))
        have R7 := Lib.hid (Below.trans (Ran.drewN R5.out 1) R7)
        clear he7 hin7 hI7 hf7 hg7 S7 K7
        go_wp2_with fail
        go_ret2
        exact ⟨n7, er7, s7, rfl, hA.out.1, hA.out.2.1, hA.out.2.2.1, hA.out.2.2.2.1, hA.out.2.2.2.2.1, hA.out.2.2.2.2.2, R7.out⟩
      · have h10b : (er == 10) = false := by simpa using h10
        have S5 := Lib.hid S5
        clear hin HF HMk K5
        go_wp2_with fail
        go_ret2
        exact ⟨0, er, s, rfl, by have := Her.out; omega, fun e => absurd e hz, HI.out.more (Nat.le_succ _), fun _ => rfl, fun _ => rfl, S5.out, R5.out⟩
  have hk2b : (kind == 2) = false := by simpa using hk2
  go_enter Tryz.func61, Tryz.ntmps61
  go_upto_region 1 with fail
  refine region_plan (S := (fun w' => w'.cell? ⟨p.pb, 0, none⟩ = some (pp p.fb) ∧ w'.cell? ⟨p.pb, 67, none⟩ = some (.int .i64 dh))) [(0, true), (1, true), (2, true), (3, true), (4, true), (5, true), (6, true), (7, true), (8, true), (9, true), (10, false), (11, true), (12, true), (13, true), (14, true), (15, true)] (by kernel_rfl) (by kernel_rfl) (by kernel_rfl) ?_ ?_
  · ((try dsimp only); (first | done | (first | exact ⟨k1, k2⟩ | exact K5)))
  simp only [planOps, List.map_cons, List.map_nil, List.getElem?_toArray, List.getElem?_cons_zero, List.getElem?_cons_succ]
  repeat (first
    | ((refine plan_yes (v := ?_) (by rfl) ?_ ?_); rotate_left; (focus (intro w hSw; (try dsimp only at hSw); go_simp; try (with_reducible rfl))); (try simp only [Act.put, List.setIfInBounds_toArray, List.set_cons_zero, List.set_cons_succ]))
    | ((refine plan_no (by rfl) ?_); (try simp only [Act.put, List.setIfInBounds_toArray, List.set_cons_zero, List.set_cons_succ]))
    | ((refine plan_step (fun K hK => ?_)); (first | (go_simp; ((go_at_call 28; refine HWk.out.mono ?_; rintro e w5 ⟨⟨n, er, rfl, her, hin⟩, S5, R5⟩; have K5 := Hc.out _ S5)); (try go_wp2_with fail)) | go_simp); (refine hK.out _ _ ?_ (fun hHeld => ?_)); (focus ((try dsimp only); (first | done | (first | exact ⟨k1, k2⟩ | exact K5)))); clear hK K; (try simp only [Act.put, List.setIfInBounds_toArray, List.set_cons_zero, List.set_cons_succ])))
  refine plan_done ?_
  have R5 := Lib.hid (Below.trans (Ran.drewN (Below.refl 0 w) 1) R5)
  by_cases hz : er = 0
  · subst hz
    clear her
    obtain ⟨x, hx⟩ := hin rfl
    have hFs := HF.out n x hx _ S5
    have hCt := fun (h1 : x.kind ≠ 1) (W : World) (hW : Sat W (SgHp c s * (Bes most p nl ms * R))) => m_Cut (k := n) (by omega) HI.out hx h1 hW
    rw [← Hfb.out] at hFs hCt
    have HFs := Lib.hid hFs
    have HCt := Lib.hid hCt
    have Hx := Lib.hid hx
    obtain ⟨j1, j2⟩ := K5
    clear hin S5 hFs hCt hx HF HMk
    go_wp2_with fail
    refine HFs.out.mono ?_
    rintro e w6 ⟨rfl, S6, R6⟩
    have S7 := S6.alloc (infoO x.kind (sizeN x) x.names x.holds)
    have q0 := (Hc.out _ (S6.old (infoO x.kind (sizeN x) x.names x.holds))).1
    have R7 := Lib.hid (Ran.new (Below.trans R5.out R6) (infoO x.kind (sizeN x) x.names x.holds))
    obtain ⟨r0, r1, r2, r3⟩ := info_cells S7
    have S7 := Lib.hid S7.right
    clear S6 R6 R5
    by_cases hk : x.kind = 1
    · rw [hk] at r0 S7 R7 q0
      rw [hk]
      clear HCt
      go_wp2_with fail
      go_ret2
      exact ⟨0, 13, s, rfl, by decide, fun e => absurd e (by decide), HI.out.more (Nat.le_succ _), fun _ => rfl, fun _ => rfl, S7.out, R7.out⟩
    · have hkb : (x.kind == 1) = false := by simpa using hk
      clear HCt
      go_wp2_with fail
      go_ret2
      exact ⟨n, 0, s, rfl, by decide, fun _ => ⟨x, Hx.out⟩, HI.out.more (Nat.le_succ _), fun _ => rfl, fun _ => rfl, S7.out, R7.out⟩
  · have Her := Lib.hid her
    have hzb : (er == 0) = false := by simpa using hz
    clear her
    by_cases h10 : er = 10
    · subst h10
      have HM2 := Lib.hid (HMk.out _ S5.drew)
      obtain ⟨j1, j2⟩ := Hc.out _ S5.drew
      clear hin HF HMk K5 S5
      go_upto_region 3 with fail
      refine region_plan (S := (fun w' => w'.cell? ⟨p.pb, 0, none⟩ = some (pp p.fb) ∧ w'.cell? ⟨p.pb, 67, none⟩ = some (.int .i64 dh))) [(0, true), (1, true), (2, true), (3, true), (4, true), (5, true), (6, true), (7, true), (8, true), (9, true), (10, false), (11, true), (12, true), (13, true), (14, true)] (by kernel_rfl) (by kernel_rfl) (by kernel_rfl) ?_ ?_
      · ((try dsimp only); (first | done | (first | exact ⟨j1, j2⟩ | exact K7)))
      simp only [planOps, List.map_cons, List.map_nil, List.getElem?_toArray, List.getElem?_cons_zero, List.getElem?_cons_succ]
      repeat (first
        | ((refine plan_yes (v := ?_) (by rfl) ?_ ?_); rotate_left; (focus (intro w hSw; (try dsimp only at hSw); go_simp; try (with_reducible rfl))); (try simp only [Act.put, List.setIfInBounds_toArray, List.set_cons_zero, List.set_cons_succ]))
        | ((refine plan_no (by rfl) ?_); (try simp only [Act.put, List.setIfInBounds_toArray, List.set_cons_zero, List.set_cons_succ]))
        | ((refine plan_step (fun K hK => ?_)); (first | (go_simp; ((go_at_call 33; refine HM2.out.mono ?_; rintro e w7 ⟨n7, er7, s7, rfl, he7, hI7, hf7, hg7, hin7, S7, R7⟩; have K7 := Hc7.out s7 _ S7)); (try go_wp2_with fail)) | go_simp); (refine hK.out _ _ ?_ (fun hHeld => ?_)); (focus ((try dsimp only); (first | done | (first | exact ⟨j1, j2⟩ | exact K7)))); clear hK K; (try simp only [Act.put, List.setIfInBounds_toArray, List.set_cons_zero, List.set_cons_succ])))
      refine plan_done ?_
      have hA := Lib.hid (And.intro he7 (And.intro hin7 (And.intro hI7 (And.intro hf7 (And.intro hg7 S7)))))
      have R7 := Lib.hid (Below.trans (Ran.drewN R5.out 1) R7)
      clear he7 hin7 hI7 hf7 hg7 S7 K7
      go_wp2_with fail
      go_ret2
      exact ⟨n7, er7, s7, rfl, hA.out.1, hA.out.2.1, hA.out.2.2.1, hA.out.2.2.2.1, hA.out.2.2.2.2.1, hA.out.2.2.2.2.2, R7.out⟩
    · have h10b : (er == 10) = false := by simpa using h10
      have S5 := Lib.hid S5
      clear hin HF HMk K5
      go_wp2_with fail
      go_ret2
      exact ⟨0, er, s, rfl, by have := Her.out; omega, fun e => absurd e hz, HI.out.more (Nat.le_succ _), fun _ => rfl, fun _ => rfl, S5.out, R5.out⟩
end
end Go.Proofs.YteienbdbhnikbaaGreatDoor.Pr

