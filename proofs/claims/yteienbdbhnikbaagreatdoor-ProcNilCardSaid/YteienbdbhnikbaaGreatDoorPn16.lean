/- HandlesPlays, part 16 of 18: the texts PrZ PrAw PrOp, joined by a program. -/
import Derived.Test.YteienbdbhnikbaaGreatDoorPn15
import Derived.Test.YteienbdbhnikbaaGreatDoorRows
import Derived.ProofKit
import Derived.OpenShut
import Derived.ShutString
import Derived.ChangeOld
import Derived.Deep.Slices
import Derived.Lib.SmallJoins
import Derived.Deep.Strs
import Derived.LaidMore
import Derived.Lay
import Derived.Handed
import Derived.Shelf.Strings.Shaped
namespace Go.Proofs.YteienbdbhnikbaaGreatDoor.Pr
open Go.RowKit Go.Maps Go.Proofs.YteienbdbhnikbaaGreatDoor Go.Proofs.YteienbdbhnikbaaGreatDoor.Hp Go.Proofs.YteienbdbhnikbaaGreatDoor.Hd
set_option linter.unusedVariables false
attribute [local go_sem] Oper.semAt_some

set_option maxRecDepth 100000 in
set_option maxHeartbeats 1000000 in
theorem write_go (pb tb i : Nat) (id : Int) (h0 : id ≠ 0) (d : ByteArray) (w : World) (Q : World → Prop) (Z : World → Prop) (hZ : ∀ W, Z W → W.cell? ⟨pb, 1, none⟩ = some (pp tb) ∧ W.cell? ⟨pb, 3 + i * 4, none⟩ = some (.int .i64 id)) (hz : Z w.drew)
    (HO : Calls Tryz.prog 53 #[pp pb, .int .i64 (i : Int)] w fun e w' => e = .returned (.tuple #[.pointer (some ⟨pb, 3 + i * 4, none⟩), .int .i64 0]) ∧ w = w')
    (HT : Calls Tryz.prog 63 #[pp tb, .int .i64 id, .string d] w.drew fun e w1 => e = .returned (.int .i64 0) ∧ Z w1 ∧ Q w1) :
    Calls Tryz.prog 27 #[pp pb, .int .i64 (i : Int), .string d] w fun e w' => e = .returned (.int .i64 0) ∧ Q w' := by
  obtain ⟨k1, k2⟩ := hZ _ hz
  have HO := Lib.hid HO
  have HT := Lib.hid HT
  have hZ := Lib.hid hZ
  clear hz
  go_enter Tryz.func27, Tryz.ntmps27
  go_wp2_with fail
  refine HO.out.mono ?_
  rintro e w1 ⟨rfl, rfl⟩
  go_upto_region 4 with fail
  refine region_plan (S := (fun w' => w'.cell? ⟨pb, 1, none⟩ = some (pp tb) ∧ w'.cell? ⟨pb, 3 + i * 4, none⟩ = some (.int .i64 id))) [(0, true), (1, true), (2, true), (3, true), (4, true), (5, true), (6, true), (7, true), (8, true), (9, false), (10, true)] (by kernel_rfl) (by kernel_rfl) (by kernel_rfl) ?_ ?_
  · ((try dsimp only); (first | done | (first | exact ⟨k1, k2⟩ | exact K5)))
  simp only [planOps, List.map_cons, List.map_nil, List.getElem?_toArray, List.getElem?_cons_zero, List.getElem?_cons_succ]
  repeat (first
    | ((refine plan_yes (v := ?_) (by rfl) ?_ ?_); rotate_left; (focus (intro w hSw; (try dsimp only at hSw); go_simp; try (with_reducible rfl))); (try simp only [Act.put, List.setIfInBounds_toArray, List.set_cons_zero, List.set_cons_succ]))
    | ((refine plan_no (by rfl) ?_); (try simp only [Act.put, List.setIfInBounds_toArray, List.set_cons_zero, List.set_cons_succ]))
    | ((refine plan_step (fun K hK => ?_)); (first | (go_simp; ((go_at_call 63; refine HT.out.mono ?_; rintro e w5 ⟨rfl, Z5, hQ⟩; have K5 := hZ.out _ Z5)); (try go_wp2_with fail)) | go_simp); (refine hK.out _ _ ?_ (fun hHeld => ?_)); (focus ((try dsimp only); (first | done | (first | exact ⟨k1, k2⟩ | exact K5)))); clear hK K; (try simp only [Act.put, List.setIfInBounds_toArray, List.set_cons_zero, List.set_cons_succ])))
  refine plan_done ?_
  have hQ := Lib.hid hQ
  clear Z5 K5
  go_wp2_with fail
  go_ret
  exact ⟨rfl, hQ.out⟩
set_option maxRecDepth 100000 in
theorem close_go (pb i : Nat) (hi : i < 16) (id : Int) (h0 : id ≠ 0) (w : World) (Q : World → Prop) (k2 : w.cell? ⟨pb, 3 + i * 4, none⟩ = some (.int .i64 id))
    (HS : Calls Tryz.prog 56 #[pp pb, slP pb i, .int .i64 0] w fun e w1 => e = .returned (.int .i64 0) ∧ Q w1) :
    Calls Tryz.prog 19 #[pp pb, .int .i64 (i : Int)] w fun e w' => e = .returned (.int .i64 0) ∧ Q w' := by
  have HA := Lib.hid (at_calls pb i hi w)
  have HS := Lib.hid HS
  have hzb : (id == 0) = false := by simpa using h0
  go_enter Tryz.func19, Tryz.ntmps19
  go_wp2_with fail
  refine HA.out.mono ?_
  rintro e w1 ⟨rfl, rfl⟩
  go_wp2_with fail
  refine HS.out.mono ?_
  rintro e w3 ⟨rfl, hQ⟩
  have hQ := Lib.hid hQ
  go_wp2_with fail
  go_ret
  exact ⟨rfl, hQ.out⟩
section
variable {c : Pls} {N : Nat} {b : Int → Int} {most : Int} {p : Pc} {nl : List Nt} {ms : List Nat} {w : World} {R : Hp} {P Q : Sg → Prop} {f g : Int → Int}
variable {A : List (UInt8 × Int × ByteArray)} {H : List (Int × Int × Nat)} {l u : Nat}
theorem x_Write (hN : N ≤ 900000) {d : UInt8} {k id : Int} {t : ByteArray} (hA : ∀ x ∈ A, x.2.1 ≠ k) (hH : ∀ x ∈ H, x.1 ≠ id) (dt : ByteArray) (hdt : 0 < dt.size) (hs : t.size + dt.size ≤ 50) (hu : u + dt.size ≤ 100) (h : Sat w (St c N f g (Aw ((d, k, t) :: A) ((id, k, t.size) :: H) l u) * R)) :
    Calls Tryz.prog 63 #[pp c.tb, .int .i64 id, .string dt] w fun e w' => e = .returned (.int .i64 0) ∧ Sat w' (St c (N + 1) f g (Aw ((d, k, wrB t t.size dt) :: A) ((id, k, t.size + dt.size) :: H) l (u + dt.size)) * R) ∧ Ran w w' := by
  obtain ⟨s, hI, hf, hg, hP, h⟩ := st_out h
  obtain ⟨y, hy, hyt⟩ := hP.hands _ List.mem_cons_self
  obtain ⟨h0, x, hx, hk2, hxt, hxn⟩ := hP.nodes _ List.mem_cons_self
  dsimp only at hy hyt h0 hx hk2 hxt hxn
  have hr := hI.refs _ y hy
  have hpp := hI.pipe
  have hkn : x.kids = none := by
    rcases hI.tree.kinds k x hx with ⟨e, -⟩ | ⟨-, e⟩
    · rw [hk2] at e; cases e
    · exact e
  have hN2 := aw_write hP hA hH hx hy dt hdt hs hu
  have hru := hP.used
  have hrr := hP.room
  have hW0 : (writeP s.F k x (atW x t.size mdW) dt).1 = 0 := by
    have e1 : atW x t.size mdW = t.size := rfl
    rw [e1]
    unfold writeP
    have hm : moreB x.text t.size dt = dt.size := by unfold moreB; rw [hxt]; omega
    rw [if_neg (by omega), if_neg (by omega), hm, if_neg (by omega)]
  obtain ⟨t1, t2, t3, t4, t5⟩ := tree_write hI.tree hx (atW x t.size mdW) dt
  refine (TWrite_file c.tb c.fb c.mb c.bp c.hm s.n s.F s.L id k y t.size mdW x dt (hI.id64 hN hy) hy hyt rfl (hI.tree.in_i64 hx) (by omega) (by omega) (hI.tree.ok (by omega)) hx hk2 hkn (fs_u hI) (fs_r hI) w _ (sg_open h)).mono ?_
  rintro e w' ⟨⟨rfl, S⟩, hR⟩
  have hh : 1 ≤ x.holds := by
    obtain ⟨z, hz, -, hz1⟩ := hI.node hy hyt
    rw [hx] at hz; injection hz with hz; subst hz
    exact hz1
  obtain ⟨hI', hx'⟩ := hI.upd hy (y' := { y with t := .file k (atN s.F k x t.size mdW dt) mdW }) (by dsimp only; omega) (fun j => by unfold cF; rw [hyt]) (by rw [hyt]; rfl) (writeP s.F k x (atW x t.size mdW) dt).2 s.p s.tot (by
    show (∃ z, Hd.find (writeP s.F k x (atW x t.size mdW) dt).2.L k = some z ∧ z.kind = 2) ∧ atN s.F k x t.size mdW dt ≤ 8192
    refine ⟨?_, ?_⟩
    · obtain ⟨z, hz⟩ : ∃ z, Hd.find (writeP s.F k x (atW x t.size mdW) dt).2.L k = some z := hf_some (by rw [t2, hf_of hx]; exact hh)
      exact ⟨z, hz, by rw [t3 k x z hx hz]; exact hk2⟩
    · have haw : atW x t.size mdW = t.size := rfl
      unfold atN
      rw [haw]
      split <;> omega) t1 t2 t3 rfl rfl ⟨hpp.1, hpp.2.1, by omega⟩
  refine ⟨by rw [hW0], st_in hI' (fun j => ?_) (fun j => (hx' j).trans (hg j)) hN2 (sg_shut ?_), hR⟩
  · show rf (updA s.L id _) j = f j
    rw [rf_upd hy, ← hf]
    by_cases e : j = id
    · rw [if_pos e, e, rf_some hy]
    · rw [if_neg e]
  · rw [snks_same (y' := { y with t := .file k (atN s.F k x t.size mdW dt) mdW }) hy (by rw [hyt]; rfl)]
    exact S
theorem o_write (hl : Link c p) (hN : N ≤ 700000) {i : Nat} (hi : i < 16) {d : UInt8} {k id mk : Int} {t : ByteArray} (hsl : p.sl i = ⟨id, mk⟩) (h5 : 5 ≤ id) (hA : ∀ x ∈ A, x.2.1 ≠ k) (hH : ∀ x ∈ H, x.1 ≠ id) (dt : ByteArray) (hdt : 0 < dt.size) (hs : t.size + dt.size ≤ 50) (hu : u + dt.size ≤ 100) (h : Sat w (PHP c N b most p nl ms (Aw ((d, k, t) :: A) ((id, k, t.size) :: H) l u) * R)) :
    Calls Tryz.prog 27 #[pp p.pb, .int .i64 (i : Int), .string dt] w fun e w' => e = .returned (.int .i64 0) ∧ Sat w' (PHP c (N + 1) b most p nl ms (Aw ((d, k, wrB t t.size dt) :: A) ((id, k, t.size + dt.size) :: H) l (u + dt.size)) * R) ∧ Ran w w' := by
  have h16 := hl.len
  have hil : i < p.fds.length := by omega
  rw [sl_fd hi hil] at hsl
  have hx : p.fds[i].has = id := by rw [hsl]
  have HO := open_calls p i hi h16 w _ (php_pc h)
  rw [hx, if_neg (by omega)] at HO
  refine write_go p.pb c.tb i id (by omega) dt w (fun w' => Sat w' (PHP c (N + 1) b most p nl ms (Aw ((d, k, wrB t t.size dt) :: A) ((id, k, t.size + dt.size) :: H) l (u + dt.size)) * R) ∧ Ran w w') (fun W => ∃ M P', Sat W (PHP c M b most p nl ms P' * R)) (fun W ⟨M, P', hW⟩ => ?_) ⟨N, _, h.drew⟩ HO ?_
  · have h1 := (pc_heads (php_pc hW)).2.1
    have h2 := (pc_fd (php_pc hW) i hil).1
    rw [hl.tb] at h1
    rw [hx] at h2
    exact ⟨h1, h2⟩
  · refine (x_Write (by omega) hA hH dt hdt hs hu (h.drew.perm (show _ = St c N (fOf b p nl) (gOf p nl) (Aw ((d, k, t) :: A) ((id, k, t.size) :: H) l u) * (Bes most p nl ms * R) by unfold PHP Bes; ac_rfl))).mono ?_
    rintro e w1 ⟨rfl, S1, R1⟩
    have S1 : Sat w1 (PHP c (N + 1) b most p nl ms (Aw ((d, k, wrB t t.size dt) :: A) ((id, k, t.size + dt.size) :: H) l (u + dt.size)) * R) := S1.perm (by unfold PHP Bes; ac_rfl)
    exact ⟨rfl, ⟨_, _, S1⟩, S1, Below.trans (Ran.drewN (Below.refl 0 w) 1) R1⟩
theorem o_close (hl : Link c p) (hN : N ≤ 700000) {i : Nat} (hi : i < 16) {id mk : Int} (hsl : p.sl i = ⟨id, mk⟩) (h5 : 5 ≤ id) (hm4 : ms.length ≤ 4) (hnl : (nl.length : Int) < most) (hm1 : most ≤ 1000) (hne : ms ≠ []) (hm : mk < (ms.length : Int)) (h : Sat w (PHP c N b most p nl ms P * R)) :
    Calls Tryz.prog 19 #[pp p.pb, .int .i64 (i : Int)] w fun e w' => e = .returned (.int .i64 0) ∧ (∃ sb wb, Sat w' (PHP c N b most (p.put i ⟨0, (ms.length : Int)⟩) (nl ++ [Nt.mk i ⟨id, mk⟩ sb wb]) ms P * R)) ∧ Ran w w' := by
  have hil : i < p.fds.length := by have := hl.len; omega
  have hx : p.fds[i].has = id := by rw [← sl_fd hi hil, hsl]
  have k2 := (pc_fd (php_pc h) i hil).1
  rw [hx] at k2
  refine close_go p.pb i hi id (by omega) w _ k2 ?_
  have := fd_closeP hl hN hi hm4 hnl hm1 hne (by rw [hsl]; exact hm) h
  rw [hsl] at this
  exact this
theorem aw_swap {x y : UInt8 × Int × ByteArray} {s : Sg} (h : Aw (x :: y :: A) H l u s) : Aw (y :: x :: A) H l u s := by
  have hm : ∀ z, z ∈ y :: x :: A ↔ z ∈ x :: y :: A := fun z => by simp only [List.mem_cons]; constructor <;> (rintro (e | e | e) <;> simp [e])
  exact { h with root := by
                   obtain ⟨r, kd, h1, h2, h3, h4, h5⟩ := h.root
                   exact ⟨r, kd, h1, h2, h3, fun z hz => h4 z ((hm z).1 hz), fun e he hz => h5 e he fun z hz2 => hz z ((hm z).2 hz2)⟩,
                 nodes := fun z hz => h.nodes z ((hm z).1 hz) }
end
end Go.Proofs.YteienbdbhnikbaaGreatDoor.Pr

namespace Go.Proofs.YteienbdbhnikbaaGreatDoor.Pr
open Go.RowKit Go.Maps Go.Proofs.YteienbdbhnikbaaGreatDoor Go.Proofs.YteienbdbhnikbaaGreatDoor.Hp Go.Proofs.YteienbdbhnikbaaGreatDoor.Hd
set_option linter.unusedVariables false
attribute [local go_sem] Oper.semAt_some

abbrev abB : ByteArray := ⟨#[97, 98]⟩
abbrev cB : ByteArray := ⟨#[99]⟩
abbrev abcB : ByteArray := ⟨#[97, 98, 99]⟩
section
variable {c : Pls} {N : Nat} {b : Int → Int} {most : Int} {p : Pc} {nl : List Nt} {ms : List Nat} {w : World} {R : Hp} {P Q : Sg → Prop}
variable {A : List (UInt8 × Int × ByteArray)} {H : List (Int × Int × Nat)} {l u : Nat}
theorem php_imp (hi : ∀ s, P s → Q s) (h : Sat w (PHP c N b most p nl ms P * R)) : Sat w (PHP c N b most p nl ms Q * R) := by
  obtain ⟨s, h1, h2, h3, h4, h5⟩ := php_bes h
  exact ph_in h1 h2 h3 (hi s h4) h5
theorem php_ph (h : Sat w (PHP c N b most p nl ms P * R)) : Sat w (PH c N b most p nl ms * R) := by
  have := php_imp (Q := fun _ => True) (fun _ _ => trivial) h
  exact this
theorem o_mark (hnl : nl.length ≤ 1000) (hms : ms.length < 4) (h : Sat w (PHP c N b most p nl ms P * R)) :
    Calls Tryz.prog 24 #[pp p.pb] w fun e w' => e = .returned (.tuple #[.int .i64 ((ms.length : Int) + 1), .int .i64 0]) ∧ Sat w' (PHP c N b most p nl (ms ++ [nl.length]) P * R) ∧ Ran w w' := by
  have hbl : (backs nl).length = nl.length := List.length_map ..
  refine p_mark_of _ (php_ph h) ((Undo.mark_calls p.lb most 4 (backs nl) ms w (St c N (fOf b p nl) (gOf p nl) P * (notesHp p nl * pcHp p) * R) (Undo.log_out (h.perm (by unfold PHP LG; ac_rfl))) (by omega) (by rw [hbl]; omega) (by omega)).mono ?_)
  rintro e w' ⟨rfl, hS, hR⟩
  rw [hbl] at hS
  exact ⟨_, _, rfl, rfl, (Undo.log_in hS).perm (by unfold PHP LG; ac_rfl), hR⟩
/-- A walk to a name, and what is read there. -/
theorem o_walk (hN : N ≤ 700000) {x : UInt8 × Int × ByteArray} (hx : x ∈ A) (hsm : Sm x.1) (hG : Glob R) (h : Sat w (PHP c N b most p nl ms (Aw A H l u) * R)) :
    Calls Tryz.prog 28 #[pp c.fb, .int .i64 1, .string (n1 x.1), .bool true] w fun e w' => e = .returned (.tuple #[.int .i64 x.2.1, .int .i64 0]) ∧ Sat w' (PHP c N b most p nl ms (Aw A H l u) * R) ∧ Ran w w' := by
  obtain ⟨s, hI, hf, hg, hP, hS⟩ := php_bes h
  obtain ⟨r, kd, hr, hrk, hkd, hkA, hkn⟩ := hP.root
  obtain ⟨h0, z, hz, hz2, -, -⟩ := hP.nodes x hx
  refine (Walk_calls c.fb c.mb s.F (hI.tree.ok (by omega)) hI.tree.nums 1 (n1 x.1) true w _ i64_1 (by show 1 ≤ 1000000; omega) hG.more.more.more.more.more (sg_open hS)).mono ?_
  rintro e w' ⟨⟨rfl, S1⟩, R1⟩
  have h3 : isK s.F x.2.1 3 = false := by
    unfold isK
    rw [hz]
    simp [hz2]
  have hpos := (hI.tree.rng _ z hz).1
  rw [walk_yes hsm hr hrk hkd (hkA x hx) (by omega) h3]
  exact ⟨rfl, ph_in hI hf hg hP (sg_shut S1), R1⟩
theorem o_read (hN : N ≤ 700000) {x : UInt8 × Int × ByteArray} (hx : x ∈ A) (h : Sat w (PHP c N b most p nl ms (Aw A H l u) * R)) :
    Calls Tryz.prog 29 #[pp c.fb, .int .i64 x.2.1, .int .i64 0, .int .i64 9] w fun e w' => e = .returned (.tuple #[.string (readB x.2.2 0 9), .int .i64 0]) ∧ Sat w' (PHP c N b most p nl ms (Aw A H l u) * R) ∧ Ran w w' := by
  obtain ⟨s, hI, hf, hg, hP, hS⟩ := php_bes h
  obtain ⟨h0, z, hz, hz2, hzt, -⟩ := hP.nodes x hx
  refine (Read_calls c.fb c.mb s.F x.2.1 0 9 z (hI.tree.in_i64 hz) (by omega) (by omega) (hI.tree.ok (by omega)) hz (by omega) w _ (sg_open hS)).mono ?_
  rintro e w' ⟨⟨rfl, S1⟩, R1⟩
  rw [hzt]
  exact ⟨rfl, ph_in hI hf hg hP (sg_shut S1), R1⟩
theorem o_stat (hN : N ≤ 700000) {n : Int} (hn : I64 n) (h : Sat w (PHP c N b most p nl ms P * R)) :
    Calls Tryz.prog 21 #[pp c.tb, .int .i64 n] w fun e w' => (∃ k a d m er, e = .returned (.tuple #[inV k (fOf b p nl n) a d m, .int .i64 er])) ∧ Sat w' (PHP c N b most p nl ms P * R) ∧ Ran w w' := by
  obtain ⟨s, hI, hf, hg, hP, hS⟩ := php_bes h
  refine (m_Stat (by omega) hI hn hS).mono ?_
  rintro e w' ⟨⟨k, a, d, m, er, rfl, -⟩, h2, h3⟩
  rw [hf]
  exact ⟨⟨k, a, d, m, er, rfl⟩, ph_in hI hf hg hP h2, h3⟩
end
theorem sl_put {p : Pc} {i : Nat} (hi : i < 16) (h16 : p.fds.length = 16) (s : Sl) : (p.put i s).sl i = s := by
  rw [put_fd hi]
  have hl : i < (p.slot i s).fds.length := by show i < (p.fds.set i s).length; rw [List.length_set]; omega
  rw [sl_fd hi hl]
  exact List.getElem_set_self ..
theorem put_put (p : Pc) {i : Nat} (hi : i < 16) (s t : Sl) : (p.put i s).put i t = p.put i t := by
  rw [put_fd hi, put_fd hi, put_fd hi]
  show ({ p with fds := (p.fds.set i s).set i t } : Pc) = { p with fds := p.fds.set i t }
  rw [List.set_set]
set_option maxRecDepth 100000 in
set_option maxHeartbeats 4000000 in
theorem awake_calls (w : World) (R : Hp) (hG : Glob R) (h : Sat w R) :
    Calls Tryz.prog 8 #[] w fun e w' => (e = .returned (.bool true) ∧ Sat w' R) ∧ Ran w w' := by
  have HB := Lib.hid (begun_calls 50 (by omega) (by omega) w R hG h)
  have hG := Lib.hid hG
  clear h
  go_enter Tryz.func8, Tryz.ntmps8
  go_wp2_with fail
  refine HB.out.mono ?_
  rintro e w1 ⟨⟨c, p0, rfl, hl0, hfds, hdir, hmask, S1⟩, R1⟩
  clear HB
  have S2 := S1.alloc (woP (pp c.fb) (pp c.bp) (pp c.tb) (pp p0.lb) (pp p0.pb))
  have R2 := Lib.hid (Ran.new R1 (woP (pp c.fb) (pp c.bp) (pp c.tb) (pp p0.lb) (pp p0.pb)))
  obtain ⟨wb, hwb⟩ : ∃ x, x = w1.heap.size := ⟨_, rfl⟩
  obtain ⟨w2, hw2⟩ : ∃ x, x = w1.alloc (woP (pp c.fb) (pp c.bp) (pp c.tb) (pp p0.lb) (pp p0.pb)) := ⟨_, rfl⟩
  rw [← hwb, ← hw2] at S2
  rw [← hw2] at R2
  obtain ⟨RF, hRF⟩ : ∃ X, X = pts wb (woP (pp c.fb) (pp c.bp) (pp c.tb) (pp p0.lb) (pp p0.pb)) * R := ⟨_, rfl⟩
  have hGF : Hid (Glob RF) := Lib.hid (by rw [hRF]; exact hG.out.more)
  have HC := Lib.hid (fun (W : World) (X : Hp) (hW : Sat W (X * RF)) => woP_cells (hW.perm (show _ = pts wb (woP (pp c.fb) (pp c.bp) (pp c.tb) (pp p0.lb) (pp p0.pb)) * (X * R) by rw [hRF]; ac_rfl)))
  have HE := Lib.hid (fun (W : World) (X : Hp) (hW : Sat W (X * RF)) => (hW.perm (show _ = (X * pts wb (woP (pp c.fb) (pp c.bp) (pp c.tb) (pp p0.lb) (pp p0.pb))) * R by rw [hRF]; ac_rfl)).right)
  have h16 := hl0.len
  have S3 : Sat w2 (PHP c 20 b0 50 p0 [] [] (Aw [] [] 4 6) * RF) := php_imp (fun s => aw_beg) (S2.perm (by rw [hRF]; ac_rfl))
  have hsl0 : p0.sl 1 = ⟨0, 0⟩ := by
    rw [sl_fd (by omega) (by omega)]
    simp [hfds]
  have HO1 := Lib.hid (o_open (ms := []) hl0 (by omega) base0 (i := 1) (by omega) (d := 102) (.inl rfl) (fun x hx => by cases hx) (by rw [hdir]) hsl0 (Int.le_refl 0) (by omega) (by omega) hGF.out S3)
  obtain ⟨y0, y1, y2, y3, y4⟩ := HC.out w2 _ S3
  have Hfds := Lib.hid hfds
  have Hdir := Lib.hid hdir
  have Hl0 := Lib.hid hl0
  have Hsl0 := Lib.hid hsl0
  have H16 := Lib.hid h16
  clear S1 S2 S3 R1 hfds hdir hmask hl0 hsl0 hRF h16
  go_upto_region 4 with fail
  rw [← hwb, ← hw2]
  clear hwb hw2
  go_wp2_with fail
  refine HO1.out.mono ?_
  rintro e w3 ⟨rfl, k5, id5, h5a, h5b, hf5, -, -, S3, r3'⟩
  have r3 := Lib.hid (Below.trans R2.out r3')
  clear y0 y1 y2 y3 y4
  obtain ⟨y0, y1, y2, y3, y4⟩ := HC.out w3 _ S3
  obtain ⟨p1, hp1⟩ : ∃ p1, p1 = p0.put 1 ⟨id5, 0⟩ := ⟨_, rfl⟩
  rw [← hp1] at S3
  have hpb1 : p1.pb = p0.pb := by rw [hp1]; exact (Pc.put_same p0 1 _).1
  have HMk := o_mark (by show 0 ≤ 1000; omega) (by show 0 < 4; omega) S3
  rw [hpb1] at HMk
  have HMk := Lib.hid HMk
  have Hl1 := Lib.hid (show Link c p1 by rw [hp1]; exact Hl0.out.put 1 _)
  have Hs1 := Lib.hid (show p1.sl 1 = ⟨id5, 0⟩ by rw [hp1]; exact sl_put (by omega) H16.out _)
  have Hp1 := Lib.hid hp1
  have Hpb1 := Lib.hid hpb1
  have H5 := Lib.hid (And.intro h5a h5b)
  have Hf5 := Lib.hid hf5
  clear S3 r3' R2 HO1 hp1 hpb1 h5a h5b hf5
  go_wp2_with fail
  refine HMk.out.mono ?_
  rintro e w4 ⟨rfl, S4, r4'⟩
  have r4 := Lib.hid (Below.trans r3.out r4')
  clear y0 y1 y2 y3 y4
  obtain ⟨y0, y1, y2, y3, y4⟩ := HC.out w4 _ S4
  have HWr := o_write Hl1.out (by omega) (i := 1) (by omega) (t := ⟨#[]⟩) Hs1.out H5.out.1 (fun x hx => by cases hx) (fun x hx => by cases hx) abB (by decide) (by decide) (by decide) S4
  rw [Hpb1.out] at HWr
  have HWr := Lib.hid HWr
  clear S4 r4' r3 HMk
  go_wp2_with fail
  refine HWr.out.mono ?_
  rintro e w5 ⟨rfl, S5, r5'⟩
  have r5 := Lib.hid (Below.trans r4.out r5')
  have S5 : Sat w5 (PHP c 25 b0 50 p1 [] [0] (Aw [(102, k5, abB)] [(id5, k5, 2)] 5 8) * RF) := S5
  clear y0 y1 y2 y3 y4
  obtain ⟨y0, y1, y2, y3, y4⟩ := HC.out w5 _ S5
  have HCl := o_close Hl1.out (by omega) (i := 1) (by omega) Hs1.out H5.out.1 (by show 1 ≤ 4; omega) (by show (0 : Int) < 50; omega) (by omega) (by simp) (by show (0 : Int) < 1; omega) S5
  rw [Hpb1.out] at HCl
  have HCl := Lib.hid HCl
  clear S5 r5' r4 HWr
  go_wp2_with fail
  refine HCl.out.mono ?_
  rintro e w6 ⟨rfl, ⟨sb, nb, S6⟩, r6'⟩
  have r6 := Lib.hid (Below.trans r5.out r6')
  obtain ⟨p2, hp2⟩ : ∃ p2, p2 = p1.put 1 ⟨0, 1⟩ := ⟨_, rfl⟩
  have S6 : Sat w6 (PHP c 25 b0 50 p2 [Nt.mk 1 ⟨id5, 0⟩ sb nb] [0] (Aw [(102, k5, abB)] [(id5, k5, 2)] 5 8) * RF) := by rw [hp2]; exact S6
  clear y0 y1 y2 y3 y4
  obtain ⟨y0, y1, y2, y3, y4⟩ := HC.out w6 _ S6
  have hpb2 : p2.pb = p0.pb := by rw [hp2]; exact (Pc.put_same p1 1 _).1.trans Hpb1.out
  have Hl2 := Lib.hid (show Link c p2 by rw [hp2]; exact Hl1.out.put 1 _)
  have Hs2 := Lib.hid (show p2.sl 1 = ⟨0, 1⟩ by rw [hp2]; exact sl_put (by omega) Hl1.out.len _)
  have hd2 : p2.dir.has = 1 := by
    rw [hp2, Hp1.out]
    show p0.dir.has = 1
    rw [Hdir.out]
  have HO2 := o_open Hl2.out (by omega) base0 (i := 1) (by omega) (d := 103) (.inr rfl) (fun x hx => by rw [List.mem_singleton] at hx; rw [hx]; show (102 : UInt8) ≠ 103; decide) hd2 Hs2.out (by show (1 : Int) ≤ 1; omega) (by omega) (by omega) hGF.out S6
  rw [hpb2] at HO2
  have HO2 := Lib.hid HO2
  have Hp2 := Lib.hid hp2
  have Hpb2 := Lib.hid hpb2
  clear S6 r6' r5 HCl hp2 hpb2 hd2
  go_wp2_with fail
  refine HO2.out.mono ?_
  rintro e w7 ⟨rfl, k6, id6, h6a, h6b, hf6, hk6, hid6, S7, r7'⟩
  have r7 := Lib.hid (Below.trans r6.out r7')
  obtain ⟨p3, hp3⟩ : ∃ p3, p3 = p2.put 1 ⟨id6, 1⟩ := ⟨_, rfl⟩
  have S7 : Sat w7 (PHP c 29 b0 50 p3 [Nt.mk 1 ⟨id5, 0⟩ sb nb] [0] (Aw [(103, k6, ⟨#[]⟩), (102, k5, abB)] [(id6, k6, 0), (id5, k5, 2)] 6 8) * RF) := by rw [hp3]; exact S7
  clear y0 y1 y2 y3 y4
  obtain ⟨y0, y1, y2, y3, y4⟩ := HC.out w7 _ S7
  have hpb3 : p3.pb = p0.pb := by rw [hp3]; exact (Pc.put_same p2 1 _).1.trans Hpb2.out
  have Hl3 := Lib.hid (show Link c p3 by rw [hp3]; exact Hl2.out.put 1 _)
  have hs3 : p3.sl 1 = ⟨id6, 1⟩ := by rw [hp3]; exact sl_put (by omega) Hl2.out.len _
  have hne : k5 ≠ k6 := hk6 (102, k5, abB) (by simp)
  have hie : id5 ≠ id6 := hid6 (id5, k5, 2) (by simp)
  have hU := undoP (Q := Aw [(103, k6, ⟨#[]⟩), (102, k5, abB)] [(id5, k5, 2)] 6 8) Hl3.out (by omega) (i := 1) (by omega) (by rw [hs3]; exact h6a) (by
    rw [hs3]
    dsimp only
    have hil : 1 < p2.fds.length := by have := Hl2.out.len; omega
    rw [hp3, put_fd (by omega), f_slot hil, hf6, dl_self (by show 1 ≤ id6; omega), ← sl_fd (by omega) hil, Hs2.out, dl_0]
    rfl) (fun s y k a m hI hP hy ht => by
    rw [hs3]
    exact aw_del (aw_drop hP hI.tree.nd k) hI.nd (fun x hx => by rw [List.mem_singleton] at hx; rw [hx]; exact hie)) S7
  have HUn := p_undo_of _ (php_ph S7) (hU.mono fun e w' h => ⟨0, h.1, h⟩)
  rw [hpb3] at HUn
  have HUn := Lib.hid HUn
  have Hp3 := Lib.hid hp3
  have H6 := Lib.hid (And.intro hne hie)
  clear S7 r7' r6 HO2 hp3 hpb3 hU hf6 hk6 hid6 hne hie hs3
  go_wp2_with fail
  refine HUn.out.mono ?_
  rintro e w8 ⟨rfl, S8, r8'⟩
  have r8 := Lib.hid (Below.trans r7.out r8')
  have e4 : p3.put 1 ⟨id5, 0⟩ = p1 := by rw [Hp3.out, put_put _ (by omega), Hp2.out, put_put _ (by omega), Hp1.out, put_put _ (by omega)]
  rw [e4] at S8
  have S8 : Sat w8 (PHP c 30 b0 50 p1 [] [] (Aw [(102, k5, abB), (103, k6, ⟨#[]⟩)] [(id5, k5, 2)] 6 8) * RF) := php_imp (fun s => aw_swap) S8
  clear y0 y1 y2 y3 y4
  obtain ⟨y0, y1, y2, y3, y4⟩ := HC.out w8 _ S8
  have HW2 := o_write Hl1.out (by omega) (i := 1) (by omega) (t := abB) Hs1.out H5.out.1 (fun x hx => by rw [List.mem_singleton] at hx; rw [hx]; exact fun e => H6.out.1 e.symm) (fun x hx => by cases hx) cB (by decide) (by decide) (by decide) S8
  rw [Hpb1.out] at HW2
  have HW2 := Lib.hid HW2
  clear S8 r8' r7 HUn e4
  go_wp2_with fail
  refine HW2.out.mono ?_
  rintro e w9 ⟨rfl, S9, r9'⟩
  have r9 := Lib.hid (Below.trans r8.out r9')
  have S9 : Sat w9 (PHP c 31 b0 50 p1 [] [] (Aw [(102, k5, wrB abB 2 cB), (103, k6, ⟨#[]⟩)] [(id5, k5, 3)] 6 9) * RF) := S9
  have ewr : wrB abB 2 cB = abcB := by decide
  rw [ewr] at S9
  clear y0 y1 y2 y3 y4
  obtain ⟨y0, y1, y2, y3, y4⟩ := HC.out w9 _ S9
  have HWa := Lib.hid (o_walk (x := (102, k5, abcB)) (by omega) (by simp) (.inr (.inr (.inr (.inl rfl)))) hGF.out S9)
  clear S9 r9' r8 HW2 ewr
  go_wp2_with fail
  refine HWa.out.mono ?_
  rintro e w10 ⟨rfl, S10, r10'⟩
  have r10 := Lib.hid (Below.trans r9.out r10')
  clear y0 y1 y2 y3 y4
  obtain ⟨y0, y1, y2, y3, y4⟩ := HC.out w10 _ S10
  have hRd := o_read (x := (102, k5, abcB)) (by omega) (by simp) S10
  rw [show readB (102, k5, abcB).2.2 0 9 = abcB from (by decide : readB abcB 0 9 = abcB)] at hRd
  have HRd := Lib.hid hRd
  clear S10 r10' r9 HWa hRd
  go_wp2_with fail
  refine HRd.out.mono ?_
  rintro e w11 ⟨rfl, S11, r11'⟩
  have r11 := Lib.hid (Below.trans r10.out r11')
  clear y0 y1 y2 y3 y4
  obtain ⟨y0, y1, y2, y3, y4⟩ := HC.out w11 _ S11
  have HWb := Lib.hid (o_walk (x := (103, k6, ⟨#[]⟩)) (by omega) (by simp) (.inr (.inr (.inr (.inr rfl)))) hGF.out S11)
  clear S11 r11' r10 HRd
  go_wp2_with fail
  refine HWb.out.mono ?_
  rintro e w12 ⟨rfl, S12, r12'⟩
  have r12 := Lib.hid (Below.trans r11.out r12')
  clear y0 y1 y2 y3 y4
  obtain ⟨y0, y1, y2, y3, y4⟩ := HC.out w12 _ S12
  have hRe := o_read (x := (103, k6, ⟨#[]⟩)) (by omega) (by simp) S12
  rw [show readB (103, k6, (⟨#[]⟩ : ByteArray)).2.2 0 9 = ⟨#[]⟩ from (by decide : readB ⟨#[]⟩ 0 9 = ⟨#[]⟩)] at hRe
  have HRe := Lib.hid hRe
  clear S12 r12' r11 HWb hRe
  go_wp2_with fail
  refine HRe.out.mono ?_
  rintro e w13 ⟨rfl, S13, r13'⟩
  have r13 := Lib.hid (Below.trans r12.out r13')
  clear y0 y1 y2 y3 y4
  obtain ⟨y0, y1, y2, y3, y4⟩ := HC.out w13 _ S13
  have hHd := Handle_calls p1 1 Hl1.out.len w13 _ (php_pc S13)
  have hhas : hasP p1 1 = id5 := by
    unfold hasP
    rw [if_pos (by decide)]
    have hil : 1 < p1.fds.length := by have := Hl1.out.len; omega
    have e1 := Hs1.out
    rw [sl_fd (by omega) hil] at e1
    show (p1.fds.getD 1 ⟨0, 0⟩).has = id5
    rw [List.getD_eq_getElem?_getD, List.getElem?_eq_getElem hil, Option.getD_some, e1]
  have hid0 : ¬ id5 = 0 := by have := H5.out.1; omega
  rw [hhas, decide_eq_false hid0, Hpb1.out] at hHd
  have HHd := Lib.hid hHd
  have hrf : fOf b0 p1 [] id5 = 1 := by
    have hil : 1 < p0.fds.length := by have := H16.out; omega
    have h1 := H5.out.1
    rw [Hp1.out, put_fd (by omega), f_slot hil, Hf5.out, dl_self (by show 1 ≤ id5; omega), ← sl_fd (by omega) hil, Hsl0.out, dl_0]
    rfl
  have hSt := o_stat (n := id5) (by omega) (has_i64 ⟨by have := H5.out.1; omega, H5.out.2⟩) S13
  rw [hrf] at hSt
  have HSt := Lib.hid hSt
  have hop : nOpen p1.fds = 1 := by
    have hq : p1.fds = (List.replicate 16 ⟨0, 0⟩).set 1 ⟨id5, 0⟩ := by
      rw [Hp1.out, put_fd (by omega)]
      show p0.fds.set 1 _ = _
      rw [Hfds.out]
    rw [hq]
    show nOpen [⟨0, 0⟩, ⟨id5, 0⟩, ⟨0, 0⟩, ⟨0, 0⟩, ⟨0, 0⟩, ⟨0, 0⟩, ⟨0, 0⟩, ⟨0, 0⟩, ⟨0, 0⟩, ⟨0, 0⟩, ⟨0, 0⟩, ⟨0, 0⟩, ⟨0, 0⟩, ⟨0, 0⟩, ⟨0, 0⟩, ⟨0, 0⟩] = 1
    simp [nOpen, hid0]
  have Hop := Lib.hid hop
  clear S13 r13' r12 HRe hHd hSt hrf hhas hid0 hop
  go_wp2_with fail
  refine HHd.out.mono ?_
  rintro e w14 ⟨rfl, rfl⟩
  go_wp2_with fail
  refine HSt.out.mono ?_
  rintro e w15 ⟨⟨kk, aa, dd, mm, er, rfl⟩, S15, r15'⟩
  have S16 := S15.alloc (inO kk 1 aa dd mm)
  have r16 := Lib.hid (Ran.new (Below.trans r13.out r15') (inO kk 1 aa dd mm))
  obtain ⟨q0, q1, q2, q3, q4, q5, q6⟩ := in_cells S16
  have S17 := S16.right
  clear y0 y1 y2 y3 y4
  obtain ⟨y0, y1, y2, y3, y4⟩ := HC.out _ _ S17
  have hFd := Fds_calls p1 Hl1.out.len _ _ (php_pc S17)
  rw [Hop.out, Hpb1.out] at hFd
  have HFd := Lib.hid hFd
  clear S15 S16 S17 r15' r13 HSt hFd
  go_wp2_with fail
  refine HFd.out.mono ?_
  rintro e w18 ⟨⟨pa, cap, n, rfl, rfl⟩, S18, r18'⟩
  have S19 := Lib.hid (HE.out w18 _ (S18.perm (sep_assoc _ _ _).symm))
  have r18 := Lib.hid (Below.trans r16.out r18')
  go_wp2_with fail
  go_ret
  exact ⟨⟨rfl, S19.out⟩, r18.out⟩
end Go.Proofs.YteienbdbhnikbaaGreatDoor.Pr

namespace Go.Proofs.YteienbdbhnikbaaGreatDoor.Pr
open Go.ChangeShapes Go.WideShapes Go.ChangeAt Go.ChangeMaps Go.RowKit Go.Proofs.YteienbdbhnikbaaGreatDoor Go.Proofs.YteienbdbhnikbaaGreatDoor.Hp Go.Proofs.YteienbdbhnikbaaGreatDoor.Hd
set_option linter.unusedVariables false
attribute [local go_sem] Oper.semAt_some

theorem maxlen_cell (w : World) (h : w.ShapedOpen Tryz.prog) : ∃ m, w.cell? ⟨0, 0, none⟩ = some (.int .i64 m) :=
  Go.Proofs.cell_of_shapedOpen_int (zero := #[.int .i64 0]) (t := 3) h (of_decide_eq_true (by kernel_rfl)) (by kernel_rfl) rfl (by kernel_rfl) (by kernel_rfl) Tryz.underlying3
theorem glob_keep {W : World} (h : W.ShapedOpen Tryz.prog) : Glob (keep W) := by
  obtain ⟨m, hm⟩ := maxlen_cell W h
  refine ⟨m, fun w S hS => ?_⟩
  rw [← hm]
  exact World.cell?_of_block (w := W) (hS.right.kept 0 (World.block_lt_of_cell? _ _ hm))
/-- The wrap of a law's row that keeps what is laid and the world's shape. -/
theorem handed_shaped {H : Type} {enc : TypeId × Value → H} {a : Assume} {C : Checked} {os : Os} {f : FuncId} {fn : Func} {s : ChangeSpec} {conds : List PathCond} {apart fresh handsOn again : Bool} {X : World → Array Value → Prop}
    (hX : ∀ (w w' : World) (args : Array Value), w.heap = w'.heap → X w args → X w' args)
    (own : ownKnob C.prog.godebug = none) (started : os.Started) (noInit : C.prog.inits.idxOf? f = none) (hfn : C.prog.funcs[f]? = some fn)
    (witness : ∃ (w : World) (tape : Tape) (i : Input), w.os = os ∧ (w.forCall tape i).Shaped C.prog ∧ i.vars = [] ∧ Input.okWide C.prog (w.forCall tape i) .any w.heap.size f i ∧
      ((s.pre enc C.prog fn conds apart (w.forCall tape i).memory i.args ∧ X (w.forCall tape i).memory i.args) ∧ sizedMet enc C.prog fn (OpenSpec.ofChange s) apart (w.forCall tape i).memory i.args) ∧ a.holds C.prog (lone (Frame.enter C.prog f i.args .normal) [] (w.forCall tape i)))
    (contract : ∀ (W : World) (base : Nat) (args : Array Value) (ds gs : List (DataW H)) (before : List MemPlace),
      (∀ (j : Nat) t v, fn.params[j]? = some t → args[j]? = some v → Value.okWide C.prog W .any base t v) →
      DataW.Whole enc C.prog fn.params.toList s.vars apart W args.toList ds gs before →
      conds.all (PathCond.test C.prog ⟨fn.params.toList, ds, s.plain.varTypes C.prog, gs⟩) = true →
      (DataW.weightsEach C.prog (fn.params.toList ++ s.plain.varTypes C.prog) (ds ++ gs)).all (· ≤ reachBytes) = true → X W args →
      W.ShapedOpen C.prog →
      Calls C.prog f args W fun e W' => ∃ v, e = .returned v ∧ s.post enc C.prog fn apart fresh handsOn again W args v W') :
    ReturnsInHanded a C os f .any (fun w args => (s.pre enc C.prog fn conds apart w args ∧ X w args) ∧ sizedMet enc C.prog fn (OpenSpec.ofChange s) apart w args) (s.post enc C.prog fn apart fresh handsOn again) := by
  refine returnsInHanded_of_calls own started noInit witness ?_
  intro w tape i _ hsh _ hok hpre hholds
  obtain ⟨_, _, _, fn', hfn', _, _, _, _, hval⟩ := hok
  have e : fn' = fn := Option.some.inj (hfn'.symm.trans hfn)
  subst e
  obtain ⟨⟨⟨ds, gs, before, hw, hc⟩, hx⟩, hz⟩ := hpre
  have hw' := DataW.Whole.of_heap (w' := w.forCall tape i) (by rfl) hw
  refine (contract (w.forCall tape i) w.heap.size i.args ds gs before hval hw' hc (hz.weights hw) (hX _ _ _ (by rfl) hx) hsh).mono fun e W' ⟨v, he, hp⟩ => ?_
  subst he
  exact ChangeSpec.post_blind hp
theorem i64_of {x : Int} (h : (Lit.int .i64 x).wf = true) : I64 x := by
  simp [Lit.wf, IntKind.min, IntKind.max, IntKind.signed, IntKind.bits] at h
  exact ⟨by omega, by omega⟩
theorem cellsStr : Tryz.prog.cellsOf 9 = 1 := by kernel_rfl
theorem cellsI : Tryz.prog.cellsOf 3 = 1 := by kernel_rfl
theorem cellsOp : Tryz.prog.cellsOf 36 = 7 := by kernel_rfl
/-- A call of the laws. -/
structure Opr where
  ask : Int
  fd : Int
  frm : Int
  kind : Int
  n : Int
  path : ByteArray
  data : ByteArray
instance : Inhabited Opr := ⟨⟨0, 0, 0, 0, 0, ⟨#[]⟩, ⟨#[]⟩⟩⟩
def OkOp (o : Opr) : Prop := I64 o.ask ∧ I64 o.fd ∧ I64 o.frm ∧ I64 o.kind ∧ I64 o.n ∧ o.path.size ≤ maxLen ∧ o.data.size ≤ maxLen
def OpAt (w : World) (b q : Nat) (x : Opr) : Prop :=
  w.cell? ⟨b, q, none⟩ = some (.int .i64 x.ask) ∧ w.cell? ⟨b, q + 1, none⟩ = some (.int .i64 x.fd) ∧ w.cell? ⟨b, q + 2, none⟩ = some (.int .i64 x.frm) ∧ w.cell? ⟨b, q + 3, none⟩ = some (.int .i64 x.kind) ∧ w.cell? ⟨b, q + 4, none⟩ = some (.int .i64 x.n) ∧ w.cell? ⟨b, q + 5, none⟩ = some (.string x.path) ∧ w.cell? ⟨b, q + 6, none⟩ = some (.string x.data)
theorem OpAt.keep {w w' : World} {b q : Nat} {x : Opr} (h : OpAt w b q x) (hk : w'.heap[b]? = w.heap[b]?) : OpAt w' b q x := by
  obtain ⟨h0, h1, h2, h3, h4, h5, h6⟩ := h
  have hc : ∀ j, w'.cell? ⟨b, j, none⟩ = w.cell? ⟨b, j, none⟩ := fun j => World.cell?_of_block (w := w) hk
  exact ⟨by rw [hc]; exact h0, by rw [hc]; exact h1, by rw [hc]; exact h2, by rw [hc]; exact h3, by rw [hc]; exact h4, by rw [hc]; exact h5, by rw [hc]; exact h6⟩
def OpsAt (w : World) (ao : Option Addr) (l : List Opr) : Prop :=
  ∀ i (h : i < l.length), OkOp l[i] ∧ ∃ b o, ao = some ⟨b, o, none⟩ ∧ b < w.heap.size ∧ OpAt w b (o + i * 7) l[i]
section
variable {H : Type} {enc : TypeId × Value → H} {P : Program} {w : World} {base : Nat} {spare : Nat → Bool} {held : Bool}
theorem trod_struct7 {t : TypeId} {f0 f1 f2 f3 f4 f5 f6 : Field} {fuel : Nat} {cs : List Value} {x : DataW H × List MemPlace} (ht : P.underlying t = some (.struct #[f0, f1, f2, f3, f4, f5, f6])) (h : DataW.trod enc P w base spare held fuel t cs = some x) :
    ∃ y0 y1 y2 y3 y4 y5 y6 n, cs.length = P.cellsOf t ∧ DataW.trod enc P w base spare held n f0.type ((cs.drop f0.offset).take (P.cellsOf f0.type)) = some y0 ∧ DataW.trod enc P w base spare held n f1.type ((cs.drop f1.offset).take (P.cellsOf f1.type)) = some y1 ∧ DataW.trod enc P w base spare held n f2.type ((cs.drop f2.offset).take (P.cellsOf f2.type)) = some y2 ∧ DataW.trod enc P w base spare held n f3.type ((cs.drop f3.offset).take (P.cellsOf f3.type)) = some y3 ∧ DataW.trod enc P w base spare held n f4.type ((cs.drop f4.offset).take (P.cellsOf f4.type)) = some y4 ∧ DataW.trod enc P w base spare held n f5.type ((cs.drop f5.offset).take (P.cellsOf f5.type)) = some y5 ∧ DataW.trod enc P w base spare held n f6.type ((cs.drop f6.offset).take (P.cellsOf f6.type)) = some y6 := by
  obtain ⟨xs, n, _, rfl, hl, hlen, hf⟩ := DataW.trod_struct ht h
  match xs, hlen with
  | [y0, y1, y2, y3, y4, y5, y6], _ => exact ⟨y0, y1, y2, y3, y4, y5, y6, n, hl, by simpa using hf 0 f0 rfl, by simpa using hf 1 f1 rfl, by simpa using hf 2 f2 rfl, by simpa using hf 3 f3 rfl, by simpa using hf 4 f4 rfl, by simpa using hf 5 f5 rfl, by simpa using hf 6 f6 rfl⟩
end
theorem op_open {H : Type} {enc : TypeId × Value → H} {W : World} {base : Nat} {spare : Nat → Bool} {held : Bool} {n : Nat} {c0 c1 c2 c3 c4 c5 c6 : Value} {y : DataW H × List MemPlace} (h : DataW.trod enc Tryz.prog W base spare held n 36 [c0, c1, c2, c3, c4, c5, c6] = some y) :
    ∃ x : Opr, OkOp x ∧ c0 = .int .i64 x.ask ∧ c1 = .int .i64 x.fd ∧ c2 = .int .i64 x.frm ∧ c3 = .int .i64 x.kind ∧ c4 = .int .i64 x.n ∧ c5 = .string x.path ∧ c6 = .string x.data := by
  obtain ⟨y0, y1, y2, y3, y4, y5, y6, m, _, h0, h1, h2, h3, h4, h5, h6⟩ := trod_struct7 Tryz.underlying36 h
  simp only [cellsI, cellsStr, List.drop_zero, List.drop_succ_cons, List.take_succ_cons, List.take_zero] at h0 h1 h2 h3 h4 h5 h6
  obtain ⟨a0, e0, _, w0⟩ := DataW.trod_int Tryz.underlying3 h0
  obtain ⟨a1, e1, _, w1⟩ := DataW.trod_int Tryz.underlying3 h1
  obtain ⟨a2, e2, _, w2⟩ := DataW.trod_int Tryz.underlying3 h2
  obtain ⟨a3, e3, _, w3⟩ := DataW.trod_int Tryz.underlying3 h3
  obtain ⟨a4, e4, _, w4⟩ := DataW.trod_int Tryz.underlying3 h4
  obtain ⟨s5, e5, _, w5⟩ := DataW.trod_string Tryz.underlying9 h5
  obtain ⟨s6, e6, _, w6⟩ := DataW.trod_string Tryz.underlying9 h6
  simp only [List.cons.injEq, and_true] at e0 e1 e2 e3 e4 e5 e6
  exact ⟨⟨a0, a1, a2, a3, a4, s5, s6⟩, ⟨i64_of w0, i64_of w1, i64_of w2, i64_of w3, i64_of w4, w5, w6⟩, e0, e1, e2, e3, e4, e5, e6⟩
set_option maxRecDepth 100000 in
theorem ops_open {H : Type} {enc : TypeId × Value → H} {W : World} {r : Reach} {b0 base : Nat} {spare : Nat → Bool} {held : Bool} {v : Value} {d : DataW H} {p : List MemPlace} (hv : Value.okWide Tryz.prog W r b0 22 v)
    (h : DataW.Trod enc Tryz.prog W base spare held 22 v d p) : ∃ ao l cap, v = .slice ao (List.length l) cap ∧ OpsAt W ao l := by
  obtain ⟨ao, len, cap, rfl⟩ := okWide_slice Tryz.underlying22 hv
  obtain ⟨fuel, hf⟩ := h
  rcases Deep.open_slice Tryz.underlying22 hf with ⟨hcs, _⟩ | ⟨a, len', cap', m, n, D, Pl, hcs, _, hl, _, hm, _, hx⟩
  · simp [Value.cells] at hcs
    obtain ⟨rfl, rfl, rfl⟩ := hcs
    exact ⟨none, [], 0, rfl, fun i hi => by simp at hi⟩
  · simp [Value.cells] at hcs
    obtain ⟨rfl, rfl, rfl⟩ := hcs
    have hlm : len ≤ m := by rw [hm]; split <;> omega
    have key : ∀ i, i < len → ∃ x : Opr, OkOp x ∧ W.cell? ((a.add (i * 7)).add 0) = some (.int .i64 x.ask) ∧ W.cell? ((a.add (i * 7)).add 1) = some (.int .i64 x.fd) ∧ W.cell? ((a.add (i * 7)).add 2) = some (.int .i64 x.frm) ∧ W.cell? ((a.add (i * 7)).add 3) = some (.int .i64 x.kind) ∧ W.cell? ((a.add (i * 7)).add 4) = some (.int .i64 x.n) ∧ W.cell? ((a.add (i * 7)).add 5) = some (.string x.path) ∧ W.cell? ((a.add (i * 7)).add 6) = some (.string x.data) := fun i hi => by
      obtain ⟨cs, hc, ht⟩ := hx i (by omega)
      rw [cellsOp] at hc
      obtain ⟨_, hlen, hat⟩ := World.cells?_some hc
      match cs, hlen, ht with
      | [c0, c1, c2, c3, c4, c5, c6], _, ht =>
        obtain ⟨x, ok, rfl, rfl, rfl, rfl, rfl, rfl, rfl⟩ := op_open ht
        exact ⟨x, ok, hat 0 (by omega), hat 1 (by omega), hat 2 (by omega), hat 3 (by omega), hat 4 (by omega), hat 5 (by omega), hat 6 (by omega)⟩
    obtain ⟨f, hfx⟩ := Deep.choose_lt key
    refine ⟨some a, (List.range len).map f, cap, by simp, fun i hi => ?_⟩
    have hi' : i < len := by simpa using hi
    obtain ⟨b, o, s⟩ := a
    have hs : s = none := by
      have h00 := (hfx 0 (by omega)).2.1
      simp [Addr.add] at h00
      simpa using World.cell?_spot h00
    subst hs
    obtain ⟨ok, h0, h1, h2, h3, h4, h5, h6⟩ := hfx i hi'
    have e : ((List.range len).map f)[i] = f i := by simp
    rw [e]
    simp only [Addr.add_lit, Nat.add_zero] at h0 h1 h2 h3 h4 h5 h6
    exact ⟨ok, b, o, rfl, World.block_lt_of_cell? W _ h0, h0, h1, h2, h3, h4, h5, h6⟩
abbrev opA (x : Opr) : Value := .agg #[.int .i64 x.ask, .int .i64 x.fd, .int .i64 x.frm, .int .i64 x.kind, .int .i64 x.n, .string x.path, .string x.data]
abbrev opO (x : Opr) : Obj := .cells #[.int .i64 x.ask, .int .i64 x.fd, .int .i64 x.frm, .int .i64 x.kind, .int .i64 x.n, .string x.path, .string x.data] 36 (0, 0)
theorem op_cells {w : World} {b : Nat} {o : Opr} {S : Hp} (h : Sat w (pts b (opO o) * S)) : OpAt w b 0 o :=
  ⟨by rw [cell_at h.get]; rfl, by rw [cell_at h.get]; rfl, by rw [cell_at h.get]; rfl, by rw [cell_at h.get]; rfl, by rw [cell_at h.get]; rfl, by rw [cell_at h.get]; rfl, by rw [cell_at h.get]; rfl⟩
/-- Which call it is. -/
def askI (o : Opr) : Int := o.ask % 12
theorem ask_math (x : Int) : (x.tmod 12 + 12).tmod 12 = x % 12 := by
  rcases Int.lt_or_le x 0 with h | h
  · obtain ⟨n, rfl⟩ : ∃ n : Nat, x = -(n : Int) := ⟨x.natAbs, by omega⟩
    rw [Int.neg_tmod]
    have h1 : ((n : Int)).tmod 12 = ((n % 12 : Nat) : Int) := by rw [Int.tmod_eq_emod_of_nonneg (by omega)]; omega
    rw [h1, Int.tmod_eq_emod_of_nonneg (by omega)]
    omega
  · rw [Int.tmod_eq_emod_of_nonneg h, Int.tmod_eq_emod_of_nonneg (by omega)]
    omega
theorem tmod_range (a : Int) : -12 < a.tmod 12 ∧ a.tmod 12 < 12 := by
  rcases Int.le_total 0 a with h | h
  · rw [Int.tmod_eq_emod_of_nonneg h]; omega
  · have e : a = -(-a) := by omega
    rw [e, Int.neg_tmod, Int.tmod_eq_emod_of_nonneg (by omega)]; omega
theorem kind_eq (a : Int) : (wrap64 (a.tmod 12 + 12)).tmod 12 = a % 12 := by
  obtain ⟨h1, h2⟩ := tmod_range a
  rw [show wrap64 (a.tmod 12 + 12) = a.tmod 12 + 12 by unfold wrap64; omega, ask_math]
set_option maxRecDepth 100000 in
theorem ask_calls (o : Opr) (w : World) : Calls Tryz.prog 10 #[opA o] w fun e w' => e = .returned (.int .i64 (askI o)) ∧ w' = w.alloc (opO o) := by
  have S1 := (Sat.start w).alloc (opO o)
  obtain ⟨e0, e1, e2, e3, e4, e5, e6⟩ := op_cells S1
  have hk := kind_eq o.ask
  obtain ⟨oa, ofd, ofr, okd, on, opt, od⟩ := o
  dsimp only at e0 e1 e2 e3 e4 e5 e6 hk
  clear S1
  go_enter Tryz.func10, Tryz.ntmps10
  go_wp2_with fail
  go_ret
  exact ⟨rfl, rfl⟩
def FewO (o : Opr) : Prop := o.path.size ≤ 100 ∧ o.data.size ≤ 100
def FewP (l : List Opr) : Prop := l.length ≤ 50 ∧ ∀ o ∈ l, FewO o
def FewSays (l : List Opr) (w : World) (e : Ending) (w' : World) : Prop := (∃ r, e = .returned (.bool r) ∧ (r = true → FewP l)) ∧ w = w'
set_option maxRecDepth 100000 in
set_option maxHeartbeats 16000000 in
theorem few_calls (l : List Opr) (ao : Option Addr) (cap : Nat) (w : World) (hl : OpsAt w ao l) :
    Calls Tryz.prog 7 #[.slice ao l.length cap] w (FewSays l w) := by
  have HL := Lib.hid hl
  clear hl
  by_cases h50 : 50 < l.length
  · have h50I : (50 : Int) < l.length := by omega
    go_enter Tryz.func7, Tryz.ntmps7
    go_wp2_with fail
    go_ret
    exact ⟨⟨false, rfl, fun h => by cases h⟩, rfl⟩
  have h50I : (l.length : Int) ≤ 50 := by omega
  have H50 := Lib.hid (show l.length ≤ 50 by omega)
  go_enter Tryz.func7, Tryz.ntmps7
  go_wp2_with fail
  go_loopg [3] (l.length) (fun (g : Nat) (v3 : Value) (wr : World) => ∃ i : Nat, v3 = .int .i64 (i : Int) ∧ i + g = l.length ∧ (∀ j (h : j < l.length), j < i → FewO l[j]) ∧ w = wr)
  case atStart => exact ⟨0, rfl, by omega, fun j _ h => absurd h (Nat.not_lt_zero _), rfl⟩
  case round =>
    obtain ⟨i, rfl, hg, hok, rfl⟩ := hrel
    by_cases hlt : i < l.length
    · have hltI : (i : Int) < l.length := by omega
      have hi0 : (0 : Int) ≤ i := by omega
      obtain ⟨okx, b, o, rfl, hb, e0, e1, e2, e3, e4, e5, e6⟩ := HL.out i hlt
      obtain ⟨x, hx⟩ : ∃ x, x = l[i] := ⟨_, rfl⟩
      rw [← hx] at okx e0 e1 e2 e3 e4 e5 e6
      have Hx := Lib.hid hx
      have Hok := Lib.hid hok
      have hk : (x.data.size : Int) ≤ 9223372036854775807 := by have := okx.2.2.2.2.2.2; unfold maxLen at this; omega
      have hk0 : (x.path.size : Int) ≤ 9223372036854775807 := by have := okx.2.2.2.2.2.1; unfold maxLen at this; omega
      clear okx hx hok hb e0 e1 e2 e3 e4
      by_cases hp1 : 100 < x.path.size
      · have hp1I : (100 : Int) < (x.path.size : Int) := by omega
        go_wp2_with fail
        go_ret
        exact ⟨⟨false, rfl, fun h => by cases h⟩, rfl⟩
      have hp1I : ¬ (100 : Int) < (x.path.size : Int) := by omega
      by_cases hp2 : 100 < x.data.size
      · have hp2I : (100 : Int) < (x.data.size : Int) := by omega
        go_wp2_with fail
        go_ret
        exact ⟨⟨false, rfl, fun h => by cases h⟩, rfl⟩
      have hp2I : ¬ (100 : Int) < (x.data.size : Int) := by omega
      have HF := Lib.hid (show x.path.size ≤ 100 ∧ x.data.size ≤ 100 by omega)
      go_wp2_with fail
      go_roundg (gk - 1)
      case rel =>
        refine ⟨i + 1, by simp, by omega, fun q hq hqj => ?_, rfl⟩
        by_cases hqi : q = i
        · subst hqi
          show l[q].path.size ≤ 100 ∧ l[q].data.size ≤ 100
          rw [← Hx.out]; exact HF.out
        · exact Hok.out q hq (by omega)
      case measure => omega
    · have hge : (l.length : Int) ≤ i := by omega
      have Hok := Lib.hid hok
      have hn : l.length ≤ i := by omega
      have HN := Lib.hid hn
      clear hok hn
      go_wp2_with fail
      go_ret
      exact ⟨⟨true, rfl, fun _ => ⟨H50.out, fun o ho => by
        obtain ⟨j, hj, rfl⟩ := List.mem_iff_getElem.1 ho
        exact Hok.out j hj (by have := HN.out; omega)⟩⟩, rfl⟩
end Go.Proofs.YteienbdbhnikbaaGreatDoor.Pr

