/- HandlesPlays, part 18 of 31: the texts NeB PmB, joined by a program. -/
import Derived.Test.YteienbdbhnikbaaGreatDoorPw17
import Derived.Test.YteienbdbhnikbaaGreatDoorPw15
import Derived.Test.YteienbdbhnikbaaGreatDoorPw16
namespace Go.Proofs.YteienbdbhnikbaaGreatDoor.Hd
open Go.RowKit Go.Maps Go.Proofs.YteienbdbhnikbaaGreatDoor Go.Proofs.YteienbdbhnikbaaGreatDoor.Hp
set_option linter.unusedVariables false
attribute [local go_sem] Oper.semAt_some

theorem step_err (F : Fs) (d : Int) (s : ByteArray) : (stepP F d s).2 ≤ 21 := by
  have tell : ∀ n : Int, (tellP n).2 ≤ 21 := fun n => by
    unfold tellP
    split
    · show (10 : Int) ≤ 21; decide
    · show (0 : Int) ≤ 21; decide
  unfold stepP
  cases find F.L d with
  | none => show (12 : Int) ≤ 21; decide
  | some x =>
    dsimp only
    split
    · split
      · exact tell _
      split
      · exact tell _
      split
      · show (16 : Int) ≤ 21; decide
      · exact tell _
    · show (12 : Int) ≤ 21; decide
theorem begin_err (d : Int) (s : ByteArray) : (beginP d s).2 ≤ 21 := by
  unfold beginP
  split
  · show (10 : Int) ≤ 21; decide
  split
  · show (21 : Int) ≤ 21; decide
  split <;> (show (0 : Int) ≤ 21; decide)
theorem loop_err (F : Fs) : ∀ (g : Nat) (links at_ : Int) (path : List UInt8) (follow : Bool), (loopP F g links at_ path follow).1.2 ≤ 21
  | 0, links, _, _, _ => by show (17 : Int) ≤ 21; decide
  | g + 1, links, at_, path, follow => by
    have ih := loop_err F g
    have fin : ∀ rest more n lk, (finP F g rest more follow n lk).1.2 ≤ 21 := by
      intro rest more n lk
      unfold finP
      split
      · show (0 : Int) ≤ 21; decide
      · split
        · show (12 : Int) ≤ 21; decide
        · exact ih _ _ _ _
    have wr : ∀ lk s f, (walkR F g lk at_ s f).1.2 ≤ 21 := fun lk s f => by
      unfold walkR
      split
      · exact begin_err _ _
      · exact ih _ _ _ _
    obtain ⟨p, r, m, hc⟩ : ∃ p r m, Lib.cut (Lib.trimLeftB path 47) [47] = (p, r, m) := ⟨_, _, _, rfl⟩
    by_cases hp : p = []
    · subst hp
      rw [loop_end hc]
      show (0 : Int) ≤ 21; decide
    by_cases hs : (stepP F at_ ⟨p.toArray⟩).2 = 0
    · cases hk : (isK F (stepP F at_ ⟨p.toArray⟩).1 3 && (m || follow)) with
      | false =>
        rw [loop_plain hc hp hs hk]
        exact fin _ _ _ _
      | true =>
        by_cases h8 : 8 < links + 1
        · rw [loop_many hc hp hs hk h8]
          show (17 : Int) ≤ 21; decide
        · rw [loop_link hc hp hs hk h8 _ rfl]
          split
          · exact wr _ _ _
          · exact fin _ _ _ _
    · rw [loop_bad hc hp hs]
      exact step_err _ _ _
theorem walkR_err (F : Fs) (g : Nat) (links at_ : Int) (s : ByteArray) (follow : Bool) : (walkR F g links at_ s follow).1.2 ≤ 21 := by
  unfold walkR
  split
  · exact begin_err _ _
  · exact loop_err _ _ _ _ _ _
theorem walk_err (F : Fs) (d : Int) (s : ByteArray) (follow : Bool) : (WalkP F d s follow).2 ≤ 21 := by
  unfold WalkP
  split
  · show (1 : Int) ≤ 21; decide
  · exact walkR_err _ _ _ _ _ _
theorem last_err (F : Fs) (d : Int) (s : ByteArray) : (lastP F d s).2.2.2 ≤ 21 := by
  unfold lastP
  split
  · show (1 : Int) ≤ 21; decide
  split
  · exact begin_err _ _
  split
  · show (0 : Int) ≤ 21; decide
  split
  · exact walkR_err _ _ _ _ _ _
  · show (0 : Int) ≤ 21; decide
theorem smap_pos {w : World} {b sz n : Nat} {M : K.SM} {S : Hp} (h : Sat w (K.smap b M sz n * S)) {k : ByteArray} (hM : (M k).isSome = true) : 1 ≤ sz := by
  obtain ⟨D, hR, h⟩ := K.smap_out h
  obtain ⟨hO, _⟩ := K.mapD_out h
  have := size_del (k := K.kl k) (hO.tidy K.strKey)
  rw [hR.has, hM, hR.size, if_pos rfl] at this
  omega
theorem upd_upd : ∀ (L : NL) (k : Int) (x y : Nd), upd (upd L k x) k y = upd L k y
  | [], _, _, _ => rfl
  | p :: L, k, x, y => by
    by_cases e : p.1 = k
    · simp [upd, e]
    · simp [upd, e, upd_upd L k x y]
theorem step_kid {F : Fs} {d : Int} {s : ByteArray} (hs : (stepP F d s).2 = 0) (h1 : s ≠ dotB) (h2 : s ≠ dotsB) : ∃ x kd, find F.L d = some x ∧ x.kids = some kd ∧ kd.M s = some (stepP F d s).1 := by
  unfold stepP at hs ⊢
  cases hx : find F.L d with
  | none => rw [hx] at hs; cases hs
  | some x =>
    rw [hx] at hs
    dsimp only at hs ⊢
    by_cases hk : x.kind = 1
    · rw [if_pos hk, if_neg h1, if_neg h2] at hs ⊢
      by_cases h3 : rightB s = false
      · rw [if_pos h3] at hs; cases hs
      rw [if_neg h3] at hs ⊢
      unfold tellP at hs ⊢
      by_cases h4 : kidP x s = 0
      · rw [if_pos h4] at hs; cases hs
      rw [if_neg h4]
      unfold kidP at h4 ⊢
      cases hkd : x.kids with
      | none => rw [hkd] at h4; exact absurd rfl h4
      | some kd =>
        rw [hkd] at h4
        dsimp only at h4 ⊢
        cases hv : kd.M s with
        | none => rw [hv] at h4; exact absurd rfl h4
        | some v => exact ⟨x, kd, rfl, hkd, hv⟩
    · rw [if_neg hk] at hs; cases hs
/-- What Remove does. -/
inductive RemR (F : Fs) : Int → Fs → Prop
  | no (er : Int) : er ≠ 0 → er ≠ 43 → RemR F er F
  | ok (dir : Int) (x : Nd) (kd : Kd) (part : ByteArray) (n : Int) (y : Nd) : find F.L dir = some x → x.kids = some kd → kd.M part = some n → find F.L n = some y → (∀ t v, ¬ Ref F n t v) → RemR F 0 (sweepG (takenF F dir x kd part n y) n { y with names := y.names - 1, par := 0 })
set_option maxRecDepth 100000 in
set_option maxHeartbeats 8000000 in
theorem RemoveN_calls (fb mb N : Nat) (F : Fs) (hT : TreeG N F) (hN : N ≤ 1000000) (d : Int) (s : ByteArray) (w : World) (R : Hp) (hd : I64 d) (hs : s.size ≤ 1000000) (hG : Glob R) (h : Sat w (fsHp fb mb F * R)) :
    Calls Tryz.prog 43 #[pp fb, .int .i64 d, .string s] w fun e w' => ∃ er F', e = .returned (.int .i64 er) ∧ RemR F er F' ∧ Sat w' (fsHp fb mb F' * R) ∧ Ran w w' := by
  have HL := lastN_calls fb mb F (hT.ok hN) hT.nums d s w R hd hs hG h
  have hps := last_part F d s
  have hin := @TreeG.last_in N F hT d s
  have hi := last_i64 hT.nums hd s
  have hle := last_err F d s
  obtain ⟨dir, hdir⟩ : ∃ x, x = (lastP F d s).1 := ⟨_, rfl⟩
  obtain ⟨part, hpart⟩ : ∃ x, x = (lastP F d s).2.1 := ⟨_, rfl⟩
  obtain ⟨st, hst⟩ : ∃ x, x = (lastP F d s).2.2.1 := ⟨_, rfl⟩
  obtain ⟨er, her⟩ : ∃ x, x = (lastP F d s).2.2.2 := ⟨_, rfl⟩
  rw [← hdir, ← hpart, ← hst, ← her] at HL
  rw [← her] at hle
  rw [← hdir] at hi
  rw [← hpart] at hps
  clear hdir hpart hst her h hd hG hin
  by_cases hz : er ≠ 0
  · have HL := Lib.hid HL
    have Hle := Lib.hid hle
    clear hi hps hT hle
    go_enter Tryz.func43, Tryz.ntmps43
    go_wp2_with fail
    refine HL.out.mono ?_
    rintro e w1 ⟨⟨rfl, S1⟩, R1⟩
    have S1 := Lib.hid S1
    have R1 := Lib.hid R1
    go_wp2_with fail
    go_ret
    exact ⟨er, F, rfl, .no er hz (fun e => by have := Hle.out; omega), S1.out, R1.out⟩
  have hz : er = 0 := by simpa using hz
  subst hz
  have HL := Lib.hid HL
  clear hle
  have hps : part.size ≤ 1000000 := Nat.le_trans hps hs
  have HS0 := fun (W : World) (hW : Sat W (fsHp fb mb F * R)) => stepN_calls fb mb F dir part hi hps W R hW
  have hse := step_err F dir part
  have hsi := step_i64 hT.nums hi part
  have hsin := @TreeG.step_in N F hT dir part
  have hsk := @step_kid F dir part
  obtain ⟨n, hn⟩ : ∃ x, x = (stepP F dir part).1 := ⟨_, rfl⟩
  obtain ⟨q, hq⟩ : ∃ x, x = (stepP F dir part).2 := ⟨_, rfl⟩
  rw [← hn, ← hq] at HS0 hsin hsk
  rw [← hq] at hse
  rw [← hn] at hsi
  have HS := Lib.hid HS0
  clear hn hq HS0 hs
  have HT := Lib.hid hT
  have Hi := Lib.hid hi
  have Hni := Lib.hid hsi
  have HI0 := fun (W : World) (hW : Sat W (fsHp fb mb F * R)) => is_calls fb mb F n 1 Hni.out W R hW
  clear hi hT hsi
  by_cases hp0 : part = ⟨#[]⟩
  · subst hp0
    clear HS hps hsin hsk HI0
    go_enter Tryz.func43, Tryz.ntmps43
    go_wp2_with fail
    refine HL.out.mono ?_
    rintro e w1 ⟨⟨rfl, S1⟩, R1⟩
    have S1 := Lib.hid S1
    have R1 := Lib.hid R1
    go_wp2_with fail
    go_ret
    exact ⟨1, F, rfl, .no 1 (by decide) (by decide), S1.out, R1.out⟩
  by_cases hp1 : part = dotB
  · subst hp1
    clear HS hps hsin hsk HI0
    go_enter Tryz.func43, Tryz.ntmps43
    go_wp2_with fail
    refine HL.out.mono ?_
    rintro e w1 ⟨⟨rfl, S1⟩, R1⟩
    have S1 := Lib.hid S1
    have R1 := Lib.hid R1
    go_wp2_with fail
    go_ret
    exact ⟨1, F, rfl, .no 1 (by decide) (by decide), S1.out, R1.out⟩
  by_cases hp2 : part = dotsB
  · subst hp2
    clear HS hps hsin hsk HI0
    go_enter Tryz.func43, Tryz.ntmps43
    go_wp2_with fail
    refine HL.out.mono ?_
    rintro e w1 ⟨⟨rfl, S1⟩, R1⟩
    have S1 := Lib.hid S1
    have R1 := Lib.hid R1
    go_wp2_with fail
    go_ret
    exact ⟨1, F, rfl, .no 1 (by decide) (by decide), S1.out, R1.out⟩
  have e0 := ba_ne hp0
  have e1 := ba_ne hp1
  have e2 := ba_ne hp2
  rw [show (ByteArray.toList ⟨#[]⟩) = ([] : List UInt8) by rw [ByteArray.toList_eq]] at e0
  rw [show (ByteArray.toList dotB) = ([46] : List UInt8) by rw [ByteArray.toList_eq]] at e1
  rw [show (ByteArray.toList dotsB) = ([46, 46] : List UInt8) by rw [ByteArray.toList_eq]] at e2
  by_cases hq0 : q = 0
  case neg =>
    have Hse := Lib.hid hse
    clear hse hsin hsk HI0 hp0 hp1 hp2
    go_enter Tryz.func43, Tryz.ntmps43
    go_wp2_with fail
    refine HL.out.mono ?_
    rintro e w1 ⟨⟨rfl, S1⟩, R1⟩
    have S1 := Lib.hid S1
    have R1 := Lib.hid R1
    go_wp2_with fail
    refine (HS.out w1 S1.out).mono ?_
    rintro e w2 ⟨rfl, rfl⟩
    clear HS
    go_wp2_with fail
    go_ret
    exact ⟨q, F, rfl, .no q hq0 (fun e => by have := Hse.out; omega), S1.out, R1.out⟩
  subst hq0
  obtain ⟨y, hy⟩ := hsin rfl
  obtain ⟨x, kd, hx, hkd, hM⟩ := hsk rfl hp1 hp2
  have hkl : ksz y.kids ≤ 1000000 := (HT.out.ok hN n y hy).kids
  have Hy := Lib.hid hy
  have Hx := Lib.hid hx
  have Hkd := Lib.hid hkd
  have HM := Lib.hid hM
  clear hse hsin hsk hp0 hp1 hp2 hy hx hkd hM
  cases st with
  | false =>
    by_cases hz : ksz y.kids = 0
    · have Hz := Lib.hid hz
      go_enter Tryz.func43, Tryz.ntmps43
      go_wp2_with fail
      refine HL.out.mono ?_
      rintro e w1 ⟨⟨rfl, S1⟩, R1⟩
      have S1 := Lib.hid S1
      have R1 := Lib.hid R1
      go_wp2_with fail
      refine (HS.out w1 S1.out).mono ?_
      rintro e w2 ⟨rfl, rfl⟩
      clear HS
      obtain ⟨c0, c1, c2, c3⟩ := fs_cells S1.out
      have hl := fs_look S1.out n Hni.out
      rw [show blk F.L n = some y.b by unfold blk; rw [Hy.out]; rfl] at hl
      unfold pv at hl
      obtain ⟨X0, SX, -⟩ := fs_node S1.out Hy.out
      obtain ⟨d0, d1, d2, d3, d4, d5⟩ := nd_cells SX
      have hlen0 := kids_len (SX.perm (show _ = kidsHp y.kids * (pts y.b (ndO y) * (pts fb (fsO F mb) * (X0 * R))) by ac_rfl))
      have hlen : ∀ ty, (Builtin.len_ #[116] ty #[kv y.kids]).run Tryz.prog w1 = .ok (.int .i64 0) w1 := fun ty => by rw [hlen0 ty, hz]; rfl
      clear hz hlen0
      obtain ⟨sz, hsz⟩ : ∃ sz, kd.sz = sz + 1 := by
        obtain ⟨X1, SY, -⟩ := fs_node S1.out Hx.out
        rw [Hkd.out] at SY
        have := smap_pos (SY.perm (show _ = K.smap kd.b kd.M kd.sz kd.n * (pts x.b (ndO x) * (pts fb (fsO F mb) * (X1 * R))) by show pts x.b (ndO x) * (K.smap kd.b kd.M kd.sz kd.n * _) = _; ac_rfl)) (k := part) (by rw [HM.out]; rfl)
        exact ⟨kd.sz - 1, by omega⟩
      have hno : ∀ t v, ¬ Ref F n t v := by
        rintro t v ⟨y1, k1, h1, h2, h3⟩
        rw [Hy.out] at h1; injection h1 with h1; subst h1
        rw [h2] at SX Hz
        have := smap_pos (SX.perm (show _ = K.smap k1.b k1.M k1.sz k1.n * (pts y.b (ndO y) * (pts fb (fsO F mb) * (X0 * R))) by show pts y.b (ndO y) * (K.smap k1.b k1.M k1.sz k1.n * _) = _; ac_rfl)) (k := t) (by rw [h3]; rfl)
        have hz : k1.sz = 0 := Hz.out
        omega
      have hnd : n ≠ dir := fun e => hno part n (by rw [e]; exact ⟨x, kd, Hx.out, Hkd.out, by rw [← e]; exact HM.out⟩)
      have hS1 := S1.out
      -- the name taken away
      obtain ⟨X1, SY, backY⟩ := fs_node hS1 Hx.out
      obtain ⟨-, -, x2, -⟩ := nd_cells SY
      have hlx := fs_look hS1 dir Hi.out
      rw [show blk F.L dir = some x.b by unfold blk; rw [Hx.out]; rfl] at hlx
      unfold pv at hlx
      rw [Hkd.out] at x2 SY
      unfold kv at x2
      dsimp only at x2
      rw [show kidsHp (some kd) = K.smap kd.b kd.M (sz + 1) kd.n by show K.smap kd.b kd.M kd.sz kd.n = _; rw [hsz]] at SY
      obtain ⟨w3, hdel, S3, R3⟩ := K.smap_del (SY.perm (show _ = K.smap kd.b kd.M (sz + 1) kd.n * (pts x.b (ndO x) * (pts fb (fsO F mb) * (X1 * R))) by ac_rfl)) part (by unfold maxLen; omega) (by rw [HM.out]; rfl) 0
      obtain ⟨xd, hxd⟩ : ∃ xd : Nd, xd = { x with kids := some { kd with M := K.delM kd.M part, sz := kd.sz - 1 } } := ⟨_, rfl⟩
      have S4 := backY w3 xd { F with L := upd F.L dir xd } R (by rw [hxd]) rfl rfl (S3.perm (by
        rw [hxd, hsz]
        show K.smap kd.b (K.delM kd.M part) sz kd.n * (pts x.b (ndO x) * _) = pts x.b (ndO { x with kids := some { kd with M := K.delM kd.M part, sz := sz + 1 - 1 } }) * (K.smap kd.b (K.delM kd.M part) (sz + 1 - 1) kd.n * _)
        rw [show ndO { x with kids := some { kd with M := K.delM kd.M part, sz := sz + 1 - 1 } } = ndO x by unfold ndO; rw [Hkd.out]; rfl]
        show K.smap kd.b (K.delM kd.M part) sz kd.n * (pts x.b (ndO x) * (pts fb (fsO F mb) * (X1 * R))) = pts x.b (ndO x) * (K.smap kd.b (K.delM kd.M part) sz kd.n * (pts fb (fsO F mb) * (X1 * R)))
        ac_rfl))
      have hyn : find (upd F.L dir xd) n = some y := by rw [find_upd F.L dir n _ (by rw [Hx.out]; rfl), if_neg hnd]; exact Hy.out
      obtain ⟨-, -, -, e3⟩ := fs_cells S4
      have hl4 := fs_look S4 n Hni.out
      rw [show blk (upd F.L dir xd) n = some y.b by unfold blk; rw [hyn]; rfl] at hl4
      unfold pv at hl4
      -- its names
      obtain ⟨X4, SZ, backZ⟩ := fs_node S4 hyn
      obtain ⟨-, -, -, -, y4, -⟩ := nd_cells SZ
      have z4 : ∀ i, w3.frozen? ⟨y.b, i, none⟩ = false := fun i => free_at SZ.get i
      obtain ⟨w4, hw4⟩ : ∃ w4, w4 = w3.setCell ⟨y.b, 4, none⟩ (.int .i64 (y.names - 1)) := ⟨_, rfl⟩
      have S5 := backZ w4 { y with names := y.names - 1 } { F with L := upd (upd F.L dir xd) n { y with names := y.names - 1 } } R rfl rfl rfl (by rw [hw4]; exact SZ.set (i := 4) (.int .i64 (y.names - 1)))
      have hyn5 : find (upd (upd F.L dir xd) n { y with names := y.names - 1 }) n = some { y with names := y.names - 1 } := by rw [find_upd _ n n _ (by rw [hyn]; rfl), if_pos rfl]
      obtain ⟨-, -, -, e5⟩ := fs_cells S5
      have hl5 := fs_look S5 n Hni.out
      rw [show blk (upd (upd F.L dir xd) n { y with names := y.names - 1 }) n = some y.b by unfold blk; rw [hyn5]; rfl] at hl5
      unfold pv at hl5
      -- its parent
      obtain ⟨X5, SW, backW⟩ := fs_node S5 hyn5
      obtain ⟨-, -, -, y5, -, -⟩ := nd_cells SW
      have z5 : ∀ i, w4.frozen? ⟨y.b, i, none⟩ = false := fun i => free_at SW.get i
      obtain ⟨w5, hw5⟩ : ∃ w5, w5 = w4.setCell ⟨y.b, 3, none⟩ (.int .i64 0) := ⟨_, rfl⟩
      have S6 := backW w5 { y with names := y.names - 1, par := 0 } (takenF F dir x kd part n y) R rfl (by
        unfold takenF
        dsimp only
        rw [← hxd, upd_upd]) rfl (by rw [hw5]; exact SW.set (i := 3) (.int .i64 0))
      have hT6 := HT.out.taken Hx.out Hkd.out HM.out Hy.out hno
      have hf6 : find (takenF F dir x kd part n y).L n = some { y with names := y.names - 1, par := 0 } := by rw [find_taken Hx.out Hy.out, if_pos rfl]
      have HW := Lib.hid (sweepN_calls fb mb (takenF F dir x kd part n y) n { y with names := y.names - 1, par := 0 } Hni.out hf6 hT6.nd ⟨by rw [hT6.used]; omega, by have := hT6.room; omega⟩ (by have := (hT6.each n _ hf6).1; dsimp only at this ⊢; omega) w5 R S6)
      have R6 := Lib.hid (show Ran w w5 by rw [hw5, hw4]; exact Ran.set (Ran.set (Below.trans R1.out R3) _ _) _ _)
      have hR := Lib.hid (RemR.ok (F := F) dir x kd part n y Hx.out Hkd.out HM.out Hy.out hno)
      have hnm := (HT.out.names n y Hy.out)
      have hnm0 : 0 ≤ y.names := by omega
      have hnm1 : y.names ≤ 1 := by omega
      clear SX SY SZ SW S3 S4 S5 S6 backY backZ backW hT6 hf6 hS1 hyn hyn5 hno hnm hsz hxd R3 hnd
      go_upto_region 17 with fail
      rw [← hw4]
      clear hw4
      go_upto_region 18 with fail
      rw [← hw5]
      clear hw5
      go_wp2_with fail
      refine HW.out.mono ?_
      rintro e w6 ⟨⟨rfl, S7⟩, R7⟩
      have S7 := Lib.hid S7
      have R7 := Lib.hid (Below.trans R6.out R7)
      go_wp2_with fail
      go_ret
      exact ⟨0, _, rfl, hR.out, S7.out, R7.out⟩
    · have hzI : (0 : Int) < ((ksz y.kids : Nat) : Int) := by omega
      have hzL : ((ksz y.kids : Nat) : Int) ≤ 1000000 := by omega
      clear Hx Hkd HM
      go_enter Tryz.func43, Tryz.ntmps43
      go_wp2_with fail
      refine HL.out.mono ?_
      rintro e w1 ⟨⟨rfl, S1⟩, R1⟩
      have S1 := Lib.hid S1
      have R1 := Lib.hid R1
      go_wp2_with fail
      refine (HS.out w1 S1.out).mono ?_
      rintro e w2 ⟨rfl, rfl⟩
      clear HS
      obtain ⟨c0, c1, c2, c3⟩ := fs_cells S1.out
      have hl := fs_look S1.out n Hni.out
      rw [show blk F.L n = some y.b by unfold blk; rw [Hy.out]; rfl] at hl
      unfold pv at hl
      obtain ⟨X0, SX, -⟩ := fs_node S1.out Hy.out
      obtain ⟨d0, d1, d2, d3, d4, d5⟩ := nd_cells SX
      have hlen0 := kids_len (SX.perm (show _ = kidsHp y.kids * (pts y.b (ndO y) * (pts fb (fsO F mb) * (X0 * R))) by ac_rfl))
      have hlen : ∀ ty, (Builtin.len_ #[116] ty #[kv y.kids]).run Tryz.prog w1 = .ok (.int .i64 ((ksz y.kids : Nat) : Int)) w1 := hlen0
      clear SX hz hlen0
      go_wp2_with fail
      go_ret
      exact ⟨14, F, rfl, .no 14 (by decide) (by decide), S1.out, R1.out⟩
  | true =>
    cases hkk : isK F n 1 with
    | false =>
      rw [hkk] at HI0
      have HI := Lib.hid HI0
      clear Hx Hkd HM HI0 hkk
      go_enter Tryz.func43, Tryz.ntmps43
      go_wp2_with fail
      refine HL.out.mono ?_
      rintro e w1 ⟨⟨rfl, S1⟩, R1⟩
      have S1 := Lib.hid S1
      have R1 := Lib.hid R1
      go_wp2_with fail
      refine (HS.out w1 S1.out).mono ?_
      rintro e w2 ⟨rfl, rfl⟩
      clear HS
      go_wp2_with fail
      refine (HI.out w1 S1.out).mono ?_
      rintro e w2 ⟨rfl, rfl⟩
      go_wp2_with fail
      go_ret
      exact ⟨12, F, rfl, .no 12 (by decide) (by decide), S1.out, R1.out⟩
    | true =>
      rw [hkk] at HI0
      have HI := Lib.hid HI0
      clear HI0 hkk
      by_cases hz : ksz y.kids = 0
      · have Hz := Lib.hid hz
        go_enter Tryz.func43, Tryz.ntmps43
        go_wp2_with fail
        refine HL.out.mono ?_
        rintro e w1 ⟨⟨rfl, S1⟩, R1⟩
        have S1 := Lib.hid S1
        have R1 := Lib.hid R1
        go_wp2_with fail
        refine (HS.out w1 S1.out).mono ?_
        rintro e w2 ⟨rfl, rfl⟩
        clear HS
        go_wp2_with fail
        refine (HI.out w1 S1.out).mono ?_
        rintro e w2 ⟨rfl, rfl⟩
        obtain ⟨c0, c1, c2, c3⟩ := fs_cells S1.out
        have hl := fs_look S1.out n Hni.out
        rw [show blk F.L n = some y.b by unfold blk; rw [Hy.out]; rfl] at hl
        unfold pv at hl
        obtain ⟨X0, SX, -⟩ := fs_node S1.out Hy.out
        obtain ⟨d0, d1, d2, d3, d4, d5⟩ := nd_cells SX
        have hlen0 := kids_len (SX.perm (show _ = kidsHp y.kids * (pts y.b (ndO y) * (pts fb (fsO F mb) * (X0 * R))) by ac_rfl))
        have hlen : ∀ ty, (Builtin.len_ #[116] ty #[kv y.kids]).run Tryz.prog w1 = .ok (.int .i64 0) w1 := fun ty => by rw [hlen0 ty, hz]; rfl
        clear hz hlen0
        obtain ⟨sz, hsz⟩ : ∃ sz, kd.sz = sz + 1 := by
          obtain ⟨X1, SY, -⟩ := fs_node S1.out Hx.out
          rw [Hkd.out] at SY
          have := smap_pos (SY.perm (show _ = K.smap kd.b kd.M kd.sz kd.n * (pts x.b (ndO x) * (pts fb (fsO F mb) * (X1 * R))) by show pts x.b (ndO x) * (K.smap kd.b kd.M kd.sz kd.n * _) = _; ac_rfl)) (k := part) (by rw [HM.out]; rfl)
          exact ⟨kd.sz - 1, by omega⟩
        have hno : ∀ t v, ¬ Ref F n t v := by
          rintro t v ⟨y1, k1, h1, h2, h3⟩
          rw [Hy.out] at h1; injection h1 with h1; subst h1
          rw [h2] at SX Hz
          have := smap_pos (SX.perm (show _ = K.smap k1.b k1.M k1.sz k1.n * (pts y.b (ndO y) * (pts fb (fsO F mb) * (X0 * R))) by show pts y.b (ndO y) * (K.smap k1.b k1.M k1.sz k1.n * _) = _; ac_rfl)) (k := t) (by rw [h3]; rfl)
          have hz : k1.sz = 0 := Hz.out
          omega
        have hnd : n ≠ dir := fun e => hno part n (by rw [e]; exact ⟨x, kd, Hx.out, Hkd.out, by rw [← e]; exact HM.out⟩)
        have hS1 := S1.out
        -- the name taken away
        obtain ⟨X1, SY, backY⟩ := fs_node hS1 Hx.out
        obtain ⟨-, -, x2, -⟩ := nd_cells SY
        have hlx := fs_look hS1 dir Hi.out
        rw [show blk F.L dir = some x.b by unfold blk; rw [Hx.out]; rfl] at hlx
        unfold pv at hlx
        rw [Hkd.out] at x2 SY
        unfold kv at x2
        dsimp only at x2
        rw [show kidsHp (some kd) = K.smap kd.b kd.M (sz + 1) kd.n by show K.smap kd.b kd.M kd.sz kd.n = _; rw [hsz]] at SY
        obtain ⟨w3, hdel, S3, R3⟩ := K.smap_del (SY.perm (show _ = K.smap kd.b kd.M (sz + 1) kd.n * (pts x.b (ndO x) * (pts fb (fsO F mb) * (X1 * R))) by ac_rfl)) part (by unfold maxLen; omega) (by rw [HM.out]; rfl) 0
        obtain ⟨xd, hxd⟩ : ∃ xd : Nd, xd = { x with kids := some { kd with M := K.delM kd.M part, sz := kd.sz - 1 } } := ⟨_, rfl⟩
        have S4 := backY w3 xd { F with L := upd F.L dir xd } R (by rw [hxd]) rfl rfl (S3.perm (by
          rw [hxd, hsz]
          show K.smap kd.b (K.delM kd.M part) sz kd.n * (pts x.b (ndO x) * _) = pts x.b (ndO { x with kids := some { kd with M := K.delM kd.M part, sz := sz + 1 - 1 } }) * (K.smap kd.b (K.delM kd.M part) (sz + 1 - 1) kd.n * _)
          rw [show ndO { x with kids := some { kd with M := K.delM kd.M part, sz := sz + 1 - 1 } } = ndO x by unfold ndO; rw [Hkd.out]; rfl]
          show K.smap kd.b (K.delM kd.M part) sz kd.n * (pts x.b (ndO x) * (pts fb (fsO F mb) * (X1 * R))) = pts x.b (ndO x) * (K.smap kd.b (K.delM kd.M part) sz kd.n * (pts fb (fsO F mb) * (X1 * R)))
          ac_rfl))
        have hyn : find (upd F.L dir xd) n = some y := by rw [find_upd F.L dir n _ (by rw [Hx.out]; rfl), if_neg hnd]; exact Hy.out
        obtain ⟨-, -, -, e3⟩ := fs_cells S4
        have hl4 := fs_look S4 n Hni.out
        rw [show blk (upd F.L dir xd) n = some y.b by unfold blk; rw [hyn]; rfl] at hl4
        unfold pv at hl4
        -- its names
        obtain ⟨X4, SZ, backZ⟩ := fs_node S4 hyn
        obtain ⟨-, -, -, -, y4, -⟩ := nd_cells SZ
        have z4 : ∀ i, w3.frozen? ⟨y.b, i, none⟩ = false := fun i => free_at SZ.get i
        obtain ⟨w4, hw4⟩ : ∃ w4, w4 = w3.setCell ⟨y.b, 4, none⟩ (.int .i64 (y.names - 1)) := ⟨_, rfl⟩
        have S5 := backZ w4 { y with names := y.names - 1 } { F with L := upd (upd F.L dir xd) n { y with names := y.names - 1 } } R rfl rfl rfl (by rw [hw4]; exact SZ.set (i := 4) (.int .i64 (y.names - 1)))
        have hyn5 : find (upd (upd F.L dir xd) n { y with names := y.names - 1 }) n = some { y with names := y.names - 1 } := by rw [find_upd _ n n _ (by rw [hyn]; rfl), if_pos rfl]
        obtain ⟨-, -, -, e5⟩ := fs_cells S5
        have hl5 := fs_look S5 n Hni.out
        rw [show blk (upd (upd F.L dir xd) n { y with names := y.names - 1 }) n = some y.b by unfold blk; rw [hyn5]; rfl] at hl5
        unfold pv at hl5
        -- its parent
        obtain ⟨X5, SW, backW⟩ := fs_node S5 hyn5
        obtain ⟨-, -, -, y5, -, -⟩ := nd_cells SW
        have z5 : ∀ i, w4.frozen? ⟨y.b, i, none⟩ = false := fun i => free_at SW.get i
        obtain ⟨w5, hw5⟩ : ∃ w5, w5 = w4.setCell ⟨y.b, 3, none⟩ (.int .i64 0) := ⟨_, rfl⟩
        have S6 := backW w5 { y with names := y.names - 1, par := 0 } (takenF F dir x kd part n y) R rfl (by
          unfold takenF
          dsimp only
          rw [← hxd, upd_upd]) rfl (by rw [hw5]; exact SW.set (i := 3) (.int .i64 0))
        have hT6 := HT.out.taken Hx.out Hkd.out HM.out Hy.out hno
        have hf6 : find (takenF F dir x kd part n y).L n = some { y with names := y.names - 1, par := 0 } := by rw [find_taken Hx.out Hy.out, if_pos rfl]
        have HW := Lib.hid (sweepN_calls fb mb (takenF F dir x kd part n y) n { y with names := y.names - 1, par := 0 } Hni.out hf6 hT6.nd ⟨by rw [hT6.used]; omega, by have := hT6.room; omega⟩ (by have := (hT6.each n _ hf6).1; dsimp only at this ⊢; omega) w5 R S6)
        have R6 := Lib.hid (show Ran w w5 by rw [hw5, hw4]; exact Ran.set (Ran.set (Below.trans R1.out R3) _ _) _ _)
        have hR := Lib.hid (RemR.ok (F := F) dir x kd part n y Hx.out Hkd.out HM.out Hy.out hno)
        have hnm := (HT.out.names n y Hy.out)
        have hnm0 : 0 ≤ y.names := by omega
        have hnm1 : y.names ≤ 1 := by omega
        clear SX SY SZ SW S3 S4 S5 S6 backY backZ backW hT6 hf6 hS1 hyn hyn5 hno hnm hsz hxd R3 hnd
        go_upto_region 17 with fail
        rw [← hw4]
        clear hw4
        go_upto_region 18 with fail
        rw [← hw5]
        clear hw5
        go_wp2_with fail
        refine HW.out.mono ?_
        rintro e w6 ⟨⟨rfl, S7⟩, R7⟩
        have S7 := Lib.hid S7
        have R7 := Lib.hid (Below.trans R6.out R7)
        go_wp2_with fail
        go_ret
        exact ⟨0, _, rfl, hR.out, S7.out, R7.out⟩
      · have hzI : (0 : Int) < ((ksz y.kids : Nat) : Int) := by omega
        have hzL : ((ksz y.kids : Nat) : Int) ≤ 1000000 := by omega
        clear Hx Hkd HM
        go_enter Tryz.func43, Tryz.ntmps43
        go_wp2_with fail
        refine HL.out.mono ?_
        rintro e w1 ⟨⟨rfl, S1⟩, R1⟩
        have S1 := Lib.hid S1
        have R1 := Lib.hid R1
        go_wp2_with fail
        refine (HS.out w1 S1.out).mono ?_
        rintro e w2 ⟨rfl, rfl⟩
        clear HS
        go_wp2_with fail
        refine (HI.out w1 S1.out).mono ?_
        rintro e w2 ⟨rfl, rfl⟩
        obtain ⟨c0, c1, c2, c3⟩ := fs_cells S1.out
        have hl := fs_look S1.out n Hni.out
        rw [show blk F.L n = some y.b by unfold blk; rw [Hy.out]; rfl] at hl
        unfold pv at hl
        obtain ⟨X0, SX, -⟩ := fs_node S1.out Hy.out
        obtain ⟨d0, d1, d2, d3, d4, d5⟩ := nd_cells SX
        have hlen0 := kids_len (SX.perm (show _ = kidsHp y.kids * (pts y.b (ndO y) * (pts fb (fsO F mb) * (X0 * R))) by ac_rfl))
        have hlen : ∀ ty, (Builtin.len_ #[116] ty #[kv y.kids]).run Tryz.prog w1 = .ok (.int .i64 ((ksz y.kids : Nat) : Int)) w1 := hlen0
        clear SX hz hlen0
        go_wp2_with fail
        go_ret
        exact ⟨14, F, rfl, .no 14 (by decide) (by decide), S1.out, R1.out⟩
end Go.Proofs.YteienbdbhnikbaaGreatDoor.Hd

namespace Go.Proofs.YteienbdbhnikbaaGreatDoor.Hd
open Go.RowKit Go.Maps Go.Proofs.YteienbdbhnikbaaGreatDoor Go.Proofs.YteienbdbhnikbaaGreatDoor.Hp
set_option linter.unusedVariables false

theorem read_le (t : ByteArray) (a q : Nat) : a + (readB t a q).size ≤ max a t.size := by
  unfold readB
  rw [ByteArray.size_extract, ByteArray.size_extract]
  omega
theorem zeros_size (n : Nat) : (zerosB n).size = n := by
  unfold zerosB
  show (Lib.repeatL [0] n).toArray.size = n
  rw [List.size_toArray]
  induction n with
  | zero => rfl
  | succ n ih => simpa [Lib.repeatL] using ih
theorem wr_size (t : ByteArray) (a : Nat) (d : ByteArray) : (wrB t a d).size = max t.size (a + d.size) := by
  unfold wrB
  rw [ByteArray.size_append, ByteArray.size_append, ByteArray.size_append, ByteArray.size_extract, ByteArray.size_extract, zeros_size]
  omega
theorem free_ex (L : HL) : ∃ g : Nat, Free L g := by
  obtain ⟨g, h1, h2, h3, h4⟩ := free_number L
  exact ⟨g, ⟨h1, h2, h3, h4⟩⟩
theorem to_bs' (s : ByteArray) : (⟨(bs s).toArray⟩ : ByteArray) = s := by cases s; rfl
theorem tree_write {N : Nat} {F : Fs} (h : TreeG N F) {k : Int} {x : Nd} (hx : find F.L k = some x) (a : Nat) (d : ByteArray) :
    TreeG (N + 1) (writeP F k x a d).2 ∧ (∀ j, hf (writeP F k x a d).2 j = hf F j) ∧ Kp F (writeP F k x a d).2 ∧ ((writeP F k x a d).1 = 0 → a + d.size ≤ 4096) ∧ (writeP F k x a d).1 ≤ 21 := by
  unfold writeP
  by_cases h1 : 4096 < a ∨ 4096 - a < d.size
  · rw [if_pos h1]; exact ⟨h.more (Nat.le_succ _), fun _ => rfl, kp_refl F, fun e => (by cases e), (by show (21 : Int) ≤ 21; decide)⟩
  · rw [if_neg h1]
    by_cases h2 : d.size = 0
    · rw [if_pos h2]; exact ⟨h.more (Nat.le_succ _), fun _ => rfl, kp_refl F, fun _ => by omega, (by show (0 : Int) ≤ 21; decide)⟩
    · rw [if_neg h2]
      by_cases h3 : F.room - F.used < (moreB x.text a d : Int)
      · rw [if_pos h3]; exact ⟨h.more (Nat.le_succ _), fun _ => rfl, kp_refl F, fun e => (by cases e), (by show (15 : Int) ≤ 21; decide)⟩
      · rw [if_neg h3]
        obtain ⟨e1, e2, e3, e4⟩ := h.each k x hx
        have hr := h.room
        have hm : moreB x.text a d = (a + d.size) - x.text.size := rfl
        refine ⟨h.put hx { x with text := wrB x.text a d } _ rfl rfl rfl rfl ?_ ⟨e2, by show x.holds ≤ _; omega⟩ ?_ (by omega), fun j => ?_, kp_put hx _ _ rfl, fun _ => by omega, (by show (0 : Int) ≤ 21; decide)⟩
        · show (wrB x.text a d).size ≤ 4096
          rw [wr_size]; omega
        · show F.used + (moreB x.text a d : Int) + (x.text.size : Int) = F.used + ((wrB x.text a d).size : Int)
          rw [wr_size]; omega
        · rw [hf_put hx]
          by_cases e : j = k
          · rw [if_pos e, e, hf_of hx]
          · rw [if_neg e]
/-- What a call leaves: what is true stays; refs and holds turn so. -/
def Eff (N : Nat) (c : Pls) (w : World) (R : Hp) (f g : Int → Int) (w' : World) : Prop := ∃ s', InvT N s' ∧ (∀ k, rf s'.L k = f k) ∧ (∀ k, xt s' k = g k) ∧ Sat w' (SgHp c s' * R) ∧ Ran w w'
section
variable {c : Pls} {s : Sg} {N : Nat} {w : World} {R : Hp}
theorem sg_open (h : Sat w (SgHp c s * R)) : Sat w (fsHp c.fb c.mb s.F * (tabHp c.tb c.fb c.bp c.hm s.L s.n * (poolHp c s.p s.tot * (pipeHp c.bp s.p * (snksHp s.L * R))))) := h.perm (by unfold SgHp; ac_rfl)
theorem sg_shut {F : Fs} {L : HL} {n tot : Nat} {p : Pp} (h : Sat w (fsHp c.fb c.mb F * (tabHp c.tb c.fb c.bp c.hm L n * (poolHp c p tot * (pipeHp c.bp p * (snksHp L * R)))))) : Sat w (SgHp c ⟨F, L, n, p, tot⟩ * R) := h.perm (by unfold SgHp; ac_rfl)
theorem sg_tab (h : Sat w (SgHp c s * R)) : Sat w (tabHp c.tb c.fb c.bp c.hm s.L s.n * (fsHp c.fb c.mb s.F * (poolHp c s.p s.tot * (pipeHp c.bp s.p * (snksHp s.L * R))))) := h.perm (by unfold SgHp; ac_rfl)
theorem sg_pipe (h : Sat w (SgHp c s * R)) : ∃ X : Hp, Sat w (tabHp c.tb c.fb c.bp c.hm s.L s.n * (Spill.bufX s.p.bb c.bp 3 4 s.p.frm s.p.data * X)) :=
  ⟨_, h.perm (show _ = tabHp c.tb c.fb c.bp c.hm s.L s.n * (Spill.bufX s.p.bb c.bp 3 4 s.p.frm s.p.data * (fsHp c.fb c.mb s.F * (poolHp c s.p s.tot * (pts s.p.eb (ebO 2) * (snksHp s.L * R))))) by unfold SgHp pipeHp; ac_rfl)⟩
theorem eff_same (hI : InvT N s) {w' : World} (S : Sat w' (SgHp c s * R)) (hR : Ran w w') : Eff (N + 1) c w R (rf s.L) (xt s) w' := ⟨s, hI.more (Nat.le_succ _), fun _ => rfl, fun _ => rfl, S, hR⟩
theorem InvT.id64 (hI : InvT N s) (hN : N ≤ 900000) {k : Int} {y : Hn} (hy : findA s.L k = some y) : I64 k := by
  have := hI.ids k y hy
  unfold I64; omega
theorem m_Ref (hN : N ≤ 900000) (hI : InvT N s) {n : Int} (hn : 1 ≤ rf s.L n) (h : Sat w (SgHp c s * R)) :
    Calls Tryz.prog 50 #[pp c.tb, .int .i64 n] w fun e w' => e = .returned (.int .i64 0) ∧ Eff (N + 1) c w R (fun k => rf s.L k + if k = n then 1 else 0) (xt s) w' := by
  obtain ⟨y, hy⟩ := rf_pos hn
  have hr := hI.refs _ y hy
  refine (Ref_calls c.tb c.fb c.bp c.hm s.n s.L n y (hI.id64 hN hy) hy (by omega) (by omega) w _ (sg_tab h)).mono ?_
  rintro e w' ⟨⟨rfl, S⟩, hR⟩
  obtain ⟨hI', hx⟩ := hI.upd hy (y' := { y with refs := y.refs + 1 }) (by dsimp only; omega) (fun _ => rfl) rfl s.F s.p s.tot (hI.th n y hy) (hI.tree.more (Nat.le_succ _)) (fun _ => rfl) (kp_refl _) rfl rfl ⟨hI.pipe.1, hI.pipe.2.1, by have := hI.pipe.2.2; omega⟩
  refine ⟨rfl, _, hI', fun k => ?_, hx, sg_shut ?_, hR⟩
  · show rf (updA s.L n { y with refs := y.refs + 1 }) k = rf s.L k + if k = n then 1 else 0
    rw [rf_upd hy]
    by_cases e : k = n
    · rw [if_pos e, if_pos e, e, rf_some hy]
    · rw [if_neg e, if_neg e]; omega
  · rw [snks_same (y' := { y with refs := y.refs + 1 }) hy rfl]
    exact S.perm (by ac_rfl)
theorem Unref_file_oneN (tb fb mb pb hm n : Nat) (F : Fs) (L : HL) (id k : Int) (y : Hn) (a : Nat) (m : Md) (hid : I64 id) (hy : findA L id = some y) (hyt : y.t = .file k a m) (hnd : NodupK L) (h1 : y.refs = 1) (hk : I64 k) (hs : FsOk F) (hfn : (F.L.map Prod.fst).Nodup) (hu : 0 ≤ F.used ∧ F.used ≤ 1000000000) (w : World) (R : Hp)
    (h : Sat w (tabHp tb fb pb hm L n * (fsHp fb mb F * R))) :
    Calls Tryz.prog 52 #[pp tb, .int .i64 id] w fun e w' => (e = .returned (.int .i64 0) ∧ Sat w' (tabHp tb fb pb hm (delA L id) n * (fsHp fb mb (dropG F k) * R))) ∧ Ran w w' := by
  refine Unref_last_file tb fb pb hm n L id y hid hy hnd h1 w _ (fsHp fb mb (dropG F k) * R) (by rw [hyt]; rfl) (fun W hW => ?_) h
  rw [hyt] at hW
  refine (fgoneN_calls y.xb fb mb F k a m hk hs hfn hu W (tabHp tb fb pb hm (delA L id) n * R) (hW.perm (show pts y.xb (flO fb k a m) * _ = _ by ac_rfl))).mono ?_
  rintro e w' ⟨⟨he, hs'⟩, hr⟩
  exact ⟨⟨he, (hs'.perm (show _ = pts y.xb (flO fb k a m) * (tabHp tb fb pb hm (delA L id) n * (fsHp fb mb (dropG F k) * R)) by ac_rfl)).right⟩, hr⟩
theorem m_Unref (hN : N ≤ 900000) (hI : InvT N s) {n : Int} (hn : 1 ≤ rf s.L n) (h5 : rf s.L n = 1 → 5 ≤ n) (h : Sat w (SgHp c s * R)) :
    Calls Tryz.prog 52 #[pp c.tb, .int .i64 n] w fun e w' => e = .returned (.int .i64 0) ∧ Eff (N + 1) c w R (fun k => rf s.L k - if k = n then 1 else 0) (xt s) w' := by
  obtain ⟨y, hy⟩ := rf_pos hn
  have hr := hI.refs _ y hy
  rw [rf_some hy] at h5
  by_cases h2 : 2 ≤ y.refs
  · refine (Unref_more c.tb c.fb c.bp c.hm s.n s.L n y (hI.id64 hN hy) hy h2 (by omega) w _ (sg_tab h)).mono ?_
    rintro e w' ⟨⟨rfl, S⟩, hR⟩
    obtain ⟨hI', hx⟩ := hI.upd hy (y' := { y with refs := y.refs - 1 }) (by dsimp only; omega) (fun _ => rfl) rfl s.F s.p s.tot (hI.th n y hy) (hI.tree.more (Nat.le_succ _)) (fun _ => rfl) (kp_refl _) rfl rfl ⟨hI.pipe.1, hI.pipe.2.1, by have := hI.pipe.2.2; omega⟩
    refine ⟨rfl, _, hI', fun k => ?_, hx, sg_shut ?_, hR⟩
    · show rf (updA s.L n { y with refs := y.refs - 1 }) k = rf s.L k - if k = n then 1 else 0
      rw [rf_upd hy]
      by_cases e : k = n
      · rw [if_pos e, if_pos e, e, rf_some hy]
      · rw [if_neg e, if_neg e]; omega
    · rw [snks_same (y' := { y with refs := y.refs - 1 }) hy rfl]
      exact S.perm (by ac_rfl)
  · have h1 : y.refs = 1 := by omega
    have hF := (hI.cls n y hy).1 (h5 h1)
    cases hyt : y.t with
    | file k a m =>
      obtain ⟨x, hx, hk2, hh⟩ := hI.node hy hyt
      refine (Unref_file_oneN c.tb c.fb c.mb c.bp c.hm s.n s.F s.L n k y a m (hI.id64 hN hy) hy hyt hI.nd h1 (hI.tree.in_i64 hx) (hI.tree.ok (by omega)) hI.tree.nd ⟨by rw [hI.tree.used]; omega, by have := hI.tree.room; omega⟩ w _ (sg_tab h)).mono ?_
      rintro e w' ⟨⟨rfl, S⟩, hR⟩
      obtain ⟨hI', hx'⟩ := hI.gone hy hyt (dropG s.F k) (hI.tree.drop k) (kp_drop hI.tree.nd k) (hf_drop hI.tree.nd hx (by omega))
      refine ⟨rfl, _, hI', fun j => ?_, hx', sg_shut ?_, hR⟩
      · show rf (delA s.L n) j = rf s.L j - if j = n then 1 else 0
        rw [rf_del hI.nd]
        by_cases e : j = n
        · rw [if_pos e, if_pos e, e, rf_some hy]; omega
        · rw [if_neg e, if_neg e]; omega
      · rw [snks_del hy (by rw [hyt]; rfl)]
        exact S.perm (by ac_rfl)
    | text t a => rw [hyt] at hF; cases hF
    | sink sp q cap l most => rw [hyt] at hF; cases hF
    | reader bb eb => rw [hyt] at hF; cases hF
    | writer bb eb => rw [hyt] at hF; cases hF
theorem m_Stat (hN : N ≤ 900000) (hI : InvT N s) {n : Int} (hn : I64 n) (h : Sat w (SgHp c s * R)) :
    Calls Tryz.prog 21 #[pp c.tb, .int .i64 n] w fun e w' => (∃ k a d m er, e = .returned (.tuple #[inV k (rf s.L n) a d m, .int .i64 er]) ∧ (er = 0 ↔ 1 ≤ rf s.L n)) ∧ Sat w' (SgHp c s * R) ∧ Ran w w' := by
  have fin : ∀ {k a d : Int} {m : Md} {er : Int} {e : Ending} {w' : World}, (er = 0 ↔ 1 ≤ rf s.L n) → e = .returned (.tuple #[inV k (rf s.L n) a d m, .int .i64 er]) ∧ Below w.heap.size w w' → (∃ k a d m er, e = .returned (.tuple #[inV k (rf s.L n) a d m, .int .i64 er]) ∧ (er = 0 ↔ 1 ≤ rf s.L n)) ∧ Sat w' (SgHp c s * R) ∧ Ran w w' :=
    fun he h1 => ⟨⟨_, _, _, _, _, h1.1, he⟩, h.below h1.2, below_ran h1.2⟩
  cases hy : findA s.L n with
  | none =>
    have h0 : rf s.L n = 0 := by unfold rf; rw [hy]
    refine (TStat_none c.tb c.fb c.bp c.hm s.n s.L n hn hy w _ (sg_tab h)).mono fun e w' h1 => ?_
    rw [← h0] at h1
    exact fin ⟨fun e => absurd e (by decide), fun e => (by rw [h0] at e; exact absurd e (by decide))⟩ (show e = .returned (.tuple #[inV (rf s.L n) (rf s.L n) (rf s.L n) (rf s.L n) _, .int .i64 18]) ∧ _ from h1)
  | some y =>
    have hr := hI.refs _ y hy
    have hrf := rf_some hy
    have he : (0 : Int) = 0 ↔ 1 ≤ rf s.L n := ⟨fun _ => by rw [hrf]; exact hr.1, fun _ => rfl⟩
    have hth := hI.th _ y hy
    have hpp := hI.pipe
    unfold ThOkG at hth
    rw [← hrf] at hr
    cases hyt : y.t with
    | file k a m => refine (TStat_file c.tb c.fb c.bp c.hm s.n s.L n k y a m hn hy hyt w _ (sg_tab h)).mono fun e w' h1 => ?_; rw [← hrf] at h1; exact fin he h1
    | text t a => refine (TStat_text c.tb c.fb c.bp c.hm s.n s.L n y t a hn hy hyt w _ (sg_tab h)).mono fun e w' h1 => ?_; rw [← hrf] at h1; exact fin he h1
    | sink sp q cap l most => refine (TStat_sink c.tb c.fb c.bp c.hm s.n s.L n y sp q cap l most hn hy hyt w _ (sg_tab h)).mono fun e w' h1 => ?_; rw [← hrf] at h1; exact fin he h1
    | reader bb eb =>
      rw [hyt] at hth
      obtain ⟨rfl, rfl⟩ := hth
      obtain ⟨X, HX⟩ := sg_pipe h
      refine (TStat_reader c.tb c.fb c.bp c.hm s.n s.L n y s.p.bb s.p.eb c.bp s.p.frm s.p.data hn hy hyt (by omega) w _ HX).mono fun e w' h1 => ?_
      rw [← hrf] at h1; exact fin he h1
    | writer bb eb =>
      rw [hyt] at hth
      obtain ⟨rfl, rfl⟩ := hth
      obtain ⟨X, HX⟩ := sg_pipe h
      refine (TStat_writer c.tb c.fb c.bp c.hm s.n s.L n y s.p.bb s.p.eb c.bp s.p.frm s.p.data hn hy hyt (by omega) w _ HX).mono fun e w' h1 => ?_
      rw [← hrf] at h1; exact fin he h1
theorem m_All (hN : N ≤ 900000) (hI : InvT N s) (h : Sat w (SgHp c s * R)) :
    Calls Tryz.prog 20 #[pp c.tb] w fun e w' => (∃ p cap ks, e = .returned (.slice p (List.length ks) cap) ∧ KeysOf (hblk s.L) ks ∧ Sat w' (SgHp c s * (arr 3 1 p ks.length cap (ks.map iv) * R))) ∧ Ran w w' := by
  refine (All_calls c.tb c.fb c.bp c.hm s.n s.L (by have := hI.len.2; omega) w _ (sg_tab h)).mono ?_
  rintro e w' ⟨⟨p, cap, ks, he, hk, S⟩, hB⟩
  exact ⟨⟨p, cap, ks, he, hk, S.perm (by unfold SgHp; ac_rfl)⟩, below_ran hB⟩
theorem fs_u (hI : InvT N s) : 0 ≤ s.F.used ∧ s.F.used ≤ 1000000000 := ⟨by rw [hI.tree.used]; omega, by have := hI.tree.room; omega⟩
theorem fs_r (hI : InvT N s) : 0 ≤ s.F.room ∧ s.F.room ≤ 1000000000 := by
  have h1 := hI.tree.used
  have h2 := hI.tree.room
  omega
theorem m_Hold (hN : N ≤ 900000) (hI : InvT N s) {n : Int} {x : Nd} (hx : find s.F.L n = some x) (h : Sat w (SgHp c s * R)) :
    Calls Tryz.prog 46 #[pp c.fb, .int .i64 n] w fun e w' => (∃ v, e = .returned v) ∧ Eff (N + 1) c w R (rf s.L) (fun k => xt s k + if k = n then 1 else 0) w' := by
  refine (Hold_calls c.fb c.mb s.F n (hI.tree.in_i64 hx) (hI.tree.ok (by omega)) w _ (sg_open h)).mono ?_
  rintro e w' ⟨⟨rfl, S⟩, hR⟩
  refine ⟨⟨_, rfl⟩, { s with F := holdP s.F n }, hI.turn (holdP s.F n) (hI.tree.hold n) (kp_hold n) fun j => ?_, fun _ => rfl, fun j => ?_, sg_shut S, hR⟩
  · have h1 := hI.pos j
    unfold xt at h1
    rw [hf_hold hx]
    split <;> omega
  · unfold xt
    show hf (holdP s.F n) j - (sumA (cF j) s.L : Int) = hf s.F j - (sumA (cF j) s.L : Int) + if j = n then 1 else 0
    rw [hf_hold hx]
    omega
theorem m_Drop (hN : N ≤ 900000) (hI : InvT N s) {n : Int} (hx : 1 ≤ xt s n) (h : Sat w (SgHp c s * R)) :
    Calls Tryz.prog 48 #[pp c.fb, .int .i64 n] w fun e w' => (∃ v, e = .returned v) ∧ Eff (N + 1) c w R (rf s.L) (fun k => xt s k - if k = n then 1 else 0) w' := by
  obtain ⟨x, hx1⟩ : ∃ x, find s.F.L n = some x := hf_some (by unfold xt at hx; omega)
  have hh : x.holds ≠ 0 := by
    unfold xt at hx
    rw [hf_of hx1] at hx
    omega
  refine (DropN_calls c.fb c.mb s.F n (hI.tree.in_i64 hx1) (hI.tree.ok (by omega)) hI.tree.nd (fs_u hI) w _ (sg_open h)).mono ?_
  rintro e w' ⟨⟨rfl, S⟩, hR⟩
  refine ⟨⟨_, rfl⟩, { s with F := dropG s.F n }, hI.turn (dropG s.F n) (hI.tree.drop n) (kp_drop hI.tree.nd n) fun j => ?_, fun _ => rfl, fun j => ?_, sg_shut S, hR⟩
  · have h1 := hI.pos j
    rw [hf_drop hI.tree.nd hx1 hh]
    unfold xt at h1 hx
    by_cases e : j = n
    · subst e; rw [if_pos rfl]; omega
    · rw [if_neg e]; omega
  · unfold xt
    show hf (dropG s.F n) j - (sumA (cF j) s.L : Int) = hf s.F j - (sumA (cF j) s.L : Int) - if j = n then 1 else 0
    rw [hf_drop hI.tree.nd hx1 hh]
    omega
theorem m_Walk (hN : N ≤ 900000) (hI : InvT N s) {d : Int} (hd : I64 d) (p : ByteArray) (hp : p.size ≤ 1000000) (follow : Bool) (hG : Glob R) (h : Sat w (SgHp c s * R)) :
    Calls Tryz.prog 28 #[pp c.fb, .int .i64 d, .string p, .bool follow] w fun e w' => (∃ n er, e = .returned (.tuple #[.int .i64 n, .int .i64 er]) ∧ er ≤ 21 ∧ (er = 0 → ∃ x, find s.F.L n = some x)) ∧ Sat w' (SgHp c s * R) ∧ Ran w w' := by
  refine (Walk_calls c.fb c.mb s.F (hI.tree.ok (by omega)) hI.tree.nums d p follow w _ hd hp hG.more.more.more.more (sg_open h)).mono ?_
  rintro e w' ⟨⟨rfl, S⟩, hR⟩
  exact ⟨⟨_, _, rfl, walk_err _ _ _ _, fun h0 => hI.tree.walkIn h0⟩, sg_shut S, hR⟩
theorem m_FStat (hN : N ≤ 900000) (hI : InvT N s) {n : Int} {x : Nd} (hx : find s.F.L n = some x) (h : Sat w (SgHp c s * R)) :
    Calls Tryz.prog 22 #[pp c.fb, .int .i64 n] w fun e w' => e = .returned (.tuple #[.agg #[.int .i64 x.kind, .int .i64 (sizeN x), .int .i64 x.names, .int .i64 x.holds], .int .i64 0]) ∧ Sat w' (SgHp c s * R) ∧ Ran w w' := by
  refine (Stat_calls c.fb c.mb s.F n (hI.tree.in_i64 hx) ((hI.tree.ok (by omega)).small n) w _ (sg_open h)).mono ?_
  rintro e w' ⟨rfl, hB⟩
  refine ⟨?_, h.below hB, below_ran hB⟩
  unfold statV statE
  rw [hx]
theorem m_FHolds (hN : N ≤ 900000) (hI : InvT N s) {n : Int} (hn : I64 n) (h : Sat w (SgHp c s * R)) :
    Calls Tryz.prog 22 #[pp c.fb, .int .i64 n] w fun e w' => (∃ k z m er, e = .returned (.tuple #[.agg #[.int .i64 k, .int .i64 z, .int .i64 m, .int .i64 (hf s.F n)], .int .i64 er])) ∧ Sat w' (SgHp c s * R) ∧ Ran w w' := by
  refine (Stat_calls c.fb c.mb s.F n hn ((hI.tree.ok (by omega)).small n) w _ (sg_open h)).mono ?_
  rintro e w' ⟨rfl, hB⟩
  refine ⟨?_, h.below hB, below_ran hB⟩
  unfold statV hf
  cases find s.F.L n with
  | none => exact ⟨_, _, _, _, rfl⟩
  | some x => exact ⟨_, _, _, _, rfl⟩
end
end Go.Proofs.YteienbdbhnikbaaGreatDoor.Hd

