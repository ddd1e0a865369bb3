/- told of a state that is there walked. (printed by gen_sttp.py) -/
import Derived.Test.YtlmjidandjemjaaGreatDoorStTo
namespace Go.Proofs.YtlmjidandjemjaaGreatDoor.State
open Go.RowKit Go.Proofs.YtlmjidandjemjaaGreatDoor Go.Proofs.YtlmjidandjemjaaGreatDoor.Hp Go.Proofs.YtlmjidandjemjaaGreatDoor.Undo
set_option linter.unusedVariables false
attribute [local go_sem] Oper.semAt_some

/-- A loop that appends what f says of each of the texts. -/
def LoT (K : Ctx) (n : Now) (pre ks : List ByteArray) (f : ByteArray → List ByteArray) (S : Hp) (w : World) (g : Nat) (v5 vi : Value) (wr : World) : Prop :=
  ∃ (i : Nat) (xs : List ByteArray) (p : Option Addr) (cap : Nat), vi = .int .i64 (i : Int) ∧ i + g = ks.length ∧ xs = pre ++ (ks.take i).flatMap f ∧ v5 = .slice p xs.length cap ∧
    SAt K wr n (arr 9 1 p xs.length cap (xs.map sv) * S) ∧ Ran w wr
theorem SAt.swap {K : Ctx} {w : World} {n : Now} {A B R : Hp} (h : SAt K w n (A * (B * R))) : SAt K w n (B * (A * R)) := h.perm (by ac_rfl)
theorem SAt.one {K : Ctx} {w : World} {n : Now} {b : Nat} {v : Value} {R : Hp} (h : SAt K w n (pts b (.cells #[v] 9 (0, 0)) * R)) : SAt K w n (arr 9 1 (some ⟨b, 0, none⟩) 1 1 [v] * R) := by
  obtain ⟨X, h1, h2⟩ := h.frame
  exact h2 _ _ ((one_arr (h1.perm (show _ = pts b (.cells #[v] 9 (0, 0)) * (X * R) by ac_rfl))).perm (by ac_rfl))
theorem StrsAt.addr {w : World} {p : Option Addr} {l : List ByteArray} (h : StrsAt w p l) {i : Nat} (hi : i < l.length) : ∃ b o, p = some ⟨b, o, none⟩ := by
  rcases h with he | ⟨b, o, hp, _⟩
  · rw [he] at hi; exact absurd hi (Nat.not_lt_zero _)
  · exact ⟨b, o, hp⟩
theorem StrsAt.at {w : World} {b o : Nat} {l : List ByteArray} (h : StrsAt w (some ⟨b, o, none⟩) l) {i : Nat} (hi : i < l.length) : w.cell? ⟨b, o + i, none⟩ = some (.string l[i]) := by
  rcases h with he | ⟨b', o', hp, hc⟩
  · subst he; exact absurd hi (Nat.not_lt_zero _)
  · injection hp with hp; injection hp with e1 e2; subst e1 e2; exact hc i hi
theorem traps_at {w : World} {b : Nat} {S : Hp} {tl : List ByteArray} (ht : tl = trapsL) (h : Sat w (pts b trapsO * S)) {i : Nat} (hi : i < tl.length) : w.cell? ⟨b, i, none⟩ = some (.string tl[i]) := by
  subst ht
  have h0 := h.get
  match i, hi with
  | 0, _ => rw [cell_at h0]; rfl
  | 1, _ => rw [cell_at h0]; rfl
  | 2, _ => rw [cell_at h0]; rfl
  | 3, _ => rw [cell_at h0]; rfl
  | 4, _ => rw [cell_at h0]; rfl
theorem traps_size {tl : List ByteArray} (ht : tl = trapsL) {i : Nat} (hi : i < tl.length) : tl[i].size ≤ maxLen := by
  have h : ∀ x ∈ trapsL, x.size ≤ 4 := by
    intro x hx
    simp only [List.mem_cons, List.not_mem_nil, or_false] at hx
    rcases hx with rfl | rfl | rfl | rfl | rfl <;> decide
  have := h _ (by rw [← ht]; exact List.getElem_mem hi)
  unfold maxLen; omega
def ToldSays (K : Ctx) (n : Now) (names : List ByteArray) (R : Hp) (e : Ending) (w' : World) : Prop :=
  ∃ ks al p c, KeysOf n.s.V ks ∧ KeysOf n.s.A al ∧ e = .returned (.slice p (toldL n.s ks al names).length c) ∧ SAt K w' n (arr 9 1 p (toldL n.s ks al names).length c ((toldL n.s ks al names).map sv) * R)
set_option maxRecDepth 100000 in
set_option maxHeartbeats 32000000 in
theorem told_calls (K : Ctx) (n : Now) (c : Nat) (hG : GoodN c n) (hc : c ≤ 900000) (names : List ByteArray) (q : Option Addr) (qc : Nat) (hlen : names.length ≤ 1000) (hsz : ∀ x ∈ names, x.size ≤ maxLen) (w : World) (R : Hp) (hq : ∀ W, SAt K W n R → StrsAt W q names) (h : SAt K w n R) :
    Calls Tryz.prog 23 #[pp K.sb, .slice q names.length qc] w fun e w' => ToldSays K n names R e w' ∧ Ran w w' := by
  have hN : n.N ≤ 1000000 := by have := hG.N; omega
  have HO := Lib.hid (Options_calls K n w R h)
  obtain ⟨o, ho⟩ : ∃ o, o = n.s.o := ⟨_, rfl⟩
  rw [← ho] at HO
  have HE := Lib.hid (Environ_calls K n (w.alloc (.cells #[.string o] 9 (0, 0))) _ hN hG.s.vok (h.alloc (.cells #[.string o] 9 (0, 0))))
  have HG := Lib.hid hG
  have HQ := Lib.hid hq
  have HZ := Lib.hid hsz
  have Ho := Lib.hid ho
  clear hG hq hsz h ho
  go_enter Tryz.func23, Tryz.ntmps23
  go_wp2_with fail
  refine HO.out.mono ?_
  rintro e w1 ⟨rfl, rfl⟩
  clear HO
  go_wp2_with fail
  refine HE.out.mono ?_
  rintro e w1 ⟨⟨ep, ec, ks, rfl, hks, S1⟩, R1⟩
  have hel := envL_len n.s ks
  obtain ⟨ev, hev⟩ : ∃ ev, ev = envL n.s ks := ⟨_, rfl⟩
  rw [← hev] at S1 hel ⊢
  have hst : StrsAt w1 ep ev := StrsAt.arr S1.rest
  have HSB := (S1.swap).one
  have R1 := Lib.hid (Below.trans (Ran.new (Below.refl 0 w) _) R1)
  have Hks := Lib.hid hks
  have Hev := Lib.hid hev
  have hksl : ks.length ≤ 1000000 := by have := keys_bound S1 hks; omega
  have hn1 : [o].length + ev.length ≤ 1000000000 := by show 1 + ev.length ≤ _; omega
  clear HE hks hev S1
  go_wp2_with (at_builtin; go_loud (refine appS rfl _ _ rfl K n _ (some ⟨w.heap.size, 0, none⟩) 1 [o] rfl ep ec ev ev.length rfl rfl hst HSB hn1 ?_; intro p2 c2 w2 S2 R2; generalize hxs : [o] ++ ev = xs at S2 ⊢; clear HSB))
  have S2 := S2
  have hxl : xs.length ≤ 1000001 := by rw [← hxs]; show ([o] ++ ev).length ≤ 1000001; rw [List.length_append]; show 1 + ev.length ≤ 1000001; omega
  have HNm := Lib.hid (Names_calls K n w2 _ hN S2)
  have R2 := Lib.hid (Below.trans R1.out R2)
  have Hxs := Lib.hid hxs
  clear R1 S2 hxs hel hn1 hst
  go_wp2_with fail
  refine HNm.out.mono ?_
  rintro e w3 ⟨⟨kp, kc, ks2, rfl, hks2, -, S3⟩, hB3⟩
  obtain rfl : ks2 = ks := keys_unique hks2 Hks.out
  have S3 := Lib.hid (((S3.swap).perm (show _ = arr 9 1 p2 xs.length c2 (xs.map sv) * (arr 9 1 kp ks2.length kc (ks2.map sv) * (arr 9 1 ep ev.length ec (ev.map sv) * R)) by ac_rfl)))
  have R3 := Lib.hid (Below.trans R2.out (hB3.mono (Nat.zero_le _)))
  clear HNm hB3 R2 hks2
  go_wp2_with fail
  go_loopg [5, 7, 8] (ks2.length) (fun g v5 v7 v8 wr => LoT K n xs ks2 (nameL n.s) (arr 9 1 kp ks2.length kc (ks2.map sv) * (arr 9 1 ep ev.length ec (ev.map sv) * R)) w g v5 v7 wr)
  case atStart => exact ⟨0, xs, p2, c2, rfl, by omega, by simp, rfl, S3.out, R3.out⟩
  case round =>
    obtain ⟨i, ys, p, pc, rfl, hgk, hys, rfl, HSi, HRi⟩ := hrel
    clear S3 R3
    by_cases hlt : i < ks2.length
    · have hltI : (i : Int) < ks2.length := by omega
      have hi0 : (0 : Int) ≤ i := by omega
      have hyl : ys.length ≤ 1000001 + 5 * i := by
        have h1 := flat_len (nameL_len n.s) (ks2.take i)
        rw [List.length_take] at h1
        rw [hys, List.length_append]; omega
      have hcl : StrsAt wr kp ks2 := StrsAt.arr HSi.swap.rest
      obtain ⟨x, hx⟩ : ∃ x, x = ks2[i] := ⟨_, rfl⟩
      have hxm : x ∈ ks2 := by rw [hx]; exact List.getElem_mem hlt
      have hxz : x.size ≤ maxLen := by have := (HG.out.s.V x ((Hks.out.2 x).1 hxm)).1; unfold maxLen; omega
      have HV := Var_calls K n x wr _ hxz HSi
      obtain ⟨y, hy⟩ : ∃ y, y = n.s.var x := ⟨_, rfl⟩
      have hnl : nameL n.s x = [x, y.val] ++ fl y.set setS ++ fl y.exp exportS ++ fl y.fix fixedS := by unfold nameL; rw [← hy]
      rw [← hy] at HV
      obtain ⟨yv, fs, fe, ff⟩ := y
      dsimp only at HV hnl
      have c0 : ∃ b o2, kp = some ⟨b, o2, none⟩ ∧ wr.cell? ⟨b, o2 + i, none⟩ = some (.string x) := by
        rcases hcl with he | ⟨b, o2, hp, hc2⟩
        · rw [he] at hlt; exact absurd hlt (Nat.not_lt_zero _)
        · exact ⟨b, o2, hp, by rw [hc2 i hlt, hx]⟩
      obtain ⟨b, o2, rfl, c0⟩ := c0
      have HV := Lib.hid HV
      have Hx := Lib.hid hx
      have Hnl := Lib.hid hnl
      have Hys := Lib.hid hys
      have HSi := Lib.hid HSi
      have HRi := Lib.hid HRi
      have Hcl := Lib.hid hcl
      clear hx hy hnl hys hcl hxm hxz
      go_wp2_with fail
      refine HV.out.mono ?_
      rintro e w4 ⟨rfl, hB4⟩
      have S5 := ((HSi.out.below hB4).alloc (VM.boxO ⟨yv, fs, fe, ff⟩)).swap
      have hcl5 := Hcl.out.below (hB4.alloc hB4.size (VM.boxO ⟨yv, fs, fe, ff⟩))
      have R5 : Ran w (w4.alloc (VM.boxO ⟨yv, fs, fe, ff⟩)) := Ran.new (Below.trans HRi.out (hB4.mono (Nat.zero_le _))) _
      obtain ⟨w5, hw5⟩ : ∃ w5, w5 = w4.alloc (VM.boxO ⟨yv, fs, fe, ff⟩) := ⟨_, rfl⟩
      obtain ⟨vb, hvb⟩ : ∃ b, b = w4.heap.size := ⟨_, rfl⟩
      rw [← hw5, ← hvb] at S5
      rw [← hw5] at hcl5 R5
      obtain ⟨z0, z1, z2, z3⟩ := VM.box_cells S5.swap.rest
      have c5 : w5.cell? ⟨b, o2 + i, none⟩ = some (.string x) := by
        rcases hcl5 with he | ⟨b', o', hp, hc2⟩
        · rw [he] at hlt; exact absurd hlt (Nat.not_lt_zero _)
        · injection hp with hp; injection hp with e1 e2; subst e1 e2; rw [hc2 i hlt, Hx.out]
      have S5d := Lib.hid S5.drew
      have R5 := Lib.hid (Ran.drewN R5 1)
      have Hc : Hid (∀ (W : World) (A B : Hp), SAt K W n (A * (B * (arr 9 1 (some ⟨b, o2, none⟩) ks2.length kc (ks2.map sv) * (arr 9 1 ep ev.length ec (ev.map sv) * R)))) → W.cell? ⟨b, o2 + i, none⟩ = some (.string x)) := Lib.hid fun W A B hW => by
        rcases (StrsAt.arr hW.right.right.rest : StrsAt W (some ⟨b, o2, none⟩) ks2) with he | ⟨b', o', hp, hc2⟩
        · rw [he] at hlt; exact absurd hlt (Nat.not_lt_zero _)
        · injection hp with hp; injection hp with e1 e2; subst e1 e2; rw [hc2 i hlt, Hx.out]
      have a5 := fun o => (World.cell?_alloc_lt w5.drew o _ (World.block_lt_of_cell? w5.drew _ c5)).trans c5
      have a0 := fun o => (World.cell?_alloc_lt w5.drew o _ (World.block_lt_of_cell? w5.drew _ z0)).trans z0
      have hn5 : ys.length + 2 ≤ 1000000000 := by omega
      clear HV HSi HRi Hcl hcl5 hB4 S5 c0
      go_upto_region 7 with fail
      rw [← hw5, ← hvb]
      clear hw5 hvb
      refine Go.Proofs.YtlmjidandjemjaaGreatDoor.region_plan (S := (fun w' => w'.cell? ⟨b, o2 + i, none⟩ = some (.string x) ∧ w'.cell? ⟨vb, 0, none⟩ = some (.string yv))) [(0, true), (1, true), (2, true), (3, true), (4, true), (5, true), (6, true), (7, false), (8, false), (9, true)] (by kernel_rfl) (by kernel_rfl) (by kernel_rfl) ?_ ?_
      · ((try dsimp only); (first | done | (first | exact ⟨c5, z0⟩ | exact ⟨a5 _, a0 _⟩ | exact ⟨k6, z6.1⟩)))
      simp only [Go.Proofs.YtlmjidandjemjaaGreatDoor.planOps, List.map_cons, List.map_nil, List.getElem?_toArray, List.getElem?_cons_zero, List.getElem?_cons_succ]
      repeat (first
        | ((refine Go.Proofs.YtlmjidandjemjaaGreatDoor.plan_yes (v := ?_) (by rfl) ?_ ?_); rotate_left; (focus (intro w hSw; (try dsimp only at hSw); go_simp; try (with_reducible rfl))); (try simp only [Act.put, List.setIfInBounds_toArray, List.set_cons_zero, List.set_cons_succ]))
        | ((refine Go.Proofs.YtlmjidandjemjaaGreatDoor.plan_no (by rfl) ?_); (try simp only [Act.put, List.setIfInBounds_toArray, List.set_cons_zero, List.set_cons_succ]))
        | ((refine Go.Proofs.YtlmjidandjemjaaGreatDoor.plan_step (fun K hK => ?_)); (first | ((refine stepS rfl _ _ rfl _ n _ p pc ys rfl _ _ [x, yv] 2 rfl rfl (row2 (block_new rfl)) (S5d.out.old _) hn5 ?_; intro p6 c6 w6 S6 R6; generalize hz6 : ys ++ [x, yv] = zs6 at S6 ⊢; have z6 := VM.box_cells S6.swap.rest; have k6 := Hc.out _ _ _ S6)) | (go_simp; ((refine stepS rfl _ _ rfl _ n _ p pc ys rfl _ _ [x, yv] 2 rfl rfl (row2 (block_new rfl)) (S5d.out.old _) hn5 ?_; intro p6 c6 w6 S6 R6; generalize hz6 : ys ++ [x, yv] = zs6 at S6 ⊢; have z6 := VM.box_cells S6.swap.rest; have k6 := Hc.out _ _ _ S6)); (try go_wp2_with fail)) | go_simp); (refine hK.out _ _ ?_ (fun hHeld => ?_)); (focus ((try dsimp only); (first | done | (first | exact ⟨c5, z0⟩ | exact ⟨a5 _, a0 _⟩ | exact ⟨k6, z6.1⟩)))); clear hK K; (try simp only [Act.put, List.setIfInBounds_toArray, List.set_cons_zero, List.set_cons_succ])))
      refine Go.Proofs.YtlmjidandjemjaaGreatDoor.plan_done ?_
      have hl6 : zs6.length ≤ ys.length + 2 := by rw [← hz6, List.length_append]; exact Nat.le_refl _
      have Hz6 := Lib.hid hz6
      have S6 := Lib.hid S6
      have R6 := Lib.hid (Below.trans (Ran.new R5.out _) R6)
      clear R5 hz6 z0 z1 z2 z3 c5
      obtain ⟨z0, z1, z2, z3⟩ := VM.box_cells S6.out.swap.rest
      cases fs with
      | true =>
        cases fe with
        | true =>
          cases ff with
          | true =>
            have HSB6 := S6.out.old (.cells #[.string setS] 9 (0, 0))
            have hn7 : zs6.length + 1 ≤ 1000000000 := by omega
            clear z0 z1 z2 z3
            obtain ⟨z0, z1, z2, z3⟩ := VM.box_cells S6.out.swap.rest
            go_wp2_with (at_builtin; go_loud (first | (refine appS rfl _ _ rfl K n _ p6 c6 zs6 rfl _ _ [setS] 1 rfl rfl (row1s (blk_new rfl)) HSB6 hn7 ?_; intro p7 c7 w7 S7 R7; generalize hz7 : zs6 ++ [setS] = zs7 at S7 ⊢; have hl7 : zs7.length ≤ zs6.length + 1 := (by rw [← hz7, List.length_append]; exact Nat.le_refl _); have Hz7 := Lib.hid hz7; have R7 := Lib.hid (Below.trans (Ran.new R6.out _) R7); obtain ⟨z0, z1, z2, z3⟩ := VM.box_cells S7.swap.rest; have hn8 : zs7.length + 1 ≤ 1000000000 := (by omega); have HSB7 := S7.old (.cells #[.string exportS] 9 (0, 0)); have S7 := Lib.hid S7; clear HSB6 hz7) | (refine appS rfl _ _ rfl K n _ p7 c7 zs7 rfl _ _ [exportS] 1 rfl rfl (row1s (blk_new rfl)) HSB7 hn8 ?_; intro p8 c8 w8 S8 R8; generalize hz8 : zs7 ++ [exportS] = zs8 at S8 ⊢; have hl8 : zs8.length ≤ zs7.length + 1 := (by rw [← hz8, List.length_append]; exact Nat.le_refl _); have Hz8 := Lib.hid hz8; have R8 := Lib.hid (Below.trans (Ran.new R7.out _) R8); obtain ⟨z0, z1, z2, z3⟩ := VM.box_cells S8.swap.rest; have hn9 : zs8.length + 1 ≤ 1000000000 := (by omega); have HSB8 := S8.old (.cells #[.string fixedS] 9 (0, 0)); have S8 := Lib.hid S8; clear HSB7 hz8) | (refine appS rfl _ _ rfl K n _ p8 c8 zs8 rfl _ _ [fixedS] 1 rfl rfl (row1s (blk_new rfl)) HSB8 hn9 ?_; intro p9 c9 w9 S9 R9; generalize hz9 : zs8 ++ [fixedS] = zs9 at S9 ⊢; have hl9 : zs9.length ≤ zs8.length + 1 := (by rw [← hz9, List.length_append]; exact Nat.le_refl _); have Hz9 := Lib.hid hz9; have R9 := Lib.hid (Below.trans (Ran.new R8.out _) R9); obtain ⟨z0, z1, z2, z3⟩ := VM.box_cells S9.swap.rest; have S9 := Lib.hid S9; clear HSB8 hz9)))
            go_roundg (gk - 1)
            case rel =>
              refine ⟨i + 1, zs9, p9, c9, by simp, by omega, ?_, rfl, S9.out.swap.right, R9.out⟩
              rw [flat_snoc _ i hlt, ← Hx.out, Hnl.out, ← Hz9.out, ← Hz8.out, ← Hz7.out, ← Hz6.out, Hys.out]
              simp [fl]
            case measure => omega
          | false =>
            have HSB6 := S6.out.old (.cells #[.string setS] 9 (0, 0))
            have hn7 : zs6.length + 1 ≤ 1000000000 := by omega
            clear z0 z1 z2 z3
            obtain ⟨z0, z1, z2, z3⟩ := VM.box_cells S6.out.swap.rest
            go_wp2_with (at_builtin; go_loud (first | (refine appS rfl _ _ rfl K n _ p6 c6 zs6 rfl _ _ [setS] 1 rfl rfl (row1s (blk_new rfl)) HSB6 hn7 ?_; intro p7 c7 w7 S7 R7; generalize hz7 : zs6 ++ [setS] = zs7 at S7 ⊢; have hl7 : zs7.length ≤ zs6.length + 1 := (by rw [← hz7, List.length_append]; exact Nat.le_refl _); have Hz7 := Lib.hid hz7; have R7 := Lib.hid (Below.trans (Ran.new R6.out _) R7); obtain ⟨z0, z1, z2, z3⟩ := VM.box_cells S7.swap.rest; have hn8 : zs7.length + 1 ≤ 1000000000 := (by omega); have HSB7 := S7.old (.cells #[.string exportS] 9 (0, 0)); have S7 := Lib.hid S7; clear HSB6 hz7) | (refine appS rfl _ _ rfl K n _ p7 c7 zs7 rfl _ _ [exportS] 1 rfl rfl (row1s (blk_new rfl)) HSB7 hn8 ?_; intro p8 c8 w8 S8 R8; generalize hz8 : zs7 ++ [exportS] = zs8 at S8 ⊢; have hl8 : zs8.length ≤ zs7.length + 1 := (by rw [← hz8, List.length_append]; exact Nat.le_refl _); have Hz8 := Lib.hid hz8; have R8 := Lib.hid (Below.trans (Ran.new R7.out _) R8); obtain ⟨z0, z1, z2, z3⟩ := VM.box_cells S8.swap.rest; have S8 := Lib.hid S8; clear HSB7 hz8)))
            go_roundg (gk - 1)
            case rel =>
              refine ⟨i + 1, zs8, p8, c8, by simp, by omega, ?_, rfl, S8.out.swap.right, R8.out⟩
              rw [flat_snoc _ i hlt, ← Hx.out, Hnl.out, ← Hz8.out, ← Hz7.out, ← Hz6.out, Hys.out]
              simp [fl]
            case measure => omega
        | false =>
          cases ff with
          | true =>
            have HSB6 := S6.out.old (.cells #[.string setS] 9 (0, 0))
            have hn7 : zs6.length + 1 ≤ 1000000000 := by omega
            clear z0 z1 z2 z3
            obtain ⟨z0, z1, z2, z3⟩ := VM.box_cells S6.out.swap.rest
            go_wp2_with (at_builtin; go_loud (first | (refine appS rfl _ _ rfl K n _ p6 c6 zs6 rfl _ _ [setS] 1 rfl rfl (row1s (blk_new rfl)) HSB6 hn7 ?_; intro p7 c7 w7 S7 R7; generalize hz7 : zs6 ++ [setS] = zs7 at S7 ⊢; have hl7 : zs7.length ≤ zs6.length + 1 := (by rw [← hz7, List.length_append]; exact Nat.le_refl _); have Hz7 := Lib.hid hz7; have R7 := Lib.hid (Below.trans (Ran.new R6.out _) R7); obtain ⟨z0, z1, z2, z3⟩ := VM.box_cells S7.swap.rest; have hn8 : zs7.length + 1 ≤ 1000000000 := (by omega); have HSB7 := S7.old (.cells #[.string fixedS] 9 (0, 0)); have S7 := Lib.hid S7; clear HSB6 hz7) | (refine appS rfl _ _ rfl K n _ p7 c7 zs7 rfl _ _ [fixedS] 1 rfl rfl (row1s (blk_new rfl)) HSB7 hn8 ?_; intro p8 c8 w8 S8 R8; generalize hz8 : zs7 ++ [fixedS] = zs8 at S8 ⊢; have hl8 : zs8.length ≤ zs7.length + 1 := (by rw [← hz8, List.length_append]; exact Nat.le_refl _); have Hz8 := Lib.hid hz8; have R8 := Lib.hid (Below.trans (Ran.new R7.out _) R8); obtain ⟨z0, z1, z2, z3⟩ := VM.box_cells S8.swap.rest; have S8 := Lib.hid S8; clear HSB7 hz8)))
            go_roundg (gk - 1)
            case rel =>
              refine ⟨i + 1, zs8, p8, c8, by simp, by omega, ?_, rfl, S8.out.swap.right, R8.out⟩
              rw [flat_snoc _ i hlt, ← Hx.out, Hnl.out, ← Hz8.out, ← Hz7.out, ← Hz6.out, Hys.out]
              simp [fl]
            case measure => omega
          | false =>
            have HSB6 := S6.out.old (.cells #[.string setS] 9 (0, 0))
            have hn7 : zs6.length + 1 ≤ 1000000000 := by omega
            clear z0 z1 z2 z3
            obtain ⟨z0, z1, z2, z3⟩ := VM.box_cells S6.out.swap.rest
            go_wp2_with (at_builtin; go_loud (first | (refine appS rfl _ _ rfl K n _ p6 c6 zs6 rfl _ _ [setS] 1 rfl rfl (row1s (blk_new rfl)) HSB6 hn7 ?_; intro p7 c7 w7 S7 R7; generalize hz7 : zs6 ++ [setS] = zs7 at S7 ⊢; have hl7 : zs7.length ≤ zs6.length + 1 := (by rw [← hz7, List.length_append]; exact Nat.le_refl _); have Hz7 := Lib.hid hz7; have R7 := Lib.hid (Below.trans (Ran.new R6.out _) R7); obtain ⟨z0, z1, z2, z3⟩ := VM.box_cells S7.swap.rest; have S7 := Lib.hid S7; clear HSB6 hz7)))
            go_roundg (gk - 1)
            case rel =>
              refine ⟨i + 1, zs7, p7, c7, by simp, by omega, ?_, rfl, S7.out.swap.right, R7.out⟩
              rw [flat_snoc _ i hlt, ← Hx.out, Hnl.out, ← Hz7.out, ← Hz6.out, Hys.out]
              simp [fl]
            case measure => omega
      | false =>
        cases fe with
        | true =>
          cases ff with
          | true =>
            have HSB6 := S6.out.old (.cells #[.string exportS] 9 (0, 0))
            have hn7 : zs6.length + 1 ≤ 1000000000 := by omega
            clear z0 z1 z2 z3
            obtain ⟨z0, z1, z2, z3⟩ := VM.box_cells S6.out.swap.rest
            go_wp2_with (at_builtin; go_loud (first | (refine appS rfl _ _ rfl K n _ p6 c6 zs6 rfl _ _ [exportS] 1 rfl rfl (row1s (blk_new rfl)) HSB6 hn7 ?_; intro p7 c7 w7 S7 R7; generalize hz7 : zs6 ++ [exportS] = zs7 at S7 ⊢; have hl7 : zs7.length ≤ zs6.length + 1 := (by rw [← hz7, List.length_append]; exact Nat.le_refl _); have Hz7 := Lib.hid hz7; have R7 := Lib.hid (Below.trans (Ran.new R6.out _) R7); obtain ⟨z0, z1, z2, z3⟩ := VM.box_cells S7.swap.rest; have hn8 : zs7.length + 1 ≤ 1000000000 := (by omega); have HSB7 := S7.old (.cells #[.string fixedS] 9 (0, 0)); have S7 := Lib.hid S7; clear HSB6 hz7) | (refine appS rfl _ _ rfl K n _ p7 c7 zs7 rfl _ _ [fixedS] 1 rfl rfl (row1s (blk_new rfl)) HSB7 hn8 ?_; intro p8 c8 w8 S8 R8; generalize hz8 : zs7 ++ [fixedS] = zs8 at S8 ⊢; have hl8 : zs8.length ≤ zs7.length + 1 := (by rw [← hz8, List.length_append]; exact Nat.le_refl _); have Hz8 := Lib.hid hz8; have R8 := Lib.hid (Below.trans (Ran.new R7.out _) R8); obtain ⟨z0, z1, z2, z3⟩ := VM.box_cells S8.swap.rest; have S8 := Lib.hid S8; clear HSB7 hz8)))
            go_roundg (gk - 1)
            case rel =>
              refine ⟨i + 1, zs8, p8, c8, by simp, by omega, ?_, rfl, S8.out.swap.right, R8.out⟩
              rw [flat_snoc _ i hlt, ← Hx.out, Hnl.out, ← Hz8.out, ← Hz7.out, ← Hz6.out, Hys.out]
              simp [fl]
            case measure => omega
          | false =>
            have HSB6 := S6.out.old (.cells #[.string exportS] 9 (0, 0))
            have hn7 : zs6.length + 1 ≤ 1000000000 := by omega
            clear z0 z1 z2 z3
            obtain ⟨z0, z1, z2, z3⟩ := VM.box_cells S6.out.swap.rest
            go_wp2_with (at_builtin; go_loud (first | (refine appS rfl _ _ rfl K n _ p6 c6 zs6 rfl _ _ [exportS] 1 rfl rfl (row1s (blk_new rfl)) HSB6 hn7 ?_; intro p7 c7 w7 S7 R7; generalize hz7 : zs6 ++ [exportS] = zs7 at S7 ⊢; have hl7 : zs7.length ≤ zs6.length + 1 := (by rw [← hz7, List.length_append]; exact Nat.le_refl _); have Hz7 := Lib.hid hz7; have R7 := Lib.hid (Below.trans (Ran.new R6.out _) R7); obtain ⟨z0, z1, z2, z3⟩ := VM.box_cells S7.swap.rest; have S7 := Lib.hid S7; clear HSB6 hz7)))
            go_roundg (gk - 1)
            case rel =>
              refine ⟨i + 1, zs7, p7, c7, by simp, by omega, ?_, rfl, S7.out.swap.right, R7.out⟩
              rw [flat_snoc _ i hlt, ← Hx.out, Hnl.out, ← Hz7.out, ← Hz6.out, Hys.out]
              simp [fl]
            case measure => omega
        | false =>
          cases ff with
          | true =>
            have HSB6 := S6.out.old (.cells #[.string fixedS] 9 (0, 0))
            have hn7 : zs6.length + 1 ≤ 1000000000 := by omega
            clear z0 z1 z2 z3
            obtain ⟨z0, z1, z2, z3⟩ := VM.box_cells S6.out.swap.rest
            go_wp2_with (at_builtin; go_loud (first | (refine appS rfl _ _ rfl K n _ p6 c6 zs6 rfl _ _ [fixedS] 1 rfl rfl (row1s (blk_new rfl)) HSB6 hn7 ?_; intro p7 c7 w7 S7 R7; generalize hz7 : zs6 ++ [fixedS] = zs7 at S7 ⊢; have hl7 : zs7.length ≤ zs6.length + 1 := (by rw [← hz7, List.length_append]; exact Nat.le_refl _); have Hz7 := Lib.hid hz7; have R7 := Lib.hid (Below.trans (Ran.new R6.out _) R7); obtain ⟨z0, z1, z2, z3⟩ := VM.box_cells S7.swap.rest; have S7 := Lib.hid S7; clear HSB6 hz7)))
            go_roundg (gk - 1)
            case rel =>
              refine ⟨i + 1, zs7, p7, c7, by simp, by omega, ?_, rfl, S7.out.swap.right, R7.out⟩
              rw [flat_snoc _ i hlt, ← Hx.out, Hnl.out, ← Hz7.out, ← Hz6.out, Hys.out]
              simp [fl]
            case measure => omega
          | false =>
            go_wp2_with fail
            go_roundg (gk - 1)
            case rel =>
              refine ⟨i + 1, zs6, p6, c6, by simp, by omega, ?_, rfl, S6.out.swap.right, R6.out⟩
              rw [flat_snoc _ i hlt, ← Hx.out, Hnl.out, ← Hz6.out, Hys.out]
              simp [fl]
            case measure => omega
    · have hge : i = ks2.length := by omega
      subst hge
      rw [List.take_length] at hys
      have hfl := flat_len (nameL_len n.s) ks2
      have hyl : ys.length ≤ 6000001 := by rw [hys, List.length_append]; omega
      have hll : n.s.l.length ≤ 1100 := HG.out.s.l
      have HSi := HSi.swap.right.swap.right
      have HSB := HSi.old (.cells #[.string argsS] 9 (0, 0))
      have hn4 : ys.length + 1 ≤ 1000000000 := by omega
      have Hys := Lib.hid hys
      have HRi := Lib.hid HRi
      clear hys hfl HSi hlt
      go_wp2_with (at_builtin; go_loud (refine appS rfl _ _ rfl K n _ p pc ys rfl _ _ [argsS] 1 rfl rfl (row1s (blk_new rfl)) HSB hn4 ?_; intro p4 c4 w4 S4 R4; generalize hz4 : ys ++ [argsS] = zs4 at S4 ⊢; clear HSB))
      have hl4 : zs4.length ≤ ys.length + 1 := by rw [← hz4, List.length_append]; exact Nat.le_refl _
      have Hz4 := Lib.hid hz4
      have HAr := Lib.hid (Args_calls K n w4 _ (by omega) S4)
      have R4 := Lib.hid (Below.trans (Ran.new HRi.out _) R4)
      clear S4 hz4 HRi
      go_wp2_with fail
      refine HAr.out.mono ?_
      rintro e w5 ⟨⟨ap, ac, rfl, S5⟩, hB5⟩
      have hst : StrsAt w5 ap n.s.l := StrsAt.arr S5.rest
      obtain ⟨l, hl⟩ : ∃ l, l = n.s.l := ⟨_, rfl⟩
      rw [← hl] at S5 hst hll ⊢
      have HSB := S5.swap
      have hn5 : zs4.length + l.length ≤ 1000000000 := by omega
      have R5 := Lib.hid (Below.trans R4.out (hB5.mono (Nat.zero_le _)))
      have Hl := Lib.hid hl
      clear HAr S5 hB5 R4 hl
      go_wp2_with (at_builtin; go_loud (refine appS rfl _ _ rfl K n _ p4 c4 zs4 rfl ap ac l l.length rfl rfl hst HSB hn5 ?_; intro p6 c6 w6 S6 R6; generalize hz6 : zs4 ++ l = zs6 at S6 ⊢; clear HSB))
      have hl6 : zs6.length ≤ 6002000 := by rw [← hz6, List.length_append]; omega
      have Hz6 := Lib.hid hz6
      have S6 := S6.swap.right
      have HAl := Lib.hid (Aliases_calls K n w6 _ hN S6)
      have R6 := Lib.hid (Below.trans R5.out R6)
      clear S6 hz6 R5 hst hn5 hn4 hl4
      go_wp2_with fail
      refine HAl.out.mono ?_
      rintro e w7 ⟨⟨qp, qc2, al, rfl, hal, hall, S7⟩, hB7⟩
      have S7 := Lib.hid ((S7.swap).perm (show _ = arr 9 1 p6 zs6.length c6 (zs6.map sv) * (arr 9 1 qp al.length qc2 (al.map sv) * R) by rfl))
      have R7 := Lib.hid (Below.trans R6.out (hB7.mono (Nat.zero_le _)))
      have Hal := Lib.hid hal
      clear HAl hB7 R6 hal
      go_wp2_with fail
      go_loopg [5, 9, 10, 11] (al.length) (fun g v5 v9 v10 v11 wr => LoT K n zs6 al (aliasL n.s) (arr 9 1 qp al.length qc2 (al.map sv) * R) w g v5 v9 wr)
      case atStart => exact ⟨0, zs6, p6, c6, rfl, by omega, by simp, rfl, S7.out, R7.out⟩
      case round =>
        obtain ⟨i, us, p, pc, rfl, hgk, hus, rfl, HSi, HRi⟩ := hrel
        clear S7 R7
        by_cases hlt : i < al.length
        · have hltI : (i : Int) < al.length := by omega
          have hi0 : (0 : Int) ≤ i := by omega
          have hul : us.length ≤ 6002000 + 5 * i := by
            have h1 := flat_len (aliasL_len n.s) (al.take i)
            rw [List.length_take] at h1
            rw [hus, List.length_append]; omega
          obtain ⟨x, hx⟩ : ∃ x, x = al[i] := ⟨_, rfl⟩
          have hxm : x ∈ al := by rw [hx]; exact List.getElem_mem hlt
          have hxz : x.size ≤ maxLen := by have := HG.out.s.A x ((Hal.out.2 x).1 hxm); unfold maxLen; omega
          obtain ⟨b, o2, rfl⟩ := StrsAt.addr (StrsAt.arr HSi.swap.rest) hlt
          have c0 := StrsAt.at (StrsAt.arr HSi.swap.rest) hlt
          have HV := Alias_calls K n x wr _ hxz HSi
          obtain ⟨y, hy⟩ : ∃ y, y = (n.s.A x).getD ⟨#[]⟩ := ⟨_, rfl⟩
          obtain ⟨bb, hbb⟩ : ∃ bb, bb = (n.s.A x).isSome := ⟨_, rfl⟩
          have hnl : aliasL n.s x = [x, y] := by unfold aliasL; rw [← hy]
          rw [← hy, ← hbb] at HV
          rw [← hx] at c0
          have HV := Lib.hid HV
          have Hx := Lib.hid hx
          have Hnl := Lib.hid hnl
          have Hus := Lib.hid hus
          have HSi := Lib.hid HSi
          have HRi := Lib.hid HRi
          clear hx hy hbb hnl hus hxm hxz
          go_wp2_with fail
          refine HV.out.mono ?_
          rintro e w4 ⟨rfl, hB4⟩
          have S5 := HSi.out.below hB4
          have c5 := StrsAt.at (StrsAt.arr S5.swap.rest) hlt
          rw [← Hx.out] at c5
          have R5 := Lib.hid (Below.trans HRi.out (hB4.mono (Nat.zero_le _)))
          have HSB := S5.old (.cells #[.string x, .string y] 9 (0, 0))
          have hn9 : us.length + 2 ≤ 1000000000 := by omega
          clear HV HSi HRi hB4 S5 c0
          go_wp2_with (at_builtin; go_loud (refine appS rfl _ _ rfl K n _ p pc us rfl _ _ [x, y] 2 rfl rfl (row2 (blk_new rfl)) HSB hn9 ?_; intro p8 c8 w8 S8 R8; generalize hz8 : us ++ [x, y] = zs8 at S8 ⊢; have Hz8 := Lib.hid hz8; have S8 := Lib.hid S8; have R8 := Lib.hid (Below.trans (Ran.new R5.out _) R8); clear HSB hz8))
          go_roundg (gk - 1)
          case rel =>
            refine ⟨i + 1, zs8, p8, c8, by simp, by omega, ?_, rfl, S8.out, R8.out⟩
            rw [flat_snoc _ i hlt, ← Hx.out, Hnl.out, ← Hz8.out, Hus.out]
            simp
          case measure => omega
        · have hge : i = al.length := by omega
          subst hge
          rw [List.take_length] at hus
          have hfl := flat_len (aliasL_len n.s) al
          have hul : us.length ≤ 12000000 := by rw [hus, List.length_append]; omega
          have Hus := Lib.hid hus
          obtain ⟨tl, htl⟩ : ∃ tl, tl = trapsL := ⟨_, rfl⟩
          have S6 := HSi.swap.right.alloc trapsO
          have R6 := Ran.new HRi trapsO
          obtain ⟨w6, hw6⟩ : ∃ w6, w6 = wr.alloc trapsO := ⟨_, rfl⟩
          obtain ⟨tb, htb⟩ : ∃ b, b = wr.heap.size := ⟨_, rfl⟩
          rw [← hw6, ← htb] at S6
          rw [← hw6] at R6
          have S6 := Lib.hid S6.swap
          have R6 := Lib.hid R6
          have Htl := Lib.hid htl
          have h5 : tl.length ≤ 5 ∧ 5 ≤ tl.length := by rw [htl]; exact ⟨Nat.le_refl _, Nat.le_refl _⟩
          obtain ⟨h5a, h5b⟩ := h5
          clear hus hfl HSi HRi htl hlt
          go_upto_region 22 with fail
          rw [← hw6, ← htb]
          clear hw6 htb
          go_wp2_with fail
          go_loopg [5, 13, 14, 15] (tl.length) (fun g v5 v13 v14 v15 wr => LoT K n us tl (trapL n.s) (pts tb trapsO * R) w g v5 v13 wr)
          case atStart => exact ⟨0, us, p, pc, rfl, by omega, by simp, rfl, S6.out, R6.out⟩
          case round =>
            obtain ⟨i, vs, p, pc, rfl, hgk, hvs, rfl, HSi, HRi⟩ := hrel
            clear S6 R6
            by_cases hlt : i < tl.length
            · have hltI : (i : Int) < 5 := by omega
              have hi0 : (0 : Int) ≤ i := by omega
              have hvl : vs.length ≤ 12000000 + 5 * i := by
                have h1 := flat_len (trapL_len n.s) (tl.take i)
                rw [List.length_take] at h1
                rw [hvs, List.length_append]; omega
              obtain ⟨x, hx⟩ : ∃ x, x = tl[i] := ⟨_, rfl⟩
              have c0 := traps_at Htl.out HSi.swap.rest hlt
              have hxz := traps_size Htl.out hlt
              rw [← hx] at c0 hxz
              have HV := Trap_calls K n x wr _ hxz HSi
              obtain ⟨y, hy⟩ : ∃ y, y = (n.s.T x).getD ⟨#[]⟩ := ⟨_, rfl⟩
              obtain ⟨bb, hbb⟩ : ∃ bb, bb = (n.s.T x).isSome := ⟨_, rfl⟩
              have hnl : trapL n.s x = if bb = true then [x, y] else [] := by unfold trapL; rw [← hy, ← hbb]
              rw [← hy, ← hbb] at HV
              have HV := Lib.hid HV
              have Hx := Lib.hid hx
              have Hnl := Lib.hid hnl
              have Hvs := Lib.hid hvs
              have HSi := Lib.hid HSi
              have HRi := Lib.hid HRi
              clear hx hy hbb hnl hvs hxz
              cases bb with
              | false =>
                go_wp2_with fail
                refine HV.out.mono ?_
                rintro e w4 ⟨rfl, hB4⟩
                have S5 := Lib.hid (HSi.out.below hB4)
                have R5 := Lib.hid (Below.trans HRi.out (hB4.mono (Nat.zero_le _)))
                clear HV HSi HRi hB4 c0
                go_wp2_with fail
                go_roundg (gk - 1)
                case rel =>
                  refine ⟨i + 1, vs, p, pc, by simp, by omega, ?_, rfl, S5.out, R5.out⟩
                  rw [flat_snoc _ i hlt, ← Hx.out, Hnl.out, Hvs.out]
                  simp
                case measure => omega
              | true =>
                go_wp2_with fail
                refine HV.out.mono ?_
                rintro e w4 ⟨rfl, hB4⟩
                have S5 := HSi.out.below hB4
                have c5 := traps_at Htl.out S5.swap.rest hlt
                rw [← Hx.out] at c5
                have R5 := Lib.hid (Below.trans HRi.out (hB4.mono (Nat.zero_le _)))
                have HSB := S5.old (.cells #[.string x, .string y] 9 (0, 0))
                have hn9 : vs.length + 2 ≤ 1000000000 := by omega
                clear HV HSi HRi hB4 S5 c0
                go_wp2_with (at_builtin; go_loud (refine appS rfl _ _ rfl K n _ p pc vs rfl _ _ [x, y] 2 rfl rfl (row2 (blk_new rfl)) HSB hn9 ?_; intro p8 c8 w8 S8 R8; generalize hz8 : vs ++ [x, y] = zs8 at S8 ⊢; have Hz8 := Lib.hid hz8; have S8 := Lib.hid S8; have R8 := Lib.hid (Below.trans (Ran.new R5.out _) R8); clear HSB hz8))
                go_roundg (gk - 1)
                case rel =>
                  refine ⟨i + 1, zs8, p8, c8, by simp, by omega, ?_, rfl, S8.out, R8.out⟩
                  rw [flat_snoc _ i hlt, ← Hx.out, Hnl.out, ← Hz8.out, Hvs.out]
                  simp
                case measure => omega
            · have hge : i = tl.length := by omega
              have hge5 : (5 : Int) ≤ i := by omega
              have hge6 : (i : Int) ≤ 5 := by omega
              have hvl : vs.length ≤ 12000030 := by
                have h1 := flat_len (trapL_len n.s) (tl.take i)
                rw [List.length_take] at h1
                rw [hvs, List.length_append]; omega
              have hvs : vs = us ++ tl.flatMap (trapL n.s) := by rw [hvs, hge, List.take_length]
              have Hvs := Lib.hid hvs
              have S6 := Lib.hid HSi.swap.right
              have R6 := Lib.hid HRi
              clear hvs HSi HRi hlt hge
              go_wp2_with fail
              go_loopg [5, 16, 17, 18] (names.length) (fun g v5 v16 v17 v18 wr => LoT K n vs names (funcL n.s) R w g v5 v16 wr)
              case atStart => exact ⟨0, vs, p, pc, rfl, by omega, by simp, rfl, S6.out, R6.out⟩
              case round =>
                obtain ⟨j, ts, p, pc, rfl, hgk2, hts, rfl, HSi, HRi⟩ := hrel
                clear S6 R6 hge5 hge6
                by_cases hlt : j < names.length
                · have hltI : (j : Int) < names.length := by omega
                  have hj0 : (0 : Int) ≤ j := by omega
                  have htl : ts.length ≤ 12000030 + 5 * j := by
                    have h1 := flat_len (funcL_len n.s) (names.take j)
                    rw [List.length_take] at h1
                    rw [hts, List.length_append]; omega
                  obtain ⟨x, hx⟩ : ∃ x, x = names[j] := ⟨_, rfl⟩
                  have hxz : x.size ≤ maxLen := HZ.out x (by rw [hx]; exact List.getElem_mem hlt)
                  obtain ⟨b, o2, rfl⟩ := StrsAt.addr (HQ.out _ HSi.right) hlt
                  have c0 := StrsAt.at (HQ.out _ HSi.right) hlt
                  rw [← hx] at c0
                  have HV := Func_calls K n x wr _ hxz HSi
                  obtain ⟨y, hy⟩ : ∃ y, y = (n.s.F x).getD NM.zt := ⟨_, rfl⟩
                  obtain ⟨bb, hbb⟩ : ∃ bb, bb = (n.s.F x).isSome := ⟨_, rfl⟩
                  have hnl : funcL n.s x = if bb = true then [x, y.name] else [] := by unfold funcL; rw [← hy, ← hbb]
                  rw [← hy, ← hbb] at HV
                  obtain ⟨kd, nm⟩ := y
                  dsimp only at HV hnl
                  have HV := Lib.hid HV
                  have Hx := Lib.hid hx
                  have Hnl := Lib.hid hnl
                  have Hts := Lib.hid hts
                  have HSi := Lib.hid HSi
                  have HRi := Lib.hid HRi
                  clear hx hy hbb hnl hts hxz
                  cases bb with
                  | false =>
                    go_wp2_with fail
                    refine HV.out.mono ?_
                    rintro e w4 ⟨rfl, hB4⟩
                    have S5 := Lib.hid (HSi.out.below hB4)
                    have R5 := Lib.hid (Below.trans HRi.out (hB4.mono (Nat.zero_le _)))
                    clear HV HSi HRi hB4 c0
                    go_wp2_with fail
                    go_roundg (gk - 1)
                    case rel =>
                      refine ⟨j + 1, ts, p, pc, by simp, by omega, ?_, rfl, S5.out.old _, Ran.new R5.out _⟩
                      rw [flat_snoc _ j hlt, ← Hx.out, Hnl.out, Hts.out]
                      simp
                    case measure => omega
                  | true =>
                    go_wp2_with fail
                    refine HV.out.mono ?_
                    rintro e w4 ⟨rfl, hB4⟩
                    have S5 := ((HSi.out.below hB4).alloc (NM.boxO ⟨kd, nm⟩)).swap
                    have R5 : Ran w (w4.alloc (NM.boxO ⟨kd, nm⟩)) := Ran.new (Below.trans HRi.out (hB4.mono (Nat.zero_le _))) _
                    obtain ⟨w5, hw5⟩ : ∃ w5, w5 = w4.alloc (NM.boxO ⟨kd, nm⟩) := ⟨_, rfl⟩
                    obtain ⟨vb, hvb⟩ : ∃ b, b = w4.heap.size := ⟨_, rfl⟩
                    rw [← hw5, ← hvb] at S5
                    rw [← hw5] at R5
                    obtain ⟨z0, z1, z2, z3, z4, z5, z6, z7, z8⟩ := NM.box_cells S5.swap.rest
                    have c5 := StrsAt.at (HQ.out _ S5.right.right) hlt
                    rw [← Hx.out] at c5
                    have S5d := Lib.hid S5.drew
                    have R5 := Lib.hid (Ran.drewN R5 1)
                    have Hc : Hid (∀ (W : World) (A B : Hp), SAt K W n (A * (B * R)) → W.cell? ⟨b, o2 + j, none⟩ = some (.string x)) := Lib.hid fun W A B hW => by
                      have := StrsAt.at (HQ.out _ hW.right.right) hlt
                      rw [← Hx.out] at this
                      exact this
                    have a5 := fun o => (World.cell?_alloc_lt w5.drew o _ (World.block_lt_of_cell? w5.drew _ c5)).trans c5
                    have a2 := fun o => (World.cell?_alloc_lt w5.drew o _ (World.block_lt_of_cell? w5.drew _ z2)).trans z2
                    have hn5 : ts.length + 2 ≤ 1000000000 := by omega
                    clear HV HSi HRi hB4 S5 c0
                    go_upto_region 33 with fail
                    rw [← hw5, ← hvb]
                    clear hw5 hvb
                    refine Go.Proofs.YtlmjidandjemjaaGreatDoor.region_plan (S := (fun w' => w'.cell? ⟨b, o2 + j, none⟩ = some (.string x) ∧ w'.cell? ⟨vb, 2, none⟩ = some (.string nm))) [(0, true), (1, true), (2, true), (3, true), (4, true), (5, true), (6, true), (7, false), (8, false), (9, true)] (by kernel_rfl) (by kernel_rfl) (by kernel_rfl) ?_ ?_
                    · ((try dsimp only); (first | done | (first | exact ⟨c5, z2⟩ | exact ⟨a5 _, a2 _⟩ | exact ⟨k6, z6.2.2.1⟩)))
                    simp only [Go.Proofs.YtlmjidandjemjaaGreatDoor.planOps, List.map_cons, List.map_nil, List.getElem?_toArray, List.getElem?_cons_zero, List.getElem?_cons_succ]
                    repeat (first
                      | ((refine Go.Proofs.YtlmjidandjemjaaGreatDoor.plan_yes (v := ?_) (by rfl) ?_ ?_); rotate_left; (focus (intro w hSw; (try dsimp only at hSw); go_simp; try (with_reducible rfl))); (try simp only [Act.put, List.setIfInBounds_toArray, List.set_cons_zero, List.set_cons_succ]))
                      | ((refine Go.Proofs.YtlmjidandjemjaaGreatDoor.plan_no (by rfl) ?_); (try simp only [Act.put, List.setIfInBounds_toArray, List.set_cons_zero, List.set_cons_succ]))
                      | ((refine Go.Proofs.YtlmjidandjemjaaGreatDoor.plan_step (fun K hK => ?_)); (first | ((refine stepS rfl _ _ rfl _ n _ p pc ts rfl _ _ [x, nm] 2 rfl rfl (row2 (block_new rfl)) (S5d.out.old _) hn5 ?_; intro p6 c6 w6 S6 R6; generalize hz6 : ts ++ [x, nm] = zs6 at S6 ⊢; have z6 := NM.box_cells S6.swap.rest; have k6 := Hc.out _ _ _ S6)) | (go_simp; ((refine stepS rfl _ _ rfl _ n _ p pc ts rfl _ _ [x, nm] 2 rfl rfl (row2 (block_new rfl)) (S5d.out.old _) hn5 ?_; intro p6 c6 w6 S6 R6; generalize hz6 : ts ++ [x, nm] = zs6 at S6 ⊢; have z6 := NM.box_cells S6.swap.rest; have k6 := Hc.out _ _ _ S6)); (try go_wp2_with fail)) | go_simp); (refine hK.out _ _ ?_ (fun hHeld => ?_)); (focus ((try dsimp only); (first | done | (first | exact ⟨c5, z2⟩ | exact ⟨a5 _, a2 _⟩ | exact ⟨k6, z6.2.2.1⟩)))); clear hK K; (try simp only [Act.put, List.setIfInBounds_toArray, List.set_cons_zero, List.set_cons_succ])))
                    refine Go.Proofs.YtlmjidandjemjaaGreatDoor.plan_done ?_
                    have Hz6 := Lib.hid hz6
                    have S6 := Lib.hid S6
                    have R6 := Lib.hid (Below.trans (Ran.new R5.out _) R6)
                    clear R5 hz6 z0 z1 z2 z3 z4 z5 z7 z8 c5
                    go_wp2_with fail
                    go_roundg (gk - 1)
                    case rel =>
                      refine ⟨j + 1, zs6, p6, c6, by simp, by omega, ?_, rfl, S6.out.swap.right, R6.out⟩
                      rw [flat_snoc _ j hlt, ← Hx.out, Hnl.out, ← Hz6.out, Hts.out]
                      simp
                    case measure => omega
                · have hge : j = names.length := by omega
                  have hgeI : (names.length : Int) ≤ j := by omega
                  have hall2 : ts = toldL n.s ks2 al names := by
                    rw [hts, hge, List.take_length, Hvs.out, Hus.out, ← Hz6.out, ← Hz4.out, Hys.out, ← Hxs.out, Ho.out, Hev.out, Htl.out, Hl.out]
                    rfl
                  have Hend : Hid (ToldSays K n names R (.returned (.slice p ts.length pc)) wr) := Lib.hid ⟨ks2, al, p, pc, Hks.out, Hal.out, by rw [hall2], by rw [← hall2]; exact HSi⟩
                  have HRi := Lib.hid HRi
                  clear hts HSi hall2 hge
                  go_wp2_with fail
                  go_ret
                  exact ⟨Hend.out, HRi.out⟩
end Go.Proofs.YtlmjidandjemjaaGreatDoor.State
