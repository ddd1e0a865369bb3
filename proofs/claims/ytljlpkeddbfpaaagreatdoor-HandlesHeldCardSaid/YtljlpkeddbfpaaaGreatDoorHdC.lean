/- Stat of a tree walked. -/
import Derived.Test.YtljlpkeddbfpaaaGreatDoorHdB
namespace Go.Proofs.YtljlpkeddbfpaaaGreatDoor.Hd
open Go.RowKit Go.Maps Go.Proofs.YtljlpkeddbfpaaaGreatDoor Go.Proofs.YtljlpkeddbfpaaaGreatDoor.Hp
set_option linter.unusedVariables false
attribute [local go_sem] Oper.semAt_some

def ksz : Option Kd → Nat
  | none => 0
  | some k => k.sz
theorem kids_len {w : World} {k : Option Kd} {S : Hp} (h : Sat w (kidsHp k * S)) (ty : TypeId) : (Builtin.len_ #[98] ty #[kv k]).run Tryz.prog w = .ok (.int .i64 (ksz k : Int)) w := by
  cases k with
  | none => exact K.smap_nil w ty
  | some k => exact K.smap_len h ty
abbrev infoO (a b c d : Int) : Obj := .cells #[.int .i64 a, .int .i64 b, .int .i64 c, .int .i64 d] 64 (0, 0)
theorem info_cells {w : World} {b : Nat} {x y z u : Int} {S : Hp} (h : Sat w (pts b (infoO x y z u) * S)) : w.cell? ⟨b, 0, none⟩ = some (.int .i64 x) ∧ w.cell? ⟨b, 1, none⟩ = some (.int .i64 y) ∧ w.cell? ⟨b, 2, none⟩ = some (.int .i64 z) ∧ w.cell? ⟨b, 3, none⟩ = some (.int .i64 u) := by
  have hb := h.get
  refine ⟨?_, ?_, ?_, ?_⟩ <;> rw [cell_at hb] <;> rfl
def statE (F : Fs) (k : Int) : Int := match find F.L k with
  | none => 10
  | some _ => 0
def sizeN (x : Nd) : Int := (x.text.size : Int) + (ksz x.kids : Int)
def statV (F : Fs) (k : Int) : Value := match find F.L k with
  | none => .agg #[.int .i64 0, .int .i64 0, .int .i64 0, .int .i64 0]
  | some x => .agg #[.int .i64 x.kind, .int .i64 (sizeN x), .int .i64 x.names, .int .i64 x.holds]
def NdSmall (x : Nd) : Prop := x.text.size ≤ 1000000 ∧ ksz x.kids ≤ 1000000
set_option maxRecDepth 100000 in
set_option maxHeartbeats 8000000 in
theorem Stat_calls (fb mb : Nat) (F : Fs) (k : Int) (hk : I64 k) (hs : ∀ x, find F.L k = some x → NdSmall x) (w : World) (R : Hp) (h : Sat w (fsHp fb mb F * R)) :
    Calls Tryz.prog 25 #[pp fb, .int .i64 k] w fun e w' => e = .returned (.tuple #[statV F k, .int .i64 (statE F k)]) ∧ Below w.heap.size w w' := by
  unfold statE statV
  have H1 := h.alloc (infoO 0 0 0 0)
  obtain ⟨r0, r1, r2, r3⟩ := info_cells H1
  have hB1 := (Below.refl w.heap.size w).alloc (Nat.le_refl _) (infoO 0 0 0 0)
  have H2 := H1.perm (show _ = fsHp fb mb F * (pts w.heap.size (infoO 0 0 0 0) * R) by ac_rfl)
  obtain ⟨c0, c1, c2, c3⟩ := fs_cells H2
  have hl := fs_look H2 k hk
  cases hx : find F.L k with
  | none =>
    have : blk F.L k = none := by unfold blk; rw [hx]; rfl
    rw [this] at hl
    unfold pv at hl
    clear h hx this hs H2 H1
    have HB1 := Lib.hid hB1
    clear hB1
    go_enter Tryz.func25, Tryz.ntmps25
    go_wp2_with fail
    exact bodyPost_ret (v := .tuple #[.agg #[.int .i64 0, .int .i64 0, .int .i64 0, .int .i64 0], .int .i64 10]) (by simp [results, Tryz.results25, go_sem]) rfl ⟨rfl, HB1.out⟩
  | some x =>
    have hl2 : blk F.L k = some x.b := by unfold blk; rw [hx]; rfl
    rw [hl2] at hl
    unfold pv at hl
    obtain ⟨h1, h2⟩ := hs x hx
    obtain ⟨X, H3, _⟩ := fs_node H2 hx
    have D3 := H3.drew
    have hlen := kids_len (D3.perm (show _ = kidsHp x.kids * (pts x.b (ndO x) * (pts fb (fsO F mb) * (X * (pts w.heap.size (infoO 0 0 0 0) * R)))) by ac_rfl))
    obtain ⟨d0, d1, d2, d3, d4, d5⟩ := nd_cells D3
    have D5 := ((h.alloc (infoO x.kind ((x.text.size : Int) + (ksz x.kids : Int)) x.names x.holds)).perm (show _ = fsHp fb mb F * (pts w.heap.size (infoO x.kind ((x.text.size : Int) + (ksz x.kids : Int)) x.names x.holds) * R) by ac_rfl)).drew
    obtain ⟨X5, D6, _⟩ := fs_node D5 hx
    obtain ⟨q0, q1, q2, q3, q4, q5⟩ := nd_cells D6
    have hlen5 := kids_len (D6.perm (show _ = kidsHp x.kids * (pts x.b (ndO x) * (pts fb (fsO F mb) * (X5 * (pts w.heap.size (infoO x.kind ((x.text.size : Int) + (ksz x.kids : Int)) x.names x.holds) * R)))) by ac_rfl))
    obtain ⟨r0, r1, r2, r3⟩ := info_cells (D6.perm (show _ = pts w.heap.size (infoO x.kind ((x.text.size : Int) + (ksz x.kids : Int)) x.names x.holds) * (kidsHp x.kids * (pts x.b (ndO x) * (pts fb (fsO F mb) * (X5 * R)))) by ac_rfl))
    have HB3 := Lib.hid (((Below.refl w.heap.size w).alloc (Nat.le_refl _) (infoO x.kind ((x.text.size : Int) + (ksz x.kids : Int)) x.names x.holds)).trans ⟨rfl, rfl, rfl, Nat.le_refl _, fun _ _ => rfl⟩ : Below w.heap.size w (w.alloc (infoO x.kind ((x.text.size : Int) + (ksz x.kids : Int)) x.names x.holds)).drew)
    show Calls _ _ _ _ (fun e w' => e = .returned (.tuple #[.agg #[.int .i64 x.kind, .int .i64 ((x.text.size : Int) + (ksz x.kids : Int)), .int .i64 x.names, .int .i64 x.holds], .int .i64 0]) ∧ Below w.heap.size w w')
    have hb1 : (x.text.size : Int) ≤ 1000000 := by omega
    have hb2 : (ksz x.kids : Int) ≤ 1000000 := by omega
    have hb3 : (0 : Int) ≤ (ksz x.kids : Int) := by omega
    have hw : IntKind.i64.wrap ((x.text.size : Int) + (ksz x.kids : Int)) = (x.text.size : Int) + (ksz x.kids : Int) := IntWalk.i64_in _ (by omega)
    clear h hx hl2 hs H2 H1 H3 D3 D5 D6 h1 h2 hB1 c0 c1 c2
    go_enter Tryz.func25, Tryz.ntmps25
    go_wp2_with fail
    refine Go.Proofs.YtljlpkeddbfpaaaGreatDoor.region_plan (S := (fun w' => w'.cell? ⟨x.b, 0, none⟩ = some (.int .i64 x.kind) ∧ w'.cell? ⟨x.b, 1, none⟩ = some (.string x.text) ∧ w'.cell? ⟨x.b, 2, none⟩ = some (kv x.kids) ∧ w'.cell? ⟨x.b, 4, none⟩ = some (.int .i64 x.names) ∧ w'.cell? ⟨x.b, 5, none⟩ = some (.int .i64 x.holds) ∧ ∀ ty, (Builtin.len_ #[98] ty #[kv x.kids]).run Tryz.prog w' = .ok (.int .i64 (ksz x.kids : Int)) w')) [(0, true), (1, true), (2, true), (3, true), (4, true), (5, true), (6, true), (7, true), (8, true), (9, true), (10, true), (11, true), (12, true), (13, true), (14, true), (15, true), (16, true), (17, true), (18, true), (19, true), (20, true), (21, true), (22, true), (23, true), (24, false), (25, true)] (by kernel_rfl) (by kernel_rfl) (by kernel_rfl) ?_ ?_
    · ((try dsimp only); (first | done | (first | exact ⟨d0, d1, d2, d4, d5, hlen⟩ | exact ⟨q0, q1, q2, q4, q5, hlen5⟩)))
    simp only [Go.Proofs.YtljlpkeddbfpaaaGreatDoor.planOps, List.map_cons, List.map_nil, List.getElem?_toArray, List.getElem?_cons_zero, List.getElem?_cons_succ]
    repeat (first
      | ((refine Go.Proofs.YtljlpkeddbfpaaaGreatDoor.plan_yes (v := ?_) (by rfl) ?_ ?_); rotate_left; (focus (intro w hSw; (try dsimp only at hSw); go_simp; try (with_reducible rfl))); (try simp only [Act.put, List.setIfInBounds_toArray, List.set_cons_zero, List.set_cons_succ]))
      | ((refine Go.Proofs.YtljlpkeddbfpaaaGreatDoor.plan_no (by rfl) ?_); (try simp only [Act.put, List.setIfInBounds_toArray, List.set_cons_zero, List.set_cons_succ]))
      | ((refine Go.Proofs.YtljlpkeddbfpaaaGreatDoor.plan_step (fun K hK => ?_)); (first | (fail) | (go_simp; (fail); (try go_wp2_with fail)) | go_simp); (refine hK.out _ _ ?_ (fun hHeld => ?_)); (focus ((try dsimp only); (first | done | (first | exact ⟨d0, d1, d2, d4, d5, hlen⟩ | exact ⟨q0, q1, q2, q4, q5, hlen5⟩)))); clear hK K; (try simp only [Act.put, List.setIfInBounds_toArray, List.set_cons_zero, List.set_cons_succ])))
    refine Go.Proofs.YtljlpkeddbfpaaaGreatDoor.plan_done ?_
    go_wp2_with fail
    exact bodyPost_ret (v := .tuple #[.agg #[.int .i64 x.kind, .int .i64 ((x.text.size : Int) + (ksz x.kids : Int)), .int .i64 x.names, .int .i64 x.holds], .int .i64 0]) (by simp [results, Tryz.results25, go_sem, r0, r1, r2, r3]) rfl ⟨rfl, HB3.out⟩
end Go.Proofs.YtljlpkeddbfpaaaGreatDoor.Hd
