/- HandlesPlays, part 8 of 31: the texts HdB HdC HdD HdE HdF HdG, joined by a program. -/
import Derived.Test.YteienbdbhnikbaaGreatDoorPw6
import Derived.Test.YteienbdbhnikbaaGreatDoorPw7
import Derived.Lib.Hide
import Derived.Test.YteienbdbhnikbaaGreatDoorShf
namespace Go.Proofs.YteienbdbhnikbaaGreatDoor.Hd
open Go.RowKit Go.Maps Go.Proofs.YteienbdbhnikbaaGreatDoor Go.Proofs.YteienbdbhnikbaaGreatDoor.Hp
set_option linter.unusedVariables false
attribute [local go_sem] Oper.semAt_some

/-- A directory's names: the map's block, what it says, how many there are, how many there ever were at most. -/
structure Kd where
  b : Nat
  M : K.SM
  sz : Nat
  n : Nat
structure Nd where
  b : Nat
  kind : Int
  text : ByteArray
  kids : Option Kd
  par : Int
  names : Int
  holds : Int
def kv : Option Kd → Value
  | none => .map none
  | some k => .map (some k.b)
def ndO (x : Nd) : Obj := .cells #[.int .i64 x.kind, .string x.text, kv x.kids, .int .i64 x.par, .int .i64 x.names, .int .i64 x.holds] 118 (0, 0)
def kidsHp : Option Kd → Hp
  | none => emp
  | some k => K.smap k.b k.M k.sz k.n
def ndHp (x : Nd) : Hp := pts x.b (ndO x) * kidsHp x.kids
abbrev NL := List (Int × Nd)
def find : NL → Int → Option Nd
  | [], _ => none
  | p :: L, k => if p.1 = k then some p.2 else find L k
def upd : NL → Int → Nd → NL
  | [], _, _ => []
  | p :: L, k, x => if p.1 = k then (k, x) :: L else p :: upd L k x
def nds (L : NL) : Hp := all (fun p : Int × Nd => ndHp p.2) L
def blk (L : NL) : Int → Option Nat := fun k => (find L k).map Nd.b
theorem focus : ∀ (L : NL) (k : Int) (x : Nd), find L k = some x → ∃ F : Hp, nds L = ndHp x * F ∧ ∀ x', nds (upd L k x') = ndHp x' * F
  | [], _, _, h => by cases h
  | p :: L, k, x, h => by
    unfold find at h
    by_cases e : p.1 = k
    · rw [if_pos e] at h
      injection h with h
      refine ⟨nds L, by rw [← h]; rfl, fun x' => by unfold upd; rw [if_pos e]; rfl⟩
    · rw [if_neg e] at h
      obtain ⟨F, h1, h2⟩ := focus L k x h
      refine ⟨ndHp p.2 * F, ?_, fun x' => ?_⟩
      · show ndHp p.2 * nds L = _
        rw [h1]; ac_rfl
      · unfold upd; rw [if_neg e]
        show ndHp p.2 * nds (upd L k x') = _
        rw [h2 x']; ac_rfl
theorem find_upd : ∀ (L : NL) (k j : Int) (x : Nd), (find L k).isSome = true → find (upd L k x) j = if j = k then some x else find L j
  | [], _, _, _, h => by cases h
  | p :: L, k, j, x, h => by
    unfold find at h
    by_cases e : p.1 = k
    · unfold upd; rw [if_pos e]
      show (if k = j then some x else find L j) = if j = k then some x else (if p.1 = j then some p.2 else find L j)
      by_cases e2 : j = k
      · subst e2; simp
      · rw [if_neg e2, if_neg (fun h => e2 h.symm), if_neg (fun h => e2 (by rw [← h, e]))]
    · rw [if_neg e] at h
      unfold upd; rw [if_neg e]; unfold find
      by_cases e2 : p.1 = j
      · rw [if_pos e2, if_neg (fun h => e (by rw [e2, h])), if_pos e2]
      · rw [if_neg e2, find_upd L k j x h, if_neg e2]
theorem upd_len : ∀ (L : NL) (k : Int) (x : Nd), (upd L k x).length = L.length
  | [], _, _ => rfl
  | p :: L, k, x => by
    unfold upd
    split
    · rfl
    · show (upd L k x).length + 1 = _; rw [upd_len L k x]; rfl
theorem blk_upd (L : NL) (k : Int) (x x' : Nd) (h : find L k = some x) (hb : x'.b = x.b) : blk (upd L k x') = blk L := by
  funext j
  unfold blk
  rw [find_upd L k j x' (by rw [h]; rfl)]
  by_cases e : j = k
  · subst e; rw [if_pos rfl, h]; simp [hb]
  · rw [if_neg e]
/-- A tree: its bounds, what is used, its nodes; how many entries its map ever had at most. -/
structure Fs where
  most : Int
  room : Int
  used : Int
  L : NL
  n : Nat
def fsO (F : Fs) (mb : Nat) : Obj := .cells #[.int .i64 F.most, .int .i64 F.room, .int .i64 F.used, .map (some mb)] 115 (0, 0)
def fsHp (fb mb : Nat) (F : Fs) : Hp := pts fb (fsO F mb) * (pmap mb (blk F.L) F.L.length F.n * nds F.L)
abbrev pp (b : Nat) : Value := .pointer (some ⟨b, 0, none⟩)
theorem fs_cells {w : World} {fb mb : Nat} {F : Fs} {R : Hp} (h : Sat w (fsHp fb mb F * R)) : w.cell? ⟨fb, 0, none⟩ = some (.int .i64 F.most) ∧ w.cell? ⟨fb, 1, none⟩ = some (.int .i64 F.room) ∧ w.cell? ⟨fb, 2, none⟩ = some (.int .i64 F.used) ∧ w.cell? ⟨fb, 3, none⟩ = some (.map (some mb)) := by
  have hb := (h.perm (show _ = pts fb (fsO F mb) * (pmap mb (blk F.L) F.L.length F.n * nds F.L * R) by unfold fsHp; ac_rfl)).get
  refine ⟨?_, ?_, ?_, ?_⟩ <;> rw [cell_at hb] <;> rfl
theorem fs_look {w : World} {fb mb : Nat} {F : Fs} {R : Hp} (h : Sat w (fsHp fb mb F * R)) (k : Int) (hk : I64 k) : (Instr.lookup 113 (.map (some mb)) (.int .i64 k) false).run Tryz.prog w = .ok (pv (blk F.L k)) w :=
  pmap_look Tryz.underlying113 zeroNode (h.perm (show _ = pmap mb (blk F.L) F.L.length F.n * (pts fb (fsO F mb) * nds F.L * R) by unfold fsHp; ac_rfl)) k hk
/-- One node, and how another one takes its place. -/
theorem fs_node {w : World} {fb mb : Nat} {F : Fs} {R : Hp} (h : Sat w (fsHp fb mb F * R)) {k : Int} {x : Nd} (hx : find F.L k = some x) :
    ∃ X : Hp, Sat w (pts x.b (ndO x) * (kidsHp x.kids * (pts fb (fsO F mb) * (X * R)))) ∧
      ∀ (w' : World) (x' : Nd) (F' : Fs) (R' : Hp), x'.b = x.b → F'.L = upd F.L k x' → F'.n = F.n → Sat w' (pts x'.b (ndO x') * (kidsHp x'.kids * (pts fb (fsO F' mb) * (X * R')))) → Sat w' (fsHp fb mb F' * R') := by
  obtain ⟨X, h1, h2⟩ := focus F.L k x hx
  refine ⟨pmap mb (blk F.L) F.L.length F.n * X, h.perm ?_, fun w' x' F' R' hb hL hn h' => h'.perm ?_⟩
  · unfold fsHp; rw [h1]; unfold ndHp; ac_rfl
  · unfold fsHp
    rw [hL, h2 x', blk_upd F.L k x x' hx hb, upd_len, hn]; unfold ndHp; ac_rfl
theorem nd_cells {w : World} {x : Nd} {S : Hp} (h : Sat w (pts x.b (ndO x) * S)) : w.cell? ⟨x.b, 0, none⟩ = some (.int .i64 x.kind) ∧ w.cell? ⟨x.b, 1, none⟩ = some (.string x.text) ∧ w.cell? ⟨x.b, 2, none⟩ = some (kv x.kids) ∧ w.cell? ⟨x.b, 3, none⟩ = some (.int .i64 x.par) ∧ w.cell? ⟨x.b, 4, none⟩ = some (.int .i64 x.names) ∧ w.cell? ⟨x.b, 5, none⟩ = some (.int .i64 x.holds) := by
  have hb := h.get
  refine ⟨?_, ?_, ?_, ?_, ?_, ?_⟩ <;> rw [cell_at hb] <;> rfl
/-- What stands where a node stands. -/
theorem fs_at {w : World} {fb mb : Nat} {F : Fs} {R : Hp} (h : Sat w (fsHp fb mb F * R)) {k : Int} {x : Nd} (hx : find F.L k = some x) : w.cell? ⟨x.b, 0, none⟩ = some (.int .i64 x.kind) ∧ w.cell? ⟨x.b, 1, none⟩ = some (.string x.text) ∧ w.cell? ⟨x.b, 2, none⟩ = some (kv x.kids) ∧ w.cell? ⟨x.b, 3, none⟩ = some (.int .i64 x.par) ∧ w.cell? ⟨x.b, 4, none⟩ = some (.int .i64 x.names) ∧ w.cell? ⟨x.b, 5, none⟩ = some (.int .i64 x.holds) := by
  obtain ⟨X, h1, _⟩ := fs_node h hx
  exact nd_cells h1
def isK (F : Fs) (k kd : Int) : Bool := match find F.L k with
  | none => false
  | some x => x.kind == kd
set_option maxRecDepth 100000 in
set_option maxHeartbeats 4000000 in
theorem is_calls (fb mb : Nat) (F : Fs) (k kd : Int) (hk : I64 k) (w : World) (R : Hp) (h : Sat w (fsHp fb mb F * R)) :
    Calls Tryz.prog 64 #[pp fb, .int .i64 k, .int .i64 kd] w fun e w' => e = .returned (.bool (isK F k kd)) ∧ w = w' := by
  obtain ⟨c0, c1, c2, c3⟩ := fs_cells h
  have hl := fs_look h k hk
  unfold isK
  cases hx : find F.L k with
  | none =>
    have : blk F.L k = none := by unfold blk; rw [hx]; rfl
    rw [this] at hl
    clear h hx this
    unfold pv at hl
    go_enter Tryz.func64, Tryz.ntmps64
    go_wp2_with fail
    go_ret
    exact ⟨rfl, rfl⟩
  | some x =>
    have : blk F.L k = some x.b := by unfold blk; rw [hx]; rfl
    rw [this] at hl
    obtain ⟨d0, d1, d2, d3, d4, d5⟩ := fs_at h hx
    show Calls _ _ _ _ (fun e w' => e = .returned (.bool (x.kind == kd)) ∧ w = w')
    unfold pv at hl
    clear h hx this
    go_enter Tryz.func64, Tryz.ntmps64
    go_wp2_with fail
    go_ret
    exact ⟨rfl, rfl⟩
/-- The node of a number that has bytes, and what is wrong with it. -/
def textE (F : Fs) (k : Int) : Int := match find F.L k with
  | none => 10
  | some x => if x.kind = 1 then 13 else 0
def textV (F : Fs) (k : Int) : Option Nat := match find F.L k with
  | none => none
  | some x => if x.kind = 1 then none else some x.b
set_option maxRecDepth 100000 in
set_option maxHeartbeats 4000000 in
theorem text_calls (fb mb : Nat) (F : Fs) (k : Int) (hk : I64 k) (w : World) (R : Hp) (h : Sat w (fsHp fb mb F * R)) :
    Calls Tryz.prog 66 #[pp fb, .int .i64 k] w fun e w' => e = .returned (.tuple #[pv (textV F k), .int .i64 (textE F k)]) ∧ w = w' := by
  obtain ⟨c0, c1, c2, c3⟩ := fs_cells h
  have hl := fs_look h k hk
  have HI := is_calls fb mb F k 1 hk w R h
  unfold isK at HI
  unfold textE textV
  cases hx : find F.L k with
  | none =>
    have : blk F.L k = none := by unfold blk; rw [hx]; rfl
    rw [this] at hl
    clear h hx this HI
    unfold pv at hl
    go_enter Tryz.func66, Tryz.ntmps66
    go_wp2_with fail
    go_ret2
    exact ⟨rfl, rfl⟩
  | some x =>
    have : blk F.L k = some x.b := by unfold blk; rw [hx]; rfl
    rw [this] at hl
    rw [hx] at HI
    unfold pv at hl
    by_cases e : x.kind = 1
    · rw [show (match some x with | none => false | some x => x.kind == 1) = true by simp [e]] at HI
      have HI := Lib.hid HI
      dsimp only
      rw [if_pos e, if_pos e]
      clear h hx this e
      go_enter Tryz.func66, Tryz.ntmps66
      go_wp2_with fail
      refine HI.out.mono ?_
      rintro e w1 ⟨rfl, rfl⟩
      go_wp2_with fail
      go_ret2
      exact ⟨rfl, rfl⟩
    · rw [show (match some x with | none => false | some x => x.kind == 1) = false by simp [e]] at HI
      have HI := Lib.hid HI
      dsimp only
      rw [if_neg e, if_neg e]
      clear h hx this e
      go_enter Tryz.func66, Tryz.ntmps66
      go_wp2_with fail
      refine HI.out.mono ?_
      rintro e w1 ⟨rfl, rfl⟩
      go_wp2_with fail
      go_ret2
      exact ⟨rfl, rfl⟩
end Go.Proofs.YteienbdbhnikbaaGreatDoor.Hd

namespace Go.Proofs.YteienbdbhnikbaaGreatDoor.Hd
open Go.RowKit Go.Maps Go.Proofs.YteienbdbhnikbaaGreatDoor Go.Proofs.YteienbdbhnikbaaGreatDoor.Hp
set_option linter.unusedVariables false
attribute [local go_sem] Oper.semAt_some

def ksz : Option Kd → Nat
  | none => 0
  | some k => k.sz
theorem kids_len {w : World} {k : Option Kd} {S : Hp} (h : Sat w (kidsHp k * S)) (ty : TypeId) : (Builtin.len_ #[116] ty #[kv k]).run Tryz.prog w = .ok (.int .i64 (ksz k : Int)) w := by
  cases k with
  | none => exact K.smap_nil w ty
  | some k => exact K.smap_len h ty
abbrev infoO (a b c d : Int) : Obj := .cells #[.int .i64 a, .int .i64 b, .int .i64 c, .int .i64 d] 56 (0, 0)
theorem info_cells {w : World} {b : Nat} {x y z u : Int} {S : Hp} (h : Sat w (pts b (infoO x y z u) * S)) : w.cell? ⟨b, 0, none⟩ = some (.int .i64 x) ∧ w.cell? ⟨b, 1, none⟩ = some (.int .i64 y) ∧ w.cell? ⟨b, 2, none⟩ = some (.int .i64 z) ∧ w.cell? ⟨b, 3, none⟩ = some (.int .i64 u) := by
  have hb := h.get
  refine ⟨?_, ?_, ?_, ?_⟩ <;> rw [cell_at hb] <;> rfl
def statE (F : Fs) (k : Int) : Int := match find F.L k with
  | none => 10
  | some _ => 0
def sizeN (x : Nd) : Int := (x.text.size : Int) + (ksz x.kids : Int)
def statV (F : Fs) (k : Int) : Value := match find F.L k with
  | none => .agg #[.int .i64 0, .int .i64 0, .int .i64 0, .int .i64 0]
  | some x => .agg #[.int .i64 x.kind, .int .i64 (sizeN x), .int .i64 x.names, .int .i64 x.holds]
def NdSmall (x : Nd) : Prop := x.text.size ≤ 1000000 ∧ ksz x.kids ≤ 1000000
set_option maxRecDepth 100000 in
set_option maxHeartbeats 8000000 in
theorem Stat_calls (fb mb : Nat) (F : Fs) (k : Int) (hk : I64 k) (hs : ∀ x, find F.L k = some x → NdSmall x) (w : World) (R : Hp) (h : Sat w (fsHp fb mb F * R)) :
    Calls Tryz.prog 22 #[pp fb, .int .i64 k] w fun e w' => e = .returned (.tuple #[statV F k, .int .i64 (statE F k)]) ∧ Below w.heap.size w w' := by
  unfold statE statV
  have H1 := h.alloc (infoO 0 0 0 0)
  obtain ⟨r0, r1, r2, r3⟩ := info_cells H1
  have hB1 := (Below.refl w.heap.size w).alloc (Nat.le_refl _) (infoO 0 0 0 0)
  have H2 := H1.perm (show _ = fsHp fb mb F * (pts w.heap.size (infoO 0 0 0 0) * R) by ac_rfl)
  obtain ⟨c0, c1, c2, c3⟩ := fs_cells H2
  have hl := fs_look H2 k hk
  cases hx : find F.L k with
  | none =>
    have : blk F.L k = none := by unfold blk; rw [hx]; rfl
    rw [this] at hl
    unfold pv at hl
    clear h hx this hs H2 H1
    have HB1 := Lib.hid hB1
    clear hB1
    go_enter Tryz.func22, Tryz.ntmps22
    go_wp2_with fail
    exact bodyPost_ret (v := .tuple #[.agg #[.int .i64 0, .int .i64 0, .int .i64 0, .int .i64 0], .int .i64 10]) (by simp [results, Tryz.results22, go_sem]) rfl ⟨rfl, HB1.out⟩
  | some x =>
    have hl2 : blk F.L k = some x.b := by unfold blk; rw [hx]; rfl
    rw [hl2] at hl
    unfold pv at hl
    obtain ⟨h1, h2⟩ := hs x hx
    obtain ⟨X, H3, _⟩ := fs_node H2 hx
    have D3 := H3.drew
    have hlen := kids_len (D3.perm (show _ = kidsHp x.kids * (pts x.b (ndO x) * (pts fb (fsO F mb) * (X * (pts w.heap.size (infoO 0 0 0 0) * R)))) by ac_rfl))
    obtain ⟨d0, d1, d2, d3, d4, d5⟩ := nd_cells D3
    have D5 := ((h.alloc (infoO x.kind ((x.text.size : Int) + (ksz x.kids : Int)) x.names x.holds)).perm (show _ = fsHp fb mb F * (pts w.heap.size (infoO x.kind ((x.text.size : Int) + (ksz x.kids : Int)) x.names x.holds) * R) by ac_rfl)).drew
    obtain ⟨X5, D6, _⟩ := fs_node D5 hx
    obtain ⟨q0, q1, q2, q3, q4, q5⟩ := nd_cells D6
    have hlen5 := kids_len (D6.perm (show _ = kidsHp x.kids * (pts x.b (ndO x) * (pts fb (fsO F mb) * (X5 * (pts w.heap.size (infoO x.kind ((x.text.size : Int) + (ksz x.kids : Int)) x.names x.holds) * R)))) by ac_rfl))
    obtain ⟨r0, r1, r2, r3⟩ := info_cells (D6.perm (show _ = pts w.heap.size (infoO x.kind ((x.text.size : Int) + (ksz x.kids : Int)) x.names x.holds) * (kidsHp x.kids * (pts x.b (ndO x) * (pts fb (fsO F mb) * (X5 * R)))) by ac_rfl))
    have HB3 := Lib.hid (((Below.refl w.heap.size w).alloc (Nat.le_refl _) (infoO x.kind ((x.text.size : Int) + (ksz x.kids : Int)) x.names x.holds)).trans ⟨rfl, rfl, rfl, Nat.le_refl _, fun _ _ => rfl⟩ : Below w.heap.size w (w.alloc (infoO x.kind ((x.text.size : Int) + (ksz x.kids : Int)) x.names x.holds)).drew)
    show Calls _ _ _ _ (fun e w' => e = .returned (.tuple #[.agg #[.int .i64 x.kind, .int .i64 ((x.text.size : Int) + (ksz x.kids : Int)), .int .i64 x.names, .int .i64 x.holds], .int .i64 0]) ∧ Below w.heap.size w w')
    have hb1 : (x.text.size : Int) ≤ 1000000 := by omega
    have hb2 : (ksz x.kids : Int) ≤ 1000000 := by omega
    have hb3 : (0 : Int) ≤ (ksz x.kids : Int) := by omega
    have hw : IntKind.i64.wrap ((x.text.size : Int) + (ksz x.kids : Int)) = (x.text.size : Int) + (ksz x.kids : Int) := IntWalk.i64_in _ (by omega)
    clear h hx hl2 hs H2 H1 H3 D3 D5 D6 h1 h2 hB1 c0 c1 c2
    go_enter Tryz.func22, Tryz.ntmps22
    go_wp2_with fail
    refine region_plan (S := (fun w' => w'.cell? ⟨x.b, 0, none⟩ = some (.int .i64 x.kind) ∧ w'.cell? ⟨x.b, 1, none⟩ = some (.string x.text) ∧ w'.cell? ⟨x.b, 2, none⟩ = some (kv x.kids) ∧ w'.cell? ⟨x.b, 4, none⟩ = some (.int .i64 x.names) ∧ w'.cell? ⟨x.b, 5, none⟩ = some (.int .i64 x.holds) ∧ ∀ ty, (Builtin.len_ #[116] ty #[kv x.kids]).run Tryz.prog w' = .ok (.int .i64 (ksz x.kids : Int)) w')) [(0, true), (1, true), (2, true), (3, true), (4, true), (5, true), (6, true), (7, true), (8, true), (9, true), (10, true), (11, true), (12, true), (13, true), (14, true), (15, true), (16, true), (17, true), (18, true), (19, true), (20, true), (21, true), (22, true), (23, true), (24, false), (25, true)] (by kernel_rfl) (by kernel_rfl) (by kernel_rfl) ?_ ?_
    · ((try dsimp only); (first | done | (first | exact ⟨d0, d1, d2, d4, d5, hlen⟩ | exact ⟨q0, q1, q2, q4, q5, hlen5⟩)))
    simp only [planOps, List.map_cons, List.map_nil, List.getElem?_toArray, List.getElem?_cons_zero, List.getElem?_cons_succ]
    repeat (first
      | ((refine plan_yes (v := ?_) (by rfl) ?_ ?_); rotate_left; (focus (intro w hSw; (try dsimp only at hSw); go_simp; try (with_reducible rfl))); (try simp only [Act.put, List.setIfInBounds_toArray, List.set_cons_zero, List.set_cons_succ]))
      | ((refine plan_no (by rfl) ?_); (try simp only [Act.put, List.setIfInBounds_toArray, List.set_cons_zero, List.set_cons_succ]))
      | ((refine plan_step (fun K hK => ?_)); (first | (fail) | (go_simp; (fail); (try go_wp2_with fail)) | go_simp); (refine hK.out _ _ ?_ (fun hHeld => ?_)); (focus ((try dsimp only); (first | done | (first | exact ⟨d0, d1, d2, d4, d5, hlen⟩ | exact ⟨q0, q1, q2, q4, q5, hlen5⟩)))); clear hK K; (try simp only [Act.put, List.setIfInBounds_toArray, List.set_cons_zero, List.set_cons_succ])))
    refine plan_done ?_
    go_wp2_with fail
    exact bodyPost_ret (v := .tuple #[.agg #[.int .i64 x.kind, .int .i64 ((x.text.size : Int) + (ksz x.kids : Int)), .int .i64 x.names, .int .i64 x.holds], .int .i64 0]) (by simp [results, Tryz.results22, go_sem, r0, r1, r2, r3]) rfl ⟨rfl, HB3.out⟩
end Go.Proofs.YteienbdbhnikbaaGreatDoor.Hd

namespace Go.Proofs.YteienbdbhnikbaaGreatDoor.Hd
open Go.RowKit Go.Maps Go.Proofs.YteienbdbhnikbaaGreatDoor Go.Proofs.YteienbdbhnikbaaGreatDoor.Hp
set_option linter.unusedVariables false
attribute [local go_sem] Oper.semAt_some

structure NdOk (x : Nd) : Prop where
  text : x.text.size ≤ 1000000
  kids : ksz x.kids ≤ 1000000
  holds : 0 ≤ x.holds ∧ x.holds ≤ 1000000
  names : 0 ≤ x.names ∧ x.names ≤ 1000000
def FsOk (F : Fs) : Prop := ∀ k x, find F.L k = some x → NdOk x
theorem FsOk.small {F : Fs} (h : FsOk F) (k : Int) : ∀ x, find F.L k = some x → NdSmall x := fun x hx => ⟨(h k x hx).text, (h k x hx).kids⟩
def Fs.put (F : Fs) (k : Int) (x : Nd) : Fs := { F with L := upd F.L k x }
def holdP (F : Fs) (k : Int) : Fs := match find F.L k with
  | none => F
  | some x => F.put k { x with holds := x.holds + 1 }
theorem below_ran {w w' : World} {B : Nat} (h : Below B w w') : Ran w w' := h.mono (Nat.zero_le _)
set_option maxRecDepth 100000 in
set_option maxHeartbeats 8000000 in
theorem Hold_calls (fb mb : Nat) (F : Fs) (k : Int) (hk : I64 k) (hs : FsOk F) (w : World) (R : Hp) (h : Sat w (fsHp fb mb F * R)) :
    Calls Tryz.prog 46 #[pp fb, .int .i64 k] w fun e w' => (e = .returned (.int .i64 (statE F k)) ∧ Sat w' (fsHp fb mb (holdP F k) * R)) ∧ Ran w w' := by
  have HS := Stat_calls fb mb F k hk (hs.small k) w R h
  unfold statE statV at HS
  unfold statE holdP
  cases hx : find F.L k with
  | none =>
    rw [hx] at HS
    have HS := Lib.hid HS
    have H0 := Lib.hid h
    clear h hx hs
    go_enter Tryz.func46, Tryz.ntmps46
    go_wp2_with fail
    refine HS.out.mono ?_
    rintro e w1 ⟨rfl, hB⟩
    have S1 := Lib.hid (H0.out.below hB)
    have R1 := Lib.hid (below_ran hB)
    clear hB HS
    go_wp2_with fail
    go_ret
    exact ⟨⟨rfl, S1.out.old _⟩, Ran.new R1.out _⟩
  | some x =>
    rw [hx] at HS
    have HS := Lib.hid HS
    have H0 := Lib.hid h
    have hh := (hs k x hx).holds
    obtain ⟨hh1, hh2⟩ := hh
    have Hx := Lib.hid hx
    clear h hs hx
    go_enter Tryz.func46, Tryz.ntmps46
    go_wp2_with fail
    refine HS.out.mono ?_
    rintro e w1 ⟨rfl, hB⟩
    have S1 := (H0.out.below hB).old (infoO x.kind (sizeN x) x.names x.holds)
    have R1 := Lib.hid (Ran.new (below_ran hB) (infoO x.kind (sizeN x) x.names x.holds))
    obtain ⟨c0, c1, c2, c3⟩ := fs_cells S1
    have hl := fs_look S1 k hk
    rw [show blk F.L k = some x.b by unfold blk; rw [Hx.out]; rfl] at hl
    unfold pv at hl
    obtain ⟨X, S2, back⟩ := fs_node S1 Hx.out
    obtain ⟨d0, d1, d2, d3, d4, d5⟩ := nd_cells S2
    have f0 : ∀ i, (w1.alloc (infoO x.kind (sizeN x) x.names x.holds)).frozen? ⟨x.b, i, none⟩ = false := fun i => free_at S2.get i
    have S3 := Lib.hid (back _ { x with holds := x.holds + 1 } (F.put k { x with holds := x.holds + 1 }) R rfl rfl rfl (S2.set (i := 5) (.int .i64 (x.holds + 1))))
    clear hB HS S1 S2 back
    go_wp2_with fail
    go_ret
    exact ⟨⟨rfl, S3.out⟩, R1.out.set _ _⟩
def dropE (F : Fs) (k : Int) : Int := match find F.L k with
  | none => 10
  | some x => if x.holds = 0 then 1 else 0
end Go.Proofs.YteienbdbhnikbaaGreatDoor.Hd

namespace Go.Proofs.YteienbdbhnikbaaGreatDoor.Hd
open Go.RowKit Go.Maps Go.Proofs.YteienbdbhnikbaaGreatDoor Go.Proofs.YteienbdbhnikbaaGreatDoor.Hp
set_option linter.unusedVariables false
attribute [local go_sem] Oper.semAt_some

def readB (t : ByteArray) (a m : Nat) : ByteArray := (t.extract (min a t.size) t.size).extract 0 (min m (t.extract (min a t.size) t.size).size)
theorem textE_ok {F : Fs} {k : Int} {x : Nd} (hx : find F.L k = some x) (hd : x.kind ≠ 1) : textE F k = 0 ∧ textV F k = some x.b := by
  unfold textE textV
  rw [hx]
  exact ⟨if_neg hd, if_neg hd⟩
set_option maxRecDepth 100000 in
set_option maxHeartbeats 8000000 in
theorem Read_calls (fb mb : Nat) (F : Fs) (k : Int) (a m : Nat) (x : Nd) (hk : I64 k) (ha : a ≤ 1000000000000) (hm : m ≤ 9223372036854775807) (hs : FsOk F) (hx : find F.L k = some x) (hd : x.kind ≠ 1) (w : World) (R : Hp) (h : Sat w (fsHp fb mb F * R)) :
    Calls Tryz.prog 29 #[pp fb, .int .i64 k, .int .i64 a, .int .i64 m] w fun e w' => (e = .returned (.tuple #[.string (readB x.text a m), .int .i64 0]) ∧ Sat w' (fsHp fb mb F * R)) ∧ Ran w w' := by
  have HT := text_calls fb mb F k hk w R h
  rw [(textE_ok hx hd).1, (textE_ok hx hd).2] at HT
  unfold pv at HT
  have HT := Lib.hid HT
  have h1 := (hs k x hx).text
  obtain ⟨-, d1, -⟩ := fs_at h hx
  have d1' : w.drew.cell? ⟨x.b, 1, none⟩ = some (.string x.text) := d1
  have H0 := Lib.hid h
  have ha0 : (0 : Int) ≤ (a : Int) := by omega
  have hm0 : (0 : Int) ≤ (m : Int) := by omega
  have h1I : (x.text.size : Int) ≤ 1000000 := by omega
  unfold readB
  obtain ⟨pa, hpa⟩ : ∃ p, p = min a x.text.size := ⟨_, rfl⟩
  rw [← hpa]
  have hmin : min (a : Int) (x.text.size : Int) = (pa : Int) := by omega
  have hp0 : (0 : Int) ≤ (pa : Int) := by omega
  have hp1 : (pa : Int) ≤ (x.text.size : Int) := by omega
  obtain ⟨rs, hrs⟩ : ∃ r, r = x.text.extract pa x.text.size := ⟨_, rfl⟩
  rw [← hrs]
  obtain ⟨pm, hpm⟩ : ∃ p, p = min m rs.size := ⟨_, rfl⟩
  rw [← hpm]
  have hmin2 : min (m : Int) (rs.size : Int) = (pm : Int) := by omega
  have hp2 : (0 : Int) ≤ (pm : Int) := by omega
  have hp3 : (pm : Int) ≤ (rs.size : Int) := by omega
  have Hrs := Lib.hid hrs.symm
  have hp1n : pa ≤ x.text.size := by omega
  have hp3n : pm ≤ rs.size := by omega
  clear h hx hd hs hpa hpm hrs
  go_enter Tryz.func29, Tryz.ntmps29
  go_wp2_with fail
  refine HT.out.mono ?_
  rintro e w1 ⟨rfl, rfl⟩
  go_wp2_with fail
  refine region_plan (S := (fun w' => w'.cell? ⟨x.b, 1, none⟩ = some (.string x.text))) [(0, true), (1, true), (2, true), (3, true), (4, true), (5, true), (6, true), (7, true), (8, true), (9, true), (10, true), (11, true), (12, true)] (by kernel_rfl) (by kernel_rfl) (by kernel_rfl) ?_ ?_
  · ((try dsimp only); (first | done | (exact d1')))
  simp only [planOps, List.map_cons, List.map_nil, List.getElem?_toArray, List.getElem?_cons_zero, List.getElem?_cons_succ]
  repeat (first
    | ((refine plan_yes (v := ?_) (by rfl) ?_ ?_); rotate_left; (focus (intro w hSw; (try dsimp only at hSw); go_simp; try (with_reducible rfl))); (try simp only [Act.put, List.setIfInBounds_toArray, List.set_cons_zero, List.set_cons_succ]))
    | ((refine plan_no (by rfl) ?_); (try simp only [Act.put, List.setIfInBounds_toArray, List.set_cons_zero, List.set_cons_succ]))
    | ((refine plan_step (fun K hK => ?_)); (first | (fail) | (go_simp; (fail); (try go_wp2_with fail)) | go_simp); (refine hK.out _ _ ?_ (fun hHeld => ?_)); (focus ((try dsimp only); (first | done | (exact d1')))); clear hK K; (try simp only [Act.put, List.setIfInBounds_toArray, List.set_cons_zero, List.set_cons_succ])))
  refine plan_done ?_
  rw [Hrs.out]
  go_wp2_with fail
  go_ret2
  exact ⟨⟨rfl, H0.out.drew⟩, Ran.drewN (Below.refl 0 w) 1⟩
def zerosB (n : Nat) : ByteArray := ⟨(Lib.repeatL [0] n).toArray⟩
/-- The bytes d put at a. -/
def wrB (t : ByteArray) (a : Nat) (d : ByteArray) : ByteArray := t.extract 0 (min a t.size) ++ zerosB (a - t.size) ++ d ++ t.extract (min (a + d.size) t.size) t.size
def moreB (t : ByteArray) (a : Nat) (d : ByteArray) : Nat := (a + d.size) - t.size
def writeP (F : Fs) (k : Int) (x : Nd) (a : Nat) (d : ByteArray) : Int × Fs :=
  if 4096 < a ∨ 4096 - a < d.size then (21, F) else if d.size = 0 then (0, F) else if F.room - F.used < (moreB x.text a d : Int) then (15, F)
  else (0, { F.put k { x with text := wrB x.text a d } with used := F.used + (moreB x.text a d : Int) })
theorem used_back {fb mb : Nat} {F : Fs} {u : Int} {R : Hp} {w : World} (h : Sat w (fsHp fb mb F * R)) : Sat (w.setCell ⟨fb, 2, none⟩ (.int .i64 u)) (fsHp fb mb { F with used := u } * R) := by
  have h1 := h.perm (show _ = pts fb (fsO F mb) * (pmap mb (blk F.L) F.L.length F.n * nds F.L * R) by unfold fsHp; ac_rfl)
  exact (h1.set (i := 2) (.int .i64 u)).perm (show pts fb (fsO { F with used := u } mb) * _ = _ by unfold fsHp; ac_rfl)
set_option maxRecDepth 100000 in
set_option maxHeartbeats 2000000 in
theorem Write_no (fb mb : Nat) (F : Fs) (k : Int) (a : Nat) (x : Nd) (d : ByteArray) (hk : I64 k) (ha : a ≤ 1000000000) (hd : d.size ≤ 1000000000) (hs : FsOk F) (hx : find F.L k = some x) (h2 : x.kind = 2) (hu : 0 ≤ F.used ∧ F.used ≤ 1000000000) (hr : 0 ≤ F.room ∧ F.room ≤ 1000000000) (hno : (writeP F k x a d).1 ≠ 0 ∨ d.size = 0) (w : World) (R : Hp) (h : Sat w (fsHp fb mb F * R)) :
    Calls Tryz.prog 187 #[pp fb, .int .i64 k, .int .i64 a, .string d] w fun e w' => (e = .returned (.int .i64 (writeP F k x a d).1) ∧ Sat w' (fsHp fb mb (writeP F k x a d).2 * R)) ∧ Ran w w' := by
  have HT := text_calls fb mb F k hk w R h
  have hd1 : x.kind ≠ 1 := by omega
  rw [(textE_ok hx hd1).1, (textE_ok hx hd1).2] at HT
  unfold pv at HT
  have HT := Lib.hid HT
  have h1 := (hs k x hx).text
  have hxx := fs_at h hx
  rw [h2] at hxx
  obtain ⟨d0, d1, -⟩ := hxx
  have H0 := Lib.hid h
  have ha0 : (0 : Int) ≤ (a : Int) := by omega
  have haI : (a : Int) ≤ 1000000000 := by omega
  have hd0 : (0 : Int) ≤ (d.size : Int) := by omega
  have hdI : (d.size : Int) ≤ 1000000000 := by omega
  have h1I : (x.text.size : Int) ≤ 1000000 := by omega
  unfold writeP at hno ⊢
  by_cases hb1 : 4096 < a
  · rw [if_pos (.inl hb1)]
    have hb1I : (4096 : Int) < a := by omega
    clear h hx hs h2 hd1 hno
    go_enter Tryz.func187, Tryz.ntmps187
    go_wp2_with fail
    refine HT.out.mono ?_
    rintro e w1 ⟨rfl, rfl⟩
    go_wp2_with fail
    go_ret
    exact ⟨⟨rfl, H0.out⟩, Below.refl 0 w⟩
  by_cases hb2 : 4096 - a < d.size
  · rw [if_pos (.inr hb2)]
    have hb1I : (a : Int) ≤ 4096 := by omega
    have hb2I : (4096 : Int) - a < d.size := by omega
    clear h hx hs h2 hd1 hno
    go_enter Tryz.func187, Tryz.ntmps187
    go_wp2_with fail
    refine HT.out.mono ?_
    rintro e w1 ⟨rfl, rfl⟩
    go_wp2_with fail
    go_ret
    exact ⟨⟨rfl, H0.out⟩, Below.refl 0 w⟩
  rw [if_neg (by omega)] at hno ⊢
  have hb1I : (a : Int) ≤ 4096 := by omega
  have hb2I : (d.size : Int) ≤ (4096 : Int) - a := by omega
  by_cases hz : d.size = 0
  · rw [if_pos hz]
    obtain rfl : d = ⟨#[]⟩ := by
      cases d with | mk l =>
      have : l.size = 0 := hz
      rw [Array.eq_empty_of_size_eq_zero this]
    clear h hx hs h2 hd1 hd0 hdI hz hno
    go_enter Tryz.func187, Tryz.ntmps187
    go_wp2_with fail
    refine HT.out.mono ?_
    rintro e w1 ⟨rfl, rfl⟩
    go_wp2_with fail
    go_ret
    exact ⟨⟨rfl, H0.out⟩, Below.refl 0 w⟩
  rw [if_neg hz] at hno ⊢
  have hzl : d.toList.isEmpty = false := by
    cases hl : d.toList with
    | nil => exact absurd (by rw [ByteArray.toList_eq] at hl; have := congrArg List.length hl; simpa using this) hz
    | cons y l => rfl
  obtain ⟨u0, u1⟩ := hu
  obtain ⟨r0, r1⟩ := hr
  obtain ⟨mo, hmo⟩ : ∃ m, m = moreB x.text a d := ⟨_, rfl⟩
  rw [← hmo] at hno ⊢
  unfold moreB at hmo
  have hmax : max 0 ((a : Int) + (d.size : Int) - (x.text.size : Int)) = (mo : Int) := by omega
  obtain ⟨c0, c1, c2, c3⟩ := fs_cells h
  have e1 : w.drew.cell? ⟨fb, 1, none⟩ = some (.int .i64 F.room) := c1
  have e2 : w.drew.cell? ⟨fb, 2, none⟩ = some (.int .i64 F.used) := c2
  have hwr : IntKind.i64.wrap (F.room - F.used) = F.room - F.used := IntWalk.i64_in _ (by omega)
  by_cases hro : F.room - F.used < (mo : Int)
  · rw [if_pos hro]
    clear h hx hs h2 hd1 hmo hno
    go_enter Tryz.func187, Tryz.ntmps187
    go_wp2_with fail
    refine HT.out.mono ?_
    rintro e w1 ⟨rfl, rfl⟩
    go_wp2_with fail
    refine region_plan (S := (fun w' => w'.cell? ⟨fb, 1, none⟩ = some (.int .i64 F.room) ∧ w'.cell? ⟨fb, 2, none⟩ = some (.int .i64 F.used))) [(0, true), (1, true), (2, true), (3, true), (4, true), (5, true), (6, true), (7, true), (8, true), (9, true), (10, true)] (by kernel_rfl) (by kernel_rfl) (by kernel_rfl) ?_ ?_
    · ((try dsimp only); (first | done | (exact ⟨e1, e2⟩)))
    simp only [planOps, List.map_cons, List.map_nil, List.getElem?_toArray, List.getElem?_cons_zero, List.getElem?_cons_succ]
    repeat (first
      | ((refine plan_yes (v := ?_) (by rfl) ?_ ?_); rotate_left; (focus (intro w hSw; (try dsimp only at hSw); go_simp; try (with_reducible rfl))); (try simp only [Act.put, List.setIfInBounds_toArray, List.set_cons_zero, List.set_cons_succ]))
      | ((refine plan_no (by rfl) ?_); (try simp only [Act.put, List.setIfInBounds_toArray, List.set_cons_zero, List.set_cons_succ]))
      | ((refine plan_step (fun K hK => ?_)); (first | (fail) | (go_simp; (fail); (try go_wp2_with fail)) | go_simp); (refine hK.out _ _ ?_ (fun hHeld => ?_)); (focus ((try dsimp only); (first | done | (exact ⟨e1, e2⟩)))); clear hK K; (try simp only [Act.put, List.setIfInBounds_toArray, List.set_cons_zero, List.set_cons_succ])))
    refine plan_done ?_
    go_wp2_with fail
    go_ret
    exact ⟨⟨rfl, H0.out.drew⟩, Ran.drewN (Below.refl 0 w) 1⟩
  · rw [if_neg hro] at hno
    rcases hno with h0 | h0
    · exact absurd rfl h0
    · exact absurd h0 hz
end Go.Proofs.YteienbdbhnikbaaGreatDoor.Hd

namespace Go.Proofs.YteienbdbhnikbaaGreatDoor.Hd
open Go.RowKit Go.Maps Go.Proofs.YteienbdbhnikbaaGreatDoor Go.Proofs.YteienbdbhnikbaaGreatDoor.Hp
set_option linter.unusedVariables false
attribute [local go_sem] Oper.semAt_some

set_option maxRecDepth 100000 in
set_option maxHeartbeats 800000 in
theorem Write_go (fb mb : Nat) (F : Fs) (k : Int) (a : Nat) (x : Nd) (d : ByteArray) (hk : I64 k) (ha : a ≤ 1000000000) (hd : d.size ≤ 1000000000) (hs : FsOk F) (hx : find F.L k = some x) (h2 : x.kind = 2) (hu : 0 ≤ F.used ∧ F.used ≤ 1000000000) (hr : 0 ≤ F.room ∧ F.room ≤ 1000000000) (hb1 : ¬ 4096 < a) (hb2 : ¬ 4096 - a < d.size) (hz : ¬ d.size = 0) (hro : ¬ F.room - F.used < (moreB x.text a d : Int)) (w : World) (R : Hp) (h : Sat w (fsHp fb mb F * R)) :
    Calls Tryz.prog 187 #[pp fb, .int .i64 k, .int .i64 a, .string d] w fun e w' => (e = .returned (.int .i64 (writeP F k x a d).1) ∧ Sat w' (fsHp fb mb (writeP F k x a d).2 * R)) ∧ Ran w w' := by
  have HT := text_calls fb mb F k hk w R h
  have hd1 : x.kind ≠ 1 := by omega
  rw [(textE_ok hx hd1).1, (textE_ok hx hd1).2] at HT
  unfold pv at HT
  have HT := Lib.hid HT
  have h1 := (hs k x hx).text
  have hxx := fs_at h hx
  rw [h2] at hxx
  obtain ⟨d0, d1, -⟩ := hxx
  have H0 := Lib.hid h
  have ha0 : (0 : Int) ≤ (a : Int) := by omega
  have haI : (a : Int) ≤ 1000000000 := by omega
  have hd0 : (0 : Int) ≤ (d.size : Int) := by omega
  have hdI : (d.size : Int) ≤ 1000000000 := by omega
  have h1I : (x.text.size : Int) ≤ 1000000 := by omega
  unfold writeP
  rw [if_neg (by omega), if_neg hz, if_neg hro]
  have hb1I : (a : Int) ≤ 4096 := by omega
  have hb2I : (d.size : Int) ≤ (4096 : Int) - a := by omega
  have hzl : d.toList.isEmpty = false := by
    cases hl : d.toList with
    | nil => exact absurd (by rw [ByteArray.toList_eq] at hl; have := congrArg List.length hl; simpa using this) hz
    | cons y l => rfl
  obtain ⟨u0, u1⟩ := hu
  obtain ⟨r0, r1⟩ := hr
  have hmo : moreB x.text a d = a + d.size - x.text.size := rfl
  rw [hmo] at hro ⊢
  have hmax : max 0 ((a : Int) + (d.size : Int) - (x.text.size : Int)) = ((a + d.size - x.text.size : Nat) : Int) := by omega
  obtain ⟨c0, c1, c2, c3⟩ := fs_cells h
  have e1 : w.drew.cell? ⟨fb, 1, none⟩ = some (.int .i64 F.room) := c1
  have e2 : w.drew.cell? ⟨fb, 2, none⟩ = some (.int .i64 F.used) := c2
  have hwr : IntKind.i64.wrap (F.room - F.used) = F.room - F.used := IntWalk.i64_in _ (by omega)
  have hroI : ((a + d.size - x.text.size : Nat) : Int) ≤ F.room - F.used := by omega
  have HRp := Lib.hid (Tryz.strings_Repeat ⟨#[0]⟩ (a - x.text.size) w.drew (by omega) (by show 1 * (a - x.text.size) ≤ _; omega))
  clear hs h2 hd1
  go_enter Tryz.func187, Tryz.ntmps187
  go_wp2_with fail
  refine HT.out.mono ?_
  rintro e w1 ⟨rfl, rfl⟩
  go_wp2_with fail
  refine region_plan (S := (fun w' => w'.cell? ⟨fb, 1, none⟩ = some (.int .i64 F.room) ∧ w'.cell? ⟨fb, 2, none⟩ = some (.int .i64 F.used))) [(0, true), (1, true), (2, true), (3, true), (4, true), (5, true), (6, true), (7, true), (8, true), (9, true), (10, true)] (by kernel_rfl) (by kernel_rfl) (by kernel_rfl) ?_ ?_
  · ((try dsimp only); (first | done | (exact ⟨e1, e2⟩)))
  simp only [planOps, List.map_cons, List.map_nil, List.getElem?_toArray, List.getElem?_cons_zero, List.getElem?_cons_succ]
  repeat (first
    | ((refine plan_yes (v := ?_) (by rfl) ?_ ?_); rotate_left; (focus (intro w hSw; (try dsimp only at hSw); go_simp; try (with_reducible rfl))); (try simp only [Act.put, List.setIfInBounds_toArray, List.set_cons_zero, List.set_cons_succ]))
    | ((refine plan_no (by rfl) ?_); (try simp only [Act.put, List.setIfInBounds_toArray, List.set_cons_zero, List.set_cons_succ]))
    | ((refine plan_step (fun K hK => ?_)); (first | (fail) | (go_simp; (fail); (try go_wp2_with fail)) | go_simp); (refine hK.out _ _ ?_ (fun hHeld => ?_)); (focus ((try dsimp only); (first | done | (exact ⟨e1, e2⟩)))); clear hK K; (try simp only [Act.put, List.setIfInBounds_toArray, List.set_cons_zero, List.set_cons_succ])))
  refine plan_done ?_
  have d1' : w.drew.cell? ⟨x.b, 1, none⟩ = some (.string x.text) := d1
  go_wp2_with fail
  rw [show max (0 : Int) ((a : Int) - (x.text.size : Int)) = ((a - x.text.size : Nat) : Int) by omega]
  refine HRp.out.mono ?_
  rintro e w2 ⟨rfl, hB⟩
  have S2 := H0.out.drew.below hB
  have R2 := Lib.hid ((Ran.drewN (Below.refl 0 w) 1).trans (below_ran hB))
  obtain ⟨zs, hzs⟩ : ∃ z, z = zerosB (a - x.text.size) := ⟨_, rfl⟩
  rw [show (⟨(Lib.repeatL (⟨#[0]⟩ : ByteArray).data.toList (a - x.text.size)).toArray⟩ : ByteArray) = zs from hzs.symm]
  obtain ⟨X, S3, back⟩ := fs_node S2 hx
  obtain ⟨g0, g1, -⟩ := nd_cells S3
  have f0 : ∀ i, w2.frozen? ⟨x.b, i, none⟩ = false := fun i => free_at S3.get i
  obtain ⟨pa, hpa⟩ : ∃ p, p = min a x.text.size := ⟨_, rfl⟩
  obtain ⟨pe, hpe⟩ : ∃ p, p = min (a + d.size) x.text.size := ⟨_, rfl⟩
  have hmin : min (a : Int) (x.text.size : Int) = (pa : Int) := by omega
  have hmin2 : min ((a : Int) + (d.size : Int)) (x.text.size : Int) = (pe : Int) := by omega
  have hp1n : pa ≤ x.text.size := by omega
  have hp2n : pe ≤ x.text.size := by omega
  have hs1 : (x.text.extract 0 pa).size ≤ 1000000 := by rw [ByteArray.size_extract]; omega
  have hs2 : zs.size ≤ 4096 := by
    rw [hzs]
    show (Lib.repeatL [0] (a - x.text.size)).toArray.size ≤ 4096
    rw [List.size_toArray, Lib.repeatL_length]
    show (a - x.text.size) * 1 ≤ 4096
    omega
  have hs3 : (x.text.extract pe x.text.size).size ≤ 1000000 := by rw [ByteArray.size_extract]; omega
  obtain ⟨y1, hy1⟩ : ∃ y, y = x.text.extract 0 pa ++ zs := ⟨_, rfl⟩
  have hz1 : y1.size ≤ 1004096 := by rw [hy1, ByteArray.size_append]; omega
  obtain ⟨y2, hy2⟩ : ∃ y, y = y1 ++ d := ⟨_, rfl⟩
  have hz2 : y2.size ≤ 1010000 := by rw [hy2, ByteArray.size_append]; omega
  obtain ⟨tt, htt⟩ : ∃ t, t = y2 ++ x.text.extract pe x.text.size := ⟨_, rfl⟩
  have hadd1 : ∀ W : World, (Op.stringOp .add (x.text.extract 0 pa) zs).run Tryz.prog W = .ok (.string y1) W := fun W => by rw [hy1]; exact run_string_add_sum (P := Tryz.prog) W _ _ (by omega)
  have hadd2 : ∀ W : World, (Op.stringOp .add y1 d).run Tryz.prog W = .ok (.string y2) W := fun W => by rw [hy2]; exact run_string_add_sum (P := Tryz.prog) W _ _ (by omega)
  have hadd3 : ∀ W : World, (Op.stringOp .add y2 (x.text.extract pe x.text.size)).run Tryz.prog W = .ok (.string tt) W := fun W => by rw [htt]; exact run_string_add_sum (P := Tryz.prog) W _ _ (by omega)
  obtain ⟨-, -, y2c, -⟩ := fs_cells S2
  have S2f := S2.perm (show _ = pts fb (fsO F mb) * (pmap mb (blk F.L) F.L.length F.n * nds F.L * R) by unfold fsHp; ac_rfl)
  have f2 : ∀ i, w2.frozen? ⟨fb, i, none⟩ = false := fun i => free_at S2f.get i
  have S4 := (back _ { x with text := tt } (F.put k { x with text := tt }) R rfl rfl rfl (S3.set (i := 1) (.string tt))).drew
  have S5 := used_back (u := F.used + ((a + d.size - x.text.size : Nat) : Int)) S4
  have hmoI : ((a + d.size - x.text.size : Nat) : Int) ≤ 4096 := by omega
  have hmo0 : (0 : Int) ≤ ((a + d.size - x.text.size : Nat) : Int) := by omega
  have htx : wrB x.text a d = tt := by unfold wrB; rw [htt, hy2, hy1, hzs, hpa, hpe]
  have S5 : Hid (Sat (((w2.setCell ⟨x.b, 1, none⟩ (.string tt)).drew).setCell ⟨fb, 2, none⟩ (.int .i64 (F.used + ((a + d.size - x.text.size : Nat) : Int)))) (fsHp fb mb { F.put k { x with text := wrB x.text a d } with used := F.used + ((a + d.size - x.text.size : Nat) : Int) } * R)) := Lib.hid (by rw [htx]; exact S5)
  clear hy1 hy2 htt hs1 hs2 hs3 hz1 hz2 c0 c1 c2 c3 e1 e2 d0 d1 d1' S2 S2f S3 S4 hB back hzs hpa hpe hx HRp HT h hz hmax hro hroI hwr r0 r1 hb1 hb2 htx hzl H0 g0
  go_upto_region 15 with fail
  go_still_tail 32, (by kernel_rfl)
  go_wp2_with fail
  go_ret
  exact ⟨⟨rfl, S5.out⟩, Ran.set (Ran.drewN (Ran.set R2.out _ _) 1) _ _⟩
theorem Write_calls (fb mb : Nat) (F : Fs) (k : Int) (a : Nat) (x : Nd) (d : ByteArray) (hk : I64 k) (ha : a ≤ 1000000000) (hd : d.size ≤ 1000000000) (hs : FsOk F) (hx : find F.L k = some x) (h2 : x.kind = 2) (hu : 0 ≤ F.used ∧ F.used ≤ 1000000000) (hr : 0 ≤ F.room ∧ F.room ≤ 1000000000) (w : World) (R : Hp) (h : Sat w (fsHp fb mb F * R)) :
    Calls Tryz.prog 187 #[pp fb, .int .i64 k, .int .i64 a, .string d] w fun e w' => (e = .returned (.int .i64 (writeP F k x a d).1) ∧ Sat w' (fsHp fb mb (writeP F k x a d).2 * R)) ∧ Ran w w' := by
  by_cases h0 : (writeP F k x a d).1 ≠ 0 ∨ d.size = 0
  · exact Write_no fb mb F k a x d hk ha hd hs hx h2 hu hr h0 w R h
  · have h1 : ¬ (writeP F k x a d).1 ≠ 0 := fun e => h0 (.inl e)
    have hz : ¬ d.size = 0 := fun e => h0 (.inr e)
    unfold writeP at h1
    split at h1
    · exact absurd (show (21 : Int) ≠ 0 by decide) h1
    rename_i hb
    split at h1
    · exact absurd (show (15 : Int) ≠ 0 by decide) h1
    rename_i hro
    exact Write_go fb mb F k a x d hk ha hd hs hx h2 hu hr (fun e => hb (.inl e)) (fun e => hb (.inr e)) hz hro w R h
end Go.Proofs.YteienbdbhnikbaaGreatDoor.Hd

namespace Go.Proofs.YteienbdbhnikbaaGreatDoor.Hd
open Go.RowKit Go.Maps Go.Proofs.YteienbdbhnikbaaGreatDoor Go.Proofs.YteienbdbhnikbaaGreatDoor.Hp
set_option linter.unusedVariables false
attribute [local go_sem] Oper.semAt_some

/-- A Mode. -/
structure Md where
  r : Bool
  w : Bool
  m : Bool
/-- What is told of a handle. -/
abbrev inO (k rf a n : Int) (m : Md) : Obj := .cells #[.int .i64 k, .int .i64 rf, .int .i64 a, .int .i64 n, .bool m.r, .bool m.w, .bool m.m] 52 (0, 0)
abbrev inV (k rf a n : Int) (m : Md) : Value := .agg #[.int .i64 k, .int .i64 rf, .int .i64 a, .int .i64 n, .bool m.r, .bool m.w, .bool m.m]
theorem in_cells {w : World} {b : Nat} {k rf a n : Int} {m : Md} {S : Hp} (h : Sat w (pts b (inO k rf a n m) * S)) : w.cell? ⟨b, 0, none⟩ = some (.int .i64 k) ∧ w.cell? ⟨b, 1, none⟩ = some (.int .i64 rf) ∧ w.cell? ⟨b, 2, none⟩ = some (.int .i64 a) ∧ w.cell? ⟨b, 3, none⟩ = some (.int .i64 n) ∧ w.cell? ⟨b, 4, none⟩ = some (.bool m.r) ∧ w.cell? ⟨b, 5, none⟩ = some (.bool m.w) ∧ w.cell? ⟨b, 6, none⟩ = some (.bool m.m) := by
  have hb := h.get
  refine ⟨?_, ?_, ?_, ?_, ?_, ?_, ?_⟩ <;> rw [cell_at hb] <;> rfl
abbrev flO (fb : Nat) (n a : Int) (m : Md) : Obj := .cells #[pp fb, .int .i64 n, .int .i64 a, .bool m.r, .bool m.w, .bool m.m] 161 (0, 0)
theorem fl_cells {w : World} {b fb : Nat} {n a : Int} {m : Md} {S : Hp} (h : Sat w (pts b (flO fb n a m) * S)) : w.cell? ⟨b, 0, none⟩ = some (pp fb) ∧ w.cell? ⟨b, 1, none⟩ = some (.int .i64 n) ∧ w.cell? ⟨b, 2, none⟩ = some (.int .i64 a) ∧ w.cell? ⟨b, 3, none⟩ = some (.bool m.r) ∧ w.cell? ⟨b, 4, none⟩ = some (.bool m.w) ∧ w.cell? ⟨b, 5, none⟩ = some (.bool m.m) := by
  have hb := h.get
  refine ⟨?_, ?_, ?_, ?_, ?_, ?_⟩ <;> rw [cell_at hb] <;> rfl
set_option maxRecDepth 100000 in
set_option maxHeartbeats 4000000 in
theorem finfo_calls (xb fb : Nat) (n a : Int) (m : Md) (w : World) (R : Hp) (h : Sat w (pts xb (flO fb n a m) * R)) :
    Calls Tryz.prog 184 #[pp xb] w fun e w' => e = .returned (inV 1 0 a n m) ∧ Below w.heap.size w w' := by
  have D3 := ((h.alloc (inO 0 0 0 0 ⟨false, false, false⟩)).perm (show _ = pts xb (flO fb n a m) * (pts w.heap.size (inO 0 0 0 0 ⟨false, false, false⟩) * R) by ac_rfl)).drew
  obtain ⟨d0, d1, d2, d3, d4, d5⟩ := fl_cells D3
  have D5 := ((h.alloc (inO 1 0 a n m)).perm (show _ = pts xb (flO fb n a m) * (pts w.heap.size (inO 1 0 a n m) * R) by ac_rfl)).drew
  obtain ⟨q0, q1, q2, q3, q4, q5⟩ := fl_cells D5
  obtain ⟨r0, r1, r2, r3, r4, r5, r6⟩ := in_cells (D5.perm (show _ = pts w.heap.size (inO 1 0 a n m) * (pts xb (flO fb n a m) * R) by ac_rfl))
  have HB3 := Lib.hid (((Below.refl w.heap.size w).alloc (Nat.le_refl _) (inO 1 0 a n m)).trans ⟨rfl, rfl, rfl, Nat.le_refl _, fun _ _ => rfl⟩ : Below w.heap.size w (w.alloc (inO 1 0 a n m)).drew)
  obtain ⟨mr, mw, mm⟩ := m
  dsimp only at d3 d4 d5 q3 q4 q5 r4 r5 r6
  clear h D3 D5
  go_enter Tryz.func184, Tryz.ntmps184
  go_wp2_with fail
  refine region_plan (S := (fun w' => w'.cell? ⟨xb, 1, none⟩ = some (.int .i64 n) ∧ w'.cell? ⟨xb, 2, none⟩ = some (.int .i64 a) ∧ w'.cell? ⟨xb, 3, none⟩ = some (.bool mr) ∧ w'.cell? ⟨xb, 4, none⟩ = some (.bool mw) ∧ w'.cell? ⟨xb, 5, none⟩ = some (.bool mm))) [(0, true), (1, true), (2, true), (3, true), (4, true), (5, true), (6, true), (7, true), (8, true), (9, true), (10, true), (11, true), (12, true), (13, false)] (by kernel_rfl) (by kernel_rfl) (by kernel_rfl) ?_ ?_
  · ((try dsimp only); (first | done | (first | exact ⟨d1, d2, d3, d4, d5⟩ | exact ⟨q1, q2, q3, q4, q5⟩)))
  simp only [planOps, List.map_cons, List.map_nil, List.getElem?_toArray, List.getElem?_cons_zero, List.getElem?_cons_succ]
  repeat (first
    | ((refine plan_yes (v := ?_) (by rfl) ?_ ?_); rotate_left; (focus (intro w hSw; (try dsimp only at hSw); go_simp; try (with_reducible rfl))); (try simp only [Act.put, List.setIfInBounds_toArray, List.set_cons_zero, List.set_cons_succ]))
    | ((refine plan_no (by rfl) ?_); (try simp only [Act.put, List.setIfInBounds_toArray, List.set_cons_zero, List.set_cons_succ]))
    | ((refine plan_step (fun K hK => ?_)); (first | (fail) | (go_simp; (fail); (try go_wp2_with fail)) | go_simp); (refine hK.out _ _ ?_ (fun hHeld => ?_)); (focus ((try dsimp only); (first | done | (first | exact ⟨d1, d2, d3, d4, d5⟩ | exact ⟨q1, q2, q3, q4, q5⟩)))); clear hK K; (try simp only [Act.put, List.setIfInBounds_toArray, List.set_cons_zero, List.set_cons_succ])))
  refine plan_done ?_
  go_wp2_with fail
  exact bodyPost_ret (v := inV 1 0 a n ⟨mr, mw, mm⟩) (by simp [results, Tryz.results184, go_sem, r0, r1, r2, r3, r4, r5, r6]) rfl ⟨rfl, HB3.out⟩
end Go.Proofs.YteienbdbhnikbaaGreatDoor.Hd

