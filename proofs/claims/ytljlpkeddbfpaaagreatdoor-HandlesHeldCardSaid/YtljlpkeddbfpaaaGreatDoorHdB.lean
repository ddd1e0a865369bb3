/- A tree of nodes in memory; is, text, Stat walked. -/
import Derived.Test.YtljlpkeddbfpaaaGreatDoorHdK
import Derived.Test.YtljlpkeddbfpaaaGreatDoorSpX
import Derived.Lib.Hide
namespace Go.Proofs.YtljlpkeddbfpaaaGreatDoor.Hd
open Go.RowKit Go.Maps Go.Proofs.YtljlpkeddbfpaaaGreatDoor Go.Proofs.YtljlpkeddbfpaaaGreatDoor.Hp
set_option linter.unusedVariables false
attribute [local go_sem] Oper.semAt_some

/-- A directory's names: the map's block, what it says, how many there are, how many there ever were at most. -/
structure Kd where
  b : Nat
  M : K.SM
  sz : Nat
  n : Nat
structure Nd where
  b : Nat
  kind : Int
  text : ByteArray
  kids : Option Kd
  par : Int
  names : Int
  holds : Int
def kv : Option Kd → Value
  | none => .map none
  | some k => .map (some k.b)
def ndO (x : Nd) : Obj := .cells #[.int .i64 x.kind, .string x.text, kv x.kids, .int .i64 x.par, .int .i64 x.names, .int .i64 x.holds] 100 (0, 0)
def kidsHp : Option Kd → Hp
  | none => emp
  | some k => K.smap k.b k.M k.sz k.n
def ndHp (x : Nd) : Hp := pts x.b (ndO x) * kidsHp x.kids
abbrev NL := List (Int × Nd)
def find : NL → Int → Option Nd
  | [], _ => none
  | p :: L, k => if p.1 = k then some p.2 else find L k
def upd : NL → Int → Nd → NL
  | [], _, _ => []
  | p :: L, k, x => if p.1 = k then (k, x) :: L else p :: upd L k x
def nds (L : NL) : Hp := all (fun p : Int × Nd => ndHp p.2) L
def blk (L : NL) : Int → Option Nat := fun k => (find L k).map Nd.b
theorem focus : ∀ (L : NL) (k : Int) (x : Nd), find L k = some x → ∃ F : Hp, nds L = ndHp x * F ∧ ∀ x', nds (upd L k x') = ndHp x' * F
  | [], _, _, h => by cases h
  | p :: L, k, x, h => by
    unfold find at h
    by_cases e : p.1 = k
    · rw [if_pos e] at h
      injection h with h
      refine ⟨nds L, by rw [← h]; rfl, fun x' => by unfold upd; rw [if_pos e]; rfl⟩
    · rw [if_neg e] at h
      obtain ⟨F, h1, h2⟩ := focus L k x h
      refine ⟨ndHp p.2 * F, ?_, fun x' => ?_⟩
      · show ndHp p.2 * nds L = _
        rw [h1]; ac_rfl
      · unfold upd; rw [if_neg e]
        show ndHp p.2 * nds (upd L k x') = _
        rw [h2 x']; ac_rfl
theorem find_upd : ∀ (L : NL) (k j : Int) (x : Nd), (find L k).isSome = true → find (upd L k x) j = if j = k then some x else find L j
  | [], _, _, _, h => by cases h
  | p :: L, k, j, x, h => by
    unfold find at h
    by_cases e : p.1 = k
    · unfold upd; rw [if_pos e]
      show (if k = j then some x else find L j) = if j = k then some x else (if p.1 = j then some p.2 else find L j)
      by_cases e2 : j = k
      · subst e2; simp
      · rw [if_neg e2, if_neg (fun h => e2 h.symm), if_neg (fun h => e2 (by rw [← h, e]))]
    · rw [if_neg e] at h
      unfold upd; rw [if_neg e]; unfold find
      by_cases e2 : p.1 = j
      · rw [if_pos e2, if_neg (fun h => e (by rw [e2, h])), if_pos e2]
      · rw [if_neg e2, find_upd L k j x h, if_neg e2]
theorem upd_len : ∀ (L : NL) (k : Int) (x : Nd), (upd L k x).length = L.length
  | [], _, _ => rfl
  | p :: L, k, x => by
    unfold upd
    split
    · rfl
    · show (upd L k x).length + 1 = _; rw [upd_len L k x]; rfl
theorem blk_upd (L : NL) (k : Int) (x x' : Nd) (h : find L k = some x) (hb : x'.b = x.b) : blk (upd L k x') = blk L := by
  funext j
  unfold blk
  rw [find_upd L k j x' (by rw [h]; rfl)]
  by_cases e : j = k
  · subst e; rw [if_pos rfl, h]; simp [hb]
  · rw [if_neg e]
/-- A tree: its bounds, what is used, its nodes; how many entries its map ever had at most. -/
structure Fs where
  most : Int
  room : Int
  used : Int
  L : NL
  n : Nat
def fsO (F : Fs) (mb : Nat) : Obj := .cells #[.int .i64 F.most, .int .i64 F.room, .int .i64 F.used, .map (some mb)] 103 (0, 0)
def fsHp (fb mb : Nat) (F : Fs) : Hp := pts fb (fsO F mb) * (pmap mb (blk F.L) F.L.length F.n * nds F.L)
abbrev pp (b : Nat) : Value := .pointer (some ⟨b, 0, none⟩)
theorem fs_cells {w : World} {fb mb : Nat} {F : Fs} {R : Hp} (h : Sat w (fsHp fb mb F * R)) : w.cell? ⟨fb, 0, none⟩ = some (.int .i64 F.most) ∧ w.cell? ⟨fb, 1, none⟩ = some (.int .i64 F.room) ∧ w.cell? ⟨fb, 2, none⟩ = some (.int .i64 F.used) ∧ w.cell? ⟨fb, 3, none⟩ = some (.map (some mb)) := by
  have hb := (h.perm (show _ = pts fb (fsO F mb) * (pmap mb (blk F.L) F.L.length F.n * nds F.L * R) by unfold fsHp; ac_rfl)).get
  refine ⟨?_, ?_, ?_, ?_⟩ <;> rw [cell_at hb] <;> rfl
theorem fs_look {w : World} {fb mb : Nat} {F : Fs} {R : Hp} (h : Sat w (fsHp fb mb F * R)) (k : Int) (hk : I64 k) : (Instr.lookup 101 (.map (some mb)) (.int .i64 k) false).run Tryz.prog w = .ok (pv (blk F.L k)) w :=
  pmap_look Tryz.underlying101 zeroNode (h.perm (show _ = pmap mb (blk F.L) F.L.length F.n * (pts fb (fsO F mb) * nds F.L * R) by unfold fsHp; ac_rfl)) k hk
/-- One node, and how another one takes its place. -/
theorem fs_node {w : World} {fb mb : Nat} {F : Fs} {R : Hp} (h : Sat w (fsHp fb mb F * R)) {k : Int} {x : Nd} (hx : find F.L k = some x) :
    ∃ X : Hp, Sat w (pts x.b (ndO x) * (kidsHp x.kids * (pts fb (fsO F mb) * (X * R)))) ∧
      ∀ (w' : World) (x' : Nd) (F' : Fs) (R' : Hp), x'.b = x.b → F'.L = upd F.L k x' → F'.n = F.n → Sat w' (pts x'.b (ndO x') * (kidsHp x'.kids * (pts fb (fsO F' mb) * (X * R')))) → Sat w' (fsHp fb mb F' * R') := by
  obtain ⟨X, h1, h2⟩ := focus F.L k x hx
  refine ⟨pmap mb (blk F.L) F.L.length F.n * X, h.perm ?_, fun w' x' F' R' hb hL hn h' => h'.perm ?_⟩
  · unfold fsHp; rw [h1]; unfold ndHp; ac_rfl
  · unfold fsHp
    rw [hL, h2 x', blk_upd F.L k x x' hx hb, upd_len, hn]; unfold ndHp; ac_rfl
theorem nd_cells {w : World} {x : Nd} {S : Hp} (h : Sat w (pts x.b (ndO x) * S)) : w.cell? ⟨x.b, 0, none⟩ = some (.int .i64 x.kind) ∧ w.cell? ⟨x.b, 1, none⟩ = some (.string x.text) ∧ w.cell? ⟨x.b, 2, none⟩ = some (kv x.kids) ∧ w.cell? ⟨x.b, 3, none⟩ = some (.int .i64 x.par) ∧ w.cell? ⟨x.b, 4, none⟩ = some (.int .i64 x.names) ∧ w.cell? ⟨x.b, 5, none⟩ = some (.int .i64 x.holds) := by
  have hb := h.get
  refine ⟨?_, ?_, ?_, ?_, ?_, ?_⟩ <;> rw [cell_at hb] <;> rfl
/-- What stands where a node stands. -/
theorem fs_at {w : World} {fb mb : Nat} {F : Fs} {R : Hp} (h : Sat w (fsHp fb mb F * R)) {k : Int} {x : Nd} (hx : find F.L k = some x) : w.cell? ⟨x.b, 0, none⟩ = some (.int .i64 x.kind) ∧ w.cell? ⟨x.b, 1, none⟩ = some (.string x.text) ∧ w.cell? ⟨x.b, 2, none⟩ = some (kv x.kids) ∧ w.cell? ⟨x.b, 3, none⟩ = some (.int .i64 x.par) ∧ w.cell? ⟨x.b, 4, none⟩ = some (.int .i64 x.names) ∧ w.cell? ⟨x.b, 5, none⟩ = some (.int .i64 x.holds) := by
  obtain ⟨X, h1, _⟩ := fs_node h hx
  exact nd_cells h1
def isK (F : Fs) (k kd : Int) : Bool := match find F.L k with
  | none => false
  | some x => x.kind == kd
set_option maxRecDepth 100000 in
set_option maxHeartbeats 4000000 in
theorem is_calls (fb mb : Nat) (F : Fs) (k kd : Int) (hk : I64 k) (w : World) (R : Hp) (h : Sat w (fsHp fb mb F * R)) :
    Calls Tryz.prog 63 #[pp fb, .int .i64 k, .int .i64 kd] w fun e w' => e = .returned (.bool (isK F k kd)) ∧ w = w' := by
  obtain ⟨c0, c1, c2, c3⟩ := fs_cells h
  have hl := fs_look h k hk
  unfold isK
  cases hx : find F.L k with
  | none =>
    have : blk F.L k = none := by unfold blk; rw [hx]; rfl
    rw [this] at hl
    clear h hx this
    unfold pv at hl
    go_enter Tryz.func63, Tryz.ntmps63
    go_wp2_with fail
    go_ret
    exact ⟨rfl, rfl⟩
  | some x =>
    have : blk F.L k = some x.b := by unfold blk; rw [hx]; rfl
    rw [this] at hl
    obtain ⟨d0, d1, d2, d3, d4, d5⟩ := fs_at h hx
    show Calls _ _ _ _ (fun e w' => e = .returned (.bool (x.kind == kd)) ∧ w = w')
    unfold pv at hl
    clear h hx this
    go_enter Tryz.func63, Tryz.ntmps63
    go_wp2_with fail
    go_ret
    exact ⟨rfl, rfl⟩
/-- The node of a number that has bytes, and what is wrong with it. -/
def textE (F : Fs) (k : Int) : Int := match find F.L k with
  | none => 10
  | some x => if x.kind = 1 then 13 else 0
def textV (F : Fs) (k : Int) : Option Nat := match find F.L k with
  | none => none
  | some x => if x.kind = 1 then none else some x.b
set_option maxRecDepth 100000 in
set_option maxHeartbeats 4000000 in
theorem text_calls (fb mb : Nat) (F : Fs) (k : Int) (hk : I64 k) (w : World) (R : Hp) (h : Sat w (fsHp fb mb F * R)) :
    Calls Tryz.prog 39 #[pp fb, .int .i64 k] w fun e w' => e = .returned (.tuple #[pv (textV F k), .int .i64 (textE F k)]) ∧ w = w' := by
  obtain ⟨c0, c1, c2, c3⟩ := fs_cells h
  have hl := fs_look h k hk
  have HI := is_calls fb mb F k 1 hk w R h
  unfold isK at HI
  unfold textE textV
  cases hx : find F.L k with
  | none =>
    have : blk F.L k = none := by unfold blk; rw [hx]; rfl
    rw [this] at hl
    clear h hx this HI
    unfold pv at hl
    go_enter Tryz.func39, Tryz.ntmps39
    go_wp2_with fail
    go_ret2
    exact ⟨rfl, rfl⟩
  | some x =>
    have : blk F.L k = some x.b := by unfold blk; rw [hx]; rfl
    rw [this] at hl
    rw [hx] at HI
    unfold pv at hl
    by_cases e : x.kind = 1
    · rw [show (match some x with | none => false | some x => x.kind == 1) = true by simp [e]] at HI
      have HI := Lib.hid HI
      dsimp only
      rw [if_pos e, if_pos e]
      clear h hx this e
      go_enter Tryz.func39, Tryz.ntmps39
      go_wp2_with fail
      refine HI.out.mono ?_
      rintro e w1 ⟨rfl, rfl⟩
      go_wp2_with fail
      go_ret2
      exact ⟨rfl, rfl⟩
    · rw [show (match some x with | none => false | some x => x.kind == 1) = false by simp [e]] at HI
      have HI := Lib.hid HI
      dsimp only
      rw [if_neg e, if_neg e]
      clear h hx this e
      go_enter Tryz.func39, Tryz.ntmps39
      go_wp2_with fail
      refine HI.out.mono ?_
      rintro e w1 ⟨rfl, rfl⟩
      go_wp2_with fail
      go_ret2
      exact ⟨rfl, rfl⟩
end Go.Proofs.YtljlpkeddbfpaaaGreatDoor.Hd
