/- HandlesPlays, part 18 of 26: the texts PnT PnV, joined by a program. -/
import Derived.Test.YtndjgeohkfenfaaGreatDoorPq17
namespace Go.Proofs.YtndjgeohkfenfaaGreatDoor.Hd
open Go.RowKit Go.Maps Go.Proofs.YtndjgeohkfenfaaGreatDoor Go.Proofs.YtndjgeohkfenfaaGreatDoor.Hp
set_option linter.unusedVariables false

/-- The library's variable reads as a number beside all that is R's. -/
def Glob (R : Hp) : Prop := ∃ m : Int, ∀ (w : World) (S : Hp), Sat w (S * R) → w.cell? ⟨0, 0, none⟩ = some (.int .i64 m)
theorem Glob.more {R S : Hp} (h : Glob R) : Glob (S * R) := by
  obtain ⟨m, hm⟩ := h
  exact ⟨m, fun w T hT => hm w (T * S) (hT.perm (by ac_rfl))⟩
/-- Numbers of nodes are numbers. -/
def NumsOk (F : Fs) : Prop := ∀ k x, find F.L k = some x → I64 x.par ∧ ∀ kd s v, x.kids = some kd → kd.M s = some v → I64 v
theorem i64_0 : I64 0 := by unfold I64; omega
theorem i64_1 : I64 1 := by unfold I64; omega
theorem tell_i64 {n : Int} (h : I64 n) : I64 (tellP n).1 := by
  unfold tellP; split
  · exact i64_0
  · exact h
theorem step_i64 {F : Fs} (h : NumsOk F) {d : Int} (hd : I64 d) (s : ByteArray) : I64 (stepP F d s).1 := by
  unfold stepP
  cases hx : find F.L d with
  | none => exact i64_0
  | some x =>
    dsimp only
    split
    · split
      · exact tell_i64 hd
      split
      · exact tell_i64 (h d x hx).1
      split
      · exact i64_0
      · refine tell_i64 ?_
        unfold kidP
        cases hk : x.kids with
        | none => exact i64_0
        | some kd =>
          dsimp only
          cases hv : kd.M s with
          | none => exact i64_0
          | some v => exact (h d x hx).2 kd s v hk hv
    · exact i64_0
theorem begin_i64 {d : Int} (hd : I64 d) (s : ByteArray) : I64 (beginP d s).1 := by
  unfold beginP
  split
  · exact i64_0
  split
  · exact i64_0
  split
  · exact i64_1
  · exact hd
theorem begin_short {d : Int} {s : ByteArray} (h : (beginP d s).2 = 0) : s.size ≤ 256 := by
  unfold beginP at h
  split at h
  · cases h
  split at h
  · cases h
  · omega
theorem trim_le (l : List UInt8) (c : UInt8) : (Lib.trimLeftB l c).length ≤ l.length := by
  unfold Lib.trimLeftB
  exact (List.dropWhile_sublist _).length_le
theorem cut_le (l : List UInt8) : (Lib.cut l [47]).2.1.length ≤ l.length := by
  unfold Lib.cut
  split
  · exact (List.drop_sublist ..).length_le
  · exact Nat.zero_le _
theorem cut_lt {l : List UInt8} (h : (Lib.cut l [47]).1 ≠ []) : (Lib.cut l [47]).2.1.length < l.length := by
  have hl : 0 < l.length := by
    cases l with
    | nil => exact absurd (by rfl) h
    | cons a l => exact Nat.succ_pos _
  unfold Lib.cut
  split
  · show (List.drop _ l).length < _
    rw [List.length_drop]
    show l.length - (_ + 1) < _
    omega
  · exact hl
theorem cut_part_le (l : List UInt8) : (Lib.cut l [47]).1.length ≤ l.length := by
  unfold Lib.cut
  split
  · exact (List.take_sublist ..).length_le
  · exact Nat.le_refl _
/-- What a walk from a place comes to: its beginning ahead of its parts. -/
def walkR (F : Fs) (g : Nat) (links at_ : Int) (s : ByteArray) (follow : Bool) : (Int × Int) × Int :=
  if (beginP at_ s).2 ≠ 0 then ((0, (beginP at_ s).2), links) else loopP F g links (beginP at_ s).1 s.data.toList follow
section
variable {F : Fs} {g : Nat} {links at_ : Int} {path : List UInt8} {follow : Bool} {p r : List UInt8} {m : Bool}
theorem loop_end (hc : Lib.cut (Lib.trimLeftB path 47) [47] = ([], r, m)) : loopP F (g + 1) links at_ path follow = ((at_, 0), links) := by
  unfold loopP
  rw [hc]
  exact if_pos rfl
theorem loop_bad (hc : Lib.cut (Lib.trimLeftB path 47) [47] = (p, r, m)) (hp : p ≠ []) (hs : (stepP F at_ ⟨p.toArray⟩).2 ≠ 0) : loopP F (g + 1) links at_ path follow = ((0, (stepP F at_ ⟨p.toArray⟩).2), links) := by
  unfold loopP
  rw [hc]
  dsimp only
  rw [if_neg hp, if_pos hs]
/-- Behind a node that is no link, or was followed. -/
def finP (F : Fs) (g : Nat) (rest : List UInt8) (more follow : Bool) (n lk : Int) : (Int × Int) × Int := if more = false then ((n, 0), lk) else if isK F n 1 = false then ((0, 12), lk) else loopP F g lk n rest follow
theorem loop_plain (hc : Lib.cut (Lib.trimLeftB path 47) [47] = (p, r, m)) (hp : p ≠ []) (hs : (stepP F at_ ⟨p.toArray⟩).2 = 0) (hk : (isK F (stepP F at_ ⟨p.toArray⟩).1 3 && (m || follow)) = false) :
    loopP F (g + 1) links at_ path follow = finP F g r m follow (stepP F at_ ⟨p.toArray⟩).1 links := by
  unfold loopP
  rw [hc]
  dsimp only
  rw [if_neg hp, if_neg (fun h => h hs), hk, if_neg (by decide)]
  rfl
theorem loop_many (hc : Lib.cut (Lib.trimLeftB path 47) [47] = (p, r, m)) (hp : p ≠ []) (hs : (stepP F at_ ⟨p.toArray⟩).2 = 0) (hk : (isK F (stepP F at_ ⟨p.toArray⟩).1 3 && (m || follow)) = true) (h8 : 8 < links + 1) :
    loopP F (g + 1) links at_ path follow = ((0, 17), links + 1) := by
  unfold loopP
  rw [hc]
  dsimp only
  rw [if_neg hp, if_neg (fun h => h hs), if_pos hk, if_pos h8]
theorem loop_link (hc : Lib.cut (Lib.trimLeftB path 47) [47] = (p, r, m)) (hp : p ≠ []) (hs : (stepP F at_ ⟨p.toArray⟩).2 = 0) (hk : (isK F (stepP F at_ ⟨p.toArray⟩).1 3 && (m || follow)) = true) (h8 : ¬ 8 < links + 1) (x : (Int × Int) × Int) (hx : x = walkR F g (links + 1) at_ (textOf F (stepP F at_ ⟨p.toArray⟩).1) true) :
    loopP F (g + 1) links at_ path follow = if x.1.2 ≠ 0 then ((0, x.1.2), x.2) else finP F g r m follow x.1.1 x.2 := by
  subst hx
  unfold loopP
  rw [hc]
  dsimp only
  rw [if_neg hp, if_neg (fun h => h hs), if_pos hk, if_neg h8]
  unfold walkR
  by_cases hb : (beginP at_ (textOf F (stepP F at_ ⟨p.toArray⟩).1)).2 ≠ 0
  · rw [if_pos hb, if_pos hb, if_pos hb]
  · rw [if_neg hb, if_neg hb]
    rfl
end
/-- Where a walk ends well, no more than the most links were followed. -/
theorem loop_top (F : Fs) : ∀ (g : Nat) (links at_ : Int) (path : List UInt8) (follow : Bool), links ≤ 8 → (loopP F g links at_ path follow).1.2 = 0 → (loopP F g links at_ path follow).2 ≤ 8
  | 0, links, _, _, _, _, h => by cases h
  | g + 1, links, at_, path, follow, hl, h => by
    have ih := loop_top F g
    have fin : ∀ rest more n lk, lk ≤ 8 → (finP F g rest more follow n lk).1.2 = 0 → (finP F g rest more follow n lk).2 ≤ 8 := by
      intro rest more n lk h8 hf
      unfold finP at hf ⊢
      split
      · exact h8
      · split
        · exact h8
        · rename_i h1 h2
          rw [if_neg h1, if_neg h2] at hf
          exact ih _ _ _ _ h8 hf
    obtain ⟨p, r, m, hc⟩ : ∃ p r m, Lib.cut (Lib.trimLeftB path 47) [47] = (p, r, m) := ⟨_, _, _, rfl⟩
    by_cases hp : p = []
    · subst hp
      rw [loop_end hc]
      exact hl
    by_cases hs : (stepP F at_ ⟨p.toArray⟩).2 = 0
    · cases hk : (isK F (stepP F at_ ⟨p.toArray⟩).1 3 && (m || follow)) with
      | false =>
        rw [loop_plain hc hp hs hk] at h ⊢
        exact fin _ _ _ _ hl h
      | true =>
        by_cases h8 : 8 < links + 1
        · rw [loop_many hc hp hs hk h8] at h
          cases h
        · rw [loop_link hc hp hs hk h8 _ rfl] at h ⊢
          by_cases hz : (walkR F g (links + 1) at_ (textOf F (stepP F at_ ⟨p.toArray⟩).1) true).1.2 ≠ 0
          · rw [if_pos hz] at h
            exact absurd h hz
          · rw [if_neg hz] at h ⊢
            refine fin _ _ _ _ ?_ h
            unfold walkR at hz ⊢
            by_cases hb : (beginP at_ (textOf F (stepP F at_ ⟨p.toArray⟩).1)).2 ≠ 0
            · rw [if_pos hb] at hz
              exact absurd hb (fun e => hz e)
            · rw [if_neg hb] at hz ⊢
              exact ih _ _ _ _ (by omega) (by simpa using hz)
    · rw [loop_bad hc hp hs] at h
      exact absurd h hs
theorem walkR_top (F : Fs) (g : Nat) (links at_ : Int) (s : ByteArray) (follow : Bool) (hl : links ≤ 8) (h : (walkR F g links at_ s follow).1.2 = 0) : (walkR F g links at_ s follow).2 ≤ 8 := by
  unfold walkR at h ⊢
  by_cases hb : (beginP at_ s).2 ≠ 0
  · rw [if_pos hb] at h
    exact absurd h hb
  · rw [if_neg hb] at h ⊢
    exact loop_top _ _ _ _ _ _ hl h
theorem walkR_links (F : Fs) (g : Nat) (links at_ : Int) (s : ByteArray) (follow : Bool) : links ≤ (walkR F g links at_ s follow).2 := by
  unfold walkR
  split
  · exact Int.le_refl _
  · exact loop_links _ _ _ _ _ _
theorem loop_i64 {F : Fs} (h : NumsOk F) : ∀ (g : Nat) (links at_ : Int) (path : List UInt8) (follow : Bool), I64 at_ → I64 (loopP F g links at_ path follow).1.1
  | 0, links, _, _, _, _ => i64_0
  | g + 1, links, at_, path, follow, hl => by
    have ih := loop_i64 h g
    have fin : ∀ rest more n lk, I64 n → I64 (finP F g rest more follow n lk).1.1 := by
      intro rest more n lk h8
      unfold finP
      split
      · exact h8
      · split
        · exact i64_0
        · exact ih _ _ _ _ h8
    obtain ⟨p, r, m, hc⟩ : ∃ p r m, Lib.cut (Lib.trimLeftB path 47) [47] = (p, r, m) := ⟨_, _, _, rfl⟩
    by_cases hp : p = []
    · subst hp
      rw [loop_end hc]
      exact hl
    by_cases hs : (stepP F at_ ⟨p.toArray⟩).2 = 0
    · cases hk : (isK F (stepP F at_ ⟨p.toArray⟩).1 3 && (m || follow)) with
      | false =>
        rw [loop_plain hc hp hs hk]
        exact fin _ _ _ _ (step_i64 h hl _)
      | true =>
        by_cases h8 : 8 < links + 1
        · rw [loop_many hc hp hs hk h8]
          exact i64_0
        · rw [loop_link hc hp hs hk h8 _ rfl]
          split
          · exact i64_0
          · refine fin _ _ _ _ ?_
            unfold walkR
            split
            · exact i64_0
            · exact ih _ _ _ _ (begin_i64 hl _)
    · rw [loop_bad hc hp hs]
      exact i64_0
theorem walkR_i64 {F : Fs} (h : NumsOk F) (g : Nat) (links at_ : Int) (s : ByteArray) (follow : Bool) (hl : I64 at_) : I64 (walkR F g links at_ s follow).1.1 := by
  unfold walkR
  split
  · exact i64_0
  · exact loop_i64 h _ _ _ _ _ (begin_i64 hl _)
end Go.Proofs.YtndjgeohkfenfaaGreatDoor.Hd

namespace Go.Proofs.YtndjgeohkfenfaaGreatDoor.Hd
open Go.RowKit Go.Maps Go.Proofs.YtndjgeohkfenfaaGreatDoor Go.Proofs.YtndjgeohkfenfaaGreatDoor.Hp
set_option linter.unusedVariables false
attribute [local go_sem] Oper.semAt_some

abbrev wkO (fb : Nat) (links : Int) : Obj := .cells #[pp fb, .int .i64 links] 94 (0, 0)
def WkSat (fb mb wb : Nat) (F : Fs) (R : Hp) (links : Int) (w : World) : Prop := Sat w (pts wb (wkO fb links) * (fsHp fb mb F * R))
theorem wk_cells {fb mb wb : Nat} {F : Fs} {R : Hp} {links : Int} {w : World} (h : WkSat fb mb wb F R links w) :
    (w.cell? ⟨wb, 0, none⟩ = some (pp fb) ∧ w.cell? ⟨wb, 1, none⟩ = some (.int .i64 links)) ∧ w.frozen? ⟨wb, 1, none⟩ = false :=
  ⟨⟨by rw [cell_at h.get]; rfl, by rw [cell_at h.get]; rfl⟩, free_at h.get 1⟩
theorem wk_set {fb mb wb : Nat} {F : Fs} {R : Hp} {links : Int} {w : World} (h : WkSat fb mb wb F R links w) (v : Int) : WkSat fb mb wb F R v (w.setCell ⟨wb, 1, none⟩ (.int .i64 v)) := Sat.set (i := 1) h (.int .i64 v)
/-- How the rounds go. -/
def WkRel (fb mb wb : Nat) (F : Fs) (R : Hp) (follow : Bool) (X : (Int × Int) × Int) (W : World) (g0 : Nat) : Nat → Value → Value → World → Prop := fun g v2 v10 wr =>
  ∃ (path : ByteArray) (at_ links : Int), v2 = .string path ∧ v10 = .int .i64 at_ ∧ 0 ≤ links ∧ links ≤ 8 ∧ I64 at_ ∧ path.size ≤ 256 ∧ (9 - links.toNat) * 400 + path.size < g ∧ g ≤ g0 ∧ loopP F g links at_ path.data.toList follow = X ∧ WkSat fb mb wb F R links wr ∧ Ran W wr
theorem ba_of (l : List UInt8) : (⟨l.toArray⟩ : ByteArray).data.toList = l := by simp
theorem ba_len (l : List UInt8) : (⟨l.toArray⟩ : ByteArray).size = l.length := by show l.toArray.size = _; simp
set_option maxRecDepth 100000 in
set_option maxHeartbeats 16000000 in
theorem walk_calls (fb mb wb : Nat) (F : Fs) (hF : FsOk F) (hN : NumsOk F) : ∀ (g : Nat) (links at_ : Int) (s : ByteArray) (follow : Bool) (w : World) (R : Hp), 0 ≤ links → links ≤ 8 → I64 at_ → s.size ≤ 1000000 → (9 - links.toNat) * 400 + 256 < g → Glob R → WkSat fb mb wb F R links w →
    Calls Tryz.prog 42 #[pp wb, .int .i64 at_, .string s, .bool follow] w fun e w' => (e = .returned (.tuple #[.int .i64 (walkR F g links at_ s follow).1.1, .int .i64 (walkR F g links at_ s follow).1.2]) ∧ WkSat fb mb wb F R (walkR F g links at_ s follow).2 w') ∧ Ran w w' := by
  intro g
  induction g using Nat.strongRecOn with
  | ind g ih => ?_
  intro links at_ s follow w R hl0 hl8 hat hs hg hG h
  have HB := beginN_calls wb at_ s hs w
  obtain ⟨X, hX⟩ : ∃ X, X = walkR F g links at_ s follow := ⟨_, rfl⟩
  rw [← hX]
  by_cases hb : (beginP at_ s).2 ≠ 0
  · unfold walkR at hX
    rw [if_pos hb] at hX
    subst hX
    obtain ⟨b1, hb1⟩ : ∃ b, b = (beginP at_ s).1 := ⟨_, rfl⟩
    obtain ⟨b2, hb2⟩ : ∃ b, b = (beginP at_ s).2 := ⟨_, rfl⟩
    rw [← hb1, ← hb2] at HB
    rw [← hb2] at hb ⊢
    have HB := Lib.hid HB
    have h := Lib.hid h
    clear hb1 hb2 hg hs hat ih
    go_enter Tryz.func42, Tryz.ntmps42
    go_wp2_with fail
    go_step3
    go_wp2_with fail
    refine HB.out.mono ?_
    rintro e w1 ⟨rfl, rfl⟩
    go_wp2_with fail
    try rw [Exit.noGoto_ret]
    go_ret2
    exact ⟨⟨rfl, h.out⟩, Below.refl 0 _⟩
  · have hb0 : (beginP at_ s).2 = 0 := by simpa using hb
    have hsz := begin_short hb0
    have hi := begin_i64 hat s
    unfold walkR at hX
    rw [if_neg hb] at hX
    rw [hb0] at HB
    obtain ⟨b1, hb1⟩ : ∃ b, b = (beginP at_ s).1 := ⟨_, rfl⟩
    rw [← hb1] at HB hi hX
    have HB := Lib.hid HB
    have H0 := Lib.hid (show WkRel fb mb wb F R follow X w g g (.string s) (.int .i64 b1) w from ⟨s, b1, links, rfl, rfl, hl0, hl8, hi, hsz, by omega, Nat.le_refl _, hX.symm, h, Below.refl 0 _⟩)
    have ih := Lib.hid ih
    have hG := Lib.hid hG
    have hF := Lib.hid hF
    have hN := Lib.hid hN
    clear hb hb0 hb1 hg hs hat h hX hl0 hl8 hsz hi
    go_enter Tryz.func42, Tryz.ntmps42
    go_wp2_with fail
    go_step3
    go_wp2_with fail
    refine HB.out.mono ?_
    rintro e w1 ⟨rfl, rfl⟩
    go_wp2_with fail
    go_step3
    go_wp2_with fail
    go_loopg [2, 10] g (WkRel fb mb wb F R follow X w g)
    case atStart => exact H0.out
    case round =>
      obtain ⟨path, a0, lk, rfl, rfl, hl0, hl8, hai, hps, hgk, hgle, hX, S0, R0⟩ := hrel
      obtain ⟨gg, rfl⟩ : ∃ x, gk = x + 1 := ⟨gk - 1, by omega⟩

      have HTL := (Tryz.strings_TrimLeft_one path 47 (by decide) wr).mono fun e w' (h : _ ∧ _) => (⟨h.1, h.2.symm⟩ : _ ∧ wr = w')
      obtain ⟨t, ht⟩ : ∃ t, t = (⟨(Lib.trimLeftB path.data.toList 47).toArray⟩ : ByteArray) := ⟨_, rfl⟩
      rw [← ht] at HTL
      have htl : t.data.toList = Lib.trimLeftB path.data.toList 47 := by rw [ht]
      have hts : t.size ≤ path.size := by rw [ht, ba_len]; exact trim_le _ _
      obtain ⟨m0, hm0⟩ := hG.out
      have HC := Tryz.strings_Cut t ⟨#[47]⟩ m0 wr (by omega) (hm0 wr (pts wb (wkO fb lk) * fsHp fb mb F) (S0.perm (by ac_rfl)))
      obtain ⟨p, r, m, hc⟩ : ∃ p r m, Lib.cut (Lib.trimLeftB path.data.toList 47) [47] = (p, r, m) := ⟨_, _, _, rfl⟩
      have hpl : p.length ≤ 256 := by
        have := cut_part_le (Lib.trimLeftB path.data.toList 47)
        rw [hc] at this
        have h2 := trim_le path.data.toList 47
        have h3 : path.data.toList.length = path.size := rfl
        exact Nat.le_trans this (by omega)
      have hrl : r.length ≤ path.size ∧ (p ≠ [] → r.length < path.size) := by
        have h2 := trim_le path.data.toList 47
        have h3 : path.data.toList.length = path.size := rfl
        have h4 := cut_le (Lib.trimLeftB path.data.toList 47)
        have h5 := @cut_lt (Lib.trimLeftB path.data.toList 47)
        rw [hc] at h4 h5
        exact ⟨Nat.le_trans h4 (by omega), fun h => Nat.lt_of_lt_of_le (h5 h) (by omega)⟩
      rw [htl, show (⟨#[47]⟩ : ByteArray).data.toList = [47] from rfl, hc] at HC
      dsimp only at HC
      have HTL := Lib.hid HTL
      have HC := Lib.hid HC
      have Hai := Lib.hid hai
      have Hc := Lib.hid hc
      have Hgk := Lib.hid (And.intro hgk (And.intro hgle (And.intro hpl (And.intro hrl hps))))
      have HX := Lib.hid hX
      have S0 := Lib.hid S0
      have R0 := Lib.hid R0
      have Hl := Lib.hid (And.intro hl0 hl8)
      clear ht htl hts hm0 hc hpl hrl hai hgk hX hgle hl0 hl8 hps
      go_wp2_with fail
      refine HTL.out.mono ?_
      rintro e w1 ⟨rfl, rfl⟩
      clear HTL
      go_wp2_with fail
      refine HC.out.mono ?_
      rintro e w1 ⟨rfl, n1, hw1⟩
      have S1 : WkSat fb mb wb F R lk w1 := by rw [hw1]; exact S0.out.drewN n1
      have R1 : Ran w w1 := by rw [hw1]; exact R0.out.drewN n1
      have S1 := Lib.hid S1
      have R1 := Lib.hid R1
      clear hw1 S0 R0 HC
      by_cases hp : p = []
      · subst hp
        have hX2 := HX.out
        rw [loop_end Hc.out] at hX2
        subst hX2
        clear HX
        go_wp2_with fail
        try rw [Exit.noGoto_ret]
        go_ret2
        exact ⟨⟨rfl, S1.out⟩, R1.out⟩
      have hpn := ba_ne (show (⟨p.toArray⟩ : ByteArray) ≠ ⟨#[]⟩ from fun e => hp (by have := congrArg (fun b : ByteArray => b.data.toList) e; simpa using this))
      rw [show (ByteArray.toList ⟨#[]⟩) = ([] : List UInt8) by rw [ByteArray.toList_eq]] at hpn
      have HS := stepN_calls fb mb F a0 ⟨p.toArray⟩ Hai.out (by rw [ba_len]; have := Hgk.out.2.2.1; omega) w1 _ (S1.out.perm (show _ = fsHp fb mb F * (pts wb (wkO fb lk) * R) by ac_rfl))
      obtain ⟨n, hn⟩ : ∃ n, n = (stepP F a0 ⟨p.toArray⟩).1 := ⟨_, rfl⟩
      obtain ⟨er, her⟩ : ∃ n, n = (stepP F a0 ⟨p.toArray⟩).2 := ⟨_, rfl⟩
      rw [← hn, ← her] at HS
      have Hn := Lib.hid hn
      have Her := Lib.hid her
      have HS := Lib.hid HS
      have Hp := Lib.hid hp
      obtain ⟨⟨c0, c1⟩, f1⟩ := wk_cells S1.out
      obtain ⟨pb, hpb⟩ : ∃ b, b = (⟨p.toArray⟩ : ByteArray) := ⟨_, rfl⟩
      rw [← hpb] at hpn HS
      rw [← hpb]
      clear hn her hp hpb
      by_cases hz : er = 0
      case neg =>
        have hX2 := HX.out
        rw [loop_bad Hc.out Hp.out (by rw [← Her.out]; exact hz), ← Her.out] at hX2
        subst hX2
        clear HX
        go_wp2_with fail
        refine HS.out.mono ?_
        rintro e w2 ⟨rfl, rfl⟩
        go_wp2_with fail
        try rw [Exit.noGoto_ret]
        go_ret2
        exact ⟨⟨rfl, S1.out⟩, R1.out⟩
      subst hz
      have Hni := Lib.hid (show I64 n by rw [Hn.out]; exact step_i64 hN.out Hai.out _)
      have HI := Lib.hid (is_calls fb mb F n 3 Hni.out w1 _ (S1.out.perm (show _ = fsHp fb mb F * (pts wb (wkO fb lk) * R) by ac_rfl)))
      have HD := Lib.hid (is_calls fb mb F n 1 Hni.out w1 _ (S1.out.perm (show _ = fsHp fb mb F * (pts wb (wkO fb lk) * R) by ac_rfl)))

      cases hk : isK F n 3 with
      | false =>
        have HI2 := HI.out
        rw [hk] at HI2
        have HI := Lib.hid HI2
        have Hfl := Lib.hid (show (isK F n 3 && (m || follow)) = false by rw [hk]; rfl)
        clear HI2 hk
        cases m with
        | false =>
          have hX2 := HX.out
          rw [loop_plain Hc.out Hp.out Her.out.symm (by rw [← Hn.out]; exact Hfl.out), ← Hn.out] at hX2
          unfold finP at hX2
          rw [if_pos rfl] at hX2
          subst hX2
          go_wp2_with fail
          refine HS.out.mono ?_
          rintro e w2 ⟨rfl, rfl⟩
          clear HS
          go_wp2_with fail
          refine HI.out.mono ?_
          rintro e w2 ⟨rfl, rfl⟩
          clear HI
          go_wp2_with fail
          try rw [Exit.noGoto_ret]
          go_ret2
          exact ⟨⟨rfl, S1.out⟩, R1.out⟩
        | true =>
          have hX2 := HX.out
          rw [loop_plain Hc.out Hp.out Her.out.symm (by rw [← Hn.out]; exact Hfl.out), ← Hn.out] at hX2
          unfold finP at hX2
          rw [if_neg (by decide)] at hX2
          have HX3 := Lib.hid hX2
          clear hX2
          go_wp2_with fail
          refine HS.out.mono ?_
          rintro e w2 ⟨rfl, rfl⟩
          clear HS
          go_wp2_with fail
          refine HI.out.mono ?_
          rintro e w2 ⟨rfl, rfl⟩
          clear HI
          have hX2 := HX3.out
          clear HX3
          cases hd : isK F n 1 with
          | false =>
            rw [hd, if_pos rfl] at hX2
            subst hX2
            have HD2 := HD.out
            rw [hd] at HD2
            have HD2 := Lib.hid HD2
            clear HD hd
            go_wp2_with fail
            refine HD2.out.mono ?_
            rintro e w2 ⟨rfl, rfl⟩
            go_wp2_with fail
            try rw [Exit.noGoto_ret]
            go_ret2
            exact ⟨⟨rfl, S1.out⟩, R1.out⟩
          | true =>
            rw [hd, if_neg (by decide)] at hX2
            have HX2 := Lib.hid hX2
            have HD2 := HD.out
            rw [hd] at HD2
            have HD2 := Lib.hid HD2
            clear HD hd hX2
            go_wp2_with fail
            refine HD2.out.mono ?_
            rintro e w2 ⟨rfl, rfl⟩
            go_wp2_with fail
            go_roundg gg
            case measure => omega
            case rel => exact ⟨⟨r.toArray⟩, n, lk, rfl, rfl, Hl.out.1, Hl.out.2, Hni.out, by rw [ba_len]; have := Hgk.out.2.2.2.1.1; have := Hgk.out.2.2.2.2; omega, by rw [ba_len]; have := Hgk.out.1; have := Hgk.out.2.2.2.1.2 Hp.out;  omega, by have := Hgk.out.2.1; omega, by rw [ba_of]; exact HX2.out, S1.out, R1.out⟩
      | true =>
        have HI2 := HI.out
        rw [hk] at HI2
        have HI := Lib.hid HI2
        clear HI2
        cases m with
        | true =>
          have Hfl := Lib.hid (show (isK F n 3 && (true || follow)) = true by rw [hk]; rfl)
          obtain ⟨x, hx⟩ : ∃ x, find F.L n = some x := by
            cases hf : find F.L n with
            | none => unfold isK at hk; rw [hf] at hk; cases hk
            | some x => exact ⟨x, rfl⟩
          have htx : textOf F n = x.text := by unfold textOf; rw [hx]; rfl
          have hxs : x.text.size ≤ 1000000 := (hF.out n x hx).text
          have hwr : IntKind.i64.wrap (lk + 1) = lk + 1 := IntWalk.i64_in _ (by have := Hl.out; omega)
          have S2 := wk_set S1.out (lk + 1)
          have R2 : Ran w (w1.setCell ⟨wb, 1, none⟩ (.int .i64 (lk + 1))) := Ran.set R1.out _ _
          obtain ⟨w2, hw2⟩ : ∃ x, x = w1.setCell ⟨wb, 1, none⟩ (.int .i64 (lk + 1)) := ⟨_, rfl⟩
          rw [← hw2] at S2 R2
          obtain ⟨⟨e0, e1⟩, -⟩ := wk_cells S2
          have hS2 := S2.perm (show _ = fsHp fb mb F * (pts wb (wkO fb (lk + 1)) * R) by ac_rfl)
          obtain ⟨g0, g1, g2, g3⟩ := fs_cells hS2
          have hlk := fs_look hS2 n Hni.out
          rw [show blk F.L n = some x.b by unfold blk; rw [hx]; rfl] at hlk
          unfold pv at hlk
          obtain ⟨-, d1, -⟩ := fs_at hS2 hx
          have S2 := Lib.hid S2
          have R2 := Lib.hid R2
          clear hS2 hx
          by_cases h8 : 8 < lk + 1
          · have hX2 := HX.out
            rw [loop_many Hc.out Hp.out Her.out.symm (by rw [← Hn.out]; exact Hfl.out) h8] at hX2
            subst hX2
            clear hlk
            go_wp2_with fail
            refine HS.out.mono ?_
            rintro e w3 ⟨rfl, rfl⟩
            clear HS
            go_wp2_with fail
            refine HI.out.mono ?_
            rintro e w3 ⟨rfl, rfl⟩
            clear HI
            go_upto_region 14 with fail
            rw [← hw2]
            clear hw2 c0 c1 f1
            go_wp2_with fail
            try rw [Exit.noGoto_ret]
            go_ret2
            exact ⟨⟨rfl, S2.out⟩, R2.out⟩
          · have HR := ih.out gg (by have := Hgk.out.2.1; omega) (lk + 1) a0 (textOf F n) true w2 R (by have := Hl.out; omega) (by omega) Hai.out (by rw [htx]; exact hxs) (by have := Hgk.out.1; have := Hl.out; omega) hG.out S2.out
            have hX2 := HX.out
            obtain ⟨y, hy⟩ : ∃ y, y = walkR F gg (lk + 1) a0 (textOf F n) true := ⟨_, rfl⟩
            rw [← hy] at HR
            rw [loop_link Hc.out Hp.out Her.out.symm (by rw [← Hn.out]; exact Hfl.out) h8 y (by rw [← Hn.out]; exact hy)] at hX2
            have hy1 : lk + 1 ≤ y.2 := by rw [hy]; exact walkR_links _ _ _ _ _ _
            have hy2 : y.1.2 = 0 → y.2 ≤ 8 := by rw [hy]; exact walkR_top _ _ _ _ _ _ (by omega)
            have hy3 : I64 y.1.1 := by rw [hy]; exact walkR_i64 hN.out _ _ _ _ _ Hai.out
            obtain ⟨⟨x1, x2⟩, l2⟩ := y
            rw [htx] at HR
            dsimp only at HR hX2 hy1 hy2 hy3
            have HR := Lib.hid HR
            have Hx1i := Lib.hid hy3
            clear hy hy3
            by_cases hz : x2 = 0
            case neg =>
              rw [if_pos hz] at hX2
              subst hX2
              go_wp2_with fail
              refine HS.out.mono ?_
              rintro e w3 ⟨rfl, rfl⟩
              clear HS
              go_wp2_with fail
              refine HI.out.mono ?_
              rintro e w3 ⟨rfl, rfl⟩
              clear HI
              go_upto_region 14 with fail
              rw [← hw2]
              clear hw2 c0 c1 f1
              go_wp2_with fail
              refine HR.out.mono ?_
              rintro e w3 ⟨⟨rfl, S3⟩, R3⟩
              have S3 := Lib.hid S3
              have R3 := Lib.hid (Below.trans R2.out R3)
              go_wp2_with fail
              try rw [Exit.noGoto_ret]
              go_ret2
              exact ⟨⟨rfl, S3.out⟩, R3.out⟩
            subst hz
            rw [if_neg (fun h => h rfl)] at hX2
            unfold finP at hX2
            rw [if_neg (by decide)] at hX2
            have HX3 := Lib.hid hX2
            clear hX2
            have Hl3 := Lib.hid hy1
            have Hl2 := Lib.hid (And.intro (show 0 ≤ l2 by have := Hl.out; omega) (hy2 rfl))
            clear hy1 hy2
            go_wp2_with fail
            refine HS.out.mono ?_
            rintro e w3 ⟨rfl, rfl⟩
            clear HS
            go_wp2_with fail
            refine HI.out.mono ?_
            rintro e w3 ⟨rfl, rfl⟩
            clear HI
            go_upto_region 14 with fail
            rw [← hw2]
            clear hw2 c0 c1 f1
            go_wp2_with fail
            refine HR.out.mono ?_
            rintro e w3 ⟨⟨rfl, S3⟩, R3⟩
            have HD3 := Lib.hid (is_calls fb mb F x1 1 Hx1i.out w3 _ (S3.perm (show _ = fsHp fb mb F * (pts wb (wkO fb l2) * R) by ac_rfl)))
            obtain ⟨⟨h0, h1⟩, -⟩ := wk_cells S3
            have S3 := Lib.hid S3
            have R3 := Lib.hid (Below.trans R2.out R3)
            clear HR hlk e0 e1 g0 g1 g2 g3 d1 S2 R2
            have hX2 := HX3.out
            clear HX3
            cases hd : isK F x1 1 with
            | false =>
              rw [hd, if_pos rfl] at hX2
              subst hX2
              have HD2 := HD3.out
              rw [hd] at HD2
              have HD2 := Lib.hid HD2
              clear HD3 hd
              go_wp2_with fail
              refine HD2.out.mono ?_
              rintro e w2 ⟨rfl, rfl⟩
              go_wp2_with fail
              try rw [Exit.noGoto_ret]
              go_ret2
              exact ⟨⟨rfl, S3.out⟩, R3.out⟩
            | true =>
              rw [hd, if_neg (by decide)] at hX2
              have HX2 := Lib.hid hX2
              have HD2 := HD3.out
              rw [hd] at HD2
              have HD2 := Lib.hid HD2
              clear HD3 hd hX2
              go_wp2_with fail
              refine HD2.out.mono ?_
              rintro e w2 ⟨rfl, rfl⟩
              go_wp2_with fail
              go_roundg gg
              case measure => omega
              case rel => exact ⟨⟨r.toArray⟩, x1, l2, rfl, rfl, Hl2.out.1, Hl2.out.2, Hx1i.out, by rw [ba_len]; have := Hgk.out.2.2.2.1.1; have := Hgk.out.2.2.2.2; omega, by rw [ba_len]; have := Hgk.out.1; have := Hgk.out.2.2.2.1.2 Hp.out; have := Hl.out; have := Hl3.out; omega, by have := Hgk.out.2.1; omega, by rw [ba_of]; exact HX2.out, S3.out, R3.out⟩
        | false =>
          cases follow with
          | true =>
            have Hfl := Lib.hid (show (isK F n 3 && (false || true)) = true by rw [hk]; rfl)
            obtain ⟨x, hx⟩ : ∃ x, find F.L n = some x := by
              cases hf : find F.L n with
              | none => unfold isK at hk; rw [hf] at hk; cases hk
              | some x => exact ⟨x, rfl⟩
            have htx : textOf F n = x.text := by unfold textOf; rw [hx]; rfl
            have hxs : x.text.size ≤ 1000000 := (hF.out n x hx).text
            have hwr : IntKind.i64.wrap (lk + 1) = lk + 1 := IntWalk.i64_in _ (by have := Hl.out; omega)
            have S2 := wk_set S1.out (lk + 1)
            have R2 : Ran w (w1.setCell ⟨wb, 1, none⟩ (.int .i64 (lk + 1))) := Ran.set R1.out _ _
            obtain ⟨w2, hw2⟩ : ∃ x, x = w1.setCell ⟨wb, 1, none⟩ (.int .i64 (lk + 1)) := ⟨_, rfl⟩
            rw [← hw2] at S2 R2
            obtain ⟨⟨e0, e1⟩, -⟩ := wk_cells S2
            have hS2 := S2.perm (show _ = fsHp fb mb F * (pts wb (wkO fb (lk + 1)) * R) by ac_rfl)
            obtain ⟨g0, g1, g2, g3⟩ := fs_cells hS2
            have hlk := fs_look hS2 n Hni.out
            rw [show blk F.L n = some x.b by unfold blk; rw [hx]; rfl] at hlk
            unfold pv at hlk
            obtain ⟨-, d1, -⟩ := fs_at hS2 hx
            have S2 := Lib.hid S2
            have R2 := Lib.hid R2
            clear hS2 hx
            by_cases h8 : 8 < lk + 1
            · have hX2 := HX.out
              rw [loop_many Hc.out Hp.out Her.out.symm (by rw [← Hn.out]; exact Hfl.out) h8] at hX2
              subst hX2
              clear hlk
              go_wp2_with fail
              refine HS.out.mono ?_
              rintro e w3 ⟨rfl, rfl⟩
              clear HS
              go_wp2_with fail
              refine HI.out.mono ?_
              rintro e w3 ⟨rfl, rfl⟩
              clear HI
              go_upto_region 14 with fail
              rw [← hw2]
              clear hw2 c0 c1 f1
              go_wp2_with fail
              try rw [Exit.noGoto_ret]
              go_ret2
              exact ⟨⟨rfl, S2.out⟩, R2.out⟩
            · have HR := ih.out gg (by have := Hgk.out.2.1; omega) (lk + 1) a0 (textOf F n) true w2 R (by have := Hl.out; omega) (by omega) Hai.out (by rw [htx]; exact hxs) (by have := Hgk.out.1; have := Hl.out; omega) hG.out S2.out
              have hX2 := HX.out
              obtain ⟨y, hy⟩ : ∃ y, y = walkR F gg (lk + 1) a0 (textOf F n) true := ⟨_, rfl⟩
              rw [← hy] at HR
              rw [loop_link Hc.out Hp.out Her.out.symm (by rw [← Hn.out]; exact Hfl.out) h8 y (by rw [← Hn.out]; exact hy)] at hX2
              have hy1 : lk + 1 ≤ y.2 := by rw [hy]; exact walkR_links _ _ _ _ _ _
              have hy2 : y.1.2 = 0 → y.2 ≤ 8 := by rw [hy]; exact walkR_top _ _ _ _ _ _ (by omega)
              have hy3 : I64 y.1.1 := by rw [hy]; exact walkR_i64 hN.out _ _ _ _ _ Hai.out
              obtain ⟨⟨x1, x2⟩, l2⟩ := y
              rw [htx] at HR
              dsimp only at HR hX2 hy1 hy2 hy3
              have HR := Lib.hid HR
              have Hx1i := Lib.hid hy3
              clear hy hy3
              by_cases hz : x2 = 0
              case neg =>
                rw [if_pos hz] at hX2
                subst hX2
                go_wp2_with fail
                refine HS.out.mono ?_
                rintro e w3 ⟨rfl, rfl⟩
                clear HS
                go_wp2_with fail
                refine HI.out.mono ?_
                rintro e w3 ⟨rfl, rfl⟩
                clear HI
                go_upto_region 14 with fail
                rw [← hw2]
                clear hw2 c0 c1 f1
                go_wp2_with fail
                refine HR.out.mono ?_
                rintro e w3 ⟨⟨rfl, S3⟩, R3⟩
                have S3 := Lib.hid S3
                have R3 := Lib.hid (Below.trans R2.out R3)
                go_wp2_with fail
                try rw [Exit.noGoto_ret]
                go_ret2
                exact ⟨⟨rfl, S3.out⟩, R3.out⟩
              subst hz
              rw [if_neg (fun h => h rfl)] at hX2
              unfold finP at hX2
              rw [if_pos rfl] at hX2
              subst hX2
              have Hl3 := Lib.hid hy1
              have Hl2 := Lib.hid (And.intro (show 0 ≤ l2 by have := Hl.out; omega) (hy2 rfl))
              clear hy1 hy2
              go_wp2_with fail
              refine HS.out.mono ?_
              rintro e w3 ⟨rfl, rfl⟩
              clear HS
              go_wp2_with fail
              refine HI.out.mono ?_
              rintro e w3 ⟨rfl, rfl⟩
              clear HI
              go_upto_region 14 with fail
              rw [← hw2]
              clear hw2 c0 c1 f1
              go_wp2_with fail
              refine HR.out.mono ?_
              rintro e w3 ⟨⟨rfl, S3⟩, R3⟩
              have HD3 := Lib.hid (is_calls fb mb F x1 1 Hx1i.out w3 _ (S3.perm (show _ = fsHp fb mb F * (pts wb (wkO fb l2) * R) by ac_rfl)))
              obtain ⟨⟨h0, h1⟩, -⟩ := wk_cells S3
              have S3 := Lib.hid S3
              have R3 := Lib.hid (Below.trans R2.out R3)
              clear HR hlk e0 e1 g0 g1 g2 g3 d1 S2 R2
              go_wp2_with fail
              try rw [Exit.noGoto_ret]
              go_ret2
              exact ⟨⟨rfl, S3.out⟩, R3.out⟩
          | false =>
            have Hfl := Lib.hid (show (isK F n 3 && (false || false)) = false by rw [hk]; rfl)
            clear hk
            have hX2 := HX.out
            rw [loop_plain Hc.out Hp.out Her.out.symm (by rw [← Hn.out]; exact Hfl.out), ← Hn.out] at hX2
            unfold finP at hX2
            rw [if_pos rfl] at hX2
            subst hX2
            go_wp2_with fail
            refine HS.out.mono ?_
            rintro e w2 ⟨rfl, rfl⟩
            clear HS
            go_wp2_with fail
            refine HI.out.mono ?_
            rintro e w2 ⟨rfl, rfl⟩
            clear HI
            go_wp2_with fail
            try rw [Exit.noGoto_ret]
            go_ret2
            exact ⟨⟨rfl, S1.out⟩, R1.out⟩
/-- Where a path comes to: Walk, any path. -/
def WalkP (F : Fs) (from_ : Int) (s : ByteArray) (follow : Bool) : Int × Int := if isK F from_ 1 = false then (0, 1) else (walkR F 5000 0 from_ s follow).1
theorem walk_i64 {F : Fs} (h : NumsOk F) {d : Int} (hd : I64 d) (s : ByteArray) (follow : Bool) : I64 (WalkP F d s follow).1 := by
  unfold WalkP
  split
  · exact i64_0
  · exact walkR_i64 h _ _ _ _ _ hd
set_option maxRecDepth 100000 in
set_option maxHeartbeats 4000000 in
theorem Walk_calls (fb mb : Nat) (F : Fs) (hF : FsOk F) (hN : NumsOk F) (d : Int) (s : ByteArray) (follow : Bool) (w : World) (R : Hp) (hd : I64 d) (hs : s.size ≤ 1000000) (hG : Glob R) (h : Sat w (fsHp fb mb F * R)) :
    Calls Tryz.prog 19 #[pp fb, .int .i64 d, .string s, .bool follow] w fun e w' => (e = .returned (.tuple #[.int .i64 (WalkP F d s follow).1, .int .i64 (WalkP F d s follow).2]) ∧ Sat w' (fsHp fb mb F * R)) ∧ Ran w w' := by
  have HI := is_calls fb mb F d 1 hd w R h
  unfold WalkP
  cases hk : isK F d 1 with
  | false =>
    rw [hk] at HI
    rw [if_pos rfl]
    have HI := Lib.hid HI
    have h := Lib.hid h
    clear hk
    go_enter Tryz.func19, Tryz.ntmps19
    go_wp2_with fail
    refine HI.out.mono ?_
    rintro e w1 ⟨rfl, rfl⟩
    go_wp2_with fail
    go_ret2
    exact ⟨⟨rfl, h.out⟩, Below.refl 0 _⟩
  | true =>
    rw [hk] at HI
    rw [if_neg (by decide)]
    have HI := Lib.hid HI
    have S1 := h.alloc (wkO fb 0)
    have R1 := Lib.hid (Ran.new (Below.refl 0 w) (wkO fb 0))
    obtain ⟨wb, hwb⟩ : ∃ x, x = w.heap.size := ⟨_, rfl⟩
    rw [← hwb] at S1
    have HW := walk_calls fb mb wb F hF hN 5000 0 d s follow _ R (by omega) (by omega) hd hs (by show 9 * 400 + 256 < 5000; omega) hG S1
    obtain ⟨y, hy⟩ : ∃ y, y = walkR F 5000 0 d s follow := ⟨_, rfl⟩
    rw [← hy] at HW ⊢
    obtain ⟨⟨y1, y2⟩, l2⟩ := y
    dsimp only at HW ⊢
    have HW := Lib.hid HW
    clear hk h S1 hy hs hd
    rw [hwb] at HW
    clear hwb
    go_enter Tryz.func19, Tryz.ntmps19
    go_wp2_with fail
    refine HI.out.mono ?_
    rintro e w1 ⟨rfl, rfl⟩
    go_wp2_with fail
    refine HW.out.mono ?_
    rintro e w2 ⟨⟨rfl, S2⟩, R2⟩
    have S2 := Lib.hid S2
    have R2 := Lib.hid (Below.trans R1.out R2)
    go_wp2_with fail
    go_ret2
    exact ⟨⟨rfl, S2.out.right⟩, R2.out⟩
end Go.Proofs.YtndjgeohkfenfaaGreatDoor.Hd

