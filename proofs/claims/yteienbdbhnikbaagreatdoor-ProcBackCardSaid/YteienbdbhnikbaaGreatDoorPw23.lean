/- HandlesPlays, part 23 of 31: the texts PrV PrW PrX, joined by a program. -/
import Derived.Test.YteienbdbhnikbaaGreatDoorPw22
namespace Go.Proofs.YteienbdbhnikbaaGreatDoor.Pr
open Go.RowKit Go.Maps Go.Proofs.YteienbdbhnikbaaGreatDoor Go.Proofs.YteienbdbhnikbaaGreatDoor.Hp Go.Proofs.YteienbdbhnikbaaGreatDoor.Hd
set_option linter.unusedVariables false

abbrev mdW : Md := ⟨false, true, false⟩
/-- Names in the root with their files' numbers and bytes; handles with their files and where they stand. -/
structure Aw (A : List (UInt8 × Int × ByteArray)) (H : List (Int × Int × Nat)) (l u : Nat) (s : Sg) : Prop where
  root : ∃ r kd, Hd.find s.F.L 1 = some r ∧ r.kind = 1 ∧ r.kids = some kd ∧ (∀ x ∈ A, kd.M (n1 x.1) = some x.2.1) ∧ ∀ d, d = 102 ∨ d = 103 → (∀ x ∈ A, x.1 ≠ d) → kd.M (n1 d) = none
  nodes : ∀ x ∈ A, x.2.1 ≠ 1 ∧ ∃ z, Hd.find s.F.L x.2.1 = some z ∧ z.kind = 2 ∧ z.text = x.2.2 ∧ z.names = 1
  hands : ∀ h ∈ H, ∃ y, findA s.L h.1 = some y ∧ y.t = .file h.2.1 h.2.2 mdW
  most : s.F.most = 12
  room : s.F.room = 100
  used : s.F.used ≤ (u : Int)
  len : s.F.L.length ≤ l
section
variable {A : List (UInt8 × Int × ByteArray)} {H : List (Int × Int × Nat)} {l u : Nat} {s : Sg}
theorem aw_beg (h : Beg0 s.F) : Aw [] [] 4 6 s where
  root := by
    obtain ⟨r, kd, h1, h2, h3, h4, h5⟩ := h.root
    refine ⟨r, kd, h1, h2, h3, fun x hx => (by cases hx), fun d hd _ => ?_⟩
    rcases hd with rfl | rfl
    · exact h4
    · exact h5
  nodes x hx := by cases hx
  hands x hx := by cases hx
  most := h.most
  room := h.room
  used := by rw [h.used]; exact Int.le_refl _
  len := by rw [h.len]; exact Nat.le_refl _
theorem aw_refs (h : Aw A H l u s) {n : Int} {y : Hn} (hy : findA s.L n = some y) (r : Int) : Aw A H l u { s with L := updA s.L n { y with refs := r } } :=
  { h with hands := fun x hx => by
             obtain ⟨z, hz, ht⟩ := h.hands x hx
             show ∃ y', findA (updA s.L n { y with refs := r }) x.1 = some y' ∧ _
             rw [findA_upd s.L n x.1 _ (by rw [hy]; rfl)]
             by_cases e : x.1 = n
             · rw [if_pos e]
               rw [e, hy] at hz; injection hz with hz; subst hz
               exact ⟨_, rfl, ht⟩
             · rw [if_neg e]; exact ⟨z, hz, ht⟩ }
/-- The tree's nodes turned, but for how often they are held. -/
theorem aw_tree (h : Aw A H l u s) (F' : Fs) (hr : ∀ j z, Hd.find s.F.L j = some z → j = 1 ∨ z.names = 1 → ∃ z', Hd.find F'.L j = some z' ∧ z'.kind = z.kind ∧ z'.kids = z.kids ∧ z'.text = z.text ∧ z'.names = z.names) (e1 : F'.most = s.F.most) (e2 : F'.room = s.F.room) (e3 : F'.used ≤ s.F.used) (e4 : F'.L.length ≤ s.F.L.length) : Aw A H l u { s with F := F' } where
  root := by
    obtain ⟨r, kd, h1, h2, h3, h4, h5⟩ := h.root
    obtain ⟨z', g1, g2, g3, g4, g5⟩ := hr 1 r h1 (.inl rfl)
    exact ⟨z', kd, g1, g2.trans h2, g3.trans h3, h4, h5⟩
  nodes x hx := by
    obtain ⟨h0, z, h1, h2, h3, h4⟩ := h.nodes x hx
    obtain ⟨z', g1, g2, g3, g4, g5⟩ := hr _ z h1 (.inr h4)
    exact ⟨h0, z', g1, g2.trans h2, g4.trans h3, g5.trans h4⟩
  hands := h.hands
  most := e1.trans h.most
  room := e2.trans h.room
  used := Int.le_trans e3 h.used
  len := Nat.le_trans e4 h.len
theorem aw_hold (h : Aw A H l u s) (k : Int) : Aw A H l u { s with F := holdP s.F k } := by
  cases hx : Hd.find s.F.L k with
  | none =>
    have : holdP s.F k = s.F := by unfold holdP; rw [hx]
    rw [this]; exact h
  | some x =>
    have hP : holdP s.F k = s.F.put k { x with holds := x.holds + 1 } := by unfold holdP; rw [hx]
    rw [hP]
    refine aw_tree h _ (fun j z hz _ => ?_) rfl rfl (Int.le_refl _) (by show (upd s.F.L k _).length ≤ _; rw [upd_len]; exact Nat.le_refl _)
    rw [find_put' s.F k j _ (by rw [hx]; rfl)]
    by_cases e : j = k
    · rw [if_pos e]
      rw [e, hx] at hz; injection hz with hz; subst hz
      exact ⟨_, rfl, rfl, rfl, rfl, rfl⟩
    · rw [if_neg e]; exact ⟨z, hz, rfl, rfl, rfl, rfl⟩
theorem aw_drop (h : Aw A H l u s) (hnd : (s.F.L.map Prod.fst).Nodup) (k : Int) : Aw A H l u { s with F := dropG s.F k } := by
  cases hx : Hd.find s.F.L k with
  | none =>
    have : dropG s.F k = s.F := by unfold dropG; rw [hx]
    rw [this]; exact h
  | some x =>
    have hP : dropG s.F k = if x.holds = 0 then s.F else sweepG (s.F.put k { x with holds := x.holds - 1 }) k { x with holds := x.holds - 1 } := by unfold dropG; rw [hx]
    rw [hP]
    split
    · exact h
    · have hf : ∀ j, Hd.find (s.F.put k { x with holds := x.holds - 1 }).L j = if j = k then some { x with holds := x.holds - 1 } else Hd.find s.F.L j := fun j => find_put' s.F k j _ (by rw [hx]; rfl)
      have hn2 := nodup_put hnd k { x with holds := x.holds - 1 }
      unfold sweepG
      split
      · rename_i e0
        have hd := delA_len (s.F.put k { x with holds := x.holds - 1 }).L k (by rw [← find_findA, hf, if_pos rfl]; rfl)
        refine aw_tree h _ (fun j z hz hj => ?_) rfl rfl (by show s.F.used - (x.text.size : Int) ≤ s.F.used; omega) (by
          show (delA (s.F.put k { x with holds := x.holds - 1 }).L k).length ≤ _
          have : (s.F.put k { x with holds := x.holds - 1 }).L.length = s.F.L.length := upd_len _ _ _
          omega)
        have hjk : j ≠ k := fun e => by
          rw [e, hx] at hz; injection hz with hz; subst hz
          rcases hj with hj | hj
          · exact e0.1 (by rw [← e]; exact hj)
          · have := e0.2.1; dsimp only at this; omega
        rw [find_gone hn2, if_neg hjk, hf, if_neg hjk]
        exact ⟨z, hz, rfl, rfl, rfl, rfl⟩
      · refine aw_tree h _ (fun j z hz _ => ?_) rfl rfl (Int.le_refl _) (by show (upd s.F.L k _).length ≤ _; rw [upd_len]; exact Nat.le_refl _)
        rw [hf]
        by_cases e : j = k
        · rw [if_pos e]
          rw [e, hx] at hz; injection hz with hz; subst hz
          exact ⟨_, rfl, rfl, rfl, rfl, rfl⟩
        · rw [if_neg e]; exact ⟨z, hz, rfl, rfl, rfl, rfl⟩
theorem aw_del {n : Int} {k : Int} {a : Nat} (h : Aw A ((n, k, a) :: H) l u s) (hnd : NodupK s.L) (hn : ∀ x ∈ H, x.1 ≠ n) : Aw A H l u { s with L := delA s.L n } :=
  { h with hands := fun x hx => by
             obtain ⟨z, hz, ht⟩ := h.hands x (List.mem_cons_of_mem _ hx)
             refine ⟨z, ?_, ht⟩
             show findA (delA s.L n) x.1 = some z
             rw [findA_del s.L n x.1 hnd, if_neg (hn x hx)]
             exact hz }
theorem aw_open (h : Aw A H l u s) {g : Nat} (hg : findA s.L (g : Int) = none) (k : Int) (hb xb : Nat) (n : Nat) : Aw A (((g : Int), k, 0) :: H) l u { s with L := ((g : Int), ⟨hb, 1, xb, .file k 0 mdW⟩) :: s.L, n := n } :=
  { h with hands := fun x hx => by
             show ∃ y, findA (((g : Int), (⟨hb, 1, xb, .file k 0 mdW⟩ : Hn)) :: s.L) x.1 = some y ∧ _
             rw [findA_cons]
             rcases List.mem_cons.1 hx with e | e
             · subst e
               exact ⟨_, if_pos rfl, rfl⟩
             · obtain ⟨z, hz, ht⟩ := h.hands x e
               rw [if_neg (fun e => by rw [e, hg] at hz; cases hz)]
               exact ⟨z, hz, ht⟩ }
theorem aw_make (h : Aw A H l u s) {N : Nat} (hT : TreeG N s.F) {d : UInt8} (hd : ∀ x ∈ A, x.1 ≠ d) {r : Nd} {kd : Kd} (hr : Hd.find s.F.L 1 = some r) (hk : r.kind = 1) (hkd : r.kids = some kd) {g : Nat} (hg : FreeN s.F.L g) (nb : Nat) :
    Aw ((d, (g : Int), ⟨#[]⟩) :: A) H (l + 1) u { s with F := madeG s.F 1 r kd (n1 d) g ⟨nb, 2, ⟨#[]⟩, none, 0, 1, 0⟩ } where
  root := by
    obtain ⟨r2, kd2, h1, h2, h3, h4, h5⟩ := h.root
    rw [hr] at h1; injection h1 with h1; subst h1
    rw [hkd] at h3; injection h3 with h3; subst h3
    refine ⟨{ r with kids := some { kd with M := K.putM kd.M (n1 d) (g : Int), sz := kd.sz + 1, n := kd.n + 1 } }, { kd with M := K.putM kd.M (n1 d) (g : Int), sz := kd.sz + 1, n := kd.n + 1 }, ?_, hk, rfl, fun x hx => ?_, fun e he hx => ?_⟩
    · rw [find_madeG hr, if_neg (fun e => by have := hg.none; rw [← e, hr] at this; cases this), if_pos rfl]
    · show K.putM kd.M (n1 d) (g : Int) (n1 x.1) = some x.2.1
      rcases List.mem_cons.1 hx with e | e
      · subst e; exact if_pos rfl
      · unfold K.putM
        rw [if_neg (fun e2 => hd x e (by injection e2 with e2; simpa using e2))]
        exact h4 x e
    · show K.putM kd.M (n1 d) (g : Int) (n1 e) = none
      unfold K.putM
      rw [if_neg (fun e2 => hx _ List.mem_cons_self (by injection e2 with e2; simpa using e2.symm))]
      exact h5 e he fun x hx2 => hx x (List.mem_cons_of_mem _ hx2)
  nodes x hx := by
    have h1g : (1 : Int) ≠ (g : Int) := fun e => by have := hg.none; rw [← e, hr] at this; cases this
    rcases List.mem_cons.1 hx with e | e
    · subst e
      exact ⟨fun e => h1g e.symm, ⟨nb, 2, ⟨#[]⟩, none, 0, 1, 0⟩, by rw [find_madeG hr, if_pos rfl], rfl, rfl, rfl⟩
    · obtain ⟨h0, z, h1, h2, h3, h4⟩ := h.nodes x e
      refine ⟨h0, z, ?_, h2, h3, h4⟩
      rw [find_madeG hr, if_neg (fun e => by have := hg.none; rw [← e, h1] at this; cases this), if_neg h0]
      exact h1
  hands := h.hands
  most := h.most
  room := h.room
  used := by
    show s.F.used + 0 ≤ _
    have := h.used
    omega
  len := by
    show (((g : Int), _) :: upd s.F.L 1 _).length ≤ _
    rw [List.length_cons, upd_len]
    exact Nat.succ_le_succ h.len
/-- Bytes written at a file's end. -/
theorem aw_write {d : UInt8} {k : Int} {t : ByteArray} {id : Int} (h : Aw ((d, k, t) :: A) ((id, k, t.size) :: H) l u s) (hA : ∀ x ∈ A, x.2.1 ≠ k) (hH : ∀ x ∈ H, x.1 ≠ id) {z : Nd} (hz : Hd.find s.F.L k = some z) {y : Hn} (hy : findA s.L id = some y) (dt : ByteArray) (hdt : 0 < dt.size) (hs : t.size + dt.size ≤ 50) (hu : u + dt.size ≤ 100) :
    Aw ((d, k, wrB t t.size dt) :: A) ((id, k, t.size + dt.size) :: H) l (u + dt.size) { s with F := (writeP s.F k z t.size dt).2, L := updA s.L id { y with t := .file k (atN s.F k z t.size mdW dt) mdW } } := by
  obtain ⟨h0, z0, h1, h2, h3, h4⟩ := h.nodes _ List.mem_cons_self
  dsimp only at h0 h1 h2 h3
  rw [hz] at h1; injection h1 with h1; subst h1
  have hru := h.used
  have hrr := h.room
  have hm : moreB z.text t.size dt = dt.size := by unfold moreB; rw [h3]; omega
  have hW : writeP s.F k z t.size dt = (0, { s.F.put k { z with text := wrB z.text t.size dt } with used := s.F.used + (dt.size : Int) }) := by
    unfold writeP
    rw [if_neg (by omega), if_neg (by omega), hm, if_neg (by omega)]
  have hN : atN s.F k z t.size mdW dt = t.size + dt.size := by
    unfold atN
    have : atW z t.size mdW = t.size := rfl
    rw [this, hW]
    exact if_pos rfl
  rw [hW, hN]
  have hf : ∀ j, Hd.find (s.F.put k { z with text := wrB z.text t.size dt }).L j = if j = k then some { z with text := wrB z.text t.size dt } else Hd.find s.F.L j := fun j => find_put' s.F k j _ (by rw [hz]; rfl)
  refine { root := ?_, nodes := fun x hx => ?_, hands := fun x hx => ?_, most := h.most, room := h.room, used := ?_, len := by show (upd s.F.L k _).length ≤ _; rw [upd_len]; exact h.len }
  · obtain ⟨r, kd, g1, g2, g3, g4, g5⟩ := h.root
    refine ⟨r, kd, ?_, g2, g3, fun x hx => ?_, fun e he hx => g5 e he fun x hx2 => ?_⟩
    · show Hd.find (s.F.put k _).L 1 = some r
      rw [hf, if_neg (fun e => h0 e.symm)]; exact g1
    · rcases List.mem_cons.1 hx with e | e
      · subst e; exact g4 (d, k, t) List.mem_cons_self
      · exact g4 x (List.mem_cons_of_mem _ e)
    · rcases List.mem_cons.1 hx2 with e2 | e2
      · subst e2; exact hx (d, k, wrB t t.size dt) List.mem_cons_self
      · exact hx x (List.mem_cons_of_mem _ e2)
  · rcases List.mem_cons.1 hx with e | e
    · subst e
      refine ⟨h0, { z with text := wrB z.text t.size dt }, ?_, h2, by show wrB z.text t.size dt = wrB t t.size dt; rw [h3], h4⟩
      show Hd.find (s.F.put k _).L k = _
      rw [hf, if_pos rfl]
    · obtain ⟨g0, z1, g1, g2, g3, g4⟩ := h.nodes x (List.mem_cons_of_mem _ e)
      refine ⟨g0, z1, ?_, g2, g3, g4⟩
      show Hd.find (s.F.put k _).L x.2.1 = _
      rw [hf, if_neg (hA x e)]; exact g1
  · show ∃ y', findA (updA s.L id _) x.1 = some y' ∧ _
    rw [findA_upd s.L id x.1 _ (by rw [hy]; rfl)]
    rcases List.mem_cons.1 hx with e | e
    · subst e; exact ⟨_, if_pos rfl, rfl⟩
    · rw [if_neg (hH x e)]
      exact h.hands x (List.mem_cons_of_mem _ e)
  · show s.F.used + (dt.size : Int) ≤ _
    omega
end
end Go.Proofs.YteienbdbhnikbaaGreatDoor.Pr

namespace Go.Proofs.YteienbdbhnikbaaGreatDoor.Pr
open Go.RowKit Go.Maps Go.Proofs.YteienbdbhnikbaaGreatDoor Go.Proofs.YteienbdbhnikbaaGreatDoor.Hp Go.Proofs.YteienbdbhnikbaaGreatDoor.Hd
set_option linter.unusedVariables false
attribute [local go_sem] Oper.semAt_some

section
variable {c : Pls} {N : Nat} {b : Int → Int} {most : Int} {p : Pc} {nl : List Nt} {ms : List Nat} {w : World} {R L : Hp} {f g : Int → Int} {P Q : Sg → Prop}
theorem x_Ref (hN : N ≤ 900000) {n : Int} (hn : 1 ≤ f n) (hPQ : ∀ s y, P s → findA s.L n = some y → Q { s with L := updA s.L n { y with refs := y.refs + 1 } }) (h : Sat w (St c N f g P * R)) :
    Calls Tryz.prog 50 #[pp c.tb, .int .i64 n] w fun e w' => e = .returned (.int .i64 0) ∧ Sat w' (St c (N + 1) (fun k => f k + if k = n then 1 else 0) g Q * R) ∧ Ran w w' := by
  obtain ⟨s, hI, hf, hg, hP, h⟩ := st_out h
  rw [← hf] at hn
  obtain ⟨y, hy⟩ := rf_pos hn
  have hr := hI.refs _ y hy
  refine (Ref_calls c.tb c.fb c.bp c.hm s.n s.L n y (hI.id64 hN hy) hy (by omega) (by omega) w _ (sg_tab h)).mono ?_
  rintro e w' ⟨⟨rfl, S⟩, hR⟩
  obtain ⟨hI', hx⟩ := hI.upd hy (y' := { y with refs := y.refs + 1 }) (by dsimp only; omega) (fun _ => rfl) rfl s.F s.p s.tot (hI.th n y hy) (hI.tree.more (Nat.le_succ _)) (fun _ => rfl) (kp_refl _) rfl rfl ⟨hI.pipe.1, hI.pipe.2.1, by have := hI.pipe.2.2; omega⟩
  refine ⟨rfl, st_in hI' (fun k => ?_) (fun k => (hx k).trans (hg k)) (hPQ s y hP hy) (sg_shut ?_), hR⟩
  · show rf (updA s.L n { y with refs := y.refs + 1 }) k = f k + if k = n then 1 else 0
    rw [rf_upd hy, ← hf]
    by_cases e : k = n
    · rw [if_pos e, if_pos e, e, rf_some hy]
    · rw [if_neg e, if_neg e]; omega
  · rw [snks_same (y' := { y with refs := y.refs + 1 }) hy rfl]
    exact S.perm (by ac_rfl)
theorem x_Unref (hN : N ≤ 900000) {n : Int} (hn : 2 ≤ f n) (hPQ : ∀ s y, P s → findA s.L n = some y → Q { s with L := updA s.L n { y with refs := y.refs - 1 } }) (h : Sat w (St c N f g P * R)) :
    Calls Tryz.prog 52 #[pp c.tb, .int .i64 n] w fun e w' => e = .returned (.int .i64 0) ∧ Sat w' (St c (N + 1) (fun k => f k - if k = n then 1 else 0) g Q * R) ∧ Ran w w' := by
  obtain ⟨s, hI, hf, hg, hP, h⟩ := st_out h
  rw [← hf] at hn
  obtain ⟨y, hy⟩ := rf_pos (L := s.L) (k := n) (by omega)
  rw [rf_some hy] at hn
  have hr := hI.refs _ y hy
  refine (Unref_more c.tb c.fb c.bp c.hm s.n s.L n y (hI.id64 hN hy) hy hn (by omega) w _ (sg_tab h)).mono ?_
  rintro e w' ⟨⟨rfl, S⟩, hR⟩
  obtain ⟨hI', hx⟩ := hI.upd hy (y' := { y with refs := y.refs - 1 }) (by dsimp only; omega) (fun _ => rfl) rfl s.F s.p s.tot (hI.th n y hy) (hI.tree.more (Nat.le_succ _)) (fun _ => rfl) (kp_refl _) rfl rfl ⟨hI.pipe.1, hI.pipe.2.1, by have := hI.pipe.2.2; omega⟩
  refine ⟨rfl, st_in hI' (fun k => ?_) (fun k => (hx k).trans (hg k)) (hPQ s y hP hy) (sg_shut ?_), hR⟩
  · show rf (updA s.L n { y with refs := y.refs - 1 }) k = f k - if k = n then 1 else 0
    rw [rf_upd hy, ← hf]
    by_cases e : k = n
    · rw [if_pos e, if_pos e, e, rf_some hy]
    · rw [if_neg e, if_neg e]; omega
  · rw [snks_same (y' := { y with refs := y.refs - 1 }) hy rfl]
    exact S.perm (by ac_rfl)
/-- A file's last ref. -/
theorem x_gone (hN : N ≤ 900000) {n : Int} (hn : f n = 1) (h5 : 5 ≤ n) (hPQ : ∀ s y k a m, InvT N s → P s → findA s.L n = some y → y.t = .file k a m → Q { s with F := dropG s.F k, L := delA s.L n }) (h : Sat w (St c N f g P * R)) :
    Calls Tryz.prog 52 #[pp c.tb, .int .i64 n] w fun e w' => e = .returned (.int .i64 0) ∧ Sat w' (St c (N + 1) (fun k => f k - if k = n then 1 else 0) g Q * R) ∧ Ran w w' := by
  obtain ⟨s, hI, hf, hg, hP, h⟩ := st_out h
  rw [← hf] at hn
  obtain ⟨y, hy⟩ := rf_pos (L := s.L) (k := n) (by omega)
  rw [rf_some hy] at hn
  have hF := (hI.cls n y hy).1 h5
  cases hyt : y.t with
  | file k a m =>
    obtain ⟨x, hx, hk2, hh⟩ := hI.node hy hyt
    refine (Unref_file_oneN c.tb c.fb c.mb c.bp c.hm s.n s.F s.L n k y a m (hI.id64 hN hy) hy hyt hI.nd hn (hI.tree.in_i64 hx) (hI.tree.ok (by omega)) hI.tree.nd ⟨by rw [hI.tree.used]; omega, by have := hI.tree.room; omega⟩ w _ (sg_tab h)).mono ?_
    rintro e w' ⟨⟨rfl, S⟩, hR⟩
    obtain ⟨hI', hx'⟩ := hI.gone hy hyt (dropG s.F k) (hI.tree.drop k) (kp_drop hI.tree.nd k) (hf_drop hI.tree.nd hx (by omega))
    refine ⟨rfl, st_in hI' (fun j => ?_) (fun j => (hx' j).trans (hg j)) (hPQ s y k a m hI hP hy hyt) (sg_shut ?_), hR⟩
    · show rf (delA s.L n) j = f j - if j = n then 1 else 0
      rw [rf_del hI.nd, ← hf]
      by_cases e : j = n
      · rw [if_pos e, if_pos e, e, rf_some hy]; omega
      · rw [if_neg e, if_neg e]; omega
    · rw [snks_del hy (by rw [hyt]; rfl)]
      exact S.perm (by ac_rfl)
  | text t a => rw [hyt] at hF; cases hF
  | sink sp q cap l most => rw [hyt] at hF; cases hF
  | reader bb eb => rw [hyt] at hF; cases hF
  | writer bb eb => rw [hyt] at hF; cases hF
theorem dl_if {n : Int} (h : 1 ≤ n) (k : Int) : dl n k = if k = n then 1 else 0 := by
  unfold dl
  by_cases e : k = n
  · rw [if_pos e, if_pos ⟨e, h⟩]
  · rw [if_neg e, if_neg (fun h => e h.1)]
theorem dl_0 (k : Int) : dl 0 k = 0 := by unfold dl; rw [if_neg (fun e => absurd e.2 (by decide))]
theorem t_refP (hl : Link c p) (hN : N ≤ 800000) {n : Int} (h1 : 1 ≤ n) (hn : 1 ≤ f n) (hPQ : ∀ s y, P s → findA s.L n = some y → Q { s with L := updA s.L n { y with refs := y.refs + 1 } }) (W : World) (S : Hp) (h : Sat W (St c N f g P * L * (pcHp p * S))) :
    Calls Tryz.prog 49 #[.int .i64 n, pp p.tx] W fun e w' => e = .returned (.tuple #[]) ∧ (Sat w' (St c (N + 1) (fun k => f k + dl n k) g Q * L * (pcHp p * S)) ∧ Ran W w') := by
  refine fref_calls p.tx p.tb n W _ (pc_boxes (h.perm (show _ = pcHp p * (St c N f g P * (L * S)) by ac_rfl))).2 (fun h0 => absurd h1 (by omega)) fun h0 => ?_
  rw [hl.tb]
  refine (x_Ref (by omega) hn hPQ (h.perm (show _ = St c N f g P * (L * (pcHp p * S)) by ac_rfl))).mono ?_
  rintro e w' ⟨rfl, hS, hR⟩
  refine ⟨_, rfl, hS.perm ?_, hR⟩
  rw [show (fun k => f k + if k = n then 1 else 0) = (fun k => f k + dl n k) from funext fun k => by rw [dl_if h1]]
  ac_rfl
/-- Nothing taken, nothing dropped. -/
theorem t_ref0 (W : World) (S : Hp) (h : Sat W (St c N f g P * L * (pcHp p * S))) :
    Calls Tryz.prog 49 #[.int .i64 0, pp p.tx] W fun e w' => e = .returned (.tuple #[]) ∧ (Sat w' (St c N f g P * L * (pcHp p * S)) ∧ Ran W w') :=
  fref_calls p.tx p.tb 0 W _ (pc_boxes (h.perm (show _ = pcHp p * (St c N f g P * (L * S)) by ac_rfl))).2 (fun h0 => ⟨h, Below.refl 0 W⟩) fun h0 => absurd h0 (by decide)
theorem t_unref0 (W : World) (S : Hp) (h : Sat W (St c N f g P * L * (pcHp p * S))) :
    Calls Tryz.prog 51 #[.int .i64 0, pp p.tx] W fun e w' => e = .returned (.tuple #[]) ∧ (Sat w' (St c N f g P * L * (pcHp p * S)) ∧ Ran W w') :=
  funref_calls p.tx p.tb 0 W _ (pc_boxes (h.perm (show _ = pcHp p * (St c N f g P * (L * S)) by ac_rfl))).2 (fun h0 => ⟨h, Below.refl 0 W⟩) fun h0 => absurd h0 (by decide)
theorem t_goneP (hl : Link c p) (hN : N ≤ 800000) {n : Int} (hn : f n = 1) (h5 : 5 ≤ n) (hPQ : ∀ s y k a m, InvT N s → P s → findA s.L n = some y → y.t = .file k a m → Q { s with F := dropG s.F k, L := delA s.L n }) (W : World) (S : Hp) (h : Sat W (St c N f g P * L * (pcHp p * S))) :
    Calls Tryz.prog 51 #[.int .i64 n, pp p.tx] W fun e w' => e = .returned (.tuple #[]) ∧ (Sat w' (St c (N + 1) (fun k => f k - dl n k) g Q * L * (pcHp p * S)) ∧ Ran W w') := by
  refine funref_calls p.tx p.tb n W _ (pc_boxes (h.perm (show _ = pcHp p * (St c N f g P * (L * S)) by ac_rfl))).2 (fun h0 => absurd h5 (by omega)) fun h0 => ?_
  rw [hl.tb]
  refine (x_gone (by omega) hn h5 hPQ (h.perm (show _ = St c N f g P * (L * (pcHp p * S)) by ac_rfl))).mono ?_
  rintro e w' ⟨rfl, hS, hR⟩
  refine ⟨_, rfl, hS.perm ?_, hR⟩
  rw [show (fun k => f k - if k = n then 1 else 0) = (fun k => f k - dl n k) from funext fun k => by rw [dl_if (by omega)]]
  ac_rfl
/-- A free slot taken at once. -/
theorem fd_nowP (hl : Link c p) (hN : N ≤ 700000) {i : Nat} (hi : i < 16) {n : Int} (h1 : 1 ≤ n) (hn : 1 ≤ fOf b p nl n) {mk : Int} (hs : p.sl i = ⟨0, mk⟩) (hm : (ms.length : Int) ≤ mk) (hPQ : ∀ s y, P s → findA s.L n = some y → Q { s with L := updA s.L n { y with refs := y.refs + 1 } }) (h : Sat w (PHP c N b most p nl ms P * R)) :
    Calls Tryz.prog 56 #[pp p.pb, slP p.pb i, .int .i64 n] w fun e w' => e = .returned (.int .i64 0) ∧ Sat w' (PHP c (N + 1) b most (p.put i ⟨n, mk⟩) nl ms Q * R) ∧ Ran w w' := by
  have h16 := hl.len
  have hil : i < p.fds.length := by omega
  rw [sl_fd hi hil] at hs
  have hx : p.fds[i].has = 0 := by rw [hs]
  have hm' : (ms.length : Int) ≤ p.fds[i].mark := by rw [hs]; exact hm
  have h2 := h.perm (show _ = St c N (fOf b p nl) (gOf p nl) P * LG p most nl ms * (pcHp p * (notesHp p nl * R)) by unfold PHP; ac_rfl)
  have HD : ∀ W S, Sat W (St c (N + 1) (fun k => fOf b p nl k + dl n k) (gOf p nl) Q * LG p most nl ms * (pcHp p * S)) → Calls Tryz.prog 51 #[.int .i64 p.fds[i].has, pp p.tx] W fun e w' => e = .returned (.tuple #[]) ∧ (Sat w' (St c (N + 1) (fun k => fOf b p nl k + dl n k) (gOf p nl) Q * LG p most nl ms * (pcHp p * S)) ∧ Ran W w') := by
    rw [hx]; exact t_unref0
  refine (set_now p i n (ms.length : Int) (St c N (fOf b p nl) (gOf p nl) P * LG p most nl ms) (St c (N + 1) (fun k => fOf b p nl k + dl n k) (gOf p nl) Q * LG p most nl ms) (St c (N + 1) (fun k => fOf b p nl k + dl n k) (gOf p nl) Q * LG p most nl ms) w (notesHp p nl * R) hi h16 hm' t_marks (t_refP hl (by omega) h1 hn hPQ) HD h2).mono ?_
  rintro e w' ⟨⟨rfl, S⟩, hR⟩
  refine ⟨rfl, ?_, hR⟩
  rw [put_fd hi]
  have e1 : p.has i n = p.slot i ⟨n, mk⟩ := by rw [slot_has p i n hil, hs]
  rw [e1] at S
  refine S.perm ?_
  unfold PHP
  rw [show (fun k => fOf b p nl k + dl n k) = fOf b (p.slot i ⟨n, mk⟩) nl by
    funext k
    rw [f_slot hil, hx, dl_0]
    dsimp only
    omega]
  show St c (N + 1) (fOf b (p.slot i ⟨n, mk⟩) nl) (gOf p nl) Q * LG p most nl ms * (pcHp (p.slot i ⟨n, mk⟩) * (notesHp p nl * R)) = St c (N + 1) (fOf b (p.slot i ⟨n, mk⟩) nl) (gOf p nl) Q * (LG p most nl ms * (notesHp p nl * pcHp (p.slot i ⟨n, mk⟩))) * R
  ac_rfl
/-- A slot closed behind a mark: noted. -/
theorem fd_closeP (hl : Link c p) (hN : N ≤ 700000) {i : Nat} (hi : i < 16) (hm4 : ms.length ≤ 4) (hnl : (nl.length : Int) < most) (hm1 : most ≤ 1000) (hne : ms ≠ []) (hm : (p.sl i).mark < (ms.length : Int)) (h : Sat w (PHP c N b most p nl ms P * R)) :
    Calls Tryz.prog 56 #[pp p.pb, slP p.pb i, .int .i64 0] w fun e w' => e = .returned (.int .i64 0) ∧ (∃ sb wb, Sat w' (PHP c N b most (p.put i ⟨0, (ms.length : Int)⟩) (nl ++ [Nt.mk i (p.sl i) sb wb]) ms P * R)) ∧ Ran w w' := by
  have h16 := hl.len
  have hil : i < p.fds.length := by omega
  have hsl := sl_fd hi hil
  rw [hsl] at hm ⊢
  have h2 := h.perm (show _ = St c N (fOf b p nl) (gOf p nl) P * LG p most nl ms * (pcHp p * (notesHp p nl * R)) by unfold PHP; ac_rfl)
  have HTN := fun (sb wb : Nat) => t_note (c := c) (N := N) (f := fOf b p nl) (g := gOf p nl) (P := P) (p := p) (most := most) (by omega) hm4 hne hnl i p.fds[i] sb wb
  have HTT := fun (sb wb : Nat) => t_ref0 (c := c) (N := N) (f := fOf b p nl) (g := gOf p nl) (P := P) (p := p) (L := LG p most (nl ++ [Nt.mk i p.fds[i] sb wb]) ms)
  refine (set_noted p i 0 (ms.length : Int) (St c N (fOf b p nl) (gOf p nl) P * LG p most nl ms) (fun sb wb => St c N (fOf b p nl) (gOf p nl) P * LG p most (nl ++ [Nt.mk i p.fds[i] sb wb]) ms) (fun sb wb => St c N (fOf b p nl) (gOf p nl) P * LG p most (nl ++ [Nt.mk i p.fds[i] sb wb]) ms) w (notesHp p nl * R) hi h16 hm t_marks HTN HTT h2).mono ?_
  rintro e w' ⟨⟨rfl, sb, wb, S⟩, hR⟩
  refine ⟨rfl, ⟨sb, wb, ?_⟩, hR⟩
  rw [put_fd hi]
  refine S.perm ?_
  unfold PHP
  rw [show fOf b (p.slot i ⟨0, (ms.length : Int)⟩) (nl ++ [Nt.mk i p.fds[i] sb wb]) = fOf b p nl by
    funext k
    rw [f_snoc, f_slot hil]
    dsimp only
    rw [if_pos hi, dl_0]
    omega]
  rw [show gOf (p.slot i ⟨0, (ms.length : Int)⟩) (nl ++ [Nt.mk i p.fds[i] sb wb]) = gOf p nl by
    funext k
    rw [g_snoc]
    dsimp only
    rw [if_neg (fun e => by omega)]
    show gOf p nl k + 0 = gOf p nl k
    omega]
  have e9 : notesHp (p.slot i ⟨0, (ms.length : Int)⟩) (nl ++ [Nt.mk i p.fds[i] sb wb]) = noteHp p.pb i p.tx sb wb p.fds[i] * notesHp p nl := by
    unfold notesHp
    rw [all_snoc]
    show noteQ p.pb p.tx p.fx (Nt.mk i p.fds[i] sb wb) * _ = _
    unfold noteQ
    rw [if_pos hi]
    rfl
  rw [e9]
  show _ * (noteHp p.pb i p.tx sb wb p.fds[i] * (pcHp (p.slot i ⟨0, (ms.length : Int)⟩) * (notesHp p nl * R))) = St c N _ _ P * (LG p most _ ms * _) * R
  ac_rfl
/-- One note undone, the last ref of what the slot has. -/
theorem undoP (hl : Link c p) (hN : N ≤ 600000) {i : Nat} (hi : i < 16) {was : Sl} {sb wb : Nat} (h5 : 5 ≤ (p.sl i).has) (hn : fOf b p [Nt.mk i was sb wb] (p.sl i).has = 1) (hPQ : ∀ s y k a m, InvT N s → P s → findA s.L (p.sl i).has = some y → y.t = .file k a m → Q { s with F := dropG s.F k, L := delA s.L (p.sl i).has }) (h : Sat w (PHP c N b most p [Nt.mk i was sb wb] [0] P * R)) :
    Calls Tryz.prog 54 #[pp p.lb] w fun e w' => e = .returned (.int .i64 0) ∧ Sat w' (PHP c (N + 1) b most (p.put i was) [] [] Q * R) ∧ Ran w w' := by
  have h16 := hl.len
  have hil : i < p.fds.length := by omega
  have hsl := sl_fd hi hil
  rw [hsl] at h5 hn hPQ
  obtain ⟨I, hI⟩ : ∃ I : Nat → Hp, I = fun j => if j = 0 then St c (N + 1) (fOf b (p.put i was) []) (gOf (p.put i was) []) Q * pcHp (p.put i was) else St c N (fOf b p [Nt.mk i was sb wb]) (gOf p [Nt.mk i was sb wb]) P * (noteHp p.pb i p.tx sb wb was * pcHp p) := ⟨_, rfl⟩
  have hI0 : I 0 = St c (N + 1) (fOf b (p.put i was) []) (gOf (p.put i was) []) Q * pcHp (p.put i was) := by rw [hI]; exact if_pos rfl
  have hI1 : I 1 = St c N (fOf b p [Nt.mk i was sb wb]) (gOf p [Nt.mk i was sb wb]) P * (noteHp p.pb i p.tx sb wb was * pcHp p) := by rw [hI]; exact if_neg (by decide)
  have e9 : notesHp p [Nt.mk i was sb wb] = noteHp p.pb i p.tx sb wb was := by
    unfold notesHp
    show noteQ p.pb p.tx p.fx (Nt.mk i was sb wb) * emp = _
    rw [sep_emp]
    unfold noteQ
    rw [if_pos hi]
  have hbk : backs [Nt.mk i was sb wb] = [.func (.func 76) #[] #[pp sb, pp wb]] := rfl
  refine (Undo.undo_calls p.lb most 4 (backs [Nt.mk i was sb wb]) [] 0 w I R (by
    show Undo.LogAt w p.lb most 4 (backs [Nt.mk i was sb wb]) [0] (I 1 * R)
    rw [hI1]
    exact Undo.log_out (h.perm (by unfold PHP LG; rw [e9]; ac_rfl))) (Nat.zero_le _) (by show 1 ≤ 1000000; omega) (by show 0 ≤ 1000000; omega) (fun j hj hj2 => ?_)).mono ?_
  · have hj0 : j = 0 := by
      have : j < 1 := hj2
      omega
    subst hj0
    refine ⟨76, #[pp sb, pp wb], rfl, enters_back, fun S W hS => ?_⟩
    rw [show (0 + 1 : Nat) = 1 from rfl, hI1] at hS
    refine (back_calls p i sb wb was (St c N (fOf b p [Nt.mk i was sb wb]) (gOf p [Nt.mk i was sb wb]) P * emp) (St c (N + 1) (fun k => fOf b p [Nt.mk i was sb wb] k - dl p.fds[i].has k) (gOf p [Nt.mk i was sb wb]) Q * emp) W S hi h16 (t_goneP hl (by omega) hn h5 hPQ) (hS.perm (by rw [sep_emp]; ac_rfl))).mono ?_
    rintro e w' ⟨⟨rfl, hS'⟩, hR⟩
    refine ⟨⟨_, rfl⟩, ?_, hR⟩
    rw [hI0, put_fd hi]
    have h3 := (hS'.perm (show _ = noteHp p.pb i p.tx sb wb was * (St c (N + 1) (fun k => fOf b p [Nt.mk i was sb wb] k - dl p.fds[i].has k) (gOf p [Nt.mk i was sb wb]) Q * pcHp (p.slot i was) * S) by rw [sep_emp]; ac_rfl)).right
    rw [show (fun k => fOf b p [Nt.mk i was sb wb] k - dl p.fds[i].has k) = fOf b (p.slot i was) [] by
      funext k
      have e1 := f_snoc (b := b) (p := p) (nl := []) (Nt.mk i was sb wb) k
      rw [List.nil_append] at e1
      rw [e1, f_slot hil]
      dsimp only
      rw [if_pos hi]
      omega] at h3
    rw [show gOf p [Nt.mk i was sb wb] = gOf (p.slot i was) [] by
      funext k
      have e1 := g_snoc (p := p) (nl := []) (Nt.mk i was sb wb) k
      rw [List.nil_append] at e1
      rw [e1]
      dsimp only
      rw [if_neg (fun e => by omega)]
      show gOf p [] k + 0 = gOf p [] k
      omega] at h3
    exact h3
  · rintro e w' ⟨rfl, hS, hR⟩
    refine ⟨rfl, ?_, hR⟩
    rw [hI0] at hS
    have h3 := Undo.log_in hS
    obtain ⟨g1, g2, g3, g4, g5, g6, g7⟩ := Pc.put_same p i was
    refine h3.perm ?_
    unfold PHP LG
    rw [g4]
    have e8 : notesHp (p.put i was) [] = emp := rfl
    rw [e8, emp_sep]
    show Undo.logHp p.lb most 4 [] [] * (_ * R) = _ * (Undo.logHp p.lb most 4 [] [] * _) * R
    ac_rfl
end
end Go.Proofs.YteienbdbhnikbaaGreatDoor.Pr

namespace Go.Proofs.YteienbdbhnikbaaGreatDoor.Pr
open Go.RowKit Go.Maps Go.Proofs.YteienbdbhnikbaaGreatDoor Go.Proofs.YteienbdbhnikbaaGreatDoor.Hp Go.Proofs.YteienbdbhnikbaaGreatDoor.Hd
set_option linter.unusedVariables false
attribute [local go_sem] Oper.semAt_some

set_option maxRecDepth 100000 in
set_option maxHeartbeats 1000000 in
/-- file, where nothing is and something is made. -/
theorem file_go (pb fb : Nat) (dh : Int) (path : ByteArray) (w : World) (Q : Int → World → Prop) (Z : World → Prop) (hZ : ∀ W, Z W → W.cell? ⟨pb, 0, none⟩ = some (pp fb) ∧ W.cell? ⟨pb, 67, none⟩ = some (.int .i64 dh)) (h0 : Z w.drew)
    (HW : Calls Tryz.prog 28 #[pp fb, .int .i64 dh, .string path, .bool true] w.drew fun e w1 => e = .returned (.tuple #[.int .i64 0, .int .i64 10]) ∧ Z w1 ∧ Z w1.drew ∧
      Calls Tryz.prog 33 #[pp fb, .int .i64 dh, .string path, .int .i64 2, .string ⟨#[]⟩] w1.drew fun e w2 => ∃ n, e = .returned (.tuple #[.int .i64 n, .int .i64 0]) ∧ Z w2 ∧ Q n w2) :
    Calls Tryz.prog 61 #[pp pb, .string path, .int .i64 2] w fun e w' => ∃ n, e = .returned (.tuple #[.int .i64 n, .int .i64 0]) ∧ Q n w' := by
  obtain ⟨k1, k2⟩ := hZ _ h0
  have HW := Lib.hid HW
  have hZ := Lib.hid hZ
  clear h0
  go_enter Tryz.func61, Tryz.ntmps61
  go_upto_region 1 with fail
  refine region_plan (S := (fun w' => w'.cell? ⟨pb, 0, none⟩ = some (pp fb) ∧ w'.cell? ⟨pb, 67, none⟩ = some (.int .i64 dh))) [(0, true), (1, true), (2, true), (3, true), (4, true), (5, true), (6, true), (7, true), (8, true), (9, true), (10, false), (11, true), (12, true), (13, true), (14, true), (15, true)] (by kernel_rfl) (by kernel_rfl) (by kernel_rfl) ?_ ?_
  · ((try dsimp only); (first | done | (first | exact ⟨k1, k2⟩ | exact K5)))
  simp only [planOps, List.map_cons, List.map_nil, List.getElem?_toArray, List.getElem?_cons_zero, List.getElem?_cons_succ]
  repeat (first
    | ((refine plan_yes (v := ?_) (by rfl) ?_ ?_); rotate_left; (focus (intro w hSw; (try dsimp only at hSw); go_simp; try (with_reducible rfl))); (try simp only [Act.put, List.setIfInBounds_toArray, List.set_cons_zero, List.set_cons_succ]))
    | ((refine plan_no (by rfl) ?_); (try simp only [Act.put, List.setIfInBounds_toArray, List.set_cons_zero, List.set_cons_succ]))
    | ((refine plan_step (fun K hK => ?_)); (first | (go_simp; ((go_at_call 28; refine HW.out.mono ?_; rintro e w5 ⟨rfl, K1, K2, HM⟩; have K5 := hZ.out _ K1)); (try go_wp2_with fail)) | go_simp); (refine hK.out _ _ ?_ (fun hHeld => ?_)); (focus ((try dsimp only); (first | done | (first | exact ⟨k1, k2⟩ | exact K5)))); clear hK K; (try simp only [Act.put, List.setIfInBounds_toArray, List.set_cons_zero, List.set_cons_succ])))
  refine plan_done ?_
  have HM := Lib.hid HM
  obtain ⟨j1, j2⟩ := hZ.out _ K2
  clear K1 K2 K5 k1 k2 HW
  go_upto_region 3 with fail
  refine region_plan (S := (fun w' => w'.cell? ⟨pb, 0, none⟩ = some (pp fb) ∧ w'.cell? ⟨pb, 67, none⟩ = some (.int .i64 dh))) [(0, true), (1, true), (2, true), (3, true), (4, true), (5, true), (6, true), (7, true), (8, true), (9, true), (10, false), (11, true), (12, true), (13, true), (14, true)] (by kernel_rfl) (by kernel_rfl) (by kernel_rfl) ?_ ?_
  · ((try dsimp only); (first | done | (first | exact ⟨j1, j2⟩ | exact K7)))
  simp only [planOps, List.map_cons, List.map_nil, List.getElem?_toArray, List.getElem?_cons_zero, List.getElem?_cons_succ]
  repeat (first
    | ((refine plan_yes (v := ?_) (by rfl) ?_ ?_); rotate_left; (focus (intro w hSw; (try dsimp only at hSw); go_simp; try (with_reducible rfl))); (try simp only [Act.put, List.setIfInBounds_toArray, List.set_cons_zero, List.set_cons_succ]))
    | ((refine plan_no (by rfl) ?_); (try simp only [Act.put, List.setIfInBounds_toArray, List.set_cons_zero, List.set_cons_succ]))
    | ((refine plan_step (fun K hK => ?_)); (first | (go_simp; ((go_at_call 33; refine HM.out.mono ?_; rintro e w7 ⟨n, rfl, K6, hQ⟩; have K7 := hZ.out _ K6)); (try go_wp2_with fail)) | go_simp); (refine hK.out _ _ ?_ (fun hHeld => ?_)); (focus ((try dsimp only); (first | done | (first | exact ⟨j1, j2⟩ | exact K7)))); clear hK K; (try simp only [Act.put, List.setIfInBounds_toArray, List.set_cons_zero, List.set_cons_succ])))
  refine plan_done ?_
  have hQ := Lib.hid hQ
  clear K6 K7 HM
  go_wp2_with fail
  go_ret2
  exact ⟨n, rfl, hQ.out⟩
set_option maxRecDepth 100000 in
set_option maxHeartbeats 1000000 in
/-- Open, where all goes well. -/
theorem open_go (pb tb i : Nat) (hi : i < 16) (path : ByteArray) (w : World) (Q : World → Prop)
    (HF : Calls Tryz.prog 61 #[pp pb, .string path, .int .i64 2] w fun e w1 => ∃ n, e = .returned (.tuple #[.int .i64 n, .int .i64 0]) ∧ w1.cell? ⟨pb, 1, none⟩ = some (pp tb) ∧
      Calls Tryz.prog 62 #[pp tb, .int .i64 n, mdV mdW] w1 fun e w2 => ∃ id, e = .returned (.tuple #[.int .i64 id, .int .i64 0]) ∧
        Calls Tryz.prog 56 #[pp pb, slP pb i, .int .i64 id] w2 fun e w3 => e = .returned (.int .i64 0) ∧ w3.cell? ⟨pb, 1, none⟩ = some (pp tb) ∧
          Calls Tryz.prog 52 #[pp tb, .int .i64 id] w3 fun e w4 => ∃ v, e = .returned (.int .i64 v) ∧ Q w4) :
    Calls Tryz.prog 26 #[pp pb, .int .i64 (i : Int), .string path, .int .i64 2] w fun e w' => e = .returned (.int .i64 0) ∧ Q w' := by
  have HA := Lib.hid (at_calls pb i hi w)
  have HF := Lib.hid HF
  go_enter Tryz.func26, Tryz.ntmps26
  go_wp2_with fail
  refine HA.out.mono ?_
  rintro e w1 ⟨rfl, rfl⟩
  go_wp2_with fail
  refine HF.out.mono ?_
  rintro e w2 ⟨n, rfl, a1, HFl⟩
  have HFl := Lib.hid HFl
  go_wp2_with fail
  refine HFl.out.mono ?_
  rintro e w3 ⟨id, rfl, HSt⟩
  have HSt := Lib.hid HSt
  go_wp2_with fail
  refine HSt.out.mono ?_
  rintro e w4 ⟨rfl, a4, HUn⟩
  have HUn := Lib.hid HUn
  go_wp2_with fail
  refine HUn.out.mono ?_
  rintro e w5 ⟨v, rfl, hq⟩
  have hq := Lib.hid hq
  go_wp2_with fail
  go_ret
  exact ⟨rfl, hq.out⟩
section
variable {c : Pls} {N : Nat} {b : Int → Int} {most : Int} {p : Pc} {nl : List Nt} {ms : List Nat} {w : World} {R : Hp} {P Q : Sg → Prop}
variable {A : List (UInt8 × Int × ByteArray)} {H : List (Int × Int × Nat)} {l u : Nat}
theorem php_bes (h : Sat w (PHP c N b most p nl ms P * R)) : ∃ s, InvT N s ∧ (∀ k, rf s.L k = fOf b p nl k) ∧ (∀ k, xt s k = gOf p nl k) ∧ P s ∧ Sat w (SgHp c s * (Bes most p nl ms * R)) :=
  st_out (h.perm (show _ = St c N (fOf b p nl) (gOf p nl) P * (Bes most p nl ms * R) by unfold PHP Bes; ac_rfl))
theorem php_pc (h : Sat w (PHP c N b most p nl ms P * R)) : Sat w (pcHp p * (St c N (fOf b p nl) (gOf p nl) P * (LG p most nl ms * notesHp p nl) * R)) := h.perm (by unfold PHP; ac_rfl)
/-- Open of a name that is not there. -/
theorem o_open (hl : Link c p) (hN : N ≤ 500000) (hb : Base b) {i : Nat} (hi : i < 16) {d : UInt8} (hd : d = 102 ∨ d = 103) (hA : ∀ x ∈ A, x.1 ≠ d) (hdir : p.dir.has = 1) {mk : Int} (hs : p.sl i = ⟨0, mk⟩) (hm : (ms.length : Int) ≤ mk) (hl12 : l + 1 ≤ 12) (hu : u ≤ 100) (hG : Glob R) (h : Sat w (PHP c N b most p nl ms (Aw A H l u) * R)) :
    Calls Tryz.prog 26 #[pp p.pb, .int .i64 (i : Int), .string (n1 d), .int .i64 2] w fun e w' => e = .returned (.int .i64 0) ∧ ∃ k id, 5 ≤ id ∧ id ≤ 1000000 ∧ fOf b p nl id = 0 ∧ (∀ x ∈ A, x.2.1 ≠ k) ∧ (∀ x ∈ H, x.1 ≠ id) ∧ Sat w' (PHP c (N + 4) b most (p.put i ⟨id, mk⟩) nl ms (Aw ((d, k, ⟨#[]⟩) :: A) ((id, k, 0) :: H) (l + 1) u) * R) ∧ Ran w w' := by
  have hsm : Sm d := by
    rcases hd with rfl | rfl
    · exact .inr (.inr (.inr (.inl rfl)))
    · exact .inr (.inr (.inr (.inr rfl)))
  refine open_go p.pb c.tb i hi (n1 d) w _ ?_
  obtain ⟨s, hI, hf, hg, hP, hS⟩ := php_bes h
  obtain ⟨r, kd, hr, hrk, hkd, hkA, hkn⟩ := hP.root
  have hM : kd.M (n1 d) = none := hkn d hd hA
  refine (file_go p.pb p.fb p.dir.has (n1 d) w (fun n w2 => w2.cell? ⟨p.pb, 1, none⟩ = some (pp c.tb) ∧ ∃ s2 : Sg, ∃ x, Hd.find s2.F.L n = some x ∧ x.kind = 2 ∧ (∀ x ∈ A, x.2.1 ≠ n) ∧ InvT (N + 1) s2 ∧ (∀ k, rf s2.L k = rf s.L k) ∧ (∀ k, xt s2 k = xt s k) ∧ Aw ((d, n, ⟨#[]⟩) :: A) H (l + 1) u s2 ∧ Sat w2 (SgHp c s2 * (Bes most p nl ms * R)) ∧ Ran w w2) (fun W => ∃ s, Sat W (SgHp c s * (Bes most p nl ms * R))) (fun W ⟨s, hW⟩ => bes_cells hl.len hW) ⟨s, hS.drew⟩ ?_).mono ?_
  · rw [hdir, hl.fb]
    refine (Walk_calls c.fb c.mb s.F (hI.tree.ok (by omega)) hI.tree.nums 1 (n1 d) true w.drew _ i64_1 (by show 1 ≤ 1000000; omega) hG.more.more.more.more.more (sg_open hS.drew)).mono ?_
    rintro e w1 ⟨⟨rfl, S1⟩, R1⟩
    rw [walk_no hsm hr hrk hkd hM]
    have S1 : Sat w1 (SgHp c s * (Bes most p nl ms * R)) := sg_shut S1
    have HP := placeN_calls c.fb c.mb N s.F hI.tree (by omega) 1 (n1 d) 2 w1.drew _ i64_1 (by show 1 ≤ 1000000; omega) hG.more.more.more.more.more (sg_open S1.drew)
    rw [place_sm hsm hr hrk hkd hM] at HP
    refine ⟨rfl, ⟨s, S1⟩, ⟨s, S1.drew⟩, ?_⟩
    obtain ⟨g, hgf⟩ := freeN s.F.L
    have hes := (hI.tree.each 1 r hr).2.2.2 kd hkd
    have hn := hI.tree.n
    have hmo := hP.most
    have hro := hP.room
    have hus := hP.used
    have hle := hP.len
    have e0 : (((⟨#[]⟩ : ByteArray).size : Nat) : Int) = 0 := rfl
    refine (MakeG_calls c.fb c.mb s.F 1 (n1 d) 1 r kd (n1 d) g ⟨#[]⟩ 2 i64_1 (by show 1 ≤ 1000000; omega) (.inl rfl) ⟨hr, hrk, hkd, hM, by omega, hgf, by omega, by omega, Nat.zero_le _, by omega, fs_u hI, fs_r hI⟩ w1.drew _ HP).mono ?_
    rintro e w2 ⟨⟨rfl, nb, S2⟩, R2⟩
    have hy : NewN 1 ⟨nb, 2, ⟨#[]⟩, none, 0, 1, 0⟩ := ⟨.inr ⟨.inl rfl, rfl⟩, fun kd h => (by cases h), .inl rfl, rfl, rfl, Nat.zero_le _⟩
    have hT := hI.tree.make (by omega) hr hrk hkd (.inl rfl) hM hgf hy (by show s.F.used + 0 ≤ _; omega)
    obtain ⟨hI', hx'⟩ := hI.same (madeG s.F 1 r kd (n1 d) g ⟨nb, 2, ⟨#[]⟩, none, 0, 1, 0⟩) hT (kp_made hr hgf.none) (hf_made hr hgf.none rfl)
    have S2 : Sat w2 (SgHp c { s with F := madeG s.F 1 r kd (n1 d) g ⟨nb, 2, ⟨#[]⟩, none, 0, 1, 0⟩ } * (Bes most p nl ms * R)) := sg_shut S2
    refine ⟨g, rfl, ⟨_, S2⟩, ?_, { s with F := madeG s.F 1 r kd (n1 d) g ⟨nb, 2, ⟨#[]⟩, none, 0, 1, 0⟩ }, ⟨nb, 2, ⟨#[]⟩, none, 0, 1, 0⟩, ?_, rfl, fun x hx e => ?_, hI', fun _ => rfl, hx', aw_make hP hI.tree hA hr hrk hkd hgf nb, S2, Below.trans (Below.trans (Ran.drewN (Below.refl 0 w) 1) R1) (Below.trans (Ran.drewN (Below.refl 0 w1) 1) R2)⟩
    · have := (pc_heads (bes_pc S2)).2.1
      rw [hl.tb] at this
      exact this
    · show Hd.find (madeG s.F 1 r kd (n1 d) g ⟨nb, 2, ⟨#[]⟩, none, 0, 1, 0⟩).L (g : Int) = _
      rw [find_madeG hr, if_pos rfl]
    · obtain ⟨-, z, hz, -⟩ := hP.nodes x hx
      rw [e, hgf.none] at hz; cases hz
  · rintro e w1 ⟨n, rfl, a1, s2, x, hx, hk2, hAn, hI2, hf2, hg2, hP2, S1, R1⟩
    refine ⟨n, rfl, a1, ?_⟩
    obtain ⟨g, hgf⟩ := free_ex s2.L
    have h4 : ∀ k : Int, 1 ≤ k → k ≤ 4 → 1 ≤ rf s2.L k := fun k h1 h4 => by
      rw [hf2, hf]
      have h2 := nF0 p.fds k
      have h3 := nN0 nl k
      have h5 := (hb k).2 h1 h4
      unfold fOf
      omega
    have h5 : 5 ≤ g := by
      have gp := hgf.pos
      have gn := hgf.none
      by_cases e : g ≤ 4
      · obtain ⟨y, hy⟩ := rf_pos (h4 (g : Int) (by omega) (by omega))
        rw [gn] at hy; cases hy
      · omega
    refine (File_calls c.tb c.fb c.mb c.bp c.hm s2.n s2.F s2.L n mdW x g (hI2.tree.in_i64 hx) (hI2.tree.ok (by omega)) hx hk2 (.inr rfl) hgf (by have := hI2.len.2; omega) w1 _ (sg_open S1)).mono ?_
    rintro e w2 ⟨⟨rfl, hbb, xb, S2⟩, R2⟩
    obtain ⟨hI3, hx3⟩ := hI2.opened (hb := hbb) (xb := xb) (m := mdW) hgf h5 hx hk2 (holdP s2.F n) (hI2.tree.hold n) (kp_hold n) (hf_hold hx)
    have hg0 : rf s2.L (g : Int) = 0 := by unfold rf; rw [hgf.none]
    have hid0 : fOf b p nl (g : Int) = 0 := by rw [← hf, ← hf2]; exact hg0
    have hP3 : Aw ((d, n, ⟨#[]⟩) :: A) (((g : Int), n, 0) :: H) (l + 1) u { s2 with F := holdP s2.F n, L := ((g : Int), ⟨hbb, 1, xb, .file n 0 mdW⟩) :: s2.L, n := s2.n + 1 } := aw_open (aw_hold hP2 n) (s := { s2 with F := holdP s2.F n }) hgf.none n hbb xb (s2.n + 1)
    have hHn : ∀ x ∈ H, x.1 ≠ (g : Int) := fun x hx e => by
      obtain ⟨y, hy, -⟩ := hP2.hands x hx
      rw [e, hgf.none] at hy; cases hy
    have S3 : Sat w2 (SgHp c { s2 with F := holdP s2.F n, L := ((g : Int), ⟨hbb, 1, xb, .file n 0 mdW⟩) :: s2.L, n := s2.n + 1 } * (Bes most p nl ms * R)) := sg_shut (by rw [snks_cons _ _ _ rfl]; exact S2)
    have S4 : Sat w2 (PHP c (N + 1 + 1) (fun k => b k + dl (g : Int) k) most p nl ms (Aw ((d, n, ⟨#[]⟩) :: A) (((g : Int), n, 0) :: H) (l + 1) u) * R) := ph_in hI3 (fun k => by
      show rf (((g : Int), _) :: s2.L) k = _
      rw [rf_cons, f_more, dl_if (by omega)]
      by_cases e : k = (g : Int)
      · rw [if_pos e, if_pos e, e, hid0]; rfl
      · rw [if_neg e, if_neg e, hf2, hf]; omega) (fun k => (hx3 k).trans ((hg2 k).trans (hg k))) hP3 S3
    refine ⟨(g : Int), rfl, ?_⟩
    refine (fd_nowP (Q := Aw ((d, n, ⟨#[]⟩) :: A) (((g : Int), n, 0) :: H) (l + 1) u) hl (by omega) hi (by omega) (by rw [f_more, dl_self (by omega)]; omega) hs hm (fun s y hP hy => aw_refs hP hy _) S4).mono ?_
    rintro e w3 ⟨rfl, S5, R5⟩
    obtain ⟨q1, q2, q3, q4, q5, q6, q7⟩ := Pc.put_same p i ⟨(g : Int), mk⟩
    refine ⟨rfl, ?_, ?_⟩
    · have := (pc_heads (php_pc S5)).2.1
      rw [q1, q3, hl.tb] at this
      exact this
    · have hil : i < p.fds.length := by have := hl.len; omega
      have hff : fOf (fun k => b k + dl (g : Int) k) (p.put i ⟨(g : Int), mk⟩) nl (g : Int) = 2 := by
        rw [put_fd hi, f_slot hil, f_more, ← sl_fd hi hil, hs, hid0]
        show 0 + dl (g : Int) (g : Int) - dl 0 (g : Int) + dl (g : Int) (g : Int) = 2
        rw [dl_self (by omega), dl_0]
        rfl
      refine (x_Unref (Q := Aw ((d, n, ⟨#[]⟩) :: A) (((g : Int), n, 0) :: H) (l + 1) u) (n := (g : Int)) (by omega) (by rw [hff]; exact Int.le_refl _) (fun s y hP hy => aw_refs hP hy _) (S5.perm (show _ = St c (N + 1 + 1 + 1) (fOf (fun k => b k + dl (g : Int) k) (p.put i ⟨(g : Int), mk⟩) nl) (gOf (p.put i ⟨(g : Int), mk⟩) nl) (Aw ((d, n, ⟨#[]⟩) :: A) (((g : Int), n, 0) :: H) (l + 1) u) * (LG (p.put i ⟨(g : Int), mk⟩) most nl ms * (notesHp (p.put i ⟨(g : Int), mk⟩) nl * pcHp (p.put i ⟨(g : Int), mk⟩)) * R) by unfold PHP; ac_rfl))).mono ?_
      rintro e w4 ⟨rfl, S6, R6⟩
      refine ⟨0, rfl, n, (g : Int), by omega, by have := hgf.le; have := hI2.len.1; omega, hid0, hAn, hHn, ?_, Below.trans (Below.trans R1 R2) (Below.trans R5 R6)⟩
      rw [show (fun k => fOf (fun k => b k + dl (g : Int) k) (p.put i ⟨(g : Int), mk⟩) nl k - if k = (g : Int) then 1 else 0) = fOf b (p.put i ⟨(g : Int), mk⟩) nl from funext fun k => by rw [f_more, dl_if (by omega)]; omega] at S6
      exact S6.perm (by unfold PHP; ac_rfl)
end
end Go.Proofs.YteienbdbhnikbaaGreatDoor.Pr

