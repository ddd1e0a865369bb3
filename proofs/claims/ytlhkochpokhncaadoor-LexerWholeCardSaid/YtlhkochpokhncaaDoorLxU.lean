/- The iterator over all things of a text. -/
import Derived.Test.YtlhkochpokhncaaDoorLxT
import Derived.Test.YtlhkochpokhncaaDoorRangeW
import Derived.Test.YtlhkochpokhncaaDoorPlan
namespace Go.Proofs.YtlhkochpokhncaaDoor.Lexer
open Go.RowKit Go.Proofs.YtlhkochpokhncaaDoor Go.Proofs.YtlhkochpokhncaaDoor.Hp
set_option linter.unusedVariables false
attribute [local go_sem] Oper.semAt_some

/-- What the iterator owns. -/
def thingsH (sb pb wb pp wp : Nat) (s : ByteArray) (f : Int × Int) : Hp :=
  pts sb (.cells #[.string s] 9 (0, 0)) * (pts pp (.cells #[.pointer (some ⟨pb, 0, none⟩)] 51 (0, 0)) * (pts wp (.cells #[.pointer (some ⟨wb, 0, none⟩)] 52 (0, 0)) * (pts pb (.cells #[.int .i64 f.1] 3 (0, 0)) * pts wb (.cells #[.int .i64 f.2] 24 (0, 0)))))
theorem things_cells {w : World} {sb pb wb pp wp : Nat} {s : ByteArray} {f : Int × Int} {S : Hp} (h : Sat w (thingsH sb pb wb pp wp s f * S)) :
    w.cell? ⟨sb, 0, none⟩ = some (.string s) ∧ w.cell? ⟨pp, 0, none⟩ = some (.pointer (some ⟨pb, 0, none⟩)) ∧ w.cell? ⟨wp, 0, none⟩ = some (.pointer (some ⟨wb, 0, none⟩)) ∧ w.cell? ⟨pb, 0, none⟩ = some (.int .i64 f.1) ∧ w.cell? ⟨wb, 0, none⟩ = some (.int .i64 f.2) ∧ (∀ i, w.frozen? ⟨pb, i, none⟩ = false) ∧ (∀ i, w.frozen? ⟨wb, i, none⟩ = false) := by
  unfold thingsH at h
  have h1 := (h.perm (show _ = pts sb (.cells #[.string s] 9 (0, 0)) * (pts pp (.cells #[.pointer (some ⟨pb, 0, none⟩)] 51 (0, 0)) * (pts wp (.cells #[.pointer (some ⟨wb, 0, none⟩)] 52 (0, 0)) * (pts pb (.cells #[.int .i64 f.1] 3 (0, 0)) * (pts wb (.cells #[.int .i64 f.2] 24 (0, 0)) * S)))) by ac_rfl))
  have a1 := h1.get
  have a2 := h1.right.get
  have a3 := h1.right.right.get
  have a4 := h1.right.right.right.get
  have a5 := h1.right.right.right.right.get
  exact ⟨by rw [cell_at a1]; rfl, by rw [cell_at a2]; rfl, by rw [cell_at a3]; rfl, by rw [cell_at a4]; rfl, by rw [cell_at a5]; rfl, fun i => free_at a4 i, fun i => free_at a5 i⟩
theorem things_setp {w : World} {sb pb wb pp wp : Nat} {s : ByteArray} {f : Int × Int} {S : Hp} (v : Int) (h : Sat w (thingsH sb pb wb pp wp s f * S)) : Sat (w.setCell ⟨pb, 0, none⟩ (.int .i64 v)) (thingsH sb pb wb pp wp s (v, f.2) * S) := by
  unfold thingsH at h ⊢
  have h1 := (h.perm (show _ = pts pb (.cells #[.int .i64 f.1] 3 (0, 0)) * (pts sb (.cells #[.string s] 9 (0, 0)) * (pts pp (.cells #[.pointer (some ⟨pb, 0, none⟩)] 51 (0, 0)) * (pts wp (.cells #[.pointer (some ⟨wb, 0, none⟩)] 52 (0, 0)) * (pts wb (.cells #[.int .i64 f.2] 24 (0, 0)) * S)))) by ac_rfl)).set (i := 0) (.int .i64 v)
  exact h1.perm (by show pts pb (.cells #[.int .i64 v] 3 (0, 0)) * _ = _; ac_rfl)
theorem things_setw {w : World} {sb pb wb pp wp : Nat} {s : ByteArray} {f : Int × Int} {S : Hp} (v : Int) (h : Sat w (thingsH sb pb wb pp wp s f * S)) : Sat (w.setCell ⟨wb, 0, none⟩ (.int .i64 v)) (thingsH sb pb wb pp wp s (f.1, v) * S) := by
  unfold thingsH at h ⊢
  have h1 := (h.perm (show _ = pts wb (.cells #[.int .i64 f.2] 24 (0, 0)) * (pts pb (.cells #[.int .i64 f.1] 3 (0, 0)) * (pts sb (.cells #[.string s] 9 (0, 0)) * (pts pp (.cells #[.pointer (some ⟨pb, 0, none⟩)] 51 (0, 0)) * (pts wp (.cells #[.pointer (some ⟨wb, 0, none⟩)] 52 (0, 0)) * S)))) by ac_rfl)).set (i := 0) (.int .i64 v)
  exact h1.perm (by show pts wb (.cells #[.int .i64 v] 24 (0, 0)) * _ = _; ac_rfl)
def ThRel (s : ByteArray) (xs : List Tok) (f : Int × Int) (J : List Tok → Hp) (sb pb wb pp wp : Nat) (R : Hp) (W : World) (g : Nat) (zv : Value) (wr : World) : Prop :=
  ∃ (k : Nat) (pre : List Tok), zv = .int .i64 (k : Int) ∧ AllAt s xs f g pre k ∧ Sat wr (J pre * (thingsH sb pb wb pp wp s (0, 0) * R)) ∧ Ran W wr
set_option maxRecDepth 100000 in
set_option maxHeartbeats 8000000 in
theorem things_iter (s : ByteArray) (h63 : (s.size : Int) ≤ 9223372036854775807) (sb pb wb pp wp n : Nat) (R : Hp) :
    IterSatW Tryd.prog n 38 #[.pointer (some ⟨sb, 0, none⟩), .pointer (some ⟨pp, 0, none⟩), .pointer (some ⟨wp, 0, none⟩)] (fun t : Tok => #[tokV t]) (allP s).1 (thingsH sb pb wb pp wp s (0, 0) * R) (thingsH sb pb wb pp wp s (allP s).2 * R) := by
  intro l J W hW hY
  refine callsIn_wide.2 ?_
  obtain ⟨xs, hxs⟩ : ∃ xs, xs = (allP s).1 := ⟨_, rfl⟩
  obtain ⟨f, hf⟩ : ∃ f, f = (allP s).2 := ⟨_, rfl⟩
  have hA := allAt_start s
  rw [← hxs] at hY hA ⊢
  rw [← hf] at hA ⊢
  have HY := Lib.hid hY
  have HA := Lib.hid hA
  have HW := Lib.hid hW
  clear hY hA hxs hf hW
  go_enter Tryd.func38, Tryd.ntmps38
  go_wp2_with fail
  go_loopg [5] (s.size + 1) (ThRel s xs f J sb pb wb pp wp R W)
  case atStart => exact ⟨0, [], rfl, HA.out, HW.out, Below.refl _ _⟩
  case round =>
    obtain ⟨k, pre, rfl, hAt, hS, hR⟩ := hrel
    have hS2 := hS.perm (show _ = thingsH sb pb wb pp wp s (0, 0) * (J pre * R) by ac_rfl)
    obtain ⟨c1, c2, c3, c4, c5, f4, f5⟩ := things_cells hS2
    have HN := Lib.hid (next_calls s k wr h63)
    obtain ⟨r, hr⟩ : ∃ r, r = nextA s (k : Int) := ⟨_, rfl⟩
    rw [← hr] at HN
    have HS := Lib.hid hS2
    have HAt := Lib.hid hAt
    have Hr := Lib.hid hr
    clear hS hS2 hAt hr
    go_wp2_with fail
    refine HN.out.mono ?_
    rintro e w1 ⟨rfl, hB1⟩
    have hS1 := HS.out.below hB1
    have hR1 := Ran.below hR hB1
    clear HN hB1 HS hR c1 c2 c3 c4 c5 f4 f5
    obtain ⟨⟨kd, tx, ta, ts⟩, er⟩ := r
    have hA2 := hS1.alloc (tokO kd tx ta ts)
    have hS2 := pull1 hA2
    have hR2 := Ran.new hR1 (tokO kd tx ta ts)
    obtain ⟨t0, t1, t2, t3, tz⟩ := tok_cells hA2
    obtain ⟨c1, c2, c3, c4, c5, f4, f5⟩ := things_cells hS2
    clear hA2 hS1 hR1
    by_cases her : er = 0
    · subst her
      by_cases hk : kd = 0
      · subst hk
        have HS2 := Lib.hid hS2
        clear hS2
        go_wp2_with fail
        obtain ⟨e1, e2⟩ := HAt.out.stop (by rw [← Hr.out]) (by rw [← Hr.out])
        (try simp only [Exit.inBlock, Exit.then])
        refine bodyPost_ret (results_none rfl _ _ _) rfl ⟨⟨_, rfl⟩, ?_, hR2⟩
        rw [e1, e2]
        exact (HS2.out.perm (show _ = (J pre * (thingsH sb pb wb pp wp s (0, 0) * R)) * pts w1.heap.size (tokO 0 tx ta ts) by ac_rfl)).left
      · have hkB : (kd == 0) = false := by rw [beq_eq_false_iff_ne]; exact hk
        obtain ⟨hg0, m, post, e1, e2, e3, e4⟩ := HAt.out.next (by rw [← Hr.out]) (by rw [← Hr.out]; exact hk)
        rw [← Hr.out] at e1 e2 e3
        have e1 : ts = (m : Int) := e1
        subst e1
        have HS2 := Lib.hid hS2
        obtain ⟨fn, tmps, assign, body, hy, hRd⟩ := HY.out pre ⟨kd, tx, ta, (m : Int)⟩ post (pts w1.heap.size (tokO kd tx ta (m : Int)) * (thingsH sb pb wb pp wp s (0, 0) * R)) (w1.alloc (tokO kd tx ta (m : Int))) e2 (hS2.perm (by ac_rfl))
        have HRd := Lib.hid hRd
        have E3 := Lib.hid (And.intro hg0 e3)
        clear e2 e3 hRd hS2
        go_upto_region 4 with fail
        refine (wpIn_wide (n := n)).1 ?_
        gi_wp2
        refine ⟨fun h => (by cases h), HRd.out.mono ?_⟩
        rintro e w3 ⟨rfl, hs3, hr3⟩
        have hs4 := hs3.perm (show _ = pts w1.heap.size (tokO kd tx ta (m : Int)) * (J (pre ++ [⟨kd, tx, ta, (m : Int)⟩]) * (thingsH sb pb wb pp wp s (0, 0) * R)) by ac_rfl)
        clear t0 t1 t2 t3 tz c1 c2 c3 c4 c5 f4 f5
        obtain ⟨t0, t1, t2, t3, tz⟩ := tok_cells hs4
        have HS4 := Lib.hid hs4.right
        have hR3 := Below.trans hR2 hr3
        clear hs3 hs4 hr3 hR2 HRd hy
        gi_wp2
        go_wp2_with fail
        go_roundg (gk - 1)
        case measure => have := E3.out.1; omega
        case rel => exact ⟨m, _, rfl, E3.out.2, HS4.out, hR3⟩
    · have herB : (er != 0) = true := by rw [bne_iff_ne]; exact her
      have HS2 := Lib.hid hS2
      have hp := things_setp ta hS2
      have hw := things_setw er hS2
      obtain ⟨p1, p2, p3, p4, p5, p6, p7⟩ := things_cells hp
      obtain ⟨w1', w2', w3', w4', w5', w6', w7'⟩ := things_cells hw
      obtain ⟨x0, x1, x2, x3, xz⟩ := tok_cells (pull1 hp)
      obtain ⟨y0, y1, y2, y3, yz⟩ := tok_cells (pull1 hw)
      clear hS2 hp hw
      go_upto_region 3 with fail
      go_region
      go_wp2_with fail
      (try simp only [Exit.inBlock, Exit.then])
      obtain ⟨e1, e2⟩ := HAt.out.bad (by rw [← Hr.out]; exact her)
      rw [← Hr.out] at e2
      refine bodyPost_ret (results_none rfl _ _ _) rfl ⟨⟨_, rfl⟩, ?_, ?_⟩
      · rw [e1, e2]
        have hf := things_setw er (things_setp ta HS2.out)
        exact (hf.drew.perm (show _ = (J pre * (thingsH sb pb wb pp wp s (ta, er) * R)) * pts w1.heap.size (tokO kd tx ta ts) by ac_rfl)).left
      · exact Below.drew (Ran.set (Ran.set hR2 _ _) _ _)
end Go.Proofs.YtlhkochpokhncaaDoor.Lexer
