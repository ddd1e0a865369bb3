/- (*Buffer).Close, and what closed and nil buffers answer. -/
import Derived.Test.YtgaeafhkepfgjaaSpD
import Derived.StillTailTactics
namespace Go.Proofs.Ytgaeafhkepfgjaa.Spill
open Go.RowKit Go.Proofs.Ytgaeafhkepfgjaa Go.Proofs.Ytgaeafhkepfgjaa.Hp
set_option linter.unusedVariables false

/-- A closed buffer. -/
def closedB (bb bp : Nat) : Hp := pts bb (bf bp true (.slice none 0 0) (.slice none 0 0) 0 0 0)

theorem append_nil (s : ByteArray) (w : World) : Calls Try.prog 13 #[.pointer none, .string s] w fun e w' => e = .returned (.int .i64 2) ∧ w = w' := by
  go_enter Try.func13, Try.ntmps13
  go_wp2_with (go_at_call 28; refine (is_nil _).mono ?_; rintro e w' ⟨rfl, rfl⟩)
  go_ret
  exact ⟨rfl, rfl⟩
theorem append_closed (s : ByteArray) (w : World) (b : Nat) (hh : w.cell? ⟨b, 1, none⟩ = some (.bool true)) : Calls Try.prog 13 #[.pointer (some ⟨b, 0, none⟩), .string s] w fun e w' => e = .returned (.int .i64 18) ∧ w = w' := by
  go_enter Try.func13, Try.ntmps13
  go_wp2_with (go_at_call 28; refine (is_closed _ _ hh).mono ?_; rintro e w' ⟨rfl, rfl⟩)
  go_ret
  exact ⟨rfl, rfl⟩
set_option maxRecDepth 100000 in
/-- There is no room. -/
theorem append_full (bp bb q m c held used opn tot frm : Nat) (data : List UInt8) (s : ByteArray) (R : Hp) (w : World) (hq : q ≤ 1048576) (hh : q < held + s.size) (hh2 : held ≤ q)
    (H : Sat w (poolX bp q m c held used opn tot * (bufX bb bp m c frm data * R))) :
    Calls Try.prog 13 #[.pointer (some ⟨bb, 0, none⟩), .string s] w fun e w' => e = .returned (.int .i64 41) ∧ ∃ n, w' = w.drewN n := by
  obtain ⟨p, cap, F, hFt, H1⟩ := poolX_out H
  obtain ⟨fb, p', cap', fs, L, hL, hHolds, H2⟩ := bufX_out (H1.perm (sep_comm _ _) |>.perm (sep_assoc _ _ _))
  obtain ⟨⟨c0, c1, c2, c3, c4, c5, cf⟩, ⟨b0, b1, b2, b3, b4, b5, b6, bz⟩, hne⟩ := facts (H2.perm (show _ = pool bp q m c held used opn p cap F * (bufO bb bp m c fb p' cap' (gn m c frm) frm (frm + data.length) fs L * R) by ac_rfl))
  have g1 : ((q : Int) - held < s.size) := by omega
  have g2 : (0 : Int) ≤ (q : Int) - held := by omega
  clear hL hHolds H1 H2 H
  go_enter Try.func13, Try.ntmps13
  go_wp2_with (go_at_call 28; refine (is_open _ _ b1).mono ?_; rintro e w' ⟨rfl, rfl⟩)
  go_quiet (fail)
  go_wp2
  go_ret
  exact ⟨rfl, _, rfl⟩
set_option maxRecDepth 100000 in
theorem drain_nil (n : Int) (w : World) : Calls Try.prog 14 #[.pointer none, .int .i64 n] w fun e w' => e = .returned (.tuple #[.string ⟨#[]⟩, .int .i64 2]) ∧ w = w' := by
  go_enter Try.func14, Try.ntmps14
  go_wp2_with (go_at_call 28; refine (is_nil _).mono ?_; rintro e w' ⟨rfl, rfl⟩)
  go_ret2
  exact ⟨rfl, rfl⟩
set_option maxRecDepth 100000 in
theorem drain_closed (n : Int) (w : World) (b : Nat) (hh : w.cell? ⟨b, 1, none⟩ = some (.bool true)) : Calls Try.prog 14 #[.pointer (some ⟨b, 0, none⟩), .int .i64 n] w fun e w' => e = .returned (.tuple #[.string ⟨#[]⟩, .int .i64 18]) ∧ w = w' := by
  go_enter Try.func14, Try.ntmps14
  go_wp2_with (go_at_call 28; refine (is_closed _ _ hh).mono ?_; rintro e w' ⟨rfl, rfl⟩)
  go_ret2
  exact ⟨rfl, rfl⟩
set_option maxRecDepth 100000 in
theorem drain_neg (n : Int) (w : World) (b : Nat) (hh : w.cell? ⟨b, 1, none⟩ = some (.bool false)) (hn : n < 0) : Calls Try.prog 14 #[.pointer (some ⟨b, 0, none⟩), .int .i64 n] w fun e w' => e = .returned (.tuple #[.string ⟨#[]⟩, .int .i64 1]) ∧ w = w' := by
  go_enter Try.func14, Try.ntmps14
  go_wp2_with (go_at_call 28; refine (is_open _ _ hh).mono ?_; rintro e w' ⟨rfl, rfl⟩)
  go_ret2
  exact ⟨rfl, rfl⟩
theorem close_nil (w : World) : Calls Try.prog 20 #[.pointer none] w fun e w' => e = .returned (.int .i64 2) ∧ w = w' := by
  go_enter Try.func20, Try.ntmps20
  go_wp2_with (go_at_call 28; refine (is_nil _).mono ?_; rintro e w' ⟨rfl, rfl⟩)
  go_ret
  exact ⟨rfl, rfl⟩
theorem close_closed (w : World) (b : Nat) (hh : w.cell? ⟨b, 1, none⟩ = some (.bool true)) : Calls Try.prog 20 #[.pointer (some ⟨b, 0, none⟩)] w fun e w' => e = .returned (.int .i64 18) ∧ w = w' := by
  go_enter Try.func20, Try.ntmps20
  go_wp2_with (go_at_call 28; refine (is_closed _ _ hh).mono ?_; rintro e w' ⟨rfl, rfl⟩)
  go_ret
  exact ⟨rfl, rfl⟩

/-- Behind the stores of Close. -/
theorem close_fin {bp bb q m c held held' U opn tot fb gone cap cap' : Nat} {frm til x : Int} {p p' : Option Addr} {fs : List Value} {L F : List (Nat × List Value)} {R : Hp} {w : World} (hle : True) (e1 : x = (held' : Int)) (hFt : U + L.length + F.length ≤ tot)
    (H : Sat w (pool bp q m c held (U + 0) (opn + 1) p cap (F ++ L) * (all (chunk c) [] * (pts bb (bf bp false (.slice (some ⟨fb, 0, none⟩) m m) (.slice p' L.length cap') gone frm til) * (arr 58 1 p' L.length cap' (L.map (bs c)) * (fact (fs.length = m) * pts fb (.cells fs.toArray 5 (0, 0)) * R)))))) :
    Sat (((((((((w.setCell ⟨bp, 3, none⟩ (.int .i64 x)).setCell ⟨bp, 5, none⟩ (.int .i64 opn)).setCell ⟨bb, 0, none⟩ (.pointer (some ⟨bp, 0, none⟩))).setCell ⟨bb, 1, none⟩ (.bool true)).setCell ⟨bb, 2, none⟩ (.slice none 0 0)).setCell ⟨bb, 3, none⟩ (.slice none 0 0)).setCell ⟨bb, 4, none⟩ (.int .i64 0)).setCell ⟨bb, 5, none⟩ (.int .i64 0)).setCell ⟨bb, 6, none⟩ (.int .i64 0))
      (poolX bp q m c held' U opn tot * (closedB bb bp * R)) := by
  subst e1
  have q0 := H.perm (sep_assoc _ _ _)
  have q1 : Sat ((w.setCell ⟨bp, 3, none⟩ (.int .i64 held')).setCell ⟨bp, 5, none⟩ (.int .i64 opn)) (pts bp (pf q m c held' U opn (.slice p (F ++ L).length cap)) * (arr 58 1 p (F ++ L).length cap ((F ++ L).map (bs c)) * all (chunk c) (F ++ L) * (all (chunk c) [] * (pts bb (bf bp false (.slice (some ⟨fb, 0, none⟩) m m) (.slice p' L.length cap') gone frm til) * (arr 58 1 p' L.length cap' (L.map (bs c)) * (fact (fs.length = m) * pts fb (.cells fs.toArray 5 (0, 0)) * R)))))) :=
    (q0.setL (i := 3) (.int .i64 held')).setL (i := 5) (.int .i64 opn)
  have q2 := q1.perm (show _ = pts bb (bf bp false (.slice (some ⟨fb, 0, none⟩) m m) (.slice p' L.length cap') gone frm til) * (pool bp q m c held' U opn p cap (F ++ L) * (R * (all (chunk c) [] * (arr 58 1 p' L.length cap' (L.map (bs c)) * (fact (fs.length = m) * pts fb (.cells fs.toArray 5 (0, 0))))))) by unfold pool; ac_rfl)
  have q3 : Sat _ (closedB bb bp * _) := ((((((q2.setL (i := 0) (.pointer (some ⟨bp, 0, none⟩))).setL (i := 1) (.bool true)).setL (i := 2) (.slice none 0 0)).setL (i := 3) (.slice none 0 0)).setL (i := 4) (.int .i64 0)).setL (i := 5) (.int .i64 0)).setL (i := 6) (.int .i64 0)
  have q4 := q3.perm (show _ = pool bp q m c held' U opn p cap (F ++ L) * (closedB bb bp * (R * (all (chunk c) [] * (arr 58 1 p' L.length cap' (L.map (bs c)) * (fact (fs.length = m) * pts fb (.cells fs.toArray 5 (0, 0))))))) by ac_rfl)
  have q5 := poolX_in (tot := tot) (by rw [List.length_append]; omega) q4
  exact (q5.perm (show _ = poolX bp q m c held' U opn tot * (closedB bb bp * R) * (all (chunk c) [] * (arr 58 1 p' L.length cap' (L.map (bs c)) * (fact (fs.length = m) * pts fb (.cells fs.toArray 5 (0, 0))))) by ac_rfl)).left

/-- At the loop's head: i chunks have been given back. -/
def CRel (bp bb q m c held U opn fb gone frm til cap' : Nat) (p' : Option Addr) (fs : List Value) (L F : List (Nat × List Value)) (R : Hp) (w : World) (k : Nat) (iv : Value) (wr : World) : Prop :=
  ∃ (i : Nat) (p : Option Addr) (cap : Nat), i + k = L.length ∧ iv = .int .i64 (i : Int) ∧
    Sat wr (pool bp q m c held (U + k) opn p cap (F ++ L.take i) * (all (chunk c) (L.drop i) * (pts bb (bf bp false (.slice (some ⟨fb, 0, none⟩) m m) (.slice p' L.length cap') gone frm til) * (arr 58 1 p' L.length cap' (L.map (bs c)) * (fact (fs.length = m) * pts fb (.cells fs.toArray 5 (0, 0)) * R))))) ∧ Ran w wr

set_option maxRecDepth 100000 in
set_option maxHeartbeats 4000000 in
theorem close_calls (bp bb q m c held U opn tot frm : Nat) (data : List UInt8) (R : Hp) (w : World) (hc : 1 ≤ c) (hh : held ≤ 1000000000) (hd : data.length ≤ held) (hf : frm + data.length ≤ 1000000000) (hU : U ≤ 1000000000) (htot : tot ≤ 1000000000) (hop : opn ≤ 1000000000)
    (H : Sat w (poolX bp q m c held (U + (cl m c (frm + data.length) - gn m c frm)) (opn + 1) tot * (bufX bb bp m c frm data * R))) :
    Calls Try.prog 20 #[.pointer (some ⟨bb, 0, none⟩)] w fun e w' => e = .returned (.int .i64 0) ∧ Sat w' (poolX bp q m c (held - data.length) U opn tot * (closedB bb bp * R)) ∧ Ran w w' := by
  obtain ⟨p, cap, F, hFt, H1⟩ := poolX_out H
  obtain ⟨fb, p', cap', fs, L, hL, hHolds, H2⟩ := bufX_out (H1.perm (sep_comm _ _) |>.perm (sep_assoc _ _ _))
  have huL : U + (cl m c (frm + data.length) - gn m c frm) = U + L.length := by omega
  rw [huL] at H H1 H2 hFt
  obtain ⟨til, htil⟩ : ∃ til, til = frm + data.length := ⟨_, rfl⟩
  rw [← htil] at H2
  have HP := H2.perm (show _ = pool bp q m c held (U + L.length) (opn + 1) p cap F * (bufO bb bp m c fb p' cap' (gn m c frm) frm til fs L * R) by ac_rfl)
  obtain ⟨⟨c0, c1, c2, c3, c4, c5, cf⟩, ⟨b0, b1, b2, b3, b4, b5, b6, bz⟩, hne⟩ := facts HP
  have HS := HP.perm (show _ = pool bp q m c held (U + L.length) (opn + 1) p cap F * (all (chunk c) L * (pts bb (bf bp false (.slice (some ⟨fb, 0, none⟩) m m) (.slice p' L.length cap') (gn m c frm) frm til) * (arr 58 1 p' L.length cap' (L.map (bs c)) * (fact (fs.length = m) * pts fb (.cells fs.toArray 5 (0, 0)) * R)))) by unfold bufO; ac_rfl)
  have Htil := Lib.hid htil
  clear hL hHolds H1 H2 H HP huL htil
  go_enter Try.func20, Try.ntmps20
  go_wp2_with (go_at_call 28; refine (is_open _ _ b1).mono ?_; rintro e w' ⟨rfl, rfl⟩)
  go_loopg [16] (L.length) (CRel bp bb q m c held U (opn + 1) fb (gn m c frm) frm til cap' p' fs L F R w)
  case atStart => exact ⟨0, p, cap, by omega, rfl, by simpa using HS, Below.refl _ _⟩
  case round =>
    clear c0 c1 c2 c3 c4 c5 cf b0 b1 b2 b3 b4 b5 b6 bz hne HS p cap
    obtain ⟨i, p, cap, hik, rfl, HS, HR⟩ := hrel
    have HBf := HS.right.right
    obtain ⟨b0, b1, b2, b3, b4, b5, b6, bz⟩ := cells7 HBf.get
    obtain ⟨c0, c1, c2, c3, c4, c5, c6, cf⟩ := cells7 (HS.perm (sep_assoc _ _ _)).get
    by_cases hi : i = L.length
    · have hlt : ¬ ((i : Int) < L.length) := by omega
      have hk0 : gk = 0 := by omega
      subst hk0
      subst hi
      have hne : bp ≠ bb := ((HS.perm (sep_assoc _ _ _)).perm (show _ = pts bp (pf q m c held (U + 0 : Nat) (opn + 1 : Nat) (.slice p (F ++ L.take L.length).length cap)) * (pts bb (bf bp false (.slice (some ⟨fb, 0, none⟩) m m) (.slice p' L.length cap') (gn m c frm) frm til) * (arr 58 1 p (F ++ L.take L.length).length cap ((F ++ L.take L.length).map (bs c)) * all (chunk c) (F ++ L.take L.length) * (all (chunk c) (L.drop L.length) * (arr 58 1 p' L.length cap' (L.map (bs c)) * (fact (fs.length = m) * pts fb (.cells fs.toArray 5 (0, 0)) * R)))) ) by ac_rfl)).ne
      have ht1 := Htil.out
      have ht2 : (frm : Int) ≤ til := by omega
      have ht3 : (til : Int) ≤ 1000000000 := by omega
      have ht4 : (til : Int) - frm ≤ held := by omega
      clear ht1
      go_wp2_with fail
      go_still_tail 19, (by kernel_rfl)
      go_wp2
      go_ret
      refine ⟨rfl, ?_, ?_⟩
      · have e1 : ((held : Int) - ((til : Int) - frm)) = ((held - data.length : Nat) : Int) := by have := Htil.out; omega
        rw [List.take_length, List.drop_length] at HS
        exact (close_fin trivial e1 hFt HS).drew
      · exact Below.drew (Ran.set (Ran.set (Ran.set (Ran.set (Ran.set (Ran.set (Ran.set (Ran.set (Ran.set HR _ _) _ _) _ _) _ _) _ _) _ _) _ _) _ _) _ _)
    · have hil : i < L.length := by omega
      have hlt : (i : Int) < L.length := by omega
      obtain ⟨k, rfl⟩ : ∃ k, gk = k + 1 := ⟨gk - 1, by omega⟩
      have HG0 : Sat wr (pool bp q m c held (U + k + 1) (opn + 1) p cap (F ++ L.take i) * (chunk c L[i] * (pts bb (bf bp false (.slice (some ⟨fb, 0, none⟩) m m) (.slice p' L.length cap') (gn m c frm) frm til) * (all (chunk c) (L.drop (i + 1)) * (arr 58 1 p' L.length cap' (L.map (bs c)) * (fact (fs.length = m) * pts fb (.cells fs.toArray 5 (0, 0)) * R)))))) := HS.perm (by
        rw [List.drop_eq_getElem_cons hil, show U + (k + 1) = U + k + 1 by omega]
        show _ * (chunk c L[i] * all (chunk c) (L.drop (i + 1)) * _) = _
        ac_rfl)
      have HAr := HBf.right
      obtain ⟨ga, o, rfl⟩ := HAr.arr_addr (by have := HAr.arr_len; omega)
      have hcell : wr.cell? ⟨ga, o + i, none⟩ = some (.slice (some ⟨L[i].1, 0, none⟩) c c) := by
        rw [HAr.arr_cell i (by simpa using hil)]; simp [bs]
      have hn1 : (F ++ L.take i).length ≤ 1000000000000 := by rw [List.length_append, List.length_take]; omega
      have hn2 : U + k ≤ 1000000000000 := by omega
      have hi0 : (0 : Int) ≤ i := by omega
      have Hik := Lib.hid hik
      have hlb : (L.length : Int) ≤ 1000000000 := by omega
      obtain ⟨xb, hxb⟩ : ∃ xb, xb = L[i].1 := ⟨_, rfl⟩
      rw [← hxb] at hcell
      have Hxb := Lib.hid hxb
      clear hik hxb hi
      go_wp2_with (first | (go_at_call 31; rw [Hxb.out]; refine (give_calls bp q m c held (U + k) (opn + 1) cap p (F ++ L.take i) L[i] _ _ hn2 hn1 HG0).mono ?_; rintro e w4 ⟨rfl, pq, cq, HG, HRG⟩))
      go_roundg k
      case measure => omega
      case rel =>
        refine ⟨i + 1, pq, cq, by have := Hik.out; omega, rfl, ?_, HR.trans HRG⟩
        rw [List.take_succ_eq_append_getElem hil, ← List.append_assoc]
        exact HG.perm (by ac_rfl)
end Go.Proofs.Ytgaeafhkepfgjaa.Spill
