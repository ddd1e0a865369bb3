/- The spill package's contracts as its callers use them; and the chapter's example. -/
import Derived.Test.YtgaeafhkepfgjaaSpE
namespace Go.Proofs.Ytgaeafhkepfgjaa.Spill
open Go.RowKit Go.Proofs.Ytgaeafhkepfgjaa Go.Proofs.Ytgaeafhkepfgjaa.Hp
set_option linter.unusedVariables false

theorem poolX_cells {w : World} {R : Hp} {bp q m c held used opn tot : Nat} (H : Sat w (poolX bp q m c held used opn tot * R)) :
    w.cell? ⟨bp, 3, none⟩ = some (.int .i64 held) ∧ w.cell? ⟨bp, 4, none⟩ = some (.int .i64 used) ∧ w.cell? ⟨bp, 5, none⟩ = some (.int .i64 opn) := by
  obtain ⟨p, cap, F, _, H1⟩ := poolX_out H
  have h := cells7 (H1.perm (sep_assoc _ _ _)).get
  exact ⟨h.2.2.2.1, h.2.2.2.2.1, h.2.2.2.2.2.1⟩
theorem bufX_cells {w : World} {R : Hp} {bb bp m c frm : Nat} {data : List UInt8} (H : Sat w (bufX bb bp m c frm data * R)) :
    w.cell? ⟨bb, 1, none⟩ = some (.bool false) ∧ w.cell? ⟨bb, 5, none⟩ = some (.int .i64 frm) ∧ w.cell? ⟨bb, 6, none⟩ = some (.int .i64 (frm + data.length : Nat)) := by
  obtain ⟨fb, p, cap, fs, L, _, _, H1⟩ := bufX_out H
  have h := cells7 (H1.perm (sep_assoc _ _ _)).get
  exact ⟨h.2.1, h.2.2.2.2.2.1, h.2.2.2.2.2.2.1⟩

def XNewPost (q m c : Nat) (R : Hp) (w : World) (e : Ending) (w' : World) : Prop :=
  ∃ bp, e = .returned (.tuple #[.pointer (some ⟨bp, 0, none⟩), .int .i64 0]) ∧ Sat w' (poolX bp q m c 0 0 0 0 * R) ∧ Ran w w'
theorem xnew (q m c : Nat) (w : World) (R : Hp) (H : Sat w R) (h2 : q ≤ 1048576) (h4 : m ≤ 65536) (h5 : 1 ≤ c) (h6 : c ≤ 65536) :
    Calls Try.prog 9 #[.int .i64 q, .int .i64 m, .int .i64 c] w (XNewPost q m c R w) :=
  (new_good q m c w R H h2 h4 h5 h6).mono fun e w' ⟨bp, he, hs, hr⟩ => ⟨bp, he, poolX_in (by simp) hs, hr⟩
def XOpenPost (bp q m c held used opn tot : Nat) (R : Hp) (w : World) (e : Ending) (w' : World) : Prop :=
  ∃ bb, e = .returned (.pointer (some ⟨bb, 0, none⟩)) ∧ Sat w' (poolX bp q m c held used (opn + 1) tot * (bufX bb bp m c 0 [] * R)) ∧ Ran w w'
theorem xopen (bp q m c held used opn tot : Nat) (R : Hp) (w : World) (hu : opn ≤ 1000000000000) (hm : m ≤ 65536) (hc : 1 ≤ c) (H : Sat w (poolX bp q m c held used opn tot * R)) :
    Calls Try.prog 10 #[.pointer (some ⟨bp, 0, none⟩)] w (XOpenPost bp q m c held used opn tot R w) := by
  obtain ⟨p, cap, F, hF, H1⟩ := poolX_out H
  refine (open_calls bp q m c held used opn cap p F R w hu hm H1).mono ?_
  rintro e w' ⟨bb, fb, fs, he, hs, hr⟩
  refine ⟨bb, he, poolX_in (p := p) (cap := cap) hF ?_, hr⟩
  have h0 : gn m c 0 = 0 := gn_low (by omega)
  have h2 := hs.perm (show _ = bufO bb bp m c fb none 0 (gn m c 0) 0 0 fs [] * (pool bp q m c held used (opn + 1) p cap F * R) by rw [h0]; ac_rfl)
  exact (bufX_in (data := []) (til := 0) rfl (by rw [h0, cl_low (by omega) (by omega)]; rfl) (fun i hi => by simp at hi) h2).perm (by ac_rfl)
theorem xheld (bp q m c held used opn tot : Nat) (R : Hp) (w : World) (H : Sat w (poolX bp q m c held used opn tot * R)) : Calls Try.prog 11 #[.pointer (some ⟨bp, 0, none⟩)] w fun e w' => e = .returned (.int .i64 held) ∧ w = w' :=
  held_calls w bp held (poolX_cells H).1
theorem xchunks (bp q m c held used opn tot : Nat) (R : Hp) (w : World) (H : Sat w (poolX bp q m c held used opn tot * R)) : Calls Try.prog 12 #[.pointer (some ⟨bp, 0, none⟩)] w fun e w' => e = .returned (.int .i64 used) ∧ w = w' :=
  chunks_calls w bp used (poolX_cells H).2.1
theorem xbuffers (bp q m c held used opn tot : Nat) (R : Hp) (w : World) (H : Sat w (poolX bp q m c held used opn tot * R)) : Calls Try.prog 26 #[.pointer (some ⟨bp, 0, none⟩)] w fun e w' => e = .returned (.int .i64 opn) ∧ w = w' :=
  buffers_calls w bp opn (poolX_cells H).2.2
theorem xlen (bb bp m c frm : Nat) (data : List UInt8) (R : Hp) (w : World) (hf : frm + data.length ≤ 1000000000) (H : Sat w (bufX bb bp m c frm data * R)) : Calls Try.prog 22 #[.pointer (some ⟨bb, 0, none⟩)] w fun e w' => e = .returned (.int .i64 data.length) ∧ ∃ n, w' = w.drewN n := by
  obtain ⟨h1, h2, h3⟩ := bufX_cells H
  refine (len_open w bb frm (frm + data.length) h1 h2 h3 (by omega) (by omega)).mono ?_
  rintro e w' ⟨rfl, h⟩
  refine ⟨?_, h⟩
  rw [show (((frm + data.length : Nat) : Int) - frm) = (data.length : Int) by omega]

set_option maxRecDepth 100000 in
set_option maxHeartbeats 4000000 in
/-- The chapter's example. -/
theorem awake_calls (w : World) (R : Hp) (H : Sat w R) : Calls Try.prog 8 #[] w fun e w' => e = .returned (.bool true) ∧ Sat w' R ∧ Ran w w' := by
  go_enter Try.func8, Try.ntmps8
  go_wp2_with fail
  refine (xnew 10 2 3 _ R H (by omega) (by omega) (by omega) (by omega)).mono ?_
  rintro e w1 ⟨bp, rfl, H1, R1⟩
  go_wp2_with fail
  refine (xopen bp 10 2 3 0 0 0 0 R _ (by omega) (by omega) (by omega) H1).mono ?_
  rintro e w2 ⟨bb, rfl, H2, R2⟩
  go_wp2_with fail
  refine (append_loop bp bb 10 2 3 0 0 1 0 0 [] [97, 98, 99, 100, 101, 102, 103, 104] R _ (by omega) (by omega) (by omega) (by omega) (by decide) (by decide) (by omega) (by omega) H2).mono ?_
  rintro e w3 ⟨rfl, H3', R3⟩
  have H3 : Sat w3 (poolX bp 10 2 3 8 2 1 8 * (bufX bb bp 2 3 0 [97, 98, 99, 100, 101, 102, 103, 104] * R)) := H3'
  clear H3'
  go_wp2_with fail
  refine (xchunks bp 10 2 3 8 2 1 8 _ _ H3).mono ?_
  rintro e w' ⟨rfl, rfl⟩
  go_wp2_with fail
  refine (drain_calls bp bb 10 2 3 8 0 1 8 0 8 5 5 [97, 98, 99, 100, 101, 102, 103, 104] R _ (by omega) (by omega) (by omega) (by omega) (by decide) (by decide) (by omega) (by omega) (by omega) rfl rfl H3).mono ?_
  rintro e w4 ⟨rfl, H4', R4⟩
  have H4 : Sat w4 (poolX bp 10 2 3 3 1 1 8 * (bufX bb bp 2 3 5 [102, 103, 104] * R)) := H4'
  clear H4'
  go_wp2_with fail
  refine (xchunks bp 10 2 3 3 1 1 8 _ _ H4).mono ?_
  rintro e w' ⟨rfl, rfl⟩
  go_wp2_with fail
  refine (append_full bp bb 10 2 3 3 1 1 8 5 [102, 103, 104] _ R _ (by omega) (by decide) (by omega) H4).mono ?_
  rintro e w5 ⟨rfl, n5, rfl⟩
  go_wp2_with fail
  refine (append_loop bp bb 10 2 3 3 0 1 8 5 [102, 103, 104] [105] R _ (by omega) (by omega) (by omega) (by omega) (by decide) (by decide) (by omega) (by omega) (H4.drewN _)).mono ?_
  rintro e w6 ⟨rfl, H6', R6⟩
  have H6 : Sat w6 (poolX bp 10 2 3 4 2 1 9 * (bufX bb bp 2 3 5 [102, 103, 104, 105] * R)) := H6'
  clear H6'
  go_wp2_with fail
  refine (drain_calls bp bb 10 2 3 4 0 1 9 5 9 9 4 [102, 103, 104, 105] R _ (by omega) (by omega) (by omega) (by omega) (by decide) (by decide) (by omega) (by omega) (by omega) rfl rfl H6).mono ?_
  rintro e w7 ⟨rfl, H7', R7⟩
  have H7 : Sat w7 (poolX bp 10 2 3 0 1 1 9 * (bufX bb bp 2 3 9 [] * R)) := H7'
  clear H7'
  go_wp2_with fail
  refine (xchunks bp 10 2 3 0 1 1 9 _ _ H7).mono ?_
  rintro e w' ⟨rfl, rfl⟩
  go_wp2_with fail
  refine (close_calls bp bb 10 2 3 0 0 0 9 9 [] R _ (by omega) (by omega) (by decide) (by decide) (by omega) (by omega) (by omega) H7).mono ?_
  rintro e w8 ⟨rfl, H8', R8⟩
  have H8 : Sat w8 (poolX bp 10 2 3 0 0 0 9 * (closedB bb bp * R)) := H8'
  clear H8'
  go_wp2_with fail
  refine (xchunks bp 10 2 3 0 0 0 9 _ _ H8).mono ?_
  rintro e w' ⟨rfl, rfl⟩
  go_wp2_with fail
  refine (xbuffers bp 10 2 3 0 0 0 9 _ _ H8).mono ?_
  rintro e w' ⟨rfl, rfl⟩
  go_wp2_with fail
  go_ret
  exact ⟨rfl, H8.right.right, ((((Ran.drewN (((R1.trans R2).trans R3).trans R4) n5).trans R6).trans R7).trans R8)⟩
end Go.Proofs.Ytgaeafhkepfgjaa.Spill
