/- HandlesPlays, part 12 of 18: the texts NdY NdZ, joined by a program. -/
import Derived.Test.YteienbdbhnikbaaGreatDoorPn10
namespace Go.Proofs.YteienbdbhnikbaaGreatDoor.Hd
open Go.RowKit Go.Maps Go.Proofs.YteienbdbhnikbaaGreatDoor Go.Proofs.YteienbdbhnikbaaGreatDoor.Hp
set_option linter.unusedVariables false
attribute [local go_sem] Oper.semAt_some

def namesOf (F : Fs) (k : Int) : Int := match find F.L k with
  | none => 0
  | some x => x.names
def placeQ (F : Fs) (dir : Int) (part : ByteArray) (st : Bool) (er k : Int) : Int × ByteArray × Int :=
  if er ≠ 0 then (0, ⟨#[]⟩, er)
  else if dir ≠ 1 ∧ namesOf F dir = 0 then (0, ⟨#[]⟩, 10)
  else if part.size = 0 ∨ part = dotB ∨ part = dotsB then (0, ⟨#[]⟩, 11)
  else if (stepP F dir part).2 = 0 then (0, ⟨#[]⟩, 11)
  else if (stepP F dir part).2 ≠ 10 then (0, ⟨#[]⟩, (stepP F dir part).2)
  else if st = true ∧ k ≠ 1 then (0, ⟨#[]⟩, 12)
  else (dir, part, 0)
/-- Where a new name may stand. -/
def placeP (F : Fs) (d : Int) (s : ByteArray) (k : Int) : Int × ByteArray × Int := placeQ F (lastP F d s).1 (lastP F d s).2.1 (lastP F d s).2.2.1 (lastP F d s).2.2.2 k
set_option maxRecDepth 100000 in
set_option maxHeartbeats 8000000 in
theorem placeN_calls (fb mb N : Nat) (F : Fs) (hT : TreeG N F) (hN : N ≤ 1000000) (d : Int) (s : ByteArray) (k : Int) (w : World) (R : Hp) (hd : I64 d) (hs : s.size ≤ 1000000) (hG : Glob R) (h : Sat w (fsHp fb mb F * R)) :
    Calls Tryz.prog 67 #[pp fb, .int .i64 d, .string s, .int .i64 k] w fun e w' => (e = .returned (.tuple #[.int .i64 (placeP F d s k).1, .string (placeP F d s k).2.1, .int .i64 (placeP F d s k).2.2]) ∧ Sat w' (fsHp fb mb F * R)) ∧ Ran w w' := by
  have HL := lastN_calls fb mb F (hT.ok hN) hT.nums d s w R hd hs hG h
  have hps := last_part F d s
  have hin := @TreeG.last_in N F hT d s
  have hi := last_i64 hT.nums hd s
  unfold placeP
  obtain ⟨dir, hdir⟩ : ∃ x, x = (lastP F d s).1 := ⟨_, rfl⟩
  obtain ⟨part, hpart⟩ : ∃ x, x = (lastP F d s).2.1 := ⟨_, rfl⟩
  obtain ⟨st, hst⟩ : ∃ x, x = (lastP F d s).2.2.1 := ⟨_, rfl⟩
  obtain ⟨er, her⟩ : ∃ x, x = (lastP F d s).2.2.2 := ⟨_, rfl⟩
  rw [← hdir, ← hpart, ← hst, ← her] at HL ⊢
  rw [← hdir, ← her] at hin
  rw [← hdir] at hi
  rw [← hpart] at hps
  clear hdir hpart hst her h hd hG hN hT
  unfold placeQ
  by_cases hz : er ≠ 0
  · rw [if_pos hz]
    have HL := Lib.hid HL
    clear hin hi hps
    go_enter Tryz.func67, Tryz.ntmps67
    go_wp2_with fail
    refine HL.out.mono ?_
    rintro e w1 ⟨⟨rfl, S1⟩, R1⟩
    have S1 := Lib.hid S1
    have R1 := Lib.hid R1
    go_wp2_with fail
    refine bodyPost_ret (v := .tuple #[.int .i64 0, .string ⟨#[]⟩, .int .i64 er]) (by simp [results, Tryz.results67, go_sem]) rfl ?_
    exact ⟨⟨rfl, S1.out⟩, R1.out⟩
  have hz : er = 0 := by simpa using hz
  subst hz
  rw [if_neg (fun h => h rfl)]
  obtain ⟨y, hy⟩ := hin rfl
  have HL := Lib.hid HL
  have hps : part.size ≤ 1000000 := Nat.le_trans hps hs
  have HS0 := fun (W : World) (hW : Sat W (fsHp fb mb F * R)) => stepN_calls fb mb F dir part hi hps W R hW
  unfold namesOf
  rw [hy]
  dsimp only
  obtain ⟨n, hn⟩ : ∃ x, x = (stepP F dir part).1 := ⟨_, rfl⟩
  obtain ⟨q, hq⟩ : ∃ x, x = (stepP F dir part).2 := ⟨_, rfl⟩
  rw [← hn, ← hq] at HS0
  rw [← hq]
  have HS := Lib.hid HS0
  clear hn hq HS0 hin hs
  have Hy := Lib.hid hy
  have Hi := Lib.hid hi
  clear hy hi
  by_cases hd1 : dir = 1
  · subst hd1
    rw [if_neg (fun h => h.1 rfl)]
    clear Hy Hi
    by_cases hp0 : part = ⟨#[]⟩
    · subst hp0
      rw [if_pos (Or.inl (show (⟨#[]⟩ : ByteArray).size = 0 from rfl))]
      clear HS hps
      go_enter Tryz.func67, Tryz.ntmps67
      go_wp2_with fail
      refine HL.out.mono ?_
      rintro e w1 ⟨⟨rfl, S1⟩, R1⟩
      have S1 := Lib.hid S1
      have R1 := Lib.hid R1
      go_wp2_with fail
      refine bodyPost_ret (v := .tuple #[.int .i64 0, .string ⟨#[]⟩, .int .i64 11]) (by simp [results, Tryz.results67, go_sem]) rfl ?_
      exact ⟨⟨rfl, S1.out⟩, R1.out⟩
    by_cases hp1 : part = dotB
    · subst hp1
      rw [if_pos (Or.inr (Or.inl rfl))]
      clear HS hps
      go_enter Tryz.func67, Tryz.ntmps67
      go_wp2_with fail
      refine HL.out.mono ?_
      rintro e w1 ⟨⟨rfl, S1⟩, R1⟩
      have S1 := Lib.hid S1
      have R1 := Lib.hid R1
      go_wp2_with fail
      refine bodyPost_ret (v := .tuple #[.int .i64 0, .string ⟨#[]⟩, .int .i64 11]) (by simp [results, Tryz.results67, go_sem]) rfl ?_
      exact ⟨⟨rfl, S1.out⟩, R1.out⟩
    by_cases hp2 : part = dotsB
    · subst hp2
      rw [if_pos (Or.inr (Or.inr rfl))]
      clear HS hps
      go_enter Tryz.func67, Tryz.ntmps67
      go_wp2_with fail
      refine HL.out.mono ?_
      rintro e w1 ⟨⟨rfl, S1⟩, R1⟩
      have S1 := Lib.hid S1
      have R1 := Lib.hid R1
      go_wp2_with fail
      refine bodyPost_ret (v := .tuple #[.int .i64 0, .string ⟨#[]⟩, .int .i64 11]) (by simp [results, Tryz.results67, go_sem]) rfl ?_
      exact ⟨⟨rfl, S1.out⟩, R1.out⟩
    rw [if_neg (fun h => h.elim (fun e => hp0 (ba_nil e)) fun h => h.elim hp1 hp2)]
    have e0 := ba_ne hp0
    have e1 := ba_ne hp1
    have e2 := ba_ne hp2
    rw [show (ByteArray.toList ⟨#[]⟩) = ([] : List UInt8) by rw [ByteArray.toList_eq]] at e0
    rw [show (ByteArray.toList dotB) = ([46] : List UInt8) by rw [ByteArray.toList_eq]] at e1
    rw [show (ByteArray.toList dotsB) = ([46, 46] : List UInt8) by rw [ByteArray.toList_eq]] at e2
    clear hp0 hp1 hp2
    by_cases hq0 : q = 0
    · subst hq0
      rw [if_pos rfl]
      go_enter Tryz.func67, Tryz.ntmps67
      go_wp2_with fail
      refine HL.out.mono ?_
      rintro e w1 ⟨⟨rfl, S1⟩, R1⟩
      have S1 := Lib.hid S1
      have R1 := Lib.hid R1
      go_wp2_with fail
      refine (HS.out w1 S1.out).mono ?_
      rintro e w2 ⟨rfl, rfl⟩
      go_wp2_with fail
      refine bodyPost_ret (v := .tuple #[.int .i64 0, .string ⟨#[]⟩, .int .i64 11]) (by simp [results, Tryz.results67, go_sem]) rfl ?_
      exact ⟨⟨rfl, S1.out⟩, R1.out⟩
    rw [if_neg hq0]
    by_cases hq1 : q = 10
    case neg =>
      rw [if_pos hq1]
      go_enter Tryz.func67, Tryz.ntmps67
      go_wp2_with fail
      refine HL.out.mono ?_
      rintro e w1 ⟨⟨rfl, S1⟩, R1⟩
      have S1 := Lib.hid S1
      have R1 := Lib.hid R1
      go_wp2_with fail
      refine (HS.out w1 S1.out).mono ?_
      rintro e w2 ⟨rfl, rfl⟩
      go_wp2_with fail
      refine bodyPost_ret (v := .tuple #[.int .i64 0, .string ⟨#[]⟩, .int .i64 q]) (by simp [results, Tryz.results67, go_sem]) rfl ?_
      exact ⟨⟨rfl, S1.out⟩, R1.out⟩
    subst hq1
    rw [if_neg (fun h => h rfl)]
    cases st with
    | false =>
      rw [if_neg (fun h => by cases h.1)]
      go_enter Tryz.func67, Tryz.ntmps67
      go_wp2_with fail
      refine HL.out.mono ?_
      rintro e w1 ⟨⟨rfl, S1⟩, R1⟩
      have S1 := Lib.hid S1
      have R1 := Lib.hid R1
      go_wp2_with fail
      refine (HS.out w1 S1.out).mono ?_
      rintro e w2 ⟨rfl, rfl⟩
      go_wp2_with fail
      refine bodyPost_ret (v := .tuple #[.int .i64 1, .string part, .int .i64 0]) (by simp [results, Tryz.results67, go_sem]) rfl ?_
      exact ⟨⟨rfl, S1.out⟩, R1.out⟩
    | true =>
      by_cases hk : k = 1
      · subst hk
        rw [if_neg (fun h => h.2 rfl)]
        go_enter Tryz.func67, Tryz.ntmps67
        go_wp2_with fail
        refine HL.out.mono ?_
        rintro e w1 ⟨⟨rfl, S1⟩, R1⟩
        have S1 := Lib.hid S1
        have R1 := Lib.hid R1
        go_wp2_with fail
        refine (HS.out w1 S1.out).mono ?_
        rintro e w2 ⟨rfl, rfl⟩
        go_wp2_with fail
        refine bodyPost_ret (v := .tuple #[.int .i64 1, .string part, .int .i64 0]) (by simp [results, Tryz.results67, go_sem]) rfl ?_
        exact ⟨⟨rfl, S1.out⟩, R1.out⟩
      · rw [if_pos ⟨rfl, hk⟩]
        go_enter Tryz.func67, Tryz.ntmps67
        go_wp2_with fail
        refine HL.out.mono ?_
        rintro e w1 ⟨⟨rfl, S1⟩, R1⟩
        have S1 := Lib.hid S1
        have R1 := Lib.hid R1
        go_wp2_with fail
        refine (HS.out w1 S1.out).mono ?_
        rintro e w2 ⟨rfl, rfl⟩
        go_wp2_with fail
        refine bodyPost_ret (v := .tuple #[.int .i64 0, .string ⟨#[]⟩, .int .i64 12]) (by simp [results, Tryz.results67, go_sem]) rfl ?_
        exact ⟨⟨rfl, S1.out⟩, R1.out⟩
  · have hd1b : (dir == 1) = false := by simpa using hd1
    by_cases hn0 : y.names = 0
    · rw [if_pos ⟨hd1, hn0⟩]
      have hn0b : (y.names == 0) = true := by simpa using hn0
      clear HS hps
      go_enter Tryz.func67, Tryz.ntmps67
      go_wp2_with fail
      refine HL.out.mono ?_
      rintro e w1 ⟨⟨rfl, S1⟩, R1⟩
      obtain ⟨c0, c1, c2, c3⟩ := fs_cells S1
      have hl := fs_look S1 dir Hi.out
      rw [show blk F.L dir = some y.b by unfold blk; rw [Hy.out]; rfl] at hl
      unfold pv at hl
      obtain ⟨d0, d1, d2, d3, d4, d5⟩ := fs_at S1 Hy.out
      rw [hn0] at d4
      have S1 := Lib.hid S1
      have R1 := Lib.hid R1
      go_wp2_with fail
      refine bodyPost_ret (v := .tuple #[.int .i64 0, .string ⟨#[]⟩, .int .i64 10]) (by simp [results, Tryz.results67, go_sem]) rfl ?_
      exact ⟨⟨rfl, S1.out⟩, R1.out⟩
    · rw [if_neg (fun h => hn0 h.2)]
      have hn0b : (y.names == 0) = false := by simpa using hn0
      by_cases hp0 : part = ⟨#[]⟩
      · subst hp0
        rw [if_pos (Or.inl (show (⟨#[]⟩ : ByteArray).size = 0 from rfl))]
        clear HS hps
        go_enter Tryz.func67, Tryz.ntmps67
        go_wp2_with fail
        refine HL.out.mono ?_
        rintro e w1 ⟨⟨rfl, S1⟩, R1⟩
        obtain ⟨c0, c1, c2, c3⟩ := fs_cells S1
        have hl := fs_look S1 dir Hi.out
        rw [show blk F.L dir = some y.b by unfold blk; rw [Hy.out]; rfl] at hl
        unfold pv at hl
        obtain ⟨d0, d1, d2, d3, d4, d5⟩ := fs_at S1 Hy.out
        have S1 := Lib.hid S1
        have R1 := Lib.hid R1
        go_wp2_with fail
        refine bodyPost_ret (v := .tuple #[.int .i64 0, .string ⟨#[]⟩, .int .i64 11]) (by simp [results, Tryz.results67, go_sem]) rfl ?_
        exact ⟨⟨rfl, S1.out⟩, R1.out⟩
      by_cases hp1 : part = dotB
      · subst hp1
        rw [if_pos (Or.inr (Or.inl rfl))]
        clear HS hps
        go_enter Tryz.func67, Tryz.ntmps67
        go_wp2_with fail
        refine HL.out.mono ?_
        rintro e w1 ⟨⟨rfl, S1⟩, R1⟩
        obtain ⟨c0, c1, c2, c3⟩ := fs_cells S1
        have hl := fs_look S1 dir Hi.out
        rw [show blk F.L dir = some y.b by unfold blk; rw [Hy.out]; rfl] at hl
        unfold pv at hl
        obtain ⟨d0, d1, d2, d3, d4, d5⟩ := fs_at S1 Hy.out
        have S1 := Lib.hid S1
        have R1 := Lib.hid R1
        go_wp2_with fail
        refine bodyPost_ret (v := .tuple #[.int .i64 0, .string ⟨#[]⟩, .int .i64 11]) (by simp [results, Tryz.results67, go_sem]) rfl ?_
        exact ⟨⟨rfl, S1.out⟩, R1.out⟩
      by_cases hp2 : part = dotsB
      · subst hp2
        rw [if_pos (Or.inr (Or.inr rfl))]
        clear HS hps
        go_enter Tryz.func67, Tryz.ntmps67
        go_wp2_with fail
        refine HL.out.mono ?_
        rintro e w1 ⟨⟨rfl, S1⟩, R1⟩
        obtain ⟨c0, c1, c2, c3⟩ := fs_cells S1
        have hl := fs_look S1 dir Hi.out
        rw [show blk F.L dir = some y.b by unfold blk; rw [Hy.out]; rfl] at hl
        unfold pv at hl
        obtain ⟨d0, d1, d2, d3, d4, d5⟩ := fs_at S1 Hy.out
        have S1 := Lib.hid S1
        have R1 := Lib.hid R1
        go_wp2_with fail
        refine bodyPost_ret (v := .tuple #[.int .i64 0, .string ⟨#[]⟩, .int .i64 11]) (by simp [results, Tryz.results67, go_sem]) rfl ?_
        exact ⟨⟨rfl, S1.out⟩, R1.out⟩
      rw [if_neg (fun h => h.elim (fun e => hp0 (ba_nil e)) fun h => h.elim hp1 hp2)]
      have e0 := ba_ne hp0
      have e1 := ba_ne hp1
      have e2 := ba_ne hp2
      rw [show (ByteArray.toList ⟨#[]⟩) = ([] : List UInt8) by rw [ByteArray.toList_eq]] at e0
      rw [show (ByteArray.toList dotB) = ([46] : List UInt8) by rw [ByteArray.toList_eq]] at e1
      rw [show (ByteArray.toList dotsB) = ([46, 46] : List UInt8) by rw [ByteArray.toList_eq]] at e2
      clear hp0 hp1 hp2
      by_cases hq0 : q = 0
      · subst hq0
        rw [if_pos rfl]
        go_enter Tryz.func67, Tryz.ntmps67
        go_wp2_with fail
        refine HL.out.mono ?_
        rintro e w1 ⟨⟨rfl, S1⟩, R1⟩
        obtain ⟨c0, c1, c2, c3⟩ := fs_cells S1
        have hl := fs_look S1 dir Hi.out
        rw [show blk F.L dir = some y.b by unfold blk; rw [Hy.out]; rfl] at hl
        unfold pv at hl
        obtain ⟨d0, d1, d2, d3, d4, d5⟩ := fs_at S1 Hy.out
        have S1 := Lib.hid S1
        have R1 := Lib.hid R1
        go_wp2_with fail
        refine (HS.out w1 S1.out).mono ?_
        rintro e w2 ⟨rfl, rfl⟩
        go_wp2_with fail
        refine bodyPost_ret (v := .tuple #[.int .i64 0, .string ⟨#[]⟩, .int .i64 11]) (by simp [results, Tryz.results67, go_sem]) rfl ?_
        exact ⟨⟨rfl, S1.out⟩, R1.out⟩
      rw [if_neg hq0]
      by_cases hq1 : q = 10
      case neg =>
        rw [if_pos hq1]
        go_enter Tryz.func67, Tryz.ntmps67
        go_wp2_with fail
        refine HL.out.mono ?_
        rintro e w1 ⟨⟨rfl, S1⟩, R1⟩
        obtain ⟨c0, c1, c2, c3⟩ := fs_cells S1
        have hl := fs_look S1 dir Hi.out
        rw [show blk F.L dir = some y.b by unfold blk; rw [Hy.out]; rfl] at hl
        unfold pv at hl
        obtain ⟨d0, d1, d2, d3, d4, d5⟩ := fs_at S1 Hy.out
        have S1 := Lib.hid S1
        have R1 := Lib.hid R1
        go_wp2_with fail
        refine (HS.out w1 S1.out).mono ?_
        rintro e w2 ⟨rfl, rfl⟩
        go_wp2_with fail
        refine bodyPost_ret (v := .tuple #[.int .i64 0, .string ⟨#[]⟩, .int .i64 q]) (by simp [results, Tryz.results67, go_sem]) rfl ?_
        exact ⟨⟨rfl, S1.out⟩, R1.out⟩
      subst hq1
      rw [if_neg (fun h => h rfl)]
      cases st with
      | false =>
        rw [if_neg (fun h => by cases h.1)]
        go_enter Tryz.func67, Tryz.ntmps67
        go_wp2_with fail
        refine HL.out.mono ?_
        rintro e w1 ⟨⟨rfl, S1⟩, R1⟩
        obtain ⟨c0, c1, c2, c3⟩ := fs_cells S1
        have hl := fs_look S1 dir Hi.out
        rw [show blk F.L dir = some y.b by unfold blk; rw [Hy.out]; rfl] at hl
        unfold pv at hl
        obtain ⟨d0, d1, d2, d3, d4, d5⟩ := fs_at S1 Hy.out
        have S1 := Lib.hid S1
        have R1 := Lib.hid R1
        go_wp2_with fail
        refine (HS.out w1 S1.out).mono ?_
        rintro e w2 ⟨rfl, rfl⟩
        go_wp2_with fail
        refine bodyPost_ret (v := .tuple #[.int .i64 dir, .string part, .int .i64 0]) (by simp [results, Tryz.results67, go_sem]) rfl ?_
        exact ⟨⟨rfl, S1.out⟩, R1.out⟩
      | true =>
        by_cases hk : k = 1
        · subst hk
          rw [if_neg (fun h => h.2 rfl)]
          go_enter Tryz.func67, Tryz.ntmps67
          go_wp2_with fail
          refine HL.out.mono ?_
          rintro e w1 ⟨⟨rfl, S1⟩, R1⟩
          obtain ⟨c0, c1, c2, c3⟩ := fs_cells S1
          have hl := fs_look S1 dir Hi.out
          rw [show blk F.L dir = some y.b by unfold blk; rw [Hy.out]; rfl] at hl
          unfold pv at hl
          obtain ⟨d0, d1, d2, d3, d4, d5⟩ := fs_at S1 Hy.out
          have S1 := Lib.hid S1
          have R1 := Lib.hid R1
          go_wp2_with fail
          refine (HS.out w1 S1.out).mono ?_
          rintro e w2 ⟨rfl, rfl⟩
          go_wp2_with fail
          refine bodyPost_ret (v := .tuple #[.int .i64 dir, .string part, .int .i64 0]) (by simp [results, Tryz.results67, go_sem]) rfl ?_
          exact ⟨⟨rfl, S1.out⟩, R1.out⟩
        · rw [if_pos ⟨rfl, hk⟩]
          go_enter Tryz.func67, Tryz.ntmps67
          go_wp2_with fail
          refine HL.out.mono ?_
          rintro e w1 ⟨⟨rfl, S1⟩, R1⟩
          obtain ⟨c0, c1, c2, c3⟩ := fs_cells S1
          have hl := fs_look S1 dir Hi.out
          rw [show blk F.L dir = some y.b by unfold blk; rw [Hy.out]; rfl] at hl
          unfold pv at hl
          obtain ⟨d0, d1, d2, d3, d4, d5⟩ := fs_at S1 Hy.out
          have S1 := Lib.hid S1
          have R1 := Lib.hid R1
          go_wp2_with fail
          refine (HS.out w1 S1.out).mono ?_
          rintro e w2 ⟨rfl, rfl⟩
          go_wp2_with fail
          refine bodyPost_ret (v := .tuple #[.int .i64 0, .string ⟨#[]⟩, .int .i64 12]) (by simp [results, Tryz.results67, go_sem]) rfl ?_
          exact ⟨⟨rfl, S1.out⟩, R1.out⟩
end Go.Proofs.YteienbdbhnikbaaGreatDoor.Hd

namespace Go.Proofs.YteienbdbhnikbaaGreatDoor.Hd
open Go.RowKit Go.Maps Go.Proofs.YteienbdbhnikbaaGreatDoor Go.Proofs.YteienbdbhnikbaaGreatDoor.Hp
set_option linter.unusedVariables false
attribute [local go_sem] Oper.semAt_some

structure MakeOkG (F : Fs) (d : Int) (x : Nd) (kd : Kd) (s : ByteArray) (g : Nat) (t : ByteArray) : Prop where
  root : find F.L d = some x
  kind : x.kind = 1
  kids : x.kids = some kd
  new : kd.M s = none
  kn : kd.n ≤ 1000000
  free : FreeN F.L g
  n : F.n ≤ 1000000
  most : (F.L.length : Int) < F.most
  small : t.size ≤ 4096
  room : (t.size : Int) ≤ F.room - F.used
  used : 0 ≤ F.used ∧ F.used ≤ 1000000000
  rm : 0 ≤ F.room ∧ F.room ≤ 1000000000
/-- What the node's making leaves. -/
theorem made_satG {fb mb nb : Nat} {F : Fs} {d : Int} {x : Nd} {kd : Kd} {s : ByteArray} {g : Nat} {t : ByteArray} {y : Nd} (hb : y.b = nb) (ht : y.text = t) (ok : MakeOkG F d x kd s g t) {X : Hp} (hX2 : ∀ x', nds (upd F.L d x') = ndHp x' * X) {w : World} {R : Hp}
    (h : Sat w (pts fb (fsO { F with used := F.used + (t.size : Int) } mb) * (K.smap kd.b (K.putM kd.M s (g : Int)) (kd.sz + 1) (kd.n + 1) * (pmap mb (putP (blk F.L) (g : Int) nb) (F.L.length + 1) (F.n + 1) * (ndHp y * (pts x.b (ndO x) * (X * R))))))) :
    Sat w (fsHp fb mb (madeG F d x kd s g y) * R) := by
  refine h.perm ?_
  unfold fsHp madeG
  dsimp only
  rw [blk_cons, hb, blk_upd F.L d x { x with kids := some { kd with M := K.putM kd.M s (g : Int), sz := kd.sz + 1, n := kd.n + 1 } } ok.root rfl, List.length_cons, upd_len]
  show _ = pts fb (fsO { F with used := F.used + (y.text.size : Int) } mb) * (pmap mb (putP (blk F.L) (g : Int) nb) (F.L.length + 1) (F.n + 1) * (ndHp y * nds (upd F.L d { x with kids := some { kd with M := K.putM kd.M s (g : Int), sz := kd.sz + 1, n := kd.n + 1 } }))) * R
  rw [hX2, ht]
  have e : ndHp { x with kids := some { kd with M := K.putM kd.M s (g : Int), sz := kd.sz + 1, n := kd.n + 1 } } = pts x.b (ndO x) * K.smap kd.b (K.putM kd.M s (g : Int)) (kd.sz + 1) (kd.n + 1) := by
    unfold ndHp ndO
    dsimp only
    rw [ok.kids]
    rfl
  rw [e]
  ac_rfl
set_option maxRecDepth 100000 in
set_option maxHeartbeats 8000000 in
theorem MakeG_calls (fb mb : Nat) (F : Fs) (d0 : Int) (p : ByteArray) (d : Int) (x : Nd) (kd : Kd) (s : ByteArray) (g : Nat) (t : ByteArray) (k : Int) (hdi : I64 d) (hss : s.size ≤ 1000000) (hk : k = 2 ∨ k = 3) (ok : MakeOkG F d x kd s g t) (w : World) (R : Hp)
    (HP0 : Calls Tryz.prog 67 #[pp fb, .int .i64 d0, .string p, .int .i64 k] w fun e w' => (e = .returned (.tuple #[.int .i64 d, .string s, .int .i64 0]) ∧ Sat w' (fsHp fb mb F * R)) ∧ Ran w w') :
    Calls Tryz.prog 33 #[pp fb, .int .i64 d0, .string p, .int .i64 k, .string t] w fun e w' => (e = .returned (.tuple #[.int .i64 (g : Int), .int .i64 0]) ∧ ∃ nb, Sat w' (fsHp fb mb (madeG F d x kd s g ⟨nb, k, t, none, 0, 1, 0⟩) * R)) ∧ Ran w w' := by
  have HP := Lib.hid HP0
  have Hdi := Lib.hid hdi
  have Ok := Lib.hid ok
  have hts : (t.size : Int) ≤ 4096 := by have := ok.small; omega
  have hk1 : (1 : Int) ≤ k := by omega
  have hk3 : k ≤ 3 := by omega
  have hkn : ¬ k = 1 := by omega
  have hkb : (k == 1) = false := by simp [hkn]
  clear HP0 ok hdi
  go_enter Tryz.func33, Tryz.ntmps33
  go_wp2_with fail
  refine HP.out.mono ?_
  rintro e w1 ⟨⟨rfl, S1⟩, R1⟩
  have S1 := S1.drew
  have R1 := Lib.hid (Ran.drewN R1 1)
  obtain ⟨c0, c1, c2, c3⟩ := fs_cells S1
  have hln := pmap_len Tryz.underlying113 (S1.perm (show _ = pmap mb (blk F.L) F.L.length F.n * (pts fb (fsO F mb) * nds F.L * R) by unfold fsHp; ac_rfl))
  obtain ⟨o1, o2, o3, o4, o5, o6⟩ := And.intro Ok.out.most (And.intro Ok.out.room (And.intro Ok.out.used.1 (And.intro Ok.out.used.2 (And.intro Ok.out.rm.1 Ok.out.rm.2))))
  have hwr : IntKind.i64.wrap (F.room - F.used) = F.room - F.used := IntWalk.i64_in _ (by omega)
  have hle1 : ¬ F.most ≤ (F.L.length : Int) := by omega
  have hle2 : decide (F.most ≤ (F.L.length : Int)) = false := decide_eq_false hle1
  have hle3 : ¬ F.room - F.used < (t.size : Int) := by omega
  have hle4 : decide (F.room - F.used < (t.size : Int)) = false := decide_eq_false hle3
  have S1 := Lib.hid S1
  clear HP
  go_wp2_with fail
  refine region_plan (S := (fun w' => w'.cell? ⟨fb, 0, none⟩ = some (.int .i64 F.most) ∧ w'.cell? ⟨fb, 1, none⟩ = some (.int .i64 F.room) ∧ w'.cell? ⟨fb, 2, none⟩ = some (.int .i64 F.used) ∧ w'.cell? ⟨fb, 3, none⟩ = some (.map (some mb)) ∧ ∀ ty, (Builtin.len_ #[113] ty #[.map (some mb)]).run Tryz.prog w' = .ok (.int .i64 (F.L.length : Int)) w')) [(0, true), (1, true), (2, true), (3, true), (4, true), (5, true), (6, true), (7, true), (8, true), (9, true), (10, true), (11, true), (12, true), (13, true), (14, true), (15, true), (16, true), (17, true), (18, true), (19, true), (20, true), (21, true), (22, true), (23, true), (24, true)] (by kernel_rfl) (by kernel_rfl) (by kernel_rfl) ?_ ?_
  · ((try dsimp only); (first | done | (exact ⟨c0, c1, c2, c3, hln⟩)))
  simp only [planOps, List.map_cons, List.map_nil, List.getElem?_toArray, List.getElem?_cons_zero, List.getElem?_cons_succ]
  repeat (first
    | ((refine plan_yes (v := ?_) (by rfl) ?_ ?_); rotate_left; (focus (intro w hSw; (try dsimp only at hSw); go_simp; try (with_reducible rfl))); (try simp only [Act.put, List.setIfInBounds_toArray, List.set_cons_zero, List.set_cons_succ]))
    | ((refine plan_no (by rfl) ?_); (try simp only [Act.put, List.setIfInBounds_toArray, List.set_cons_zero, List.set_cons_succ]))
    | ((refine plan_step (fun K hK => ?_)); (first | (fail) | (go_simp; (fail); (try go_wp2_with fail)) | go_simp); (refine hK.out _ _ ?_ (fun hHeld => ?_)); (focus ((try dsimp only); (first | done | (exact ⟨c0, c1, c2, c3, hln⟩)))); clear hK K; (try simp only [Act.put, List.setIfInBounds_toArray, List.set_cons_zero, List.set_cons_succ])))
  refine plan_done ?_
  obtain ⟨w2, hw2⟩ : ∃ w2, w2 = w1.drew := ⟨_, rfl⟩
  have S1 := S1.out
  rw [← hw2] at S1 c0 c1 c2 c3 ⊢
  have R1 : Hid (Ran w w2) := Lib.hid (by rw [hw2]; exact R1.out)
  have HLk := Lib.hid (fun (k : Int) (hk : I64 k) => fs_look S1 k hk)
  have hLn : F.L.length ≤ 1000000 := Nat.le_trans (pmap_le (S1.perm (show _ = pmap mb (blk F.L) F.L.length F.n * (pts fb (fsO F mb) * nds F.L * R) by unfold fsHp; ac_rfl))) Ok.out.n
  have hg1 := Ok.out.free.pos
  have hg2 := Ok.out.free.le
  have hgI : (g : Int) ≤ 1000001 := by omega
  -- what comes
  obtain ⟨X, hX1, hX2⟩ := focus F.L d x Ok.out.root
  have hgn1 : (g : Int) ≠ d := fun e => by
    have := Ok.out.free.none
    rw [e, Ok.out.root] at this
    cases this
  have T1 := (S1.alloc (ndO ⟨w2.heap.size, k, t, none, 0, 1, 0⟩)).perm (show _ = pmap mb (blk F.L) F.L.length F.n * (pts w2.heap.size (ndO ⟨w2.heap.size, k, t, none, 0, 1, 0⟩) * (pts fb (fsO F mb) * (ndHp x * (X * R)))) by unfold fsHp; rw [hX1]; ac_rfl)
  obtain ⟨w3, hrun1, T2, R2⟩ := pmap_put Tryz.underlying113 T1 (by have := Ok.out.n; unfold maxLen; omega) (g : Int) (by unfold I64; omega) (by unfold blk; rw [Ok.out.free.none]; rfl) w2.heap.size
  have cm1 : (w2.alloc (ndO ⟨w2.heap.size, k, t, none, 0, 1, 0⟩)).cell? ⟨fb, 3, none⟩ = some (.map (some mb)) := by
    have := (T1.perm (show _ = pts fb (fsO F mb) * (pmap mb (blk F.L) F.L.length F.n * (pts w2.heap.size (ndO ⟨w2.heap.size, k, t, none, 0, 1, 0⟩) * (ndHp x * (X * R)))) by ac_rfl)).get
    rw [cell_at this]; rfl
  have T2f := T2.perm (show _ = pts fb (fsO F mb) * (pmap mb (putP (blk F.L) (g : Int) w2.heap.size) (F.L.length + 1) (F.n + 1) * (pts w2.heap.size (ndO ⟨w2.heap.size, k, t, none, 0, 1, 0⟩) * (ndHp x * (X * R)))) by ac_rfl)
  have cm2 : w3.cell? ⟨fb, 3, none⟩ = some (.map (some mb)) := by rw [cell_at T2f.get]; rfl
  have hl2 := pmap_look Tryz.underlying113 zeroNode T2 d Hdi.out
  rw [show putP (blk F.L) (g : Int) w2.heap.size d = some x.b by unfold putP; rw [if_neg (fun e => hgn1 e.symm)]; unfold blk; rw [Ok.out.root]; rfl] at hl2
  unfold pv at hl2
  have T2x := T2.perm (show _ = pts x.b (ndO x) * (kidsHp x.kids * (pts fb (fsO F mb) * (pmap mb (putP (blk F.L) (g : Int) w2.heap.size) (F.L.length + 1) (F.n + 1) * (pts w2.heap.size (ndO ⟨w2.heap.size, k, t, none, 0, 1, 0⟩) * (X * R))))) by unfold ndHp; ac_rfl)
  obtain ⟨-, -, d2, -⟩ := nd_cells T2x
  rw [Ok.out.kids] at d2
  unfold kv at d2
  dsimp only at d2
  have T2k := T2x.perm (show _ = K.smap kd.b kd.M kd.sz kd.n * (pts x.b (ndO x) * (pts fb (fsO F mb) * (pmap mb (putP (blk F.L) (g : Int) w2.heap.size) (F.L.length + 1) (F.n + 1) * (pts w2.heap.size (ndO ⟨w2.heap.size, k, t, none, 0, 1, 0⟩) * (X * R))))) by rw [Ok.out.kids]; show pts x.b (ndO x) * (K.smap kd.b kd.M kd.sz kd.n * _) = _; ac_rfl)
  obtain ⟨w4, hrun2, T3, R3⟩ := K.smap_put T2k (by have := Ok.out.kn; unfold maxLen; omega) (s) (by unfold maxLen; omega) Ok.out.new (g : Int) (by unfold I64; omega)
  have T3f := T3.perm (show _ = pts fb (fsO F mb) * (K.smap kd.b (K.putM kd.M (s) (g : Int)) (kd.sz + 1) (kd.n + 1) * (pts x.b (ndO x) * (pmap mb (putP (blk F.L) (g : Int) w2.heap.size) (F.L.length + 1) (F.n + 1) * (pts w2.heap.size (ndO ⟨w2.heap.size, k, t, none, 0, 1, 0⟩) * (X * R))))) by ac_rfl)
  have cu : w4.cell? ⟨fb, 2, none⟩ = some (.int .i64 F.used) := by rw [cell_at T3f.get]; rfl
  have f4 : ∀ i, w4.frozen? ⟨fb, i, none⟩ = false := fun i => free_at T3f.get i
  have T4 := T3f.set (i := 2) (.int .i64 (F.used + (t.size : Int)))
  have T5 := Lib.hid (made_satG (nb := w2.heap.size) (y := ⟨w2.heap.size, k, t, none, 0, 1, 0⟩) rfl rfl Ok.out hX2 (T4.perm (show pts fb (fsO { F with used := F.used + (t.size : Int) } mb) * _ = pts fb (fsO { F with used := F.used + (t.size : Int) } mb) * (K.smap kd.b (K.putM kd.M (s) (g : Int)) (kd.sz + 1) (kd.n + 1) * (pmap mb (putP (blk F.L) (g : Int) w2.heap.size) (F.L.length + 1) (F.n + 1) * (ndHp ⟨w2.heap.size, k, t, none, 0, 1, 0⟩ * (pts x.b (ndO x) * (X * R))))) by unfold ndHp kidsHp; dsimp only; rw [sep_emp]; ac_rfl)))
  have R5 := Lib.hid (Ran.set (Below.trans (Below.trans (Ran.new R1.out (ndO ⟨w2.heap.size, k, t, none, 0, 1, 0⟩)) R2) R3) ⟨fb, 2, none⟩ (.int .i64 (F.used + (t.size : Int))))
  unfold ndO kv at hrun1 cm1
  dsimp only at hrun1 cm1
  have hg1I : (1 : Int) ≤ (g : Int) := by omega
  clear S1 T1 T2 T2f T2x T2k T3 T3f T4 R2 R3 hX1 hX2 hw2 hln
  go_wp2_with fail
  go_loopg [15] (g - 1) (fun (gk : Nat) (v15 : Value) (wr : World) => ∃ i : Nat, v15 = .int .i64 (i : Int) ∧ 1 ≤ i ∧ i + gk = g ∧ w2 = wr)
  case atStart => exact ⟨1, rfl, Nat.le_refl _, by omega, rfl⟩
  case round =>
    obtain ⟨i, rfl, hi1, hig, rfl⟩ := hrel
    by_cases hlt : i < g
    · have hs := Ok.out.free.least i hi1 hlt
      obtain ⟨z, hz⟩ := Option.isSome_iff_exists.1 hs
      have hl := HLk.out (i : Int) (by unfold I64; omega)
      rw [show blk F.L (i : Int) = some z.b by unfold blk; rw [hz]; rfl] at hl
      unfold pv at hl
      have hiI : (i : Int) ≤ 1000001 := by omega
      have hi0 : (0 : Int) ≤ (i : Int) := by omega
      clear hs hz hrun1 hrun2 cm1 cm2 hl2 d2 cu f4
      go_wp2_with fail
      go_roundg (gk - 1)
      case rel => exact ⟨i + 1, by simp, by omega, by omega, rfl⟩
      case measure => omega
    · have hie : i = g := by omega
      subst hie
      have hl := HLk.out (i : Int) (by unfold I64; omega)
      rw [show blk F.L (i : Int) = none by unfold blk; rw [Ok.out.free.none]; rfl] at hl
      unfold pv at hl
      clear hlt
      go_wp2_with fail
      go_ret2
      exact ⟨⟨rfl, w2.heap.size, T5.out⟩, R5.out⟩
set_option maxRecDepth 100000 in
set_option maxHeartbeats 8000000 in
theorem MakeGD_calls (fb mb : Nat) (F : Fs) (d0 : Int) (p : ByteArray) (d : Int) (x : Nd) (kd : Kd) (s : ByteArray) (g : Nat) (hdi : I64 d) (hss : s.size ≤ 1000000) (ok : MakeOkG F d x kd s g ⟨#[]⟩) (w : World) (R : Hp)
    (HP0 : Calls Tryz.prog 67 #[pp fb, .int .i64 d0, .string p, .int .i64 1] w fun e w' => (e = .returned (.tuple #[.int .i64 d, .string s, .int .i64 0]) ∧ Sat w' (fsHp fb mb F * R)) ∧ Ran w w') :
    Calls Tryz.prog 33 #[pp fb, .int .i64 d0, .string p, .int .i64 1, .string ⟨#[]⟩] w fun e w' => (e = .returned (.tuple #[.int .i64 (g : Int), .int .i64 0]) ∧ ∃ nb kb, Sat w' (fsHp fb mb (madeG F d x kd s g ⟨nb, 1, ⟨#[]⟩, some ⟨kb, fun _ => none, 0, 0⟩, d, 1, 0⟩) * R)) ∧ Ran w w' := by
  have HP := Lib.hid HP0
  have Hdi := Lib.hid hdi
  have Ok := Lib.hid ok
  clear HP0 ok hdi
  go_enter Tryz.func33, Tryz.ntmps33
  go_wp2_with fail
  refine HP.out.mono ?_
  rintro e w1 ⟨⟨rfl, S1⟩, R1⟩
  have S1 := S1.drew
  have R1 := Lib.hid (Ran.drewN R1 1)
  obtain ⟨c0, c1, c2, c3⟩ := fs_cells S1
  have hln := pmap_len Tryz.underlying113 (S1.perm (show _ = pmap mb (blk F.L) F.L.length F.n * (pts fb (fsO F mb) * nds F.L * R) by unfold fsHp; ac_rfl))
  obtain ⟨o1, o2, o3, o4, o5, o6⟩ := And.intro Ok.out.most (And.intro Ok.out.room (And.intro Ok.out.used.1 (And.intro Ok.out.used.2 (And.intro Ok.out.rm.1 Ok.out.rm.2))))
  have hwr : IntKind.i64.wrap (F.room - F.used) = F.room - F.used := IntWalk.i64_in _ (by omega)
  have hle1 : ¬ F.most ≤ (F.L.length : Int) := by omega
  have hle2 : decide (F.most ≤ (F.L.length : Int)) = false := decide_eq_false hle1
  have o7 : (0 : Int) ≤ F.room - F.used := o2
  have hle3 : ¬ F.room - F.used < 0 := by omega
  have hle4 : decide (F.room - F.used < 0) = false := decide_eq_false hle3
  have S1 := Lib.hid S1
  clear HP
  go_wp2_with fail
  refine region_plan (S := (fun w' => w'.cell? ⟨fb, 0, none⟩ = some (.int .i64 F.most) ∧ w'.cell? ⟨fb, 1, none⟩ = some (.int .i64 F.room) ∧ w'.cell? ⟨fb, 2, none⟩ = some (.int .i64 F.used) ∧ w'.cell? ⟨fb, 3, none⟩ = some (.map (some mb)) ∧ ∀ ty, (Builtin.len_ #[113] ty #[.map (some mb)]).run Tryz.prog w' = .ok (.int .i64 (F.L.length : Int)) w')) [(0, true), (1, true), (2, true), (3, true), (4, true), (5, true), (6, true), (7, true), (8, true), (9, true), (10, true), (11, true), (12, true), (13, true), (14, true), (15, true), (16, true), (17, true), (18, true), (19, true), (20, true), (21, true), (22, true), (23, true), (24, true)] (by kernel_rfl) (by kernel_rfl) (by kernel_rfl) ?_ ?_
  · ((try dsimp only); (first | done | (exact ⟨c0, c1, c2, c3, hln⟩)))
  simp only [planOps, List.map_cons, List.map_nil, List.getElem?_toArray, List.getElem?_cons_zero, List.getElem?_cons_succ]
  repeat (first
    | ((refine plan_yes (v := ?_) (by rfl) ?_ ?_); rotate_left; (focus (intro w hSw; (try dsimp only at hSw); go_simp; try (with_reducible rfl))); (try simp only [Act.put, List.setIfInBounds_toArray, List.set_cons_zero, List.set_cons_succ]))
    | ((refine plan_no (by rfl) ?_); (try simp only [Act.put, List.setIfInBounds_toArray, List.set_cons_zero, List.set_cons_succ]))
    | ((refine plan_step (fun K hK => ?_)); (first | (fail) | (go_simp; (fail); (try go_wp2_with fail)) | go_simp); (refine hK.out _ _ ?_ (fun hHeld => ?_)); (focus ((try dsimp only); (first | done | (exact ⟨c0, c1, c2, c3, hln⟩)))); clear hK K; (try simp only [Act.put, List.setIfInBounds_toArray, List.set_cons_zero, List.set_cons_succ])))
  refine plan_done ?_
  obtain ⟨w2, hw2⟩ : ∃ w2, w2 = w1.drew := ⟨_, rfl⟩
  have S1 := S1.out
  rw [← hw2] at S1 c0 c1 c2 c3 ⊢
  have R1 : Hid (Ran w w2) := Lib.hid (by rw [hw2]; exact R1.out)
  have HLk := Lib.hid (fun (k : Int) (hk : I64 k) => fs_look S1 k hk)
  have hLn : F.L.length ≤ 1000000 := Nat.le_trans (pmap_le (S1.perm (show _ = pmap mb (blk F.L) F.L.length F.n * (pts fb (fsO F mb) * nds F.L * R) by unfold fsHp; ac_rfl))) Ok.out.n
  have hg1 := Ok.out.free.pos
  have hg2 := Ok.out.free.le
  have hgI : (g : Int) ≤ 1000001 := by omega
  -- what comes
  obtain ⟨X, hX1, hX2⟩ := focus F.L d x Ok.out.root
  have hgn1 : (g : Int) ≠ d := fun e => by
    have := Ok.out.free.none
    rw [e, Ok.out.root] at this
    cases this
  have U1 := K.smap_made (S1.alloc (ndO ⟨w2.heap.size, 1, ⟨#[]⟩, some ⟨w2.heap.size + 1, fun _ => none, 0, 0⟩, d, 1, 0⟩))
  rw [World.size_alloc] at U1
  obtain ⟨kb, hkb⟩ : ∃ kb, kb = w2.heap.size + 1 := ⟨_, rfl⟩
  rw [← hkb] at U1
  obtain ⟨wn, hwn⟩ : ∃ wn, wn = (w2.alloc (ndO ⟨w2.heap.size, 1, ⟨#[]⟩, some ⟨kb, fun _ => none, 0, 0⟩, d, 1, 0⟩)).alloc (.map #[] 0) := ⟨_, rfl⟩
  rw [← hwn] at U1
  have Rn : Ran w wn := by rw [hwn]; exact Ran.new (Ran.new R1.out _) _
  have T1 := U1.perm (show _ = pmap mb (blk F.L) F.L.length F.n * (ndHp ⟨w2.heap.size, 1, ⟨#[]⟩, some ⟨kb, fun _ => none, 0, 0⟩, d, 1, 0⟩ * (pts fb (fsO F mb) * (ndHp x * (X * R)))) by unfold fsHp; rw [hX1, show ndHp ⟨w2.heap.size, 1, ⟨#[]⟩, some ⟨kb, fun _ => none, 0, 0⟩, d, 1, 0⟩ = pts w2.heap.size (ndO ⟨w2.heap.size, 1, ⟨#[]⟩, some ⟨kb, fun _ => none, 0, 0⟩, d, 1, 0⟩) * K.smap kb (fun _ => none) 0 0 from rfl]; ac_rfl)
  obtain ⟨w3, hrun1, T2, R2⟩ := pmap_put Tryz.underlying113 T1 (by have := Ok.out.n; unfold maxLen; omega) (g : Int) (by unfold I64; omega) (by unfold blk; rw [Ok.out.free.none]; rfl) w2.heap.size
  have cm1 : wn.cell? ⟨fb, 3, none⟩ = some (.map (some mb)) := by
    have := (T1.perm (show _ = pts fb (fsO F mb) * (pmap mb (blk F.L) F.L.length F.n * (ndHp ⟨w2.heap.size, 1, ⟨#[]⟩, some ⟨kb, fun _ => none, 0, 0⟩, d, 1, 0⟩ * (ndHp x * (X * R)))) by ac_rfl)).get
    rw [cell_at this]; rfl
  have T2f := T2.perm (show _ = pts fb (fsO F mb) * (pmap mb (putP (blk F.L) (g : Int) w2.heap.size) (F.L.length + 1) (F.n + 1) * (ndHp ⟨w2.heap.size, 1, ⟨#[]⟩, some ⟨kb, fun _ => none, 0, 0⟩, d, 1, 0⟩ * (ndHp x * (X * R)))) by ac_rfl)
  have cm2 : w3.cell? ⟨fb, 3, none⟩ = some (.map (some mb)) := by rw [cell_at T2f.get]; rfl
  have hl2 := pmap_look Tryz.underlying113 zeroNode T2 d Hdi.out
  rw [show putP (blk F.L) (g : Int) w2.heap.size d = some x.b by unfold putP; rw [if_neg (fun e => hgn1 e.symm)]; unfold blk; rw [Ok.out.root]; rfl] at hl2
  unfold pv at hl2
  have T2x := T2.perm (show _ = pts x.b (ndO x) * (kidsHp x.kids * (pts fb (fsO F mb) * (pmap mb (putP (blk F.L) (g : Int) w2.heap.size) (F.L.length + 1) (F.n + 1) * (ndHp ⟨w2.heap.size, 1, ⟨#[]⟩, some ⟨kb, fun _ => none, 0, 0⟩, d, 1, 0⟩ * (X * R))))) by show _ = pts x.b (ndO x) * (kidsHp x.kids * _); rw [show ndHp x = pts x.b (ndO x) * kidsHp x.kids from rfl]; ac_rfl)
  obtain ⟨-, -, d2, -⟩ := nd_cells T2x
  rw [Ok.out.kids] at d2
  unfold kv at d2
  dsimp only at d2
  have T2k := T2x.perm (show _ = K.smap kd.b kd.M kd.sz kd.n * (pts x.b (ndO x) * (pts fb (fsO F mb) * (pmap mb (putP (blk F.L) (g : Int) w2.heap.size) (F.L.length + 1) (F.n + 1) * (ndHp ⟨w2.heap.size, 1, ⟨#[]⟩, some ⟨kb, fun _ => none, 0, 0⟩, d, 1, 0⟩ * (X * R))))) by rw [Ok.out.kids]; show pts x.b (ndO x) * (K.smap kd.b kd.M kd.sz kd.n * _) = _; ac_rfl)
  obtain ⟨w4, hrun2, T3, R3⟩ := K.smap_put T2k (by have := Ok.out.kn; unfold maxLen; omega) (s) (by unfold maxLen; omega) Ok.out.new (g : Int) (by unfold I64; omega)
  have T3f := T3.perm (show _ = pts fb (fsO F mb) * (K.smap kd.b (K.putM kd.M (s) (g : Int)) (kd.sz + 1) (kd.n + 1) * (pts x.b (ndO x) * (pmap mb (putP (blk F.L) (g : Int) w2.heap.size) (F.L.length + 1) (F.n + 1) * (ndHp ⟨w2.heap.size, 1, ⟨#[]⟩, some ⟨kb, fun _ => none, 0, 0⟩, d, 1, 0⟩ * (X * R))))) by ac_rfl)
  have cu : w4.cell? ⟨fb, 2, none⟩ = some (.int .i64 F.used) := by rw [cell_at T3f.get]; rfl
  have f4 : ∀ i, w4.frozen? ⟨fb, i, none⟩ = false := fun i => free_at T3f.get i
  have T4 := T3f.set (i := 2) (.int .i64 F.used)
  have eu : F.used + (((⟨#[]⟩ : ByteArray).size : Nat) : Int) = F.used := by show F.used + 0 = F.used; omega
  have T5 := Lib.hid (made_satG (nb := w2.heap.size) (y := ⟨w2.heap.size, 1, ⟨#[]⟩, some ⟨kb, fun _ => none, 0, 0⟩, d, 1, 0⟩) rfl rfl Ok.out hX2 (T4.perm (show pts fb (fsO { F with used := F.used } mb) * _ = pts fb (fsO { F with used := F.used + (((⟨#[]⟩ : ByteArray).size : Nat) : Int) } mb) * (K.smap kd.b (K.putM kd.M (s) (g : Int)) (kd.sz + 1) (kd.n + 1) * (pmap mb (putP (blk F.L) (g : Int) w2.heap.size) (F.L.length + 1) (F.n + 1) * (ndHp ⟨w2.heap.size, 1, ⟨#[]⟩, some ⟨kb, fun _ => none, 0, 0⟩, d, 1, 0⟩ * (pts x.b (ndO x) * (X * R))))) by rw [eu]; ac_rfl)))
  have R5 := Lib.hid (Ran.set (Below.trans (Below.trans Rn R2) R3) ⟨fb, 2, none⟩ (.int .i64 F.used))
  rw [hwn] at hrun1 cm1
  unfold ndO kv at hrun1 cm1
  dsimp only at hrun1 cm1
  rw [hkb] at hrun1 cm1
  have hmk : ∀ W : World, (Instr.makeMap 116 none).run Tryz.prog W = .ok (.map (some W.heap.size)) (W.alloc (.map #[] 0)) := fun W => rfl
  have hg1I : (1 : Int) ≤ (g : Int) := by omega
  clear S1 U1 hwn Rn eu hkb T1 T2 T2f T2x T2k T3 T3f T4 R2 R3 hX1 hX2 hw2 hln
  go_wp2_with fail
  go_loopg [15] (g - 1) (fun (gk : Nat) (v15 : Value) (wr : World) => ∃ i : Nat, v15 = .int .i64 (i : Int) ∧ 1 ≤ i ∧ i + gk = g ∧ w2 = wr)
  case atStart => exact ⟨1, rfl, Nat.le_refl _, by omega, rfl⟩
  case round =>
    obtain ⟨i, rfl, hi1, hig, rfl⟩ := hrel
    by_cases hlt : i < g
    · have hs := Ok.out.free.least i hi1 hlt
      obtain ⟨z, hz⟩ := Option.isSome_iff_exists.1 hs
      have hl := HLk.out (i : Int) (by unfold I64; omega)
      rw [show blk F.L (i : Int) = some z.b by unfold blk; rw [hz]; rfl] at hl
      unfold pv at hl
      have hiI : (i : Int) ≤ 1000001 := by omega
      have hi0 : (0 : Int) ≤ (i : Int) := by omega
      clear hs hz hrun1 hrun2 cm1 cm2 hl2 d2 cu f4
      go_wp2_with fail
      go_roundg (gk - 1)
      case rel => exact ⟨i + 1, by simp, by omega, by omega, rfl⟩
      case measure => omega
    · have hie : i = g := by omega
      subst hie
      have hl := HLk.out (i : Int) (by unfold I64; omega)
      rw [show blk F.L (i : Int) = none by unfold blk; rw [Ok.out.free.none]; rfl] at hl
      unfold pv at hl
      clear hlt
      go_wp2_with fail
      go_ret2
      exact ⟨⟨rfl, w2.heap.size, kb, T5.out⟩, R5.out⟩
end Go.Proofs.YteienbdbhnikbaaGreatDoor.Hd

