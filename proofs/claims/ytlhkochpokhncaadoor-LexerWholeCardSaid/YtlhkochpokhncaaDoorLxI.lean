/- Next, Hole walked. -/
import Derived.Test.YtlhkochpokhncaaDoorLxH
namespace Go.Proofs.YtlhkochpokhncaaDoor.Lexer
open Go.RowKit Go.Proofs.YtlhkochpokhncaaDoor Go.Proofs.YtlhkochpokhncaaDoor.Hp
set_option linter.unusedVariables false
attribute [local go_sem] Oper.semAt_some

/-- A thing. -/
structure Tok where
  kind : Int
  text : ByteArray
  at_ : Int
  stop : Int
abbrev tokV (t : Tok) : Value := .agg #[.int .i64 t.kind, .string t.text, .int .i64 t.at_, .int .i64 t.stop]
abbrev tokO (k : Int) (x : ByteArray) (a b : Int) : Obj := .cells #[.int .i64 k, .string x, .int .i64 a, .int .i64 b] 32 (0, 0)
def tok0 : Tok := ⟨0, ⟨#[]⟩, 0, 0⟩
def isDig (c : UInt8) : Bool := decide (48 ≤ c) && decide (c ≤ 57)
/-- The first thing of what is left: its kind, its bytes, the place, the place behind it; and what is wrong. -/
def nextL (n : Nat) (l : Bytes) : Tok × Int :=
  match Sk l with
  | [] => (⟨0, ⟨#[]⟩, (n : Int), (n : Int)⟩, 0)
  | c :: t =>
    let i : Int := (n : Int) - (((c :: t).length : Nat) : Int)
    if c = 10 then (⟨1, ⟨#[10]⟩, i, i + 1⟩, 0)
    else if 0 < opN (c :: t) then (⟨2, ⟨((c :: t).take (opN (c :: t))).toArray⟩, i, i + (opN (c :: t) : Int)⟩, 0)
    else match Wd (c :: t) with
      | none => (⟨0, ⟨#[]⟩, i, 0⟩, 30)
      | some q => (⟨if ((c :: t).take ((c :: t).length - q.length)).all isDig = true ∧ (q.head? = some 60 ∨ q.head? = some 62) then 3 else 4, ⟨((c :: t).take ((c :: t).length - q.length)).toArray⟩, i, (n : Int) - (q.length : Int)⟩, 0)
def nextA (s : ByteArray) (a : Int) : Tok × Int := if mayE s.size a ≠ 0 then (tok0, mayE s.size a) else nextL s.size ((bs s).drop a.toNat)
def NextPost (r : Tok × Int) (w : World) (e : Ending) (w' : World) : Prop := e = .returned (.tuple #[tokV r.1, .int .i64 r.2]) ∧ Below w.heap.size w w'
theorem tok_cells {w : World} {b : Nat} {k a c : Int} {x : ByteArray} {S : Hp} (h : Sat w (pts b (tokO k x a c) * S)) :
    w.cell? ⟨b, 0, none⟩ = some (.int .i64 k) ∧ w.cell? ⟨b, 1, none⟩ = some (.string x) ∧ w.cell? ⟨b, 2, none⟩ = some (.int .i64 a) ∧ w.cell? ⟨b, 3, none⟩ = some (.int .i64 c) ∧ ∀ i, w.frozen? ⟨b, i, none⟩ = false := by
  have hg := h.get
  exact ⟨by rw [cell_at hg]; rfl, by rw [cell_at hg]; rfl, by rw [cell_at hg]; rfl, by rw [cell_at hg]; rfl, fun i => free_at hg i⟩
def holeA (s : ByteArray) (a : Int) : Int × Int :=
  if mayE s.size a ≠ 0 then (0, mayE s.size a) else if hol ((bs s).drop a.toNat) = true then (match holeL ((bs s).drop a.toNat) with | none => (0, 30) | some r => ((s.size : Int) - (r.length : Int), 0)) else (0, 1)
def HPost (r : Int × Int) (w : World) (e : Ending) (w' : World) : Prop := e = .returned (.tuple #[.int .i64 r.1, .int .i64 r.2]) ∧ Below w.heap.size w w'
theorem mayE_ok {n : Nat} {a : Int} (h : mayE n a = 0) : (n : Int) ≤ 4096 ∧ 0 ≤ a ∧ a ≤ n := by
  unfold mayE at h
  split at h
  · omega
  · split at h
    · omega
    · omega
set_option maxRecDepth 100000 in
set_option maxHeartbeats 8000000 in
theorem Hole_calls (s : ByteArray) (a : Int) (w : World) (h63 : (s.size : Int) ≤ 9223372036854775807) :
    Calls Tryd.prog 20 #[.string s, .int .i64 a] w (HPost (holeA s a) w) := by
  have HM := Lib.hid (fun w => may_calls s a w h63)
  unfold holeA
  by_cases hm : mayE s.size a ≠ 0
  · rw [if_pos hm]
    obtain ⟨v, hv⟩ : ∃ v, v = mayE s.size a := ⟨_, rfl⟩
    rw [← hv] at HM hm
    rw [← hv]
    clear hv
    go_enter Tryd.func20, Tryd.ntmps20
    go_wp2_with fail
    refine (HM.out _).mono ?_
    rintro e w1 ⟨rfl, rfl⟩
    go_wp2_with fail
    go_ret2
    exact ⟨rfl, Below.refl _ _⟩
  · rw [if_neg hm]
    have hm0 : mayE s.size a = 0 := by omega
    obtain ⟨h1, h2, h3⟩ := mayE_ok hm0
    rw [hm0] at HM
    obtain ⟨i, rfl⟩ : ∃ i : Nat, a = (i : Int) := ⟨a.toNat, by omega⟩
    have hi : i ≤ s.size := by omega
    rw [show ((i : Int)).toNat = i from rfl]
    have HB := begins_calls s i w hi h63
    have HH := fun w => hole_calls s (by unfold Small; omega) i w hi
    clear hm hm0
    by_cases hh : hol ((bs s).drop i) = true
    · rw [if_pos hh]
      rw [hh] at HB
      have HB := Lib.hid HB
      have HH := fun w => HH w hh
      cases ho : holeL ((bs s).drop i) with
      | none =>
        rw [ho] at HH
        have HH := Lib.hid (fun w => show Calls _ _ _ _ (NPost (-1) w) from HH w)
        clear hh ho
        go_enter Tryd.func20, Tryd.ntmps20
        go_wp2_with fail
        refine (HM.out _).mono ?_
        rintro e w1 ⟨rfl, rfl⟩
        go_wp2_with fail
        refine HB.out.mono ?_
        rintro e w1 ⟨rfl, hB⟩
        go_wp2_with fail
        refine (HH.out _).mono ?_
        rintro e w2 ⟨rfl, hB2⟩
        have hB3 := hB.trans (Below.mono (h := hB2) hB.size)
        clear hB hB2
        go_wp2_with fail
        go_ret2
        exact ⟨rfl, hB3⟩
      | some r =>
        rw [ho] at HH
        have hl : r.length ≤ s.size := by
          have := (drop_suf s i (hole_suf ho)).length_le
          rw [bs_length] at this; exact this
        have HH := fun w => show Calls _ _ _ _ (NPost ((s.size : Int) - (r.length : Int)) w) from HH w
        obtain ⟨v, hv⟩ : ∃ v, v = (s.size : Int) - (r.length : Int) := ⟨_, rfl⟩
        have hv0 : 0 ≤ v := by omega
        have hv1 : (v == -1) = false := by rw [beq_eq_false_iff_ne]; omega
        rw [← hv] at HH
        show Calls _ _ _ _ (HPost ((s.size : Int) - (r.length : Int), 0) w)
        rw [← hv]
        have HH := Lib.hid HH
        clear hh ho hl hv
        go_enter Tryd.func20, Tryd.ntmps20
        go_wp2_with fail
        refine (HM.out _).mono ?_
        rintro e w1 ⟨rfl, rfl⟩
        go_wp2_with fail
        refine HB.out.mono ?_
        rintro e w1 ⟨rfl, hB⟩
        go_wp2_with fail
        refine (HH.out _).mono ?_
        rintro e w2 ⟨rfl, hB2⟩
        have hB3 := hB.trans (Below.mono (h := hB2) hB.size)
        clear hB hB2
        go_wp2_with fail
        go_ret2
        exact ⟨rfl, hB3⟩
    · rw [if_neg hh]
      rw [show hol ((bs s).drop i) = false by simpa using hh] at HB
      have HB := Lib.hid HB
      clear hh HH
      go_enter Tryd.func20, Tryd.ntmps20
      go_wp2_with fail
      refine (HM.out _).mono ?_
      rintro e w1 ⟨rfl, rfl⟩
      go_wp2_with fail
      refine HB.out.mono ?_
      rintro e w1 ⟨rfl, hB⟩
      go_wp2_with fail
      go_ret2
      exact ⟨rfl, hB⟩
end Go.Proofs.YtlhkochpokhncaaDoor.Lexer
