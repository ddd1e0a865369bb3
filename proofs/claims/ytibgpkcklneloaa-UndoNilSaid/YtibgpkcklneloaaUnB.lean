/- slices.Backward over notes: what it hands on; a log in memory. -/
import Derived.Test.YtibgpkcklneloaaUnA
import Derived.Test.YtibgpkcklneloaaOld
namespace Go.Proofs.Ytibgpkcklneloaa.Undo
open Go.RowKit Go.Proofs.Ytibgpkcklneloaa Go.Proofs.Ytibgpkcklneloaa.Hp
set_option linter.unusedVariables false
attribute [local go_sem] Oper.semAt_some

abbrev notes (p : Option Addr) (n cap : Nat) (fs : List Value) : Hp := arr 1 1 p n cap fs
/-- The pairs that are handed on: from the last place on. -/
def backs (fs : List Value) : Nat → List (Nat × Value)
  | 0 => []
  | n + 1 => (n, fs.getD n undef) :: backs fs n
theorem backs_length (fs : List Value) (n : Nat) : (backs fs n).length = n := by
  induction n with
  | zero => rfl
  | succ n ih => show (backs fs n).length + 1 = _; rw [ih]
theorem backs_split (fs : List Value) (n k : Nat) (h : k < n) : ∃ pre, backs fs n = pre ++ (k, fs.getD k undef) :: backs fs k ∧ pre.length + (k + 1) = n := by
  induction n with
  | zero => omega
  | succ n ih =>
    by_cases e : k = n
    · subst e; exact ⟨[], rfl, by simp⟩
    · obtain ⟨pre, h1, h2⟩ := ih (by omega)
      exact ⟨(n, fs.getD n undef) :: pre, by show (n, fs.getD n undef) :: backs fs n = _; rw [h1]; rfl, by simp; omega⟩
def BkRel (fs : List Value) (n : Nat) (J : List (Nat × Value) → Hp) (R : Hp) (w0 : World) (g : Nat) (iv : Value) (wr : World) : Prop :=
  ∃ pre : List (Nat × Value), iv = .int .i64 ((g : Int) - 1) ∧ g ≤ n ∧ backs fs n = pre ++ backs fs g ∧ Sat wr (J pre * R) ∧ Ran w0 wr
set_option maxRecDepth 100000 in
set_option maxHeartbeats 2000000 in
/-- slices.Backward's iterator over the first n notes of a row. -/
theorem back_iter (p : Option Addr) (cap n sb m : Nat) (fs : List Value) (hn : n ≤ 1000000000) (X R : Hp)
    (hX : ∀ (W : World) (S : Hp), Sat W (X * S) → ∀ k, k < n → ∃ nb no, p = some ⟨nb, no, none⟩ ∧ W.cell? ⟨nb, no + k, none⟩ = some (fs.getD k undef)) :
    IterSat Try.prog m 51 #[.pointer (some ⟨sb, 0, none⟩)] (fun x : Nat × Value => #[.int .i64 x.1, x.2]) (backs fs n)
      (pts sb (.cells #[.slice p n cap] 77 (0, 0)) * (X * R)) := by
  intro l J W hW hY
  refine callsIn_wide.2 ?_
  have hn' : (n : Int) ≤ 1000000000 := by omega
  have HY := Lib.hid hY
  have hsb := (hW.perm (show _ = pts sb (.cells #[.slice p n cap] 77 (0, 0)) * (J [] * (X * R)) by ac_rfl)).get
  have c0 : W.cell? ⟨sb, 0, none⟩ = some (.slice p n cap) := by rw [cell_at hsb]; rfl
  have hW0 := Lib.hid hW
  have HX := Lib.hid hX
  clear hY hsb hW hX
  go_enter Try.func51, Try.ntmps51
  go_wp2_with fail
  go_loopg [3] n (BkRel fs n J (pts sb (.cells #[.slice p n cap] 77 (0, 0)) * (X * R)) W)
  case atStart => exact ⟨[], rfl, Nat.le_refl _, rfl, hW0.out, Below.refl _ _⟩
  case round =>
    clear c0 hW0
    obtain ⟨pre, rfl, hg, hsp, HS, HR⟩ := hrel
    have HS' := HS.perm (show _ = pts sb (.cells #[.slice p n cap] 77 (0, 0)) * (J pre * (X * R)) by ac_rfl)
    have c0 : wr.cell? ⟨sb, 0, none⟩ = some (.slice p n cap) := by rw [cell_at HS'.get]; rfl
    by_cases hg0 : gk = 0
    · subst hg0
      have hneg : ¬ ((0 : Int) ≤ ((0 : Nat) : Int) - 1) := by omega
      have hfin : pre = backs fs n := by rw [hsp]; show pre = pre ++ []; rw [List.append_nil]
      rw [hfin] at HS
      have HS0 := Lib.hid HS
      clear HS HS' hfin hsp
      go_wp2_with fail
      go_end0
      exact ⟨⟨_, rfl⟩, HS0.out, HR⟩
    · obtain ⟨k, rfl⟩ : ∃ k, gk = k + 1 := ⟨gk - 1, by omega⟩
      have h1 : (((k + 1 : Nat) : Int) - 1) = (k : Int) := by omega
      rw [h1]
      have hk0 : (0 : Int) ≤ k := by omega
      have hkn : (k : Int) < n := by omega
      obtain ⟨nb, no, rfl, cf⟩ := HX.out wr _ (HS.perm (show _ = X * (J pre * (pts sb (.cells #[.slice p n cap] 77 (0, 0)) * R)) by ac_rfl)) k hg
      obtain ⟨f, hf⟩ : ∃ f, f = fs.getD k undef := ⟨_, rfl⟩
      rw [← hf] at cf
      have hsp2 : backs fs n = pre ++ (k, f) :: backs fs k := by rw [hsp, hf]; rfl
      obtain ⟨fn, tmps, assign, body, hy, hRd⟩ := HY.out pre (k, f) _ _ wr hsp2 HS
      have HRd := Lib.hid hRd
      have Hsp2 := Lib.hid hsp2
      have hkn2 : k + 1 ≤ n := hg
      clear hsp hsp2 hRd HS HS' hf h1 hg hg0
      go_upto_region 3 with fail
      refine (wpIn_wide (n := m)).1 ?_
      gi_wp2
      refine ⟨fun h => (by cases h), HRd.out.mono ?_⟩
      rintro e w2 ⟨rfl, hs2, hr2⟩
      have HR2 : Ran W w2 := Below.trans HR hr2
      have Hs2 := Lib.hid hs2
      clear hs2 hr2 HR hy HRd cf c0
      gi_wp2
      go_wp2_with fail
      go_roundg k
      case measure => omega
      case rel => exact ⟨pre ++ [(k, f)], rfl, by omega, by rw [Hsp2.out]; simp, Hs2.out, HR2⟩
end Go.Proofs.Ytibgpkcklneloaa.Undo
