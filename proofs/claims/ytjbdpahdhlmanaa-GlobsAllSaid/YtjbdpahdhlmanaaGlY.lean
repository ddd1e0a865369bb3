/- 'Head' and 'Tail', of globs and of the document: the shortest or the longest cut. -/
import Derived.Test.YtjbdpahdhlmanaaGlX
import Derived.Test.YtjbdpahdhlmanaaGlO
namespace Go.Proofs.Ytjbdpahdhlmanaa.Globs
open Go.RowKit Go.Proofs.Ytjbdpahdhlmanaa Go.Proofs.Ytjbdpahdhlmanaa.Hp
set_option linter.unusedVariables false

theorem bsB_extract (s : ByteArray) (a b : Nat) : bs (s.extract a b) = ((bs s).drop a).take (b - a) := by
  unfold bs
  simp [List.extract_eq_take_drop]
theorem cutB_at {p : List Itm} {s : ByteArray} {n : Nat} : matchB p (bs (s.extract 0 n)) = matchB p ((bs s).take n) := by rw [bsB_extract]; rfl
theorem cutB_from {q : List Itm} {s : ByteArray} {n : Nat} (h : n ≤ s.size) : matchB q (bs (s.extract n s.size)) = matchB q ((bs s).drop n) := by
  rw [bsB_extract, List.take_of_length_le (by rw [List.length_drop, bs_length]; omega)]
theorem extB_size (s : ByteArray) (a b : Nat) : (s.extract a b).size ≤ s.size := by
  have h := congrArg List.length (bsB_extract s a b)
  rw [bs_length, List.length_take, List.length_drop, bs_length] at h
  omega
def headF (p : List Itm) (s : ByteArray) (n : Nat) : Bool := matchB p ((bs s).take n)
def tailF (p : List Itm) (s : ByteArray) (n : Nat) : Bool := matchB p ((bs s).drop (s.size - n))
def IPost (v : Int) (w : World) (e : Ending) (w' : World) : Prop := e = .returned (.int .i64 v) ∧ Below w.heap.size w w'
def HRel (f : Nat → Bool) (lg : Bool) (m : Nat) (w : World) (g : Nat) (av nv : Value) (wr : World) : Prop := ∃ n : Nat, n + g = m + 1 ∧ av = .int .i64 (atL f lg n) ∧ nv = .int .i64 (n : Int) ∧ Below w.heap.size w wr
set_option maxRecDepth 100000 in
set_option maxHeartbeats 2000000 in
theorem head_calls (p : List Itm) (s : ByteArray) (lg : Bool) (ao : Option Addr) (cap : Nat) (w : World) (h : ItemsAt w ao p) (hm : s.size ≤ 100000) :
    Calls Try.prog 26 #[.slice ao p.length cap, .string s, .bool lg] w (IPost (atL (headF p s) lg (s.size + 1)) w) := by
  have hpl := h.1
  go_enter Try.func26, Try.ntmps26
  go_wp2_with fail
  go_loopg [7, 8] (s.size + 1) (HRel (headF p s) lg s.size w)
  case atStart => exact ⟨0, by omega, rfl, rfl, Below.refl _ _⟩
  case round =>
    obtain ⟨n, hng, rfl, rfl, hbel⟩ := hrel
    have hn0 : (0 : Int) ≤ n := by omega
    have hI := h.keep (Kept.below hbel)
    by_cases hn : n ≤ s.size
    · have hn' : (n : Int) ≤ s.size := by omega
      have Hng := Lib.hid hng
      have hsu := atL_succ (headF p s) lg n
      have hfin : lg = false → 0 ≤ atL (headF p s) lg n → atL (headF p s) lg (s.size + 1) = atL (headF p s) lg n := fun e h0 => by subst e; exact atL_stop h0 (by omega)
      have MP : ∀ W, ItemsAt W ao p → Calls Try.prog 21 #[.slice ao p.length cap, .string (s.extract 0 n)] W (FPost (headF p s n) W) := fun W hW => by
        have := match_calls p (s.extract 0 n) ao cap W hW (by have := extB_size s 0 n; omega)
        rwa [cutB_at] at this
      have hbd := atL_bd (headF p s) lg n
      obtain ⟨a, ha⟩ : ∃ a, a = atL (headF p s) lg n := ⟨_, rfl⟩
      obtain ⟨v, hv⟩ : ∃ v, v = headF p s n := ⟨_, rfl⟩
      rw [← ha, ← hv] at hsu
      rw [← ha] at hfin hbd ⊢
      rw [← hv] at MP
      have Hsu := Lib.hid hsu
      have Hfin := Lib.hid hfin
      have HMP := Lib.hid MP
      have Hbd := Lib.hid hbd
      clear hng hsu hfin MP ha hv hbd h
      by_cases hlt : a < 0
      · cases lg <;> cases v
        all_goals
          go_wp2_with fail
          refine (HMP.out _ (by exact hI)).mono ?_
          rintro e w5 ⟨rfl, b5⟩
          have hb5 := hbel.trans (b5.mono hbel.size)
          clear hI b5
          go_wp2_with fail
          go_roundg (gk - 1)
          case measure => have := Hng.out; omega
          case rel => exact ⟨n + 1, by have := Hng.out; omega, by rw [Hsu.out]; first | (simp; done) | (simp; intro _; omega), by go_num, hb5⟩
      · cases lg
        · have he := Hfin.out rfl (by omega)
          have He := Lib.hid he
          clear he
          go_wp2_with fail
          go_ret
          exact ⟨show Ending.returned (.int .i64 a) = _ by rw [He.out], hbel⟩
        · cases v
          all_goals
            go_wp2_with fail
            refine (HMP.out _ (by exact hI)).mono ?_
            rintro e w5 ⟨rfl, b5⟩
            have hb5 := hbel.trans (b5.mono hbel.size)
            clear hI b5
            go_wp2_with fail
            go_roundg (gk - 1)
            case measure => have := Hng.out; omega
            case rel => exact ⟨n + 1, by have := Hng.out; omega, by rw [Hsu.out]; first | (simp; done) | (simp; intro _; omega), by go_num, hb5⟩
    · have hge : ¬ ((n : Int) ≤ s.size) := by omega
      have hnn : n = s.size + 1 := by omega
      subst hnn
      go_wp2_with fail
      go_ret
      exact ⟨rfl, hbel⟩
set_option maxRecDepth 100000 in
set_option maxHeartbeats 2000000 in
theorem tail_calls (p : List Itm) (s : ByteArray) (lg : Bool) (ao : Option Addr) (cap : Nat) (w : World) (h : ItemsAt w ao p) (hm : s.size ≤ 100000) :
    Calls Try.prog 28 #[.slice ao p.length cap, .string s, .bool lg] w (IPost (atL (tailF p s) lg (s.size + 1)) w) := by
  have hpl := h.1
  go_enter Try.func28, Try.ntmps28
  go_wp2_with fail
  go_loopg [7, 8] (s.size + 1) (HRel (tailF p s) lg s.size w)
  case atStart => exact ⟨0, by omega, rfl, rfl, Below.refl _ _⟩
  case round =>
    obtain ⟨n, hng, rfl, rfl, hbel⟩ := hrel
    have hn0 : (0 : Int) ≤ n := by omega
    have hI := h.keep (Kept.below hbel)
    by_cases hn : n ≤ s.size
    · have hn' : (n : Int) ≤ s.size := by omega
      have hs1 : (0 : Int) ≤ (s.size : Int) - n := by omega
      have hs2 : (s.size : Int) - n ≤ s.size := by omega
      have hs3 : ((s.size : Int) - n).toNat = s.size - n := by omega
      have Hng := Lib.hid hng
      have hsu := atL_succ (tailF p s) lg n
      have hfin : lg = false → 0 ≤ atL (tailF p s) lg n → atL (tailF p s) lg (s.size + 1) = atL (tailF p s) lg n := fun e h0 => by subst e; exact atL_stop h0 (by omega)
      have MP : ∀ W, ItemsAt W ao p → Calls Try.prog 21 #[.slice ao p.length cap, .string (s.extract (s.size - n) s.size)] W (FPost (tailF p s n) W) := fun W hW => by
        have := match_calls p (s.extract (s.size - n) s.size) ao cap W hW (by have := extB_size s (s.size - n) s.size; omega)
        rwa [cutB_from (by omega)] at this
      have hbd := atL_bd (tailF p s) lg n
      obtain ⟨a, ha⟩ : ∃ a, a = atL (tailF p s) lg n := ⟨_, rfl⟩
      obtain ⟨v, hv⟩ : ∃ v, v = tailF p s n := ⟨_, rfl⟩
      rw [← ha, ← hv] at hsu
      rw [← ha] at hfin hbd ⊢
      rw [← hv] at MP
      have Hsu := Lib.hid hsu
      have Hfin := Lib.hid hfin
      have HMP := Lib.hid MP
      have Hbd := Lib.hid hbd
      clear hng hsu hfin MP ha hv hbd h
      by_cases hlt : a < 0
      · cases lg <;> cases v
        all_goals
          go_wp2_with fail
          refine (HMP.out _ (by exact hI)).mono ?_
          rintro e w5 ⟨rfl, b5⟩
          have hb5 := hbel.trans (b5.mono hbel.size)
          clear hI b5
          go_wp2_with fail
          go_roundg (gk - 1)
          case measure => have := Hng.out; omega
          case rel => exact ⟨n + 1, by have := Hng.out; omega, by rw [Hsu.out]; first | (simp; done) | (simp; intro _; omega), by go_num, hb5⟩
      · cases lg
        · have he := Hfin.out rfl (by omega)
          have He := Lib.hid he
          clear he
          go_wp2_with fail
          go_ret
          exact ⟨show Ending.returned (.int .i64 a) = _ by rw [He.out], hbel⟩
        · cases v
          all_goals
            go_wp2_with fail
            refine (HMP.out _ (by exact hI)).mono ?_
            rintro e w5 ⟨rfl, b5⟩
            have hb5 := hbel.trans (b5.mono hbel.size)
            clear hI b5
            go_wp2_with fail
            go_roundg (gk - 1)
            case measure => have := Hng.out; omega
            case rel => exact ⟨n + 1, by have := Hng.out; omega, by rw [Hsu.out]; first | (simp; done) | (simp; intro _; omega), by go_num, hb5⟩
    · have hge : ¬ ((n : Int) ≤ s.size) := by omega
      have hnn : n = s.size + 1 := by omega
      subst hnn
      go_wp2_with fail
      go_ret
      exact ⟨rfl, hbel⟩
set_option maxRecDepth 100000 in
set_option maxHeartbeats 2000000 in
theorem rtail_calls (p : List Itm) (s : ByteArray) (lg : Bool) (ao : Option Addr) (cap : Nat) (w : World) (h : ItemsAt w ao p) (hm : s.size ≤ 100000) :
    Calls Try.prog 29 #[.slice ao p.length cap, .string s, .bool lg] w (IPost (atL (tailF p s) lg (s.size + 1)) w) := by
  have hpl := h.1
  go_enter Try.func29, Try.ntmps29
  go_wp2_with fail
  go_loopg [7, 8] (s.size + 1) (HRel (tailF p s) lg s.size w)
  case atStart => exact ⟨0, by omega, rfl, rfl, Below.refl _ _⟩
  case round =>
    obtain ⟨n, hng, rfl, rfl, hbel⟩ := hrel
    have hn0 : (0 : Int) ≤ n := by omega
    have hI := h.keep (Kept.below hbel)
    by_cases hn : n ≤ s.size
    · have hn' : (n : Int) ≤ s.size := by omega
      have hs1 : (0 : Int) ≤ (s.size : Int) - n := by omega
      have hs2 : (s.size : Int) - n ≤ s.size := by omega
      have hs3 : ((s.size : Int) - n).toNat = s.size - n := by omega
      have Hng := Lib.hid hng
      have hsu := atL_succ (tailF p s) lg n
      have hfin : lg = false → 0 ≤ atL (tailF p s) lg n → atL (tailF p s) lg (s.size + 1) = atL (tailF p s) lg n := fun e h0 => by subst e; exact atL_stop h0 (by omega)
      have MP : ∀ W, ItemsAt W ao p → Calls Try.prog 22 #[.slice ao p.length cap, .string (s.extract (s.size - n) s.size)] W (FPost (tailF p s n) W) := fun W hW => by
        have := rmatch_calls p (s.extract (s.size - n) s.size) ao cap W hW (by have := extB_size s (s.size - n) s.size; omega)
        rwa [cutB_from (by omega)] at this
      have hbd := atL_bd (tailF p s) lg n
      obtain ⟨a, ha⟩ : ∃ a, a = atL (tailF p s) lg n := ⟨_, rfl⟩
      obtain ⟨v, hv⟩ : ∃ v, v = tailF p s n := ⟨_, rfl⟩
      rw [← ha, ← hv] at hsu
      rw [← ha] at hfin hbd ⊢
      rw [← hv] at MP
      have Hsu := Lib.hid hsu
      have Hfin := Lib.hid hfin
      have HMP := Lib.hid MP
      have Hbd := Lib.hid hbd
      clear hng hsu hfin MP ha hv hbd h
      by_cases hlt : a < 0
      · cases lg <;> cases v
        all_goals
          go_wp2_with fail
          refine (HMP.out _ (by exact hI)).mono ?_
          rintro e w5 ⟨rfl, b5⟩
          have hb5 := hbel.trans (b5.mono hbel.size)
          clear hI b5
          go_wp2_with fail
          go_roundg (gk - 1)
          case measure => have := Hng.out; omega
          case rel => exact ⟨n + 1, by have := Hng.out; omega, by rw [Hsu.out]; first | (simp; done) | (simp; intro _; omega), by go_num, hb5⟩
      · cases lg <;> cases v
        all_goals
          go_wp2_with fail
          refine (HMP.out _ (by exact hI)).mono ?_
          rintro e w5 ⟨rfl, b5⟩
          have hb5 := hbel.trans (b5.mono hbel.size)
          clear hI b5
          go_wp2_with fail
          go_roundg (gk - 1)
          case measure => have := Hng.out; omega
          case rel => exact ⟨n + 1, by have := Hng.out; omega, by rw [Hsu.out]; first | (simp; done) | (simp; intro _; omega), by go_num, hb5⟩
    · have hge : ¬ ((n : Int) ≤ s.size) := by omega
      have hnn : n = s.size + 1 := by omega
      subst hnn
      go_wp2_with fail
      go_ret
      exact ⟨rfl, hbel⟩
def RHRel (f : Nat → Bool) (lg : Bool) (m : Nat) (w1 : World) (g : Nat) (av nv : Value) (wr : World) : Prop := ∃ n : Nat, n + g = m + 1 ∧ av = .int .i64 (atL f lg n) ∧ nv = .int .i64 (n : Int) ∧ wr = w1
set_option maxRecDepth 100000 in
set_option maxHeartbeats 2000000 in
theorem rhead_calls (p : List Itm) (s : ByteArray) (lg : Bool) (ao : Option Addr) (cap : Nat) (w : World) (h : ItemsAt w ao p) (hm : s.size ≤ 100000) :
    Calls Try.prog 27 #[.slice ao p.length cap, .string s, .bool lg] w (IPost (atL (headF p s) lg (s.size + 1)) w) := by
  go_enter Try.func27, Try.ntmps27
  go_wp2_with fail
  refine (ends_soft p s ao cap _ h hm).mono ?_
  rintro e w1 ⟨b, rfl, hb, hB⟩
  clear h
  go_wp2_with fail
  go_loopg [8, 9] (s.size + 1) (RHRel (headF p s) lg s.size w1)
  case atStart => exact ⟨0, by omega, rfl, rfl, rfl⟩
  case round =>
    obtain ⟨n, hng, rfl, rfl, rfl⟩ := hrel
    have hn0 : (0 : Int) ≤ n := by omega
    by_cases hn : n ≤ s.size
    · have hn' : (n : Int) ≤ s.size := by omega
      have hn1 : (n : Int) < (s.size : Int) + 1 := by omega
      have hn2 : (n : Int) < ((s.size + 1 : Nat) : Int) := by omega
      have Hng := Lib.hid hng
      have c0 : wr.cell? ⟨b, n, none⟩ = some (.bool (headF p s n)) := by
        rw [cell_at hb]; exact boolArr_get _ _ _ (by omega)
      have hsu := atL_succ (headF p s) lg n
      have hbd := atL_bd (headF p s) lg n
      obtain ⟨a, ha⟩ : ∃ a, a = atL (headF p s) lg n := ⟨_, rfl⟩
      obtain ⟨v, hv⟩ : ∃ v, v = headF p s n := ⟨_, rfl⟩
      rw [← ha, ← hv] at hsu
      rw [← ha] at hbd ⊢
      rw [← hv] at c0
      have Hsu := Lib.hid hsu
      have Hbd := Lib.hid hbd
      have Hb := Lib.hid hb
      clear hng hsu ha hv hbd hb
      by_cases hlt : a < 0
      · cases lg <;> cases v
        all_goals
          go_wp2_with fail
          go_roundg (gk - 1)
          case measure => have := Hng.out; omega
          case rel => exact ⟨n + 1, by have := Hng.out; omega, by rw [Hsu.out]; first | (simp; done) | (simp; intro _; omega), by go_num, rfl⟩
      · cases lg <;> cases v
        all_goals
          go_wp2_with fail
          go_roundg (gk - 1)
          case measure => have := Hng.out; omega
          case rel => exact ⟨n + 1, by have := Hng.out; omega, by rw [Hsu.out]; first | (simp; done) | (simp; intro _; omega), by go_num, rfl⟩
    · have hge : ¬ ((n : Int) ≤ s.size) := by omega
      have hnn : n = s.size + 1 := by omega
      subst hnn
      clear hb
      go_wp2_with fail
      go_ret
      exact ⟨rfl, hB⟩
end Go.Proofs.Ytjbdpahdhlmanaa.Globs
