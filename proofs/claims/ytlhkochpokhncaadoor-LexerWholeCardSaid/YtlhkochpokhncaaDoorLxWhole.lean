/- LexerWhole: what is quoted is one word; a word is one within $( and ): the law returns true, for every text. -/
import Derived.Test.YtlhkochpokhncaaDoorLxAI
import Derived.Test.YtlhkochpokhncaaDoorTie
import Derived.Test.YtlhkochpokhncaaDoorCards
import Derived.Laws.Concat
import Derived.LaidMore
import Derived.Lay
import Derived.SevenTiedAt
import Derived.Stop.Joined
namespace Go.Proofs.YtlhkochpokhncaaDoor.lexerWhole
open Go.ChangeShapes Go.WideShapes Go.ChangeAt Go.RowKit Go.Proofs.YtlhkochpokhncaaDoor Go.Proofs.YtlhkochpokhncaaDoor.Hp Go.Proofs.YtlhkochpokhncaaDoor.Lexer Go.ChangeMaps
set_option linter.unusedVariables false
set_option linter.unusedSimpArgs false
attribute [local go_sem] Oper.semAt_some

theorem all_gen (x : ByteArray) (xs : List Lexer.Tok) (f1 f2 : Int) (h : allP x = (xs, (f1, f2))) (h63 : (x.size : Int) ≤ 9223372036854775807) (w : World) :
    Calls Tryd.prog 10 #[.string x] w fun e w' => (∃ p cap, e = .returned (.tuple #[.slice p xs.length cap, .int .i64 f1, .int .i64 f2]) ∧ Sat w' (tokA p cap xs * keep w)) ∧ Ran w w' := by
  have h1 := all_calls x h63 w
  unfold APost at h1
  rw [h] at h1
  exact h1
theorem all_one (x : ByteArray) (kd a m f1 f2 : Int) (tx : ByteArray) (h : allP x = ([⟨kd, tx, a, m⟩], (f1, f2))) (h63 : (x.size : Int) ≤ 9223372036854775807) (w : World) :
    Calls Tryd.prog 10 #[.string x] w fun e w' => ∃ b o q, e = .returned (.tuple #[.slice (some ⟨b, o, none⟩) 1 q, .int .i64 f1, .int .i64 f2]) ∧ 1 ≤ q ∧ b < w'.heap.size ∧ w'.cell? ⟨b, o, none⟩ = some (.int .i64 kd) ∧ w'.cell? ⟨b, o + 1, none⟩ = some (.string tx) ∧ Below w.heap.size w w' := by
  refine (all_gen x _ f1 f2 h h63 w).mono ?_
  rintro e w' ⟨⟨p, q, rfl, hS⟩, hR⟩
  have hB := hR.whole hS
  obtain ⟨b, o, rfl, h2, hb, d0, d1, -, -⟩ := tok_at hS 0 (Nat.lt_succ_self 0)
  rw [Nat.zero_mul, Nat.add_zero] at d0 d1
  exact ⟨b, o, q, rfl, h2, hb, d0, d1, hB⟩
def WRel (s : ByteArray) (w0 w : World) (g : Nat) (sv dv iv : Value) (wr : World) : Prop :=
  ∃ (i : Nat) (sb db : Bool), iv = .int .i64 (i : Int) ∧ sv = .bool sb ∧ dv = .bool db ∧ i ≤ s.size ∧ s.size - i + 1 ≤ g ∧ sb = sgl ((bs s).take i) ∧ db = dbl ((bs s).take i) ∧ Below w0.heap.size w0 wr
theorem bs_take_succ (s : ByteArray) (i : Nat) (h : i < s.size) : (bs s).take (i + 1) = (bs s).take i ++ [s[i]] := by
  rw [List.take_add_one]
  congr 1
  have := bs_drop s i h
  have h2 : (bs s)[i]? = some s[i] := by rw [← List.head?_drop, this]; rfl
  rw [h2]; rfl
theorem list_ne {x y : ByteArray} (h : x ≠ y) : (x.toList == y.toList) = false := by
  rw [ByteArray.toList_eq, ByteArray.toList_eq]
  refine beq_eq_false_iff_ne.2 fun e => h ?_
  cases x; cases y
  congr 1
  exact Array.toList_inj.1 e

set_option maxRecDepth 100000 in
set_option maxHeartbeats 16000000 in
theorem walk (s : ByteArray) (w : World) (h63 : (s.size : Int) ≤ 9223372036854775807) :
    Calls Tryd.prog 8 #[.string s] w fun e w' => e = .returned (.bool true) ∧ Below w.heap.size w w' := by
  have HA := Lib.hid awake_calls
  by_cases hmid : 200 < (s.size : Int)
  · go_enter Tryd.func8, Tryd.ntmps8
    go_wp2_with fail
    refine (HA.out w).mono ?_
    rintro e w1 ⟨rfl, hB⟩
    go_wp2_with fail
    go_ret
    exact ⟨rfl, hB⟩
  · have hs2 : s.size ≤ 200 := by omega
    have hszI : (s.size : Int) ≤ 200 := by omega
    clear hmid
    go_enter Tryd.func8, Tryd.ntmps8
    go_wp2_with fail
    go_loopg [3, 4, 5] (s.size + 1) (WRel s w w)
    case atStart => exact ⟨0, true, true, rfl, rfl, rfl, Nat.zero_le _, Nat.le_refl _, rfl, rfl, Below.refl _ _⟩
    case round =>
      obtain ⟨i, sb, db, rfl, rfl, rfl, hi, hg, hs, hd, hB⟩ := hrel
      have hi0 : (0 : Int) ≤ i := by omega
      by_cases hlt : i < s.size
      · have hltI : (i : Int) < s.size := by omega
        obtain ⟨c, hc⟩ : ∃ c, c = s[i] := ⟨_, rfl⟩
        have hs1 : sgl ((bs s).take (i + 1)) = (sb && c != 39) := by rw [bs_take_succ s i hlt, sgl_snoc, ← hs, ← hc]
        have hd1 : dbl ((bs s).take (i + 1)) = (db && (c != 34 && c != 92 && c != 36 && c != 96)) := by rw [bs_take_succ s i hlt, dbl_snoc, ← hd, ← hc]
        have Hg := Lib.hid hg
        clear hg hs hd
        have e39 : (((s[i].toNat : Nat) : Int) == 39) = (c == 39) := by rw [hc]; exact u8_lit _ 39 (by decide)
        have e34 : (((s[i].toNat : Nat) : Int) == 34) = (c == 34) := by rw [hc]; exact u8_lit _ 34 (by decide)
        have e92 : (((s[i].toNat : Nat) : Int) == 92) = (c == 92) := by rw [hc]; exact u8_lit _ 92 (by decide)
        have e36 : (((s[i].toNat : Nat) : Int) == 36) = (c == 36) := by rw [hc]; exact u8_lit _ 36 (by decide)
        have e96 : (((s[i].toNat : Nat) : Int) == 96) = (c == 96) := by rw [hc]; exact u8_lit _ 96 (by decide)
        clear hc
        cases sb with
        | false =>
          simp only [Bool.false_and] at hs1
          cases db with
          | false =>
            simp only [Bool.false_and] at hd1
            have Hs := Lib.hid hs1
            have Hd := Lib.hid hd1
            clear hs1 hd1 e39 e34 e92 e36 e96 
            go_wp2_with fail
            go_roundg (gk - 1)
            case measure => have := Hg.out; omega
            case rel => exact ⟨i + 1, false, false, by go_num, rfl, rfl, by omega, by have := Hg.out; omega, Hs.out.symm, Hd.out.symm, hB⟩
          | true =>
            simp only [Bool.true_and] at hd1
            cases hb34 : c == 34 with
            | true =>
              have b34 : (((s[i].toNat : Nat) : Int) == 34) = true := by rw [e34]; exact hb34
              have m34 : (((s[i].toNat : Nat) : Int) != 34) = false := by rw [bne, b34]; rfl
              skip
              have nb34 : (c != 34) = false := by rw [bne, hb34]; rfl
              simp only [nb34, Bool.and_true, Bool.and_false, Bool.true_and, Bool.false_and] at hs1 hd1
              have Hs := Lib.hid hs1
              have Hd := Lib.hid hd1
              clear hs1 hd1 e39 e34 e92 e36 e96 nb34 hb34
              go_wp2_with fail
              go_roundg (gk - 1)
              case measure => have := Hg.out; omega
              case rel => exact ⟨i + 1, false, false, by go_num, rfl, rfl, by omega, by have := Hg.out; omega, Hs.out.symm, Hd.out.symm, hB⟩
            | false =>
              cases hb92 : c == 92 with
              | true =>
                have b34 : (((s[i].toNat : Nat) : Int) == 34) = false := by rw [e34]; exact hb34
                have m34 : (((s[i].toNat : Nat) : Int) != 34) = true := by rw [bne, b34]; rfl
                have b92 : (((s[i].toNat : Nat) : Int) == 92) = true := by rw [e92]; exact hb92
                have m92 : (((s[i].toNat : Nat) : Int) != 92) = false := by rw [bne, b92]; rfl
                skip
                have nb34 : (c != 34) = true := by rw [bne, hb34]; rfl
                have nb92 : (c != 92) = false := by rw [bne, hb92]; rfl
                simp only [nb34, nb92, Bool.and_true, Bool.and_false, Bool.true_and, Bool.false_and] at hs1 hd1
                have Hs := Lib.hid hs1
                have Hd := Lib.hid hd1
                clear hs1 hd1 e39 e34 e92 e36 e96 nb34 hb34 nb92 hb92
                go_wp2_with fail
                go_roundg (gk - 1)
                case measure => have := Hg.out; omega
                case rel => exact ⟨i + 1, false, false, by go_num, rfl, rfl, by omega, by have := Hg.out; omega, Hs.out.symm, Hd.out.symm, hB⟩
              | false =>
                cases hb36 : c == 36 with
                | true =>
                  have b34 : (((s[i].toNat : Nat) : Int) == 34) = false := by rw [e34]; exact hb34
                  have m34 : (((s[i].toNat : Nat) : Int) != 34) = true := by rw [bne, b34]; rfl
                  have b92 : (((s[i].toNat : Nat) : Int) == 92) = false := by rw [e92]; exact hb92
                  have m92 : (((s[i].toNat : Nat) : Int) != 92) = true := by rw [bne, b92]; rfl
                  have b36 : (((s[i].toNat : Nat) : Int) == 36) = true := by rw [e36]; exact hb36
                  have m36 : (((s[i].toNat : Nat) : Int) != 36) = false := by rw [bne, b36]; rfl
                  skip
                  have nb34 : (c != 34) = true := by rw [bne, hb34]; rfl
                  have nb92 : (c != 92) = true := by rw [bne, hb92]; rfl
                  have nb36 : (c != 36) = false := by rw [bne, hb36]; rfl
                  simp only [nb34, nb92, nb36, Bool.and_true, Bool.and_false, Bool.true_and, Bool.false_and] at hs1 hd1
                  have Hs := Lib.hid hs1
                  have Hd := Lib.hid hd1
                  clear hs1 hd1 e39 e34 e92 e36 e96 nb34 hb34 nb92 hb92 nb36 hb36
                  go_wp2_with fail
                  go_roundg (gk - 1)
                  case measure => have := Hg.out; omega
                  case rel => exact ⟨i + 1, false, false, by go_num, rfl, rfl, by omega, by have := Hg.out; omega, Hs.out.symm, Hd.out.symm, hB⟩
                | false =>
                  cases hb96 : c == 96 with
                  | true =>
                    have b34 : (((s[i].toNat : Nat) : Int) == 34) = false := by rw [e34]; exact hb34
                    have m34 : (((s[i].toNat : Nat) : Int) != 34) = true := by rw [bne, b34]; rfl
                    have b92 : (((s[i].toNat : Nat) : Int) == 92) = false := by rw [e92]; exact hb92
                    have m92 : (((s[i].toNat : Nat) : Int) != 92) = true := by rw [bne, b92]; rfl
                    have b36 : (((s[i].toNat : Nat) : Int) == 36) = false := by rw [e36]; exact hb36
                    have m36 : (((s[i].toNat : Nat) : Int) != 36) = true := by rw [bne, b36]; rfl
                    have b96 : (((s[i].toNat : Nat) : Int) == 96) = true := by rw [e96]; exact hb96
                    have m96 : (((s[i].toNat : Nat) : Int) != 96) = false := by rw [bne, b96]; rfl
                    skip
                    have nb34 : (c != 34) = true := by rw [bne, hb34]; rfl
                    have nb92 : (c != 92) = true := by rw [bne, hb92]; rfl
                    have nb36 : (c != 36) = true := by rw [bne, hb36]; rfl
                    have nb96 : (c != 96) = false := by rw [bne, hb96]; rfl
                    simp only [nb34, nb92, nb36, nb96, Bool.and_true, Bool.and_false, Bool.true_and, Bool.false_and] at hs1 hd1
                    have Hs := Lib.hid hs1
                    have Hd := Lib.hid hd1
                    clear hs1 hd1 e39 e34 e92 e36 e96 nb34 hb34 nb92 hb92 nb36 hb36 nb96 hb96
                    go_wp2_with fail
                    go_roundg (gk - 1)
                    case measure => have := Hg.out; omega
                    case rel => exact ⟨i + 1, false, false, by go_num, rfl, rfl, by omega, by have := Hg.out; omega, Hs.out.symm, Hd.out.symm, hB⟩
                  | false =>
                    have b34 : (((s[i].toNat : Nat) : Int) == 34) = false := by rw [e34]; exact hb34
                    have m34 : (((s[i].toNat : Nat) : Int) != 34) = true := by rw [bne, b34]; rfl
                    have b92 : (((s[i].toNat : Nat) : Int) == 92) = false := by rw [e92]; exact hb92
                    have m92 : (((s[i].toNat : Nat) : Int) != 92) = true := by rw [bne, b92]; rfl
                    have b36 : (((s[i].toNat : Nat) : Int) == 36) = false := by rw [e36]; exact hb36
                    have m36 : (((s[i].toNat : Nat) : Int) != 36) = true := by rw [bne, b36]; rfl
                    have b96 : (((s[i].toNat : Nat) : Int) == 96) = false := by rw [e96]; exact hb96
                    have m96 : (((s[i].toNat : Nat) : Int) != 96) = true := by rw [bne, b96]; rfl
                    skip
                    have nb34 : (c != 34) = true := by rw [bne, hb34]; rfl
                    have nb92 : (c != 92) = true := by rw [bne, hb92]; rfl
                    have nb36 : (c != 36) = true := by rw [bne, hb36]; rfl
                    have nb96 : (c != 96) = true := by rw [bne, hb96]; rfl
                    simp only [nb34, nb92, nb36, nb96, Bool.and_true, Bool.and_false, Bool.true_and, Bool.false_and] at hs1 hd1
                    have Hs := Lib.hid hs1
                    have Hd := Lib.hid hd1
                    clear hs1 hd1 e39 e34 e92 e36 e96 nb34 hb34 nb92 hb92 nb36 hb36 nb96 hb96
                    go_wp2_with fail
                    go_roundg (gk - 1)
                    case measure => have := Hg.out; omega
                    case rel => exact ⟨i + 1, false, true, by go_num, rfl, rfl, by omega, by have := Hg.out; omega, Hs.out.symm, Hd.out.symm, hB⟩
        | true =>
          simp only [Bool.true_and] at hs1
          cases hb39 : c == 39 with
          | true =>
            cases db with
            | false =>
              simp only [Bool.false_and] at hd1
              have b39 : (((s[i].toNat : Nat) : Int) == 39) = true := by rw [e39]; exact hb39
              have m39 : (((s[i].toNat : Nat) : Int) != 39) = false := by rw [bne, b39]; rfl
              skip
              have nb39 : (c != 39) = false := by rw [bne, hb39]; rfl
              simp only [nb39, Bool.and_true, Bool.and_false, Bool.true_and, Bool.false_and] at hs1 hd1
              have Hs := Lib.hid hs1
              have Hd := Lib.hid hd1
              clear hs1 hd1 e39 e34 e92 e36 e96 nb39 hb39
              go_wp2_with fail
              go_roundg (gk - 1)
              case measure => have := Hg.out; omega
              case rel => exact ⟨i + 1, false, false, by go_num, rfl, rfl, by omega, by have := Hg.out; omega, Hs.out.symm, Hd.out.symm, hB⟩
            | true =>
              simp only [Bool.true_and] at hd1
              have hb34 : (c == 34) = false := by rw [eq_of_beq hb39]; rfl
              have hb92 : (c == 92) = false := by rw [eq_of_beq hb39]; rfl
              have hb36 : (c == 36) = false := by rw [eq_of_beq hb39]; rfl
              have hb96 : (c == 96) = false := by rw [eq_of_beq hb39]; rfl
              have b39 : (((s[i].toNat : Nat) : Int) == 39) = true := by rw [e39]; exact hb39
              have m39 : (((s[i].toNat : Nat) : Int) != 39) = false := by rw [bne, b39]; rfl
              have b34 : (((s[i].toNat : Nat) : Int) == 34) = false := by rw [e34]; exact hb34
              have m34 : (((s[i].toNat : Nat) : Int) != 34) = true := by rw [bne, b34]; rfl
              have b92 : (((s[i].toNat : Nat) : Int) == 92) = false := by rw [e92]; exact hb92
              have m92 : (((s[i].toNat : Nat) : Int) != 92) = true := by rw [bne, b92]; rfl
              have b36 : (((s[i].toNat : Nat) : Int) == 36) = false := by rw [e36]; exact hb36
              have m36 : (((s[i].toNat : Nat) : Int) != 36) = true := by rw [bne, b36]; rfl
              have b96 : (((s[i].toNat : Nat) : Int) == 96) = false := by rw [e96]; exact hb96
              have m96 : (((s[i].toNat : Nat) : Int) != 96) = true := by rw [bne, b96]; rfl
              skip
              have nb39 : (c != 39) = false := by rw [bne, hb39]; rfl
              have nb34 : (c != 34) = true := by rw [bne, hb34]; rfl
              have nb92 : (c != 92) = true := by rw [bne, hb92]; rfl
              have nb36 : (c != 36) = true := by rw [bne, hb36]; rfl
              have nb96 : (c != 96) = true := by rw [bne, hb96]; rfl
              simp only [nb39, nb34, nb92, nb36, nb96, Bool.and_true, Bool.and_false, Bool.true_and, Bool.false_and] at hs1 hd1
              have Hs := Lib.hid hs1
              have Hd := Lib.hid hd1
              clear hs1 hd1 e39 e34 e92 e36 e96 nb39 hb39 nb34 hb34 nb92 hb92 nb36 hb36 nb96 hb96
              go_wp2_with fail
              go_roundg (gk - 1)
              case measure => have := Hg.out; omega
              case rel => exact ⟨i + 1, false, true, by go_num, rfl, rfl, by omega, by have := Hg.out; omega, Hs.out.symm, Hd.out.symm, hB⟩
          | false =>
            cases db with
            | false =>
              simp only [Bool.false_and] at hd1
              have b39 : (((s[i].toNat : Nat) : Int) == 39) = false := by rw [e39]; exact hb39
              have m39 : (((s[i].toNat : Nat) : Int) != 39) = true := by rw [bne, b39]; rfl
              skip
              have nb39 : (c != 39) = true := by rw [bne, hb39]; rfl
              simp only [nb39, Bool.and_true, Bool.and_false, Bool.true_and, Bool.false_and] at hs1 hd1
              have Hs := Lib.hid hs1
              have Hd := Lib.hid hd1
              clear hs1 hd1 e39 e34 e92 e36 e96 nb39 hb39
              go_wp2_with fail
              go_roundg (gk - 1)
              case measure => have := Hg.out; omega
              case rel => exact ⟨i + 1, true, false, by go_num, rfl, rfl, by omega, by have := Hg.out; omega, Hs.out.symm, Hd.out.symm, hB⟩
            | true =>
              simp only [Bool.true_and] at hd1
              cases hb34 : c == 34 with
              | true =>
                have b39 : (((s[i].toNat : Nat) : Int) == 39) = false := by rw [e39]; exact hb39
                have m39 : (((s[i].toNat : Nat) : Int) != 39) = true := by rw [bne, b39]; rfl
                have b34 : (((s[i].toNat : Nat) : Int) == 34) = true := by rw [e34]; exact hb34
                have m34 : (((s[i].toNat : Nat) : Int) != 34) = false := by rw [bne, b34]; rfl
                skip
                have nb39 : (c != 39) = true := by rw [bne, hb39]; rfl
                have nb34 : (c != 34) = false := by rw [bne, hb34]; rfl
                simp only [nb39, nb34, Bool.and_true, Bool.and_false, Bool.true_and, Bool.false_and] at hs1 hd1
                have Hs := Lib.hid hs1
                have Hd := Lib.hid hd1
                clear hs1 hd1 e39 e34 e92 e36 e96 nb39 hb39 nb34 hb34
                go_wp2_with fail
                go_roundg (gk - 1)
                case measure => have := Hg.out; omega
                case rel => exact ⟨i + 1, true, false, by go_num, rfl, rfl, by omega, by have := Hg.out; omega, Hs.out.symm, Hd.out.symm, hB⟩
              | false =>
                cases hb92 : c == 92 with
                | true =>
                  have b39 : (((s[i].toNat : Nat) : Int) == 39) = false := by rw [e39]; exact hb39
                  have m39 : (((s[i].toNat : Nat) : Int) != 39) = true := by rw [bne, b39]; rfl
                  have b34 : (((s[i].toNat : Nat) : Int) == 34) = false := by rw [e34]; exact hb34
                  have m34 : (((s[i].toNat : Nat) : Int) != 34) = true := by rw [bne, b34]; rfl
                  have b92 : (((s[i].toNat : Nat) : Int) == 92) = true := by rw [e92]; exact hb92
                  have m92 : (((s[i].toNat : Nat) : Int) != 92) = false := by rw [bne, b92]; rfl
                  skip
                  have nb39 : (c != 39) = true := by rw [bne, hb39]; rfl
                  have nb34 : (c != 34) = true := by rw [bne, hb34]; rfl
                  have nb92 : (c != 92) = false := by rw [bne, hb92]; rfl
                  simp only [nb39, nb34, nb92, Bool.and_true, Bool.and_false, Bool.true_and, Bool.false_and] at hs1 hd1
                  have Hs := Lib.hid hs1
                  have Hd := Lib.hid hd1
                  clear hs1 hd1 e39 e34 e92 e36 e96 nb39 hb39 nb34 hb34 nb92 hb92
                  go_wp2_with fail
                  go_roundg (gk - 1)
                  case measure => have := Hg.out; omega
                  case rel => exact ⟨i + 1, true, false, by go_num, rfl, rfl, by omega, by have := Hg.out; omega, Hs.out.symm, Hd.out.symm, hB⟩
                | false =>
                  cases hb36 : c == 36 with
                  | true =>
                    have b39 : (((s[i].toNat : Nat) : Int) == 39) = false := by rw [e39]; exact hb39
                    have m39 : (((s[i].toNat : Nat) : Int) != 39) = true := by rw [bne, b39]; rfl
                    have b34 : (((s[i].toNat : Nat) : Int) == 34) = false := by rw [e34]; exact hb34
                    have m34 : (((s[i].toNat : Nat) : Int) != 34) = true := by rw [bne, b34]; rfl
                    have b92 : (((s[i].toNat : Nat) : Int) == 92) = false := by rw [e92]; exact hb92
                    have m92 : (((s[i].toNat : Nat) : Int) != 92) = true := by rw [bne, b92]; rfl
                    have b36 : (((s[i].toNat : Nat) : Int) == 36) = true := by rw [e36]; exact hb36
                    have m36 : (((s[i].toNat : Nat) : Int) != 36) = false := by rw [bne, b36]; rfl
                    skip
                    have nb39 : (c != 39) = true := by rw [bne, hb39]; rfl
                    have nb34 : (c != 34) = true := by rw [bne, hb34]; rfl
                    have nb92 : (c != 92) = true := by rw [bne, hb92]; rfl
                    have nb36 : (c != 36) = false := by rw [bne, hb36]; rfl
                    simp only [nb39, nb34, nb92, nb36, Bool.and_true, Bool.and_false, Bool.true_and, Bool.false_and] at hs1 hd1
                    have Hs := Lib.hid hs1
                    have Hd := Lib.hid hd1
                    clear hs1 hd1 e39 e34 e92 e36 e96 nb39 hb39 nb34 hb34 nb92 hb92 nb36 hb36
                    go_wp2_with fail
                    go_roundg (gk - 1)
                    case measure => have := Hg.out; omega
                    case rel => exact ⟨i + 1, true, false, by go_num, rfl, rfl, by omega, by have := Hg.out; omega, Hs.out.symm, Hd.out.symm, hB⟩
                  | false =>
                    cases hb96 : c == 96 with
                    | true =>
                      have b39 : (((s[i].toNat : Nat) : Int) == 39) = false := by rw [e39]; exact hb39
                      have m39 : (((s[i].toNat : Nat) : Int) != 39) = true := by rw [bne, b39]; rfl
                      have b34 : (((s[i].toNat : Nat) : Int) == 34) = false := by rw [e34]; exact hb34
                      have m34 : (((s[i].toNat : Nat) : Int) != 34) = true := by rw [bne, b34]; rfl
                      have b92 : (((s[i].toNat : Nat) : Int) == 92) = false := by rw [e92]; exact hb92
                      have m92 : (((s[i].toNat : Nat) : Int) != 92) = true := by rw [bne, b92]; rfl
                      have b36 : (((s[i].toNat : Nat) : Int) == 36) = false := by rw [e36]; exact hb36
                      have m36 : (((s[i].toNat : Nat) : Int) != 36) = true := by rw [bne, b36]; rfl
                      have b96 : (((s[i].toNat : Nat) : Int) == 96) = true := by rw [e96]; exact hb96
                      have m96 : (((s[i].toNat : Nat) : Int) != 96) = false := by rw [bne, b96]; rfl
                      skip
                      have nb39 : (c != 39) = true := by rw [bne, hb39]; rfl
                      have nb34 : (c != 34) = true := by rw [bne, hb34]; rfl
                      have nb92 : (c != 92) = true := by rw [bne, hb92]; rfl
                      have nb36 : (c != 36) = true := by rw [bne, hb36]; rfl
                      have nb96 : (c != 96) = false := by rw [bne, hb96]; rfl
                      simp only [nb39, nb34, nb92, nb36, nb96, Bool.and_true, Bool.and_false, Bool.true_and, Bool.false_and] at hs1 hd1
                      have Hs := Lib.hid hs1
                      have Hd := Lib.hid hd1
                      clear hs1 hd1 e39 e34 e92 e36 e96 nb39 hb39 nb34 hb34 nb92 hb92 nb36 hb36 nb96 hb96
                      go_wp2_with fail
                      go_roundg (gk - 1)
                      case measure => have := Hg.out; omega
                      case rel => exact ⟨i + 1, true, false, by go_num, rfl, rfl, by omega, by have := Hg.out; omega, Hs.out.symm, Hd.out.symm, hB⟩
                    | false =>
                      have b39 : (((s[i].toNat : Nat) : Int) == 39) = false := by rw [e39]; exact hb39
                      have m39 : (((s[i].toNat : Nat) : Int) != 39) = true := by rw [bne, b39]; rfl
                      have b34 : (((s[i].toNat : Nat) : Int) == 34) = false := by rw [e34]; exact hb34
                      have m34 : (((s[i].toNat : Nat) : Int) != 34) = true := by rw [bne, b34]; rfl
                      have b92 : (((s[i].toNat : Nat) : Int) == 92) = false := by rw [e92]; exact hb92
                      have m92 : (((s[i].toNat : Nat) : Int) != 92) = true := by rw [bne, b92]; rfl
                      have b36 : (((s[i].toNat : Nat) : Int) == 36) = false := by rw [e36]; exact hb36
                      have m36 : (((s[i].toNat : Nat) : Int) != 36) = true := by rw [bne, b36]; rfl
                      have b96 : (((s[i].toNat : Nat) : Int) == 96) = false := by rw [e96]; exact hb96
                      have m96 : (((s[i].toNat : Nat) : Int) != 96) = true := by rw [bne, b96]; rfl
                      skip
                      have nb39 : (c != 39) = true := by rw [bne, hb39]; rfl
                      have nb34 : (c != 34) = true := by rw [bne, hb34]; rfl
                      have nb92 : (c != 92) = true := by rw [bne, hb92]; rfl
                      have nb36 : (c != 36) = true := by rw [bne, hb36]; rfl
                      have nb96 : (c != 96) = true := by rw [bne, hb96]; rfl
                      simp only [nb39, nb34, nb92, nb36, nb96, Bool.and_true, Bool.and_false, Bool.true_and, Bool.false_and] at hs1 hd1
                      have Hs := Lib.hid hs1
                      have Hd := Lib.hid hd1
                      clear hs1 hd1 e39 e34 e92 e36 e96 nb39 hb39 nb34 hb34 nb92 hb92 nb36 hb36 nb96 hb96
                      go_wp2_with fail
                      go_roundg (gk - 1)
                      case measure => have := Hg.out; omega
                      case rel => exact ⟨i + 1, true, true, by go_num, rfl, rfl, by omega, by have := Hg.out; omega, Hs.out.symm, Hd.out.symm, hB⟩
      · have hiI : ¬ ((i : Int) < s.size) := by omega
        have htk : (bs s).take i = bs s := List.take_of_length_le (by rw [bs_length]; omega)
        rw [htk] at hs hd
        have Ho1 := hs ▸ one_single s (by omega)
        have Ho2 := hd ▸ one_double s (by omega)
        obtain ⟨x1, hx1⟩ : ∃ x : ByteArray, ⟨#[120, 39]⟩ ++ s ++ ⟨#[39, 121]⟩ = x := ⟨_, rfl⟩
        obtain ⟨x2, hx2⟩ : ∃ x : ByteArray, ⟨#[120, 34]⟩ ++ s ++ ⟨#[34, 121]⟩ = x := ⟨_, rfl⟩
        obtain ⟨x3, hx3⟩ : ∃ x : ByteArray, ⟨#[36, 40]⟩ ++ s ++ ⟨#[41]⟩ = x := ⟨_, rfl⟩
        obtain ⟨x4, hx4⟩ : ∃ x : ByteArray, ⟨#[36, 40, 40]⟩ ++ s ++ ⟨#[41, 32]⟩ ++ s ++ ⟨#[41, 122]⟩ = x := ⟨_, rfl⟩
        have z1 : (x1.size : Int) ≤ 9223372036854775807 := by rw [← hx1, ByteArray.size_append, ByteArray.size_append]; show ((2 + s.size + 2 : Nat) : Int) ≤ _; omega
        have z2 : (x2.size : Int) ≤ 9223372036854775807 := by rw [← hx2, ByteArray.size_append, ByteArray.size_append]; show ((2 + s.size + 2 : Nat) : Int) ≤ _; omega
        have z3 : (x3.size : Int) ≤ 9223372036854775807 := by rw [← hx3, ByteArray.size_append, ByteArray.size_append]; show ((2 + s.size + 1 : Nat) : Int) ≤ _; omega
        have z4 : (x4.size : Int) ≤ 9223372036854775807 := by rw [← hx4, ByteArray.size_append, ByteArray.size_append, ByteArray.size_append, ByteArray.size_append]; show ((3 + s.size + 2 + s.size + 2 : Nat) : Int) ≤ _; omega
        rw [hx1] at Ho1
        rw [hx2] at Ho2
        have H3 := Lib.hid (fun w => Hole_calls x3 0 w z3)
        have H4 := Lib.hid (fun w => Hole_calls x4 0 w z4)
        have hW3 : Wd (bs s) = some [] → holeA x3 0 = ((s.size : Int) + 3, 0) := fun h => by rw [← hx3]; exact hole_one s (by omega) h
        have hW4 : Wd (bs s) = some [] → holeA x4 0 = (2 * (s.size : Int) + 6, 0) := fun h => by rw [← hx4]; exact hole_two s (by omega) h
        have hbl := allP_len s
        obtain ⟨⟨xs, f1, f2⟩, hall⟩ : ∃ r, allP s = r := ⟨_, rfl⟩
        rw [hall] at hbl
        have HB := Lib.hid hB
        clear htk hs hd hg hB
        cases sb with
        | false =>
          obtain ⟨⟨ys1, u1, v1⟩, hy1⟩ : ∃ r, allP x1 = r := ⟨_, rfl⟩
          have A1 := all_gen x1 _ _ _ hy1 z1
          obtain ⟨n1, hn1⟩ : ∃ n, n = ys1.length := ⟨_, rfl⟩
          rw [← hn1] at A1
          have A1 := Lib.hid A1
          clear hy1 hn1
          clear Ho1
          cases db with
          | false =>
            obtain ⟨⟨ys2, u2, v2⟩, hy2⟩ : ∃ r, allP x2 = r := ⟨_, rfl⟩
            have A2 := all_gen x2 _ _ _ hy2 z2
            obtain ⟨n2, hn2⟩ : ∃ n, n = ys2.length := ⟨_, rfl⟩
            rw [← hn2] at A2
            have A2 := Lib.hid A2
            clear hy2 hn2
            skip
            clear Ho2
            by_cases hf2 : f2 = 0
            · subst hf2
              by_cases hl1 : xs.length = 1
              · obtain ⟨⟨kd, tx, ta, tm⟩, rfl⟩ : ∃ t, xs = [t] := List.length_eq_one_iff.1 hl1
                have A3 := Lib.hid (all_one s kd ta tm f1 0 tx hall h63)
                by_cases hk4 : kd = 4
                · subst hk4
                  by_cases htx : tx = s
                  · subst htx
                    have hW := word_whole tx 4 ta tm _ hall rfl
                    have H3 := H3.out
                    have H4 := H4.out
                    rw [hW3 hW] at H3
                    rw [hW4 hW] at H4
                    have H3 := Lib.hid H3
                    have H4 := Lib.hid H4
                    clear hW hW3 hW4 hall hl1 hbl
                    go_wp2_with fail
                    refine (A1.out _).mono ?_
                    rintro e w1 ⟨⟨p1, q1, rfl, hS1⟩, hR1⟩
                    have HBa := Lib.hid (HB.out.trans (Below.mono (h := (hR1.whole hS1)) HB.out.size))
                    clear hS1 hR1
                    go_wp2_with fail
                    refine (A2.out _).mono ?_
                    rintro e w2 ⟨⟨p2, q2, rfl, hS2⟩, hR2⟩
                    have hB2 := hR2.whole hS2
                    have HBb := Lib.hid (HBa.out.trans (Below.mono (h := hB2) HBa.out.size))
                    clear hB2 hS2 hR2
                    go_wp2_with fail
                    refine (A3.out _).mono ?_
                    rintro e w3 ⟨b3, o3, q3, rfl, hq3, hb3, d30, d31, hB3⟩
                    have hq3I : (1 : Int) ≤ q3 := by omega
                    have HBc := Lib.hid (HBb.out.trans (Below.mono (h := hB3) HBb.out.size))
                    clear hB3
                    go_wp2_with fail
                    refine (H3.out _).mono ?_
                    rintro e w4 ⟨rfl, hB4⟩
                    have HBd := Lib.hid (HBc.out.trans (Below.mono (h := hB4) HBc.out.size))
                    clear hB4
                    go_wp2_with fail
                    refine (H4.out _).mono ?_
                    rintro e w5 ⟨rfl, hB5⟩
                    have HBc := Lib.hid (HBd.out.trans (Below.mono (h := hB5) HBd.out.size))
                    clear hB5
                    go_wp2_with fail
                    refine (HA.out _).mono ?_
                    rintro e w6 ⟨rfl, hB6⟩
                    have HF := Lib.hid (HBc.out.trans (Below.mono (h := hB6) HBc.out.size))
                    clear hB6
                    go_wp2_with fail
                    go_ret
                    exact ⟨rfl, HF.out⟩
                  · have ht := list_ne htx
                    clear hW3 hW4 H3 H4 hall hl1 hbl hx3 hx4
                    go_wp2_with fail
                    refine (A1.out _).mono ?_
                    rintro e w1 ⟨⟨p1, q1, rfl, hS1⟩, hR1⟩
                    have HBa := Lib.hid (HB.out.trans (Below.mono (h := (hR1.whole hS1)) HB.out.size))
                    clear hS1 hR1
                    go_wp2_with fail
                    refine (A2.out _).mono ?_
                    rintro e w2 ⟨⟨p2, q2, rfl, hS2⟩, hR2⟩
                    have hB2 := hR2.whole hS2
                    have HBb := Lib.hid (HBa.out.trans (Below.mono (h := hB2) HBa.out.size))
                    clear hB2 hS2 hR2
                    go_wp2_with fail
                    refine (A3.out _).mono ?_
                    rintro e w3 ⟨b3, o3, q3, rfl, hq3, hb3, d30, d31, hB3⟩
                    have hq3I : (1 : Int) ≤ q3 := by omega
                    have HBc := Lib.hid (HBb.out.trans (Below.mono (h := hB3) HBb.out.size))
                    clear hB3
                    go_wp2_with fail
                    refine (HA.out _).mono ?_
                    rintro e w6 ⟨rfl, hB6⟩
                    have HF := Lib.hid (HBc.out.trans (Below.mono (h := hB6) HBc.out.size))
                    clear hB6
                    go_wp2_with fail
                    go_ret
                    exact ⟨rfl, HF.out⟩
                · have hk4b : (kd == 4) = false := beq_eq_false_iff_ne.2 hk4
                  clear hW3 hW4 H3 H4 hall hl1 hbl hx3 hx4
                  go_wp2_with fail
                  refine (A1.out _).mono ?_
                  rintro e w1 ⟨⟨p1, q1, rfl, hS1⟩, hR1⟩
                  have HBa := Lib.hid (HB.out.trans (Below.mono (h := (hR1.whole hS1)) HB.out.size))
                  clear hS1 hR1
                  go_wp2_with fail
                  refine (A2.out _).mono ?_
                  rintro e w2 ⟨⟨p2, q2, rfl, hS2⟩, hR2⟩
                  have hB2 := hR2.whole hS2
                  have HBb := Lib.hid (HBa.out.trans (Below.mono (h := hB2) HBa.out.size))
                  clear hB2 hS2 hR2
                  go_wp2_with fail
                  refine (A3.out _).mono ?_
                  rintro e w3 ⟨b3, o3, q3, rfl, hq3, hb3, d30, d31, hB3⟩
                  have hq3I : (1 : Int) ≤ q3 := by omega
                  have HBc := Lib.hid (HBb.out.trans (Below.mono (h := hB3) HBb.out.size))
                  clear hB3
                  go_wp2_with fail
                  refine (HA.out _).mono ?_
                  rintro e w6 ⟨rfl, hB6⟩
                  have HF := Lib.hid (HBc.out.trans (Below.mono (h := hB6) HBc.out.size))
                  clear hB6
                  go_wp2_with fail
                  go_ret
                  exact ⟨rfl, HF.out⟩
              · have A3 := Lib.hid (all_gen s xs f1 0 hall h63)
                obtain ⟨n, hn⟩ : ∃ n, n = xs.length := ⟨_, rfl⟩
                rw [← hn] at hl1
                have hl1b : ((n : Int) == 1) = false := beq_eq_false_iff_ne.2 (by omega)
                have Hn := Lib.hid hn
                have hnI : (n : Int) ≤ 4096 := by rw [hn]; have : xs.length ≤ 4096 := hbl; omega
                have A3 := A3.out
                rw [← hn] at A3
                have A3 := Lib.hid A3
                clear hW3 hW4 H3 H4 hall hbl hx3 hx4 hn
                go_wp2_with fail
                refine (A1.out _).mono ?_
                rintro e w1 ⟨⟨p1, q1, rfl, hS1⟩, hR1⟩
                have HBa := Lib.hid (HB.out.trans (Below.mono (h := (hR1.whole hS1)) HB.out.size))
                clear hS1 hR1
                go_wp2_with fail
                refine (A2.out _).mono ?_
                rintro e w2 ⟨⟨p2, q2, rfl, hS2⟩, hR2⟩
                have hB2 := hR2.whole hS2
                have HBb := Lib.hid (HBa.out.trans (Below.mono (h := hB2) HBa.out.size))
                clear hB2 hS2 hR2
                go_wp2_with fail
                refine (A3.out _).mono ?_
                rintro e w3 ⟨⟨p3, q3, rfl, hS3⟩, hR3⟩
                have hB3 := hR3.whole hS3
                have HBc := Lib.hid (HBb.out.trans (Below.mono (h := hB3) HBb.out.size))
                clear hS3 hR3 hB3
                go_wp2_with fail
                refine (HA.out _).mono ?_
                rintro e w6 ⟨rfl, hB6⟩
                have HF := Lib.hid (HBc.out.trans (Below.mono (h := hB6) HBc.out.size))
                clear hB6
                go_wp2_with fail
                go_ret
                exact ⟨rfl, HF.out⟩
            · have hf2b : (f2 == 0) = false := beq_eq_false_iff_ne.2 hf2
              have A3 := Lib.hid (all_gen s xs f1 f2 hall h63)
              clear hW3 hW4 H3 H4 hall hbl hx3 hx4
              go_wp2_with fail
              refine (A1.out _).mono ?_
              rintro e w1 ⟨⟨p1, q1, rfl, hS1⟩, hR1⟩
              have HBa := Lib.hid (HB.out.trans (Below.mono (h := (hR1.whole hS1)) HB.out.size))
              clear hS1 hR1
              go_wp2_with fail
              refine (A2.out _).mono ?_
              rintro e w2 ⟨⟨p2, q2, rfl, hS2⟩, hR2⟩
              have hB2 := hR2.whole hS2
              have HBb := Lib.hid (HBa.out.trans (Below.mono (h := hB2) HBa.out.size))
              clear hB2 hS2 hR2
              go_wp2_with fail
              refine (A3.out _).mono ?_
              rintro e w3 ⟨⟨p3, q3, rfl, hS3⟩, hR3⟩
              have hB3 := hR3.whole hS3
              have HBc := Lib.hid (HBb.out.trans (Below.mono (h := hB3) HBb.out.size))
              clear hS3 hR3 hB3
              go_wp2_with fail
              refine (HA.out _).mono ?_
              rintro e w6 ⟨rfl, hB6⟩
              have HF := Lib.hid (HBc.out.trans (Below.mono (h := hB6) HBc.out.size))
              clear hB6
              go_wp2_with fail
              go_ret
              exact ⟨rfl, HF.out⟩
          | true =>
            obtain ⟨k2, hone2⟩ := Ho2 rfl
            have A2 := Lib.hid (all_one x2 k2 0 x2.size 0 0 x2 hone2 z2)
            clear hone2 Ho2
            by_cases hf2 : f2 = 0
            · subst hf2
              by_cases hl1 : xs.length = 1
              · obtain ⟨⟨kd, tx, ta, tm⟩, rfl⟩ : ∃ t, xs = [t] := List.length_eq_one_iff.1 hl1
                have A3 := Lib.hid (all_one s kd ta tm f1 0 tx hall h63)
                by_cases hk4 : kd = 4
                · subst hk4
                  by_cases htx : tx = s
                  · subst htx
                    have hW := word_whole tx 4 ta tm _ hall rfl
                    have H3 := H3.out
                    have H4 := H4.out
                    rw [hW3 hW] at H3
                    rw [hW4 hW] at H4
                    have H3 := Lib.hid H3
                    have H4 := Lib.hid H4
                    clear hW hW3 hW4 hall hl1 hbl
                    go_wp2_with fail
                    refine (A1.out _).mono ?_
                    rintro e w1 ⟨⟨p1, q1, rfl, hS1⟩, hR1⟩
                    have HBa := Lib.hid (HB.out.trans (Below.mono (h := (hR1.whole hS1)) HB.out.size))
                    clear hS1 hR1
                    go_wp2_with fail
                    refine (A2.out _).mono ?_
                    rintro e w2 ⟨b2, o2, q2, rfl, hq2, hb2, -, d2, hB2⟩
                    have hq2I : (1 : Int) ≤ q2 := by omega
                    have HBb := Lib.hid (HBa.out.trans (Below.mono (h := hB2) HBa.out.size))
                    clear hB2
                    go_wp2_with fail
                    refine (A3.out _).mono ?_
                    rintro e w3 ⟨b3, o3, q3, rfl, hq3, hb3, d30, d31, hB3⟩
                    have hq3I : (1 : Int) ≤ q3 := by omega
                    have HBc := Lib.hid (HBb.out.trans (Below.mono (h := hB3) HBb.out.size))
                    clear hB3
                    go_wp2_with fail
                    refine (H3.out _).mono ?_
                    rintro e w4 ⟨rfl, hB4⟩
                    have HBd := Lib.hid (HBc.out.trans (Below.mono (h := hB4) HBc.out.size))
                    clear hB4
                    go_wp2_with fail
                    refine (H4.out _).mono ?_
                    rintro e w5 ⟨rfl, hB5⟩
                    have HBc := Lib.hid (HBd.out.trans (Below.mono (h := hB5) HBd.out.size))
                    clear hB5
                    go_wp2_with fail
                    refine (HA.out _).mono ?_
                    rintro e w6 ⟨rfl, hB6⟩
                    have HF := Lib.hid (HBc.out.trans (Below.mono (h := hB6) HBc.out.size))
                    clear hB6
                    go_wp2_with fail
                    go_ret
                    exact ⟨rfl, HF.out⟩
                  · have ht := list_ne htx
                    clear hW3 hW4 H3 H4 hall hl1 hbl hx3 hx4
                    go_wp2_with fail
                    refine (A1.out _).mono ?_
                    rintro e w1 ⟨⟨p1, q1, rfl, hS1⟩, hR1⟩
                    have HBa := Lib.hid (HB.out.trans (Below.mono (h := (hR1.whole hS1)) HB.out.size))
                    clear hS1 hR1
                    go_wp2_with fail
                    refine (A2.out _).mono ?_
                    rintro e w2 ⟨b2, o2, q2, rfl, hq2, hb2, -, d2, hB2⟩
                    have hq2I : (1 : Int) ≤ q2 := by omega
                    have HBb := Lib.hid (HBa.out.trans (Below.mono (h := hB2) HBa.out.size))
                    clear hB2
                    go_wp2_with fail
                    refine (A3.out _).mono ?_
                    rintro e w3 ⟨b3, o3, q3, rfl, hq3, hb3, d30, d31, hB3⟩
                    have hq3I : (1 : Int) ≤ q3 := by omega
                    have HBc := Lib.hid (HBb.out.trans (Below.mono (h := hB3) HBb.out.size))
                    clear hB3
                    go_wp2_with fail
                    refine (HA.out _).mono ?_
                    rintro e w6 ⟨rfl, hB6⟩
                    have HF := Lib.hid (HBc.out.trans (Below.mono (h := hB6) HBc.out.size))
                    clear hB6
                    go_wp2_with fail
                    go_ret
                    exact ⟨rfl, HF.out⟩
                · have hk4b : (kd == 4) = false := beq_eq_false_iff_ne.2 hk4
                  clear hW3 hW4 H3 H4 hall hl1 hbl hx3 hx4
                  go_wp2_with fail
                  refine (A1.out _).mono ?_
                  rintro e w1 ⟨⟨p1, q1, rfl, hS1⟩, hR1⟩
                  have HBa := Lib.hid (HB.out.trans (Below.mono (h := (hR1.whole hS1)) HB.out.size))
                  clear hS1 hR1
                  go_wp2_with fail
                  refine (A2.out _).mono ?_
                  rintro e w2 ⟨b2, o2, q2, rfl, hq2, hb2, -, d2, hB2⟩
                  have hq2I : (1 : Int) ≤ q2 := by omega
                  have HBb := Lib.hid (HBa.out.trans (Below.mono (h := hB2) HBa.out.size))
                  clear hB2
                  go_wp2_with fail
                  refine (A3.out _).mono ?_
                  rintro e w3 ⟨b3, o3, q3, rfl, hq3, hb3, d30, d31, hB3⟩
                  have hq3I : (1 : Int) ≤ q3 := by omega
                  have HBc := Lib.hid (HBb.out.trans (Below.mono (h := hB3) HBb.out.size))
                  clear hB3
                  go_wp2_with fail
                  refine (HA.out _).mono ?_
                  rintro e w6 ⟨rfl, hB6⟩
                  have HF := Lib.hid (HBc.out.trans (Below.mono (h := hB6) HBc.out.size))
                  clear hB6
                  go_wp2_with fail
                  go_ret
                  exact ⟨rfl, HF.out⟩
              · have A3 := Lib.hid (all_gen s xs f1 0 hall h63)
                obtain ⟨n, hn⟩ : ∃ n, n = xs.length := ⟨_, rfl⟩
                rw [← hn] at hl1
                have hl1b : ((n : Int) == 1) = false := beq_eq_false_iff_ne.2 (by omega)
                have Hn := Lib.hid hn
                have hnI : (n : Int) ≤ 4096 := by rw [hn]; have : xs.length ≤ 4096 := hbl; omega
                have A3 := A3.out
                rw [← hn] at A3
                have A3 := Lib.hid A3
                clear hW3 hW4 H3 H4 hall hbl hx3 hx4 hn
                go_wp2_with fail
                refine (A1.out _).mono ?_
                rintro e w1 ⟨⟨p1, q1, rfl, hS1⟩, hR1⟩
                have HBa := Lib.hid (HB.out.trans (Below.mono (h := (hR1.whole hS1)) HB.out.size))
                clear hS1 hR1
                go_wp2_with fail
                refine (A2.out _).mono ?_
                rintro e w2 ⟨b2, o2, q2, rfl, hq2, hb2, -, d2, hB2⟩
                have hq2I : (1 : Int) ≤ q2 := by omega
                have HBb := Lib.hid (HBa.out.trans (Below.mono (h := hB2) HBa.out.size))
                clear hB2
                go_wp2_with fail
                refine (A3.out _).mono ?_
                rintro e w3 ⟨⟨p3, q3, rfl, hS3⟩, hR3⟩
                have hB3 := hR3.whole hS3
                have HBc := Lib.hid (HBb.out.trans (Below.mono (h := hB3) HBb.out.size))
                clear hS3 hR3 hB3
                go_wp2_with fail
                refine (HA.out _).mono ?_
                rintro e w6 ⟨rfl, hB6⟩
                have HF := Lib.hid (HBc.out.trans (Below.mono (h := hB6) HBc.out.size))
                clear hB6
                go_wp2_with fail
                go_ret
                exact ⟨rfl, HF.out⟩
            · have hf2b : (f2 == 0) = false := beq_eq_false_iff_ne.2 hf2
              have A3 := Lib.hid (all_gen s xs f1 f2 hall h63)
              clear hW3 hW4 H3 H4 hall hbl hx3 hx4
              go_wp2_with fail
              refine (A1.out _).mono ?_
              rintro e w1 ⟨⟨p1, q1, rfl, hS1⟩, hR1⟩
              have HBa := Lib.hid (HB.out.trans (Below.mono (h := (hR1.whole hS1)) HB.out.size))
              clear hS1 hR1
              go_wp2_with fail
              refine (A2.out _).mono ?_
              rintro e w2 ⟨b2, o2, q2, rfl, hq2, hb2, -, d2, hB2⟩
              have hq2I : (1 : Int) ≤ q2 := by omega
              have HBb := Lib.hid (HBa.out.trans (Below.mono (h := hB2) HBa.out.size))
              clear hB2
              go_wp2_with fail
              refine (A3.out _).mono ?_
              rintro e w3 ⟨⟨p3, q3, rfl, hS3⟩, hR3⟩
              have hB3 := hR3.whole hS3
              have HBc := Lib.hid (HBb.out.trans (Below.mono (h := hB3) HBb.out.size))
              clear hS3 hR3 hB3
              go_wp2_with fail
              refine (HA.out _).mono ?_
              rintro e w6 ⟨rfl, hB6⟩
              have HF := Lib.hid (HBc.out.trans (Below.mono (h := hB6) HBc.out.size))
              clear hB6
              go_wp2_with fail
              go_ret
              exact ⟨rfl, HF.out⟩
        | true =>
          obtain ⟨k1, hone1⟩ := Ho1 rfl
          have A1 := Lib.hid (all_one x1 k1 0 x1.size 0 0 x1 hone1 z1)
          clear hone1 Ho1
          cases db with
          | false =>
            obtain ⟨⟨ys2, u2, v2⟩, hy2⟩ : ∃ r, allP x2 = r := ⟨_, rfl⟩
            have A2 := all_gen x2 _ _ _ hy2 z2
            obtain ⟨n2, hn2⟩ : ∃ n, n = ys2.length := ⟨_, rfl⟩
            rw [← hn2] at A2
            have A2 := Lib.hid A2
            clear hy2 hn2
            skip
            clear Ho2
            by_cases hf2 : f2 = 0
            · subst hf2
              by_cases hl1 : xs.length = 1
              · obtain ⟨⟨kd, tx, ta, tm⟩, rfl⟩ : ∃ t, xs = [t] := List.length_eq_one_iff.1 hl1
                have A3 := Lib.hid (all_one s kd ta tm f1 0 tx hall h63)
                by_cases hk4 : kd = 4
                · subst hk4
                  by_cases htx : tx = s
                  · subst htx
                    have hW := word_whole tx 4 ta tm _ hall rfl
                    have H3 := H3.out
                    have H4 := H4.out
                    rw [hW3 hW] at H3
                    rw [hW4 hW] at H4
                    have H3 := Lib.hid H3
                    have H4 := Lib.hid H4
                    clear hW hW3 hW4 hall hl1 hbl
                    go_wp2_with fail
                    refine (A1.out _).mono ?_
                    rintro e w1 ⟨b1, o1, q1, rfl, hq1, hb1, -, d1, hB1⟩
                    have hq1I : (1 : Int) ≤ q1 := by omega
                    have HBa := Lib.hid (HB.out.trans (Below.mono (h := hB1) HB.out.size))
                    clear hB1
                    go_wp2_with fail
                    refine (A2.out _).mono ?_
                    rintro e w2 ⟨⟨p2, q2, rfl, hS2⟩, hR2⟩
                    have hB2 := hR2.whole hS2
                    have HBb := Lib.hid (HBa.out.trans (Below.mono (h := hB2) HBa.out.size))
                    have d1 := (World.cell?_of_block (w := w1) (hB2.block _ hb1)).trans d1
                    clear hB2 hS2 hR2
                    go_wp2_with fail
                    refine (A3.out _).mono ?_
                    rintro e w3 ⟨b3, o3, q3, rfl, hq3, hb3, d30, d31, hB3⟩
                    have hq3I : (1 : Int) ≤ q3 := by omega
                    have HBc := Lib.hid (HBb.out.trans (Below.mono (h := hB3) HBb.out.size))
                    clear hB3
                    go_wp2_with fail
                    refine (H3.out _).mono ?_
                    rintro e w4 ⟨rfl, hB4⟩
                    have HBd := Lib.hid (HBc.out.trans (Below.mono (h := hB4) HBc.out.size))
                    clear hB4
                    go_wp2_with fail
                    refine (H4.out _).mono ?_
                    rintro e w5 ⟨rfl, hB5⟩
                    have HBc := Lib.hid (HBd.out.trans (Below.mono (h := hB5) HBd.out.size))
                    clear hB5
                    go_wp2_with fail
                    refine (HA.out _).mono ?_
                    rintro e w6 ⟨rfl, hB6⟩
                    have HF := Lib.hid (HBc.out.trans (Below.mono (h := hB6) HBc.out.size))
                    clear hB6
                    go_wp2_with fail
                    go_ret
                    exact ⟨rfl, HF.out⟩
                  · have ht := list_ne htx
                    clear hW3 hW4 H3 H4 hall hl1 hbl hx3 hx4
                    go_wp2_with fail
                    refine (A1.out _).mono ?_
                    rintro e w1 ⟨b1, o1, q1, rfl, hq1, hb1, -, d1, hB1⟩
                    have hq1I : (1 : Int) ≤ q1 := by omega
                    have HBa := Lib.hid (HB.out.trans (Below.mono (h := hB1) HB.out.size))
                    clear hB1
                    go_wp2_with fail
                    refine (A2.out _).mono ?_
                    rintro e w2 ⟨⟨p2, q2, rfl, hS2⟩, hR2⟩
                    have hB2 := hR2.whole hS2
                    have HBb := Lib.hid (HBa.out.trans (Below.mono (h := hB2) HBa.out.size))
                    have d1 := (World.cell?_of_block (w := w1) (hB2.block _ hb1)).trans d1
                    clear hB2 hS2 hR2
                    go_wp2_with fail
                    refine (A3.out _).mono ?_
                    rintro e w3 ⟨b3, o3, q3, rfl, hq3, hb3, d30, d31, hB3⟩
                    have hq3I : (1 : Int) ≤ q3 := by omega
                    have HBc := Lib.hid (HBb.out.trans (Below.mono (h := hB3) HBb.out.size))
                    clear hB3
                    go_wp2_with fail
                    refine (HA.out _).mono ?_
                    rintro e w6 ⟨rfl, hB6⟩
                    have HF := Lib.hid (HBc.out.trans (Below.mono (h := hB6) HBc.out.size))
                    clear hB6
                    go_wp2_with fail
                    go_ret
                    exact ⟨rfl, HF.out⟩
                · have hk4b : (kd == 4) = false := beq_eq_false_iff_ne.2 hk4
                  clear hW3 hW4 H3 H4 hall hl1 hbl hx3 hx4
                  go_wp2_with fail
                  refine (A1.out _).mono ?_
                  rintro e w1 ⟨b1, o1, q1, rfl, hq1, hb1, -, d1, hB1⟩
                  have hq1I : (1 : Int) ≤ q1 := by omega
                  have HBa := Lib.hid (HB.out.trans (Below.mono (h := hB1) HB.out.size))
                  clear hB1
                  go_wp2_with fail
                  refine (A2.out _).mono ?_
                  rintro e w2 ⟨⟨p2, q2, rfl, hS2⟩, hR2⟩
                  have hB2 := hR2.whole hS2
                  have HBb := Lib.hid (HBa.out.trans (Below.mono (h := hB2) HBa.out.size))
                  have d1 := (World.cell?_of_block (w := w1) (hB2.block _ hb1)).trans d1
                  clear hB2 hS2 hR2
                  go_wp2_with fail
                  refine (A3.out _).mono ?_
                  rintro e w3 ⟨b3, o3, q3, rfl, hq3, hb3, d30, d31, hB3⟩
                  have hq3I : (1 : Int) ≤ q3 := by omega
                  have HBc := Lib.hid (HBb.out.trans (Below.mono (h := hB3) HBb.out.size))
                  clear hB3
                  go_wp2_with fail
                  refine (HA.out _).mono ?_
                  rintro e w6 ⟨rfl, hB6⟩
                  have HF := Lib.hid (HBc.out.trans (Below.mono (h := hB6) HBc.out.size))
                  clear hB6
                  go_wp2_with fail
                  go_ret
                  exact ⟨rfl, HF.out⟩
              · have A3 := Lib.hid (all_gen s xs f1 0 hall h63)
                obtain ⟨n, hn⟩ : ∃ n, n = xs.length := ⟨_, rfl⟩
                rw [← hn] at hl1
                have hl1b : ((n : Int) == 1) = false := beq_eq_false_iff_ne.2 (by omega)
                have Hn := Lib.hid hn
                have hnI : (n : Int) ≤ 4096 := by rw [hn]; have : xs.length ≤ 4096 := hbl; omega
                have A3 := A3.out
                rw [← hn] at A3
                have A3 := Lib.hid A3
                clear hW3 hW4 H3 H4 hall hbl hx3 hx4 hn
                go_wp2_with fail
                refine (A1.out _).mono ?_
                rintro e w1 ⟨b1, o1, q1, rfl, hq1, hb1, -, d1, hB1⟩
                have hq1I : (1 : Int) ≤ q1 := by omega
                have HBa := Lib.hid (HB.out.trans (Below.mono (h := hB1) HB.out.size))
                clear hB1
                go_wp2_with fail
                refine (A2.out _).mono ?_
                rintro e w2 ⟨⟨p2, q2, rfl, hS2⟩, hR2⟩
                have hB2 := hR2.whole hS2
                have HBb := Lib.hid (HBa.out.trans (Below.mono (h := hB2) HBa.out.size))
                have d1 := (World.cell?_of_block (w := w1) (hB2.block _ hb1)).trans d1
                clear hB2 hS2 hR2
                go_wp2_with fail
                refine (A3.out _).mono ?_
                rintro e w3 ⟨⟨p3, q3, rfl, hS3⟩, hR3⟩
                have hB3 := hR3.whole hS3
                have HBc := Lib.hid (HBb.out.trans (Below.mono (h := hB3) HBb.out.size))
                clear hS3 hR3 hB3
                go_wp2_with fail
                refine (HA.out _).mono ?_
                rintro e w6 ⟨rfl, hB6⟩
                have HF := Lib.hid (HBc.out.trans (Below.mono (h := hB6) HBc.out.size))
                clear hB6
                go_wp2_with fail
                go_ret
                exact ⟨rfl, HF.out⟩
            · have hf2b : (f2 == 0) = false := beq_eq_false_iff_ne.2 hf2
              have A3 := Lib.hid (all_gen s xs f1 f2 hall h63)
              clear hW3 hW4 H3 H4 hall hbl hx3 hx4
              go_wp2_with fail
              refine (A1.out _).mono ?_
              rintro e w1 ⟨b1, o1, q1, rfl, hq1, hb1, -, d1, hB1⟩
              have hq1I : (1 : Int) ≤ q1 := by omega
              have HBa := Lib.hid (HB.out.trans (Below.mono (h := hB1) HB.out.size))
              clear hB1
              go_wp2_with fail
              refine (A2.out _).mono ?_
              rintro e w2 ⟨⟨p2, q2, rfl, hS2⟩, hR2⟩
              have hB2 := hR2.whole hS2
              have HBb := Lib.hid (HBa.out.trans (Below.mono (h := hB2) HBa.out.size))
              have d1 := (World.cell?_of_block (w := w1) (hB2.block _ hb1)).trans d1
              clear hB2 hS2 hR2
              go_wp2_with fail
              refine (A3.out _).mono ?_
              rintro e w3 ⟨⟨p3, q3, rfl, hS3⟩, hR3⟩
              have hB3 := hR3.whole hS3
              have HBc := Lib.hid (HBb.out.trans (Below.mono (h := hB3) HBb.out.size))
              clear hS3 hR3 hB3
              go_wp2_with fail
              refine (HA.out _).mono ?_
              rintro e w6 ⟨rfl, hB6⟩
              have HF := Lib.hid (HBc.out.trans (Below.mono (h := hB6) HBc.out.size))
              clear hB6
              go_wp2_with fail
              go_ret
              exact ⟨rfl, HF.out⟩
          | true =>
            obtain ⟨k2, hone2⟩ := Ho2 rfl
            have A2 := Lib.hid (all_one x2 k2 0 x2.size 0 0 x2 hone2 z2)
            clear hone2 Ho2
            by_cases hf2 : f2 = 0
            · subst hf2
              by_cases hl1 : xs.length = 1
              · obtain ⟨⟨kd, tx, ta, tm⟩, rfl⟩ : ∃ t, xs = [t] := List.length_eq_one_iff.1 hl1
                have A3 := Lib.hid (all_one s kd ta tm f1 0 tx hall h63)
                by_cases hk4 : kd = 4
                · subst hk4
                  by_cases htx : tx = s
                  · subst htx
                    have hW := word_whole tx 4 ta tm _ hall rfl
                    have H3 := H3.out
                    have H4 := H4.out
                    rw [hW3 hW] at H3
                    rw [hW4 hW] at H4
                    have H3 := Lib.hid H3
                    have H4 := Lib.hid H4
                    clear hW hW3 hW4 hall hl1 hbl
                    go_wp2_with fail
                    refine (A1.out _).mono ?_
                    rintro e w1 ⟨b1, o1, q1, rfl, hq1, hb1, -, d1, hB1⟩
                    have hq1I : (1 : Int) ≤ q1 := by omega
                    have HBa := Lib.hid (HB.out.trans (Below.mono (h := hB1) HB.out.size))
                    clear hB1
                    go_wp2_with fail
                    refine (A2.out _).mono ?_
                    rintro e w2 ⟨b2, o2, q2, rfl, hq2, hb2, -, d2, hB2⟩
                    have hq2I : (1 : Int) ≤ q2 := by omega
                    have HBb := Lib.hid (HBa.out.trans (Below.mono (h := hB2) HBa.out.size))
                    have d1 := (World.cell?_of_block (w := w1) (hB2.block _ hb1)).trans d1
                    clear hB2
                    go_wp2_with fail
                    refine (A3.out _).mono ?_
                    rintro e w3 ⟨b3, o3, q3, rfl, hq3, hb3, d30, d31, hB3⟩
                    have hq3I : (1 : Int) ≤ q3 := by omega
                    have HBc := Lib.hid (HBb.out.trans (Below.mono (h := hB3) HBb.out.size))
                    clear hB3
                    go_wp2_with fail
                    refine (H3.out _).mono ?_
                    rintro e w4 ⟨rfl, hB4⟩
                    have HBd := Lib.hid (HBc.out.trans (Below.mono (h := hB4) HBc.out.size))
                    clear hB4
                    go_wp2_with fail
                    refine (H4.out _).mono ?_
                    rintro e w5 ⟨rfl, hB5⟩
                    have HBc := Lib.hid (HBd.out.trans (Below.mono (h := hB5) HBd.out.size))
                    clear hB5
                    go_wp2_with fail
                    refine (HA.out _).mono ?_
                    rintro e w6 ⟨rfl, hB6⟩
                    have HF := Lib.hid (HBc.out.trans (Below.mono (h := hB6) HBc.out.size))
                    clear hB6
                    go_wp2_with fail
                    go_ret
                    exact ⟨rfl, HF.out⟩
                  · have ht := list_ne htx
                    clear hW3 hW4 H3 H4 hall hl1 hbl hx3 hx4
                    go_wp2_with fail
                    refine (A1.out _).mono ?_
                    rintro e w1 ⟨b1, o1, q1, rfl, hq1, hb1, -, d1, hB1⟩
                    have hq1I : (1 : Int) ≤ q1 := by omega
                    have HBa := Lib.hid (HB.out.trans (Below.mono (h := hB1) HB.out.size))
                    clear hB1
                    go_wp2_with fail
                    refine (A2.out _).mono ?_
                    rintro e w2 ⟨b2, o2, q2, rfl, hq2, hb2, -, d2, hB2⟩
                    have hq2I : (1 : Int) ≤ q2 := by omega
                    have HBb := Lib.hid (HBa.out.trans (Below.mono (h := hB2) HBa.out.size))
                    have d1 := (World.cell?_of_block (w := w1) (hB2.block _ hb1)).trans d1
                    clear hB2
                    go_wp2_with fail
                    refine (A3.out _).mono ?_
                    rintro e w3 ⟨b3, o3, q3, rfl, hq3, hb3, d30, d31, hB3⟩
                    have hq3I : (1 : Int) ≤ q3 := by omega
                    have HBc := Lib.hid (HBb.out.trans (Below.mono (h := hB3) HBb.out.size))
                    clear hB3
                    go_wp2_with fail
                    refine (HA.out _).mono ?_
                    rintro e w6 ⟨rfl, hB6⟩
                    have HF := Lib.hid (HBc.out.trans (Below.mono (h := hB6) HBc.out.size))
                    clear hB6
                    go_wp2_with fail
                    go_ret
                    exact ⟨rfl, HF.out⟩
                · have hk4b : (kd == 4) = false := beq_eq_false_iff_ne.2 hk4
                  clear hW3 hW4 H3 H4 hall hl1 hbl hx3 hx4
                  go_wp2_with fail
                  refine (A1.out _).mono ?_
                  rintro e w1 ⟨b1, o1, q1, rfl, hq1, hb1, -, d1, hB1⟩
                  have hq1I : (1 : Int) ≤ q1 := by omega
                  have HBa := Lib.hid (HB.out.trans (Below.mono (h := hB1) HB.out.size))
                  clear hB1
                  go_wp2_with fail
                  refine (A2.out _).mono ?_
                  rintro e w2 ⟨b2, o2, q2, rfl, hq2, hb2, -, d2, hB2⟩
                  have hq2I : (1 : Int) ≤ q2 := by omega
                  have HBb := Lib.hid (HBa.out.trans (Below.mono (h := hB2) HBa.out.size))
                  have d1 := (World.cell?_of_block (w := w1) (hB2.block _ hb1)).trans d1
                  clear hB2
                  go_wp2_with fail
                  refine (A3.out _).mono ?_
                  rintro e w3 ⟨b3, o3, q3, rfl, hq3, hb3, d30, d31, hB3⟩
                  have hq3I : (1 : Int) ≤ q3 := by omega
                  have HBc := Lib.hid (HBb.out.trans (Below.mono (h := hB3) HBb.out.size))
                  clear hB3
                  go_wp2_with fail
                  refine (HA.out _).mono ?_
                  rintro e w6 ⟨rfl, hB6⟩
                  have HF := Lib.hid (HBc.out.trans (Below.mono (h := hB6) HBc.out.size))
                  clear hB6
                  go_wp2_with fail
                  go_ret
                  exact ⟨rfl, HF.out⟩
              · have A3 := Lib.hid (all_gen s xs f1 0 hall h63)
                obtain ⟨n, hn⟩ : ∃ n, n = xs.length := ⟨_, rfl⟩
                rw [← hn] at hl1
                have hl1b : ((n : Int) == 1) = false := beq_eq_false_iff_ne.2 (by omega)
                have Hn := Lib.hid hn
                have hnI : (n : Int) ≤ 4096 := by rw [hn]; have : xs.length ≤ 4096 := hbl; omega
                have A3 := A3.out
                rw [← hn] at A3
                have A3 := Lib.hid A3
                clear hW3 hW4 H3 H4 hall hbl hx3 hx4 hn
                go_wp2_with fail
                refine (A1.out _).mono ?_
                rintro e w1 ⟨b1, o1, q1, rfl, hq1, hb1, -, d1, hB1⟩
                have hq1I : (1 : Int) ≤ q1 := by omega
                have HBa := Lib.hid (HB.out.trans (Below.mono (h := hB1) HB.out.size))
                clear hB1
                go_wp2_with fail
                refine (A2.out _).mono ?_
                rintro e w2 ⟨b2, o2, q2, rfl, hq2, hb2, -, d2, hB2⟩
                have hq2I : (1 : Int) ≤ q2 := by omega
                have HBb := Lib.hid (HBa.out.trans (Below.mono (h := hB2) HBa.out.size))
                have d1 := (World.cell?_of_block (w := w1) (hB2.block _ hb1)).trans d1
                clear hB2
                go_wp2_with fail
                refine (A3.out _).mono ?_
                rintro e w3 ⟨⟨p3, q3, rfl, hS3⟩, hR3⟩
                have hB3 := hR3.whole hS3
                have HBc := Lib.hid (HBb.out.trans (Below.mono (h := hB3) HBb.out.size))
                clear hS3 hR3 hB3
                go_wp2_with fail
                refine (HA.out _).mono ?_
                rintro e w6 ⟨rfl, hB6⟩
                have HF := Lib.hid (HBc.out.trans (Below.mono (h := hB6) HBc.out.size))
                clear hB6
                go_wp2_with fail
                go_ret
                exact ⟨rfl, HF.out⟩
            · have hf2b : (f2 == 0) = false := beq_eq_false_iff_ne.2 hf2
              have A3 := Lib.hid (all_gen s xs f1 f2 hall h63)
              clear hW3 hW4 H3 H4 hall hbl hx3 hx4
              go_wp2_with fail
              refine (A1.out _).mono ?_
              rintro e w1 ⟨b1, o1, q1, rfl, hq1, hb1, -, d1, hB1⟩
              have hq1I : (1 : Int) ≤ q1 := by omega
              have HBa := Lib.hid (HB.out.trans (Below.mono (h := hB1) HB.out.size))
              clear hB1
              go_wp2_with fail
              refine (A2.out _).mono ?_
              rintro e w2 ⟨b2, o2, q2, rfl, hq2, hb2, -, d2, hB2⟩
              have hq2I : (1 : Int) ≤ q2 := by omega
              have HBb := Lib.hid (HBa.out.trans (Below.mono (h := hB2) HBa.out.size))
              have d1 := (World.cell?_of_block (w := w1) (hB2.block _ hb1)).trans d1
              clear hB2
              go_wp2_with fail
              refine (A3.out _).mono ?_
              rintro e w3 ⟨⟨p3, q3, rfl, hS3⟩, hR3⟩
              have hB3 := hR3.whole hS3
              have HBc := Lib.hid (HBb.out.trans (Below.mono (h := hB3) HBb.out.size))
              clear hS3 hR3 hB3
              go_wp2_with fail
              refine (HA.out _).mono ?_
              rintro e w6 ⟨rfl, hB6⟩
              have HF := Lib.hid (HBc.out.trans (Below.mono (h := hB6) HBc.out.size))
              clear hB6
              go_wp2_with fail
              go_ret
              exact ⟨rfl, HF.out⟩

set_option maxRecDepth 100000 in
theorem lifted (os : Os) (started : os.Started) (H : Type) (enc : TypeId × Value → H) :
    ReturnsInHanded {} Tryd.checked os 8 .any (fun w args => (Rows.lexerWholeSpec.pre enc Tryd.prog Tryd.f8 Rows.lexerWholeRow.domain false w args ∧ laidMetH Tryd.prog Rows.lexerWholeRow.laid w) ∧ sizedMet enc Tryd.prog Tryd.f8 (OpenSpec.ofChange Rows.lexerWholeSpec) false w args) (Rows.lexerWholeSpec.post enc Tryd.prog Tryd.f8 false true false false) := by
  refine returnsInHanded_of_change_and (C := Tryd.checked) (X := fun w _ => laidMetH Tryd.prog Rows.lexerWholeRow.laid w) (fun _ _ _ hh h => h.of_heap hh) own started (by kernel_rfl) Tryd.func8
    (ChangeSpec.witness_shaped (enc := enc) (C := Tryd.checked) (os := os) (X := fun w _ => laidMetH Tryd.prog Rows.lexerWholeRow.laid w) false (World.laidAll Tryd.prog os Rows.lexerWholeRow.laid) #[.string ⟨#[]⟩] 8 (World.laidAll_os _ _ _)
      (World.shaped_of_ZipB (by kernel_rfl) (by kernel_rfl)) (by kernel_rfl) (by kernel_rfl) (by kernel_rfl)
      (by rw [MakeChecks.laidMetH_plain _ _ _ (by kernel_rfl)]; exact laidMet_laidAll _ (by kernel_rfl) (by kernel_rfl))) ?_
  intro W base args ds gs before hval0 hW hcnd _ hL _
  have hval : ∀ (j : Nat) t v, Tryd.f8.params[j]? = some t → args[j]? = some v → Value.okWide Tryd.prog W .any base t v := hval0
  have hW' := hW
  obtain ⟨p, q, hA0, hV, rfl, hfz, hnd⟩ := hW
  have hA : DataW.TrodAll enc Tryd.prog W 0 (fun _ => true) true Tryd.f8.params.toList args.toList ds p := hA0
  rw [Tryd.params8] at hA hval
  obtain ⟨v0, vs0, d0, ds0, p0, q0, hargs, rfl, rfl, h0, r0⟩ := trodAll_cons hA
  obtain ⟨rfl, rfl, rfl⟩ := trodAll_nil r0
  obtain rfl : args = #[v0] := by cases args; simp_all
  obtain ⟨rfl, rfl⟩ := trodVars_none hV
  obtain ⟨s0, rfl, rfl, rfl, w0⟩ := open_string Tryd.underlying9 (hval 0 9 v0 rfl rfl) h0
  clear hA0 hval0
  refine (walk s0 W (by unfold maxLen at w0; omega)).mono fun e W' ⟨he, bel⟩ => ?_
  subst he
  exact ⟨_, rfl, _, _, _, [], _, [], hW', trodAll_mk1 (shut_bool Tryd.underlying4 _), (trodAll_cons_mk (shut_string Tryd.underlying9 w0) trodAll_mk0), rfl, bel.frame _, fun h => by cases h⟩

theorem over : Rows.lexerWholeRow.holds Tryd.pinned (OpenSpec.ofChange Rows.lexerWholeSpec) :=
  OpenClaim.holds_of_wide 8 Tryd.f8 rfl rfl rfl rfl rfl rfl rfl ⟨rfl, rfl, rfl, rfl, rfl⟩ rfl rfl rfl rfl rfl (by kernel_rfl) Tryd.func8 (by kernel_rfl)
    (of_decide_eq_true (by kernel_rfl)) (by unfold Func.isWrapper; first | (rw [if_pos (by decide +kernel)]; kernel_rfl) | (rw [if_neg (by decide +kernel)]; exact ⟨rfl, rfl⟩))
    (fun os started H enc _ => lifted os started H enc)

theorem proved : Rows.LexerWholeCardSaid :=
  Claim7.holds_tied_plain_at .later [] [.data, .pinned] true (true, "4c79555ad02daef53123237e431fdc6bc5e59d07fbb8e17f724265a7ee9d4d92") false over (fun _ h => by cases h) (by kernel_rfl) (fun _ h => by cases h) lexerWhole_row_tie rfl ⟨rfl, rfl⟩ (by kernel_rfl) rfl
    (fun f fn hf hfn => by
      obtain rfl : f = 8 := Option.some.inj ((show Tryd.prog.funcNamed "whelk/whelklaw11.LexerWhole" = some 8 by kernel_rfl).symm.trans hf) |>.symm
      obtain rfl : fn = Tryd.f8 := (Option.some.inj (Tryd.func8.symm.trans hfn)).symm
      exact ⟨by kernel_rfl, fun j t ht => by
        rw [Tryd.params8] at ht
        have hm : t ∈ [9] := by simpa using Array.mem_of_getElem? ht
        have hall : ([9].all fun u => !Tryd.prog.wantsStandIn u) = true := by kernel_rfl
        exact (show Tryd.prog.wantsStandIn t = false by simpa using List.all_eq_true.1 hall t hm)⟩)
    (by kernel_rfl)
#print axioms proved
end Go.Proofs.YtlhkochpokhncaaDoor.lexerWhole
