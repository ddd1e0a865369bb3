/- named walked; told of a state that is not there walked. -/
import Derived.Test.YtlmjidandjemjaaGreatDoorStNj
namespace Go.Proofs.YtlmjidandjemjaaGreatDoor.State
open Go.RowKit Go.Proofs.YtlmjidandjemjaaGreatDoor Go.Proofs.YtlmjidandjemjaaGreatDoor.Hp Go.Proofs.YtlmjidandjemjaaGreatDoor.Undo
set_option linter.unusedVariables false
attribute [local go_sem] Oper.semAt_some

/-- Nothing is appended. -/
theorem appNil {w : World} {H : Hp} {ops : Array Oper} {rest : List Oper} {o : Oper} {a : Act} {Q : Exit → Act → World → Prop} (hgd : o.guard = none) (s x : Operand)
    (ho : o.op = .call { callee := .builtin .append, args := #[s, x], argTypes := #[22, 22] })
    (p : Option Addr) (n cap : Nat) (xs : List Value) (hp : a.eval s = .slice p n cap) (hvx : a.eval x = .slice none 0 0) (h : Sat w (arr 9 1 p n cap xs * H)) (hn : n ≤ 1000000000)
    (hk : ∀ p' cap' w', Sat w' (arr 9 1 p' n cap' xs * H) → Ran w w' → wpList Tryz.prog ops Q rest (a.put o.dst (.slice p' n cap')) w') : wpList Tryz.prog ops Q (o :: rest) a w := by
  obtain ⟨i0, hi, hz0, hz1, hz2⟩ := info_parts infoStr
  exact wpList_append_arr hgd s x _ _ ho 9 i0 _ 1 16 Tryz.underlying22 hi hz0 hz1 hz2 rfl p n cap xs hp h _ hvx 0 [] (Src.ofNil _ Tryz.underlying22 0) (by omega) (by unfold maxLen; omega) (fun p' cap' w' h1 h2 _ => hk p' cap' w' (by rw [List.append_nil] at h1; exact h1) h2)
/-- A row of one text that was just made. -/
theorem one_arr {w : World} {R : Hp} {b E : Nat} {v : Value} (h : Sat w (pts b (.cells #[v] E (0, 0)) * R)) : Sat w (arr E 1 (some ⟨b, 0, none⟩) 1 1 [v] * R) :=
  Sat.ex_in #[v] (by
    rw [sep_assoc]
    exact Sat.fact_in ⟨rfl, Nat.le_refl _, by unfold maxLen; decide, Nat.le_refl 1, rfl, fun j hj => by
      have : j = 0 := by simp at hj; omega
      subst this; rfl⟩ h)
def NdRel (l : List Opr) (W w : World) (X : Hp) (g : Nat) (v3 v4 : Value) (wr : World) : Prop :=
  ∃ (i : Nat) (p : Option Addr) (c : Nat), v4 = .int .i64 (i : Int) ∧ i + g = l.length ∧ v3 = .slice p i c ∧ Sat wr (arr 9 1 p i c ((l.take i).map fun o => sv o.k) * (X * keep W)) ∧ Ran w wr
set_option maxRecDepth 100000 in
set_option maxHeartbeats 8000000 in
theorem nameds_calls (l : List Opr) (ao : Option Addr) (cap : Nat) (W w : World) (X : Hp) (hl : OpsAt W ao l) (h50 : l.length ≤ 100) (h : Sat w (X * keep W)) :
    Calls Tryz.prog 24 #[.slice ao l.length cap] w fun e w' => (∃ p c, e = .returned (.slice p l.length c) ∧ Sat w' (arr 9 1 p l.length c (l.map fun o => sv o.k) * (X * keep W))) ∧ Ran w w' := by
  have H0 := Lib.hid h
  have HL := Lib.hid hl
  clear h hl
  go_enter Tryz.func24, Tryz.ntmps24
  go_wp2_with fail
  go_loopg [3, 4] (l.length) (NdRel l W w X)
  case atStart => exact ⟨0, none, 0, rfl, by omega, rfl, H0.out.nil_arr _ _, Below.refl 0 w⟩
  case round =>
    obtain ⟨i, p, pc, rfl, hgk, rfl, HSi, HRi⟩ := hrel
    clear H0
    by_cases hlt : i < l.length
    · have hltI : (i : Int) < l.length := by omega
      have hi0 : (0 : Int) ≤ i := by omega
      obtain ⟨x, hx⟩ : ∃ x, x = l[i] := ⟨_, rfl⟩
      obtain ⟨okx, b, o, rfl, hb, e0, e1, e2, e3, e4⟩ := HL.out i hlt
      rw [← hx] at e1
      have htk : ((l.take (i + 1)).map fun o => sv o.k) = ((l.take i).map fun o => sv o.k) ++ [sv x.k] := by rw [hx, List.take_succ_eq_append_getElem hlt, List.map_append]; rfl
      have e1 := (World.cell?_of_block (w := W) (HSi.right.right.kept b hb)).trans e1
      have Htk := Lib.hid htk
      have HR0 := Lib.hid HRi
      have HSB := HSi.old (.cells #[.string x.k] 9 (0, 0))
      have hi9 : i ≤ 1000000000 := by omega
      clear okx hx htk HSi HRi e0 e2 e3 e4 hb
      go_wp2_with (at_builtin; go_loud (refine appStr rfl _ _ rfl p i pc _ rfl _ rfl HSB _ (blk_new rfl) rfl hi9 ?_; intro p' cap' w6 HS7 HR7; clear HSB))
      have HS8 := Lib.hid HS7
      have R8 := Lib.hid (Below.trans (Ran.new HR0.out _) HR7)
      clear HS7 HR7
      go_wp2_with fail
      go_roundg (gk - 1)
      case rel => exact ⟨i + 1, p', cap', by simp, by omega, rfl, by rw [Htk.out]; exact HS8.out, R8.out⟩
      case measure => omega
    · have hge : i = l.length := by omega
      subst hge
      rw [List.take_length] at HSi
      have HSi := Lib.hid HSi
      have HRi := Lib.hid HRi
      go_wp2_with fail
      go_ret
      exact ⟨⟨p, pc, rfl, HSi.out⟩, HRi.out⟩
abbrev argsS : ByteArray := ⟨#[97, 114, 103, 115]⟩
abbrev trapsL : List ByteArray := [sEXIT, sHUP, sINT, sTERM, sUSR1]
abbrev trapsO : Obj := .cells #[.string ⟨#[69, 88, 73, 84]⟩, .string ⟨#[72, 85, 80]⟩, .string ⟨#[73, 78, 84]⟩, .string ⟨#[84, 69, 82, 77]⟩, .string ⟨#[85, 83, 82, 49]⟩] 9 (0, 0)
theorem traps_cell {w : World} {b : Nat} (h : w.heap[b]? = some trapsO) (i : Nat) (hi : i < 5) : ∃ x : ByteArray, x.size ≤ 4 ∧ w.cell? ⟨b, i, none⟩ = some (.string x) := by
  match i, hi with
  | 0, _ => exact ⟨sEXIT, by decide, by rw [cell_at h]; rfl⟩
  | 1, _ => exact ⟨sHUP, by decide, by rw [cell_at h]; rfl⟩
  | 2, _ => exact ⟨sINT, by decide, by rw [cell_at h]; rfl⟩
  | 3, _ => exact ⟨sTERM, by decide, by rw [cell_at h]; rfl⟩
  | 4, _ => exact ⟨sUSR1, by decide, by rw [cell_at h]; rfl⟩
def TfRel (n : Nat) (v5 : Value) (A : Hp) (w : World) (g : Nat) (u5 v16 v17 v18 : Value) (wr : World) : Prop :=
  ∃ i : Nat, v16 = .int .i64 (i : Int) ∧ i + g = n ∧ u5 = v5 ∧ Sat wr A ∧ Ran w wr
set_option maxRecDepth 100000 in
set_option maxHeartbeats 16000000 in
theorem told_nil (ks : List Value) (hks : ∀ v ∈ ks, ∃ x : ByteArray, v = .string x) (q : Option Addr) (n qc : Nat) (hn : ks.length = n) (h100 : n ≤ 1000) (w : World) (R : Hp) (h : Sat w (arr 9 1 q n qc ks * R)) :
    Calls Tryz.prog 23 #[nilP, .slice q n qc] w fun e w' => (∃ p c, e = .returned (.slice p 2 c) ∧ Sat w' R) ∧ Ran w w' := by
  have HOp := Lib.hid (fun w => Options_nil w)
  have HEn := Lib.hid (fun w => Environ_nil w)
  have HNm := Lib.hid (fun w => Names_nil w)
  have HAr := Lib.hid (fun w => Args_nil w)
  have HAl := Lib.hid (fun w => Aliases_nil w)
  have HTr := Lib.hid (fun k w => Trap_nil k w)
  have HFu := Lib.hid (fun k w => Func_nil k w)
  have HK := Lib.hid hks
  have HB1 := one_arr (h.alloc (.cells #[.string ⟨#[]⟩] 9 (0, 0)))
  have hn9 : (1 : Nat) ≤ 1000000000 := by decide
  have hn92 : (2 : Nat) ≤ 1000000000 := by decide
  clear h hks
  go_enter Tryz.func23, Tryz.ntmps23
  go_wp2_with fail
  refine (HOp.out _).mono ?_
  rintro e w1 ⟨rfl, rfl⟩
  clear HOp
  go_wp2_with fail
  refine (HEn.out _).mono ?_
  rintro e w1 ⟨rfl, rfl⟩
  clear HEn
  go_wp2_with (at_builtin; go_loud (refine appNil rfl _ _ rfl _ 1 1 _ rfl rfl HB1 hn9 ?_; intro p2 c2 w2 S2 R2; clear HB1))
  have S2 := Lib.hid S2
  have R2 := Lib.hid (Below.trans (Ran.new (Below.refl 0 w) _) R2)
  go_wp2_with fail
  refine (HNm.out _).mono ?_
  rintro e w3 ⟨rfl, rfl⟩
  clear HNm
  go_wp2_with fail
  go_loopg [5, 7, 8] 0 (fun g v5 v7 v8 wr => v5 = .slice p2 1 c2 ∧ v7 = .int .i64 0 ∧ w2 = wr)
  case atStart => exact ⟨rfl, rfl, rfl⟩
  case round =>
    obtain ⟨rfl, rfl, rfl⟩ := hrel
    have HSB := S2.out.old (.cells #[.string ⟨#[97, 114, 103, 115]⟩] 9 (0, 0))
    go_wp2_with (at_builtin; go_loud (refine appStr rfl _ _ rfl p2 1 c2 _ rfl _ rfl HSB _ (blk_new rfl) rfl hn9 ?_; intro p3 c3 w3 S3 R3; clear HSB))
    have S3 := Lib.hid S3
    have R3 := Lib.hid (Below.trans (Ran.new R2.out _) R3)
    clear S2 R2
    go_wp2_with fail
    refine (HAr.out _).mono ?_
    rintro e w4 ⟨rfl, hB4⟩
    have S4 := S3.out.below hB4
    have R4 := Lib.hid (Below.trans R3.out (hB4.mono (Nat.zero_le _)))
    clear HAr S3 R3 hB4
    go_wp2_with (at_builtin; go_loud (refine appNil rfl _ _ rfl p3 2 c3 _ rfl rfl S4 hn92 ?_; intro p5 c5 w5 S5 R5; clear S4))
    have S5 := Lib.hid S5
    have R5 := Lib.hid (Below.trans R4.out R5)
    clear R4
    go_wp2_with fail
    refine (HAl.out _).mono ?_
    rintro e w6 ⟨rfl, rfl⟩
    clear HAl
    go_wp2_with fail
    go_loopg [5, 9, 10, 11] 0 (fun g v5 v9 v10 v11 wr => v5 = .slice p5 2 c5 ∧ v9 = .int .i64 0 ∧ w5 = wr)
    case atStart => exact ⟨rfl, rfl, rfl⟩
    case round =>
      obtain ⟨rfl, rfl, rfl⟩ := hrel
      have S6 := S5.out.alloc trapsO
      have R6 := Ran.new R5.out trapsO
      have hz6 : (w5.alloc trapsO).heap[w5.heap.size]? = some trapsO := blk_new rfl
      obtain ⟨w6, hw6⟩ : ∃ w6, w6 = w5.alloc trapsO := ⟨_, rfl⟩
      obtain ⟨tb, htb⟩ : ∃ b, b = w5.heap.size := ⟨_, rfl⟩
      rw [← hw6, ← htb] at S6 hz6
      rw [← hw6] at R6
      have S6 := Lib.hid (S6.perm (show _ = arr 9 1 q n qc ks * ((pts tb trapsO * arr 9 1 p5 2 c5 _) * R) by ac_rfl))
      have R6 := Lib.hid R6
      have Z6 := Lib.hid hz6
      clear S5 R5 hz6
      go_upto_region 22 with fail
      rw [← hw6, ← htb]
      clear hw6 htb
      go_wp2_with fail
      go_loopg [5, 13, 14, 15] 5 (fun g v5 v13 v14 v15 wr => v5 = .slice p5 2 c5 ∧ (∃ i : Nat, v13 = .int .i64 (i : Int) ∧ i + g = 5) ∧ w6 = wr)
      case atStart => exact ⟨rfl, ⟨0, rfl, rfl⟩, rfl⟩
      case round =>
        obtain ⟨rfl, ⟨i, rfl, hgk⟩, rfl⟩ := hrel
        by_cases hlt : i < 5
        · have hltI : (i : Int) < 5 := by omega
          have hi0 : (0 : Int) ≤ i := by omega
          obtain ⟨x, -, c⟩ := traps_cell Z6.out i hlt
          go_wp2_with fail
          refine (HTr.out x _).mono ?_
          rintro e w7 ⟨rfl, rfl⟩
          go_wp2_with fail
          go_roundg (gk - 1)
          case rel => exact ⟨rfl, ⟨i + 1, by simp, by omega⟩, rfl⟩
          case measure => omega
        · have hge : (5 : Int) ≤ i := by omega
          clear HTr Z6
          go_wp2_with fail
          go_loopg [5, 16, 17, 18] n (TfRel n (.slice p5 2 c5) (arr 9 1 q n qc ks * ((pts tb trapsO * arr 9 1 p5 2 c5 _) * R)) w)
          case atStart => exact ⟨0, rfl, by omega, rfl, S6.out, R6.out⟩
          case round =>
            obtain ⟨j, rfl, hgk2, rfl, HSj, HRj⟩ := hrel
            clear S6 R6
            by_cases hltj : j < n
            · have hltjI : (j : Int) < n := by omega
              have hj0 : (0 : Int) ≤ j := by omega
              obtain ⟨b, o, rfl⟩ := HSj.arr_addr (by have := HSj.arr_len; omega)
              obtain ⟨x, hx⟩ := HK.out (ks[j]'(by omega)) (List.getElem_mem _)
              have c : wr.cell? ⟨b, o + j, none⟩ = some (.string x) := by rw [HSj.arr_cell j (by omega), hx]
              have HSj := Lib.hid HSj
              have HRj := Lib.hid HRj
              clear hx
              go_wp2_with fail
              refine (HFu.out x _).mono ?_
              rintro e w7 ⟨rfl, hB7⟩
              have S7 := Lib.hid (HSj.out.below hB7)
              have R7 := Lib.hid (Below.trans HRj.out (hB7.mono (Nat.zero_le _)))
              clear hB7 c
              go_wp2_with fail
              go_roundg (gk - 1)
              case rel => exact ⟨j + 1, by simp, by omega, rfl, S7.out.old _, Ran.new R7.out _⟩
              case measure => omega
            · have hgej : (n : Int) ≤ j := by omega
              have HSj := Lib.hid HSj
              have HRj := Lib.hid HRj
              clear HFu
              go_wp2_with fail
              go_ret
              exact ⟨⟨_, _, rfl, HSj.out.right.right⟩, HRj.out⟩
end Go.Proofs.YtlmjidandjemjaaGreatDoor.State
