/- The document's Next walked. -/
import Derived.Test.YtlhkochpokhncaaDoorLxR
namespace Go.Proofs.YtlhkochpokhncaaDoor.Lexer
open Go.RowKit Go.Proofs.YtlhkochpokhncaaDoor Go.Proofs.YtlhkochpokhncaaDoor.Hp
set_option linter.unusedVariables false
attribute [local go_sem] Oper.semAt_some

abbrev tokR (k : Int) (x : ByteArray) (a b : Int) : Obj := .cells #[.int .i64 k, .string x, .int .i64 a, .int .i64 b] 33 (0, 0)
theorem tokR_cells {w : World} {b : Nat} {k a c : Int} {x : ByteArray} {S : Hp} (h : Sat w (pts b (tokR k x a c) * S)) :
    w.cell? ⟨b, 0, none⟩ = some (.int .i64 k) ∧ w.cell? ⟨b, 1, none⟩ = some (.string x) ∧ w.cell? ⟨b, 2, none⟩ = some (.int .i64 a) ∧ w.cell? ⟨b, 3, none⟩ = some (.int .i64 c) ∧ ∀ i, w.frozen? ⟨b, i, none⟩ = false := by
  have hg := h.get
  exact ⟨by rw [cell_at hg]; rfl, by rw [cell_at hg]; rfl, by rw [cell_at hg]; rfl, by rw [cell_at hg]; rfl, fun i => free_at hg i⟩
set_option maxRecDepth 100000 in
set_option maxHeartbeats 8000000 in
theorem rnext_bad (s : ByteArray) (a : Int) (w : World) (h63 : (s.size : Int) ≤ 9223372036854775807) (hm : mayE s.size a ≠ 0) :
    Calls Tryd.prog 19 #[.string s, .int .i64 a] w (NextPost (nextA s a) w) := by
  have HM := Lib.hid (fun w => rmay_calls s a w h63)
  unfold nextA
  rw [if_pos hm]
  obtain ⟨v, hv⟩ : ∃ v, v = mayE s.size a := ⟨_, rfl⟩
  rw [← hv] at HM hm
  rw [← hv]
  clear hv
  have H1 := (Sat.start w).alloc (tokR 0 ⟨#[]⟩ 0 0)
  obtain ⟨c0, c1, c2, c3, cz⟩ := tokR_cells H1
  clear H1
  go_enter Tryd.func19, Tryd.ntmps19
  go_wp2_with fail
  refine (HM.out _).mono ?_
  rintro e w1 ⟨rfl, rfl⟩
  go_wp2_with fail
  refine bodyPost_ret (v := .tuple #[tokV tok0, .int .i64 v]) (by simp [results, Tryd.results19, go_sem, c0, c1, c2, c3, tok0]) rfl ⟨rfl, Below.alloc (Below.refl _ _) (Nat.le_refl _) _⟩
def RkRel (s : ByteArray) (R : Bytes) (rb : Nat) (w : World) (g : Nat) (iv : Value) (wr : World) : Prop :=
  ∃ k : Nat, iv = .int .i64 (k : Int) ∧ k ≤ s.size ∧ s.size - k + 1 ≤ g ∧ R = Sk ((bs s).drop k) ∧ Sat wr (pts rb (tokR 0 ⟨#[]⟩ 0 0) * keep w) ∧ Ran w wr
def RcRel (s : ByteArray) (k : Nat) (W : World) (g : Nat) (iv : Value) (wr : World) : Prop :=
  ∃ j : Nat, iv = .int .i64 (j : Int) ∧ k ≤ j ∧ j ≤ s.size ∧ s.size - j + 1 ≤ g ∧ ((bs s).drop k).dropWhile (fun x => x != 10) = ((bs s).drop j).dropWhile (fun x => x != 10) ∧ W = wr
theorem isDig_eq (c : UInt8) : isDig c = (decide (48 ≤ c.toNat) && decide (c.toNat ≤ 57)) := by
  unfold isDig
  rw [decide_eq_decide.2 (UInt8.le_iff_toNat_le (a := 48) (b := c)), decide_eq_decide.2 (UInt8.le_iff_toNat_le (a := c) (b := 57))]; rfl
def nextR (n : Nat) (R : Bytes) : Tok × Int :=
  match R with
  | [] => (⟨0, ⟨#[]⟩, (n : Int), (n : Int)⟩, 0)
  | c :: t =>
    let i : Int := (n : Int) - (((c :: t).length : Nat) : Int)
    if c = 10 then (⟨1, ⟨#[10]⟩, i, i + 1⟩, 0)
    else if 0 < opN (c :: t) then (⟨2, ⟨((c :: t).take (opN (c :: t))).toArray⟩, i, i + (opN (c :: t) : Int)⟩, 0)
    else match Wd (c :: t) with
      | none => (⟨0, ⟨#[]⟩, i, 0⟩, 30)
      | some q => (⟨if ((c :: t).take ((c :: t).length - q.length)).all isDig = true ∧ (q.head? = some 60 ∨ q.head? = some 62) then 3 else 4, ⟨((c :: t).take ((c :: t).length - q.length)).toArray⟩, i, (n : Int) - (q.length : Int)⟩, 0)
theorem nextL_eq (n : Nat) (l : Bytes) : nextL n l = nextR n (Sk l) := rfl
theorem nextR_cons (n : Nat) (c : UInt8) (t : Bytes) : nextR n (c :: t) =
    (let i : Int := (n : Int) - (((c :: t).length : Nat) : Int)
    if c = 10 then (⟨1, ⟨#[10]⟩, i, i + 1⟩, 0)
    else if 0 < opN (c :: t) then (⟨2, ⟨((c :: t).take (opN (c :: t))).toArray⟩, i, i + (opN (c :: t) : Int)⟩, 0)
    else match Wd (c :: t) with
      | none => (⟨0, ⟨#[]⟩, i, 0⟩, 30)
      | some q => (⟨if ((c :: t).take ((c :: t).length - q.length)).all isDig = true ∧ (q.head? = some 60 ∨ q.head? = some 62) then 3 else 4, ⟨((c :: t).take ((c :: t).length - q.length)).toArray⟩, i, (n : Int) - (q.length : Int)⟩, 0) : Tok × Int) := rfl
def DgRel (s : ByteArray) (p st : Nat) (W : World) (g : Nat) (dv kv : Value) (wr : World) : Prop :=
  ∃ j : Nat, kv = .int .i64 (j : Int) ∧ p ≤ j ∧ j ≤ st ∧ st - j ≤ g ∧ dv = .bool ((((bs s).drop p).take (j - p)).all isDig) ∧ W = wr
set_option maxRecDepth 100000 in
set_option maxHeartbeats 16000000 in
theorem rnext_good (s : ByteArray) (i p : Nat) (w : World) (hs : (s.size : Int) ≤ 4096) (hi : i ≤ s.size) (hm : mayE s.size (i : Int) = 0) (R : Bytes) (hR : R = Sk ((bs s).drop i)) (hp : p + R.length = s.size) (hRp : R = (bs s).drop p) :
    Calls Tryd.prog 19 #[.string s, .int .i64 (i : Int)] w (NextPost (nextL s.size ((bs s).drop i)) w) := by
  have HM := Lib.hid (fun w => rmay_calls s i w (by omega))
  rw [hm] at HM
  have hpI : (p : Int) ≤ s.size := by omega
  have hp0 : (0 : Int) ≤ p := by omega
  have hsm : Small s := by unfold Small; omega
  have Hsm := Lib.hid hsm
  have H1 := Lib.hid ((Sat.start w).alloc (tokR 0 ⟨#[]⟩ 0 0))
  have R1 := Ran.new (Below.refl 0 w) (tokR 0 ⟨#[]⟩ 0 0)
  have HR := Lib.hid hR
  have Hi := Lib.hid hi
  have Hp := Lib.hid hp
  have HRp := Lib.hid hRp
  clear hm hi hR hp hRp hsm
  go_enter Tryd.func19, Tryd.ntmps19
  go_wp2_with fail
  refine (HM.out _).mono ?_
  rintro e w1 ⟨rfl, rfl⟩
  go_upto_block 0 with fail
  obtain ⟨rb, hrb⟩ : ∃ b, b = w.heap.size := ⟨_, rfl⟩
  obtain ⟨w1, hw1⟩ : ∃ x, x = w.alloc (tokR 0 ⟨#[]⟩ 0 0) := ⟨_, rfl⟩
  rw [← hrb, ← hw1] at H1
  rw [← hw1] at R1
  rw [← hrb, ← hw1]
  clear hrb hw1
  go_cut [7] from 21 to 57 (fun s7 wx => s7 = .int .i64 (p : Int) ∧ Sat wx (pts rb (tokR 0 ⟨#[]⟩ 0 0) * keep w) ∧ Ran w wx)
  case first =>
    go_wp2_with fail
    go_loopg [7] (s.size - i + 1) (fun g iv wr => RkRel s R rb w g iv wr)
    case atStart => exact ⟨i, rfl, Hi.out, Nat.le_refl _, HR.out, H1.out, R1⟩
    case round =>
      obtain ⟨k, rfl, hk, hg, hRk, hS, hRan⟩ := hrel
      have hk0 : (0 : Int) ≤ k := by omega
      by_cases hlt : k < s.size
      · have hltI : (k : Int) < s.size := by omega
        have hd := bs_drop s k hlt
        have hRk0 := hRk
        rw [hd, Sk_cons] at hRk
        obtain ⟨c, hc⟩ : ∃ c, c = s[k] := ⟨_, rfl⟩
        rw [← hc] at hRk hd
        have HS := Lib.hid hS
        have Hg := Lib.hid hg
        by_cases c32 : c = 32
        · rw [if_pos (.inl c32)] at hRk
          have b32 : (((s[k].toNat : Nat) : Int) == 32) = true := by rw [q32, ← hc, c32]; rfl
          have HRk := Lib.hid hRk
          clear hRk hRk0 hd hc c32 hg hS
          go_wp2_with fail
          go_roundg (gk - 1)
          case measure => have := Hg.out; omega
          case rel => exact ⟨k + 1, by go_num, by omega, by have := Hg.out; omega, HRk.out, HS.out, hRan⟩
        · have b32 : (((s[k].toNat : Nat) : Int) == 32) = false := by rw [q32, ← hc]; exact beq_eq_false_iff_ne.2 c32
          by_cases c9 : c = 9
          · rw [if_pos (.inr c9)] at hRk
            have b9 : (((s[k].toNat : Nat) : Int) == 9) = true := by rw [q9, ← hc, c9]; rfl
            have HRk := Lib.hid hRk
            clear hRk hRk0 hd hc c32 c9 hg hS
            go_wp2_with fail
            go_roundg (gk - 1)
            case measure => have := Hg.out; omega
            case rel => exact ⟨k + 1, by go_num, by omega, by have := Hg.out; omega, HRk.out, HS.out, hRan⟩
          · rw [if_neg (by rintro (h | h); exact c32 h; exact c9 h)] at hRk
            have b9 : (((s[k].toNat : Nat) : Int) == 9) = false := by rw [q9, ← hc]; exact beq_eq_false_iff_ne.2 c9
            have HP := fun w => is_calls s Hsm.out k ⟨#[92, 10]⟩ w hk (by decide)
            have hp2 : (bs ⟨#[92, 10]⟩).isPrefixOf ((bs s).drop k) = (c == 92 && ((bs s).drop (k + 1)).head? == some 10) := by rw [hd]; exact pre2 c _
            rw [hp2] at HP
            by_cases cN : c = 92 ∧ ((bs s).drop (k + 1)).head? = some 10
            · rw [if_pos cN] at hRk
              rw [show (c == 92 && ((bs s).drop (k + 1)).head? == some 10) = true by rw [cN.1, cN.2]; rfl] at HP
              have hk2 : k + 1 < s.size := by
                rcases Nat.lt_or_ge (k + 1) s.size with h | h
                · exact h
                · rw [drop_end s (k + 1) h] at cN; cases cN.2
              rw [List.tail_drop] at hRk
              have HRk := Lib.hid hRk
              have HP := Lib.hid HP
              clear hRk hRk0 hd hc c32 c9 hg hp2 cN hS
              go_wp2_with fail
              refine (HP.out _).mono ?_
              rintro e w2 ⟨rfl, hB2⟩
              have HS2 := Lib.hid (HS.out.below hB2)
              have hR2 := Ran.below hRan hB2
              clear hB2
              go_wp2_with fail
              go_roundg (gk - 1)
              case measure => have := Hg.out; omega
              case rel => exact ⟨k + 2, by go_num, by omega, by have := Hg.out; omega, HRk.out, HS2.out, hR2⟩
            · rw [if_neg cN] at hRk
              rw [show (c == 92 && ((bs s).drop (k + 1)).head? == some 10) = false by
                rw [Bool.eq_false_iff]; intro h; rw [Bool.and_eq_true] at h; exact cN ⟨eq_of_beq h.1, eq_of_beq h.2⟩] at HP
              have HP := Lib.hid HP
              by_cases c35 : c = 35
              · rw [if_pos c35] at hRk
                have b35 : (((s[k].toNat : Nat) : Int) == 35) = true := by rw [q35, ← hc, c35]; rfl
                have hRw : R = ((bs s).drop k).dropWhile (fun x => x != 10) := by
                  rw [hRk, hd, List.dropWhile_cons, if_pos (by rw [c35]; rfl)]
                have HRk := Lib.hid (And.intro hRw (And.intro hd (And.intro c35 hlt)))
                clear hRk hRk0 hd hc c32 c9 hg hp2 cN hS c35 hRw
                go_wp2_with fail
                refine (HP.out _).mono ?_
                rintro e w2 ⟨rfl, hB2⟩
                have HS2 := Lib.hid (HS.out.below hB2)
                have hR2 := Ran.below hRan hB2
                clear hB2
                go_wp2_with fail
                obtain ⟨G, hG⟩ : ∃ G, G = gk := ⟨_, rfl⟩
                have HG := Lib.hid hG
                clear hG
                go_loopg [7] (s.size - k + 1) (fun g iv wr => RcRel s k w2 g iv wr)
                case atStart => exact ⟨k, rfl, Nat.le_refl _, hk, Nat.le_refl _, rfl, rfl⟩
                case round =>
                  obtain ⟨j, rfl, hkj, hj, hgj, hDj, rfl⟩ := hrel
                  have hj0 : (0 : Int) ≤ j := by omega
                  by_cases hjl : j < s.size
                  · have hjI : (j : Int) < s.size := by omega
                    by_cases cj : s[j] = 10
                    · have bj : (((s[j].toNat : Nat) : Int) == 10) = true := by rw [q10, cj]; rfl
                      have hdj := bs_drop s j hjl
                      have hRj : R = Sk ((bs s).drop j) := by
                        rw [HRk.out.1, hDj, hdj, cj, Sk_lf]; rfl
                      have hne : k < j := by
                        rcases Nat.lt_or_ge k j with h | h
                        · exact h
                        · obtain rfl : k = j := by omega
                          have := HRk.out.2.1; rw [hdj, cj, HRk.out.2.2.1] at this
                          exact absurd (List.cons.inj this).1 (by decide)
                      have HRj := Lib.hid hRj
                      clear hRj hdj cj hDj hgj
                      go_wp2_with fail
                      go_roundg (G - 1)
                      case measure => have := Hg.out; have := HG.out; omega
                      case rel => exact ⟨j, rfl, hj, by have := Hg.out; have := HG.out; omega, HRj.out, HS2.out, hR2⟩
                    · have bj : (((s[j].toNat : Nat) : Int) == 10) = false := by rw [q10]; exact beq_eq_false_iff_ne.2 cj
                      have hdj := bs_drop s j hjl
                      have hDn : ((bs s).drop k).dropWhile (fun x => x != 10) = ((bs s).drop (j + 1)).dropWhile (fun x => x != 10) := by
                        rw [hDj, hdj, List.dropWhile_cons, if_pos (by simpa using cj)]
                      have HDn := Lib.hid hDn
                      have Hgj := Lib.hid hgj
                      clear hDn hdj cj hDj hgj
                      go_wp2_with fail
                      go_roundg (gk - 1)
                      case measure => have := Hgj.out; omega
                      case rel => exact ⟨j + 1, by go_num, by omega, by omega, by have := Hgj.out; omega, HDn.out, rfl⟩
                  · have hjI : ¬ ((j : Int) < s.size) := by omega
                    have hRj : R = Sk ((bs s).drop j) := by
                      rw [HRk.out.1, hDj, drop_end s j (by omega), Sk_nil]; rfl
                    have HRj := Lib.hid hRj
                    clear hRj hDj hgj
                    go_wp2_with fail
                    go_roundg (G - 1)
                    case measure => have := Hg.out; have := HG.out; omega
                    case rel => exact ⟨j, rfl, hj, by have := Hg.out; have := HG.out; omega, HRj.out, HS2.out, hR2⟩
              · rw [if_neg c35] at hRk
                have b35 : (((s[k].toNat : Nat) : Int) == 35) = false := by rw [q35, ← hc]; exact beq_eq_false_iff_ne.2 c35
                have hRx : R = (bs s).drop k := by rw [hRk, hd]
                have hkp : k = p := by
                  have h1 := congrArg List.length hRx
                  rw [List.length_drop, bs_length] at h1
                  have := Hp.out; omega
                subst hkp
                clear hRk hRk0 hd hc c32 c9 hg hp2 cN hS c35 hRx
                go_wp2_with fail
                refine (HP.out _).mono ?_
                rintro e w2 ⟨rfl, hB2⟩
                have HS2 := Lib.hid (HS.out.below hB2)
                have hR2 := Ran.below hRan hB2
                clear hB2
                go_wp2_with fail
                go_meet
                exact ⟨rfl, HS2.out, hR2⟩
      · have hltI : ¬ ((k : Int) < s.size) := by omega
        have hkp : k = p := by
          rw [drop_end s k (by omega), Sk_nil] at hRk
          have := Hp.out; rw [hRk] at this; simp at this; omega
        subst hkp
        have HS := Lib.hid hS
        clear hg hRk hS
        go_wp2_with fail
        go_meet
        exact ⟨rfl, HS.out, hRan⟩
  case rest =>
    obtain ⟨rfl, hS, hRan⟩ := hcut
    have HS := Lib.hid hS
    obtain ⟨c0, c1, c2, c3, cz⟩ := tokR_cells hS
    clear hS
    have hres0 : nextL s.size ((bs s).drop i) = nextR s.size R := by rw [nextL_eq, ← HR.out]
    by_cases hR0 : R = []
    · have hps : p = s.size := by have := Hp.out; rw [hR0] at this; simpa using this
      have hres : nextL s.size ((bs s).drop i) = (⟨0, ⟨#[]⟩, (p : Int), (p : Int)⟩, 0) := by rw [hres0, hR0, hps]; rfl
      have HRES := Lib.hid hres
      subst hps
      clear hres hres0 hR0
      go_wp2_with fail
      clear c0 c1 c2 c3 cz
      have H9 := (((HS.out.set (i := 0) (.int .i64 0)).set (i := 1) (.string ⟨#[]⟩)).set (i := 2) (.int .i64 (s.size : Int))).set (i := 3) (.int .i64 (s.size : Int))
      obtain ⟨w9, hw9⟩ : ∃ x, x = ((((wc.setCell ⟨rb, 0, none⟩ (.int .i64 0)).setCell ⟨rb, 1, none⟩ (.string ⟨#[]⟩)).setCell ⟨rb, 2, none⟩ (.int .i64 (s.size : Int))).setCell ⟨rb, 3, none⟩ (.int .i64 (s.size : Int))) := ⟨_, rfl⟩
      rw [← hw9] at H9
      rw [← hw9]
      have R9 : Ran w w9 := by rw [hw9]; exact Ran.set (Ran.set (Ran.set (Ran.set (hRan) _ _) _ _) _ _) _ _
      have H9 : Sat w9 (pts rb (tokR 0 ⟨#[]⟩ (s.size : Int) (s.size : Int)) * _) := H9
      obtain ⟨r0, r1, r2, r3, rz⟩ := tokR_cells H9
      refine bodyPost_ret (v := .tuple #[tokV (⟨0, ⟨#[]⟩, (s.size : Int), (s.size : Int)⟩), .int .i64 0]) (by simp [results, Tryd.results19, go_sem, r0, r1, r2, r3]) rfl ⟨by rw [HRES.out], Ran.whole' R9 H9.right⟩
    · obtain ⟨c, t, hRc⟩ : ∃ c t, R = c :: t := by
        cases hx : R with
        | nil => exact absurd hx hR0
        | cons c t => exact ⟨c, t, rfl⟩
      rw [hRc, nextR_cons] at hres0
      dsimp only at hres0
      have hpe : (s.size : Int) - (((c :: t).length : Nat) : Int) = (p : Int) := by rw [← hRc]; have := Hp.out; omega
      rw [hpe] at hres0
      have hlt : p < s.size := by have := Hp.out; rw [hRc, List.length_cons] at this; omega
      have hltI : (p : Int) < s.size := by omega
      have hpne : ((p : Int) == s.size) = false := by rw [beq_eq_false_iff_ne]; omega
      have hd := bs_drop s p hlt
      rw [← HRp.out, hRc] at hd
      have hc : c = s[p] := (List.cons.inj hd).1
      clear hpe hd
      by_cases c10 : c = 10
      · rw [if_pos c10] at hres0
        have b10 : (((s[p].toNat : Nat) : Int) == 10) = true := by rw [q10, ← hc, c10]; rfl
        have HRES := Lib.hid hres0
        clear hres0 hRc hR0 hc c10
        go_wp2_with fail
        clear c0 c1 c2 c3 cz
        have H9 := (((HS.out.set (i := 0) (.int .i64 1)).set (i := 1) (.string ⟨#[10]⟩)).set (i := 2) (.int .i64 (p : Int))).set (i := 3) (.int .i64 ((p : Int) + 1))
        obtain ⟨w9, hw9⟩ : ∃ x, x = ((((wc.setCell ⟨rb, 0, none⟩ (.int .i64 1)).setCell ⟨rb, 1, none⟩ (.string ⟨#[10]⟩)).setCell ⟨rb, 2, none⟩ (.int .i64 (p : Int))).setCell ⟨rb, 3, none⟩ (.int .i64 ((p : Int) + 1))) := ⟨_, rfl⟩
        rw [← hw9] at H9
        rw [← hw9]
        have R9 : Ran w w9 := by rw [hw9]; exact Ran.set (Ran.set (Ran.set (Ran.set (hRan) _ _) _ _) _ _) _ _
        have H9 : Sat w9 (pts rb (tokR 1 ⟨#[10]⟩ (p : Int) ((p : Int) + 1)) * _) := H9
        obtain ⟨r0, r1, r2, r3, rz⟩ := tokR_cells H9
        refine bodyPost_ret (v := .tuple #[tokV (⟨1, ⟨#[10]⟩, (p : Int), (p : Int) + 1⟩), .int .i64 0]) (by simp [results, Tryd.results19, go_sem, r0, r1, r2, r3]) rfl ⟨by rw [HRES.out], Ran.whole' R9 H9.right⟩
      · rw [if_neg c10] at hres0
        have b10 : (((s[p].toNat : Nat) : Int) == 10) = false := by rw [q10, ← hc]; exact beq_eq_false_iff_ne.2 c10
        have HO := fun w => Operator_calls s Hsm.out p w (by omega)
        rw [← HRp.out, hRc] at HO
        obtain ⟨n, hn⟩ : ∃ n, n = opN (c :: t) := ⟨_, rfl⟩
        rw [← hn] at HO hres0
        have HO := Lib.hid HO
        by_cases hop : 0 < n
        · rw [if_pos hop] at hres0
          have hnle : n ≤ (c :: t).length := by rw [hn]; exact opN_le _
          have hpn : (p : Int) + n ≤ s.size := by have := Hp.out; rw [hRc] at this; omega
          have hopI : (0 : Int) < (n : Int) := by omega
          obtain ⟨y, hy⟩ : ∃ y, s.extract p (p + n) = y := ⟨_, rfl⟩
          have hyb : bs y = (c :: t).take n := by rw [← hy, bs_extract, ← HRp.out, hRc, show p + n - p = n by omega]
          rw [← hyb, show (⟨(bs y).toArray⟩ : ByteArray) = y from (bs_eq rfl).symm] at hres0
          have HRES := Lib.hid hres0
          clear hres0 hRc hR0 hc c10 hn hnle hyb hop c0 c1 c2 c3 cz
          go_wp2_with fail
          refine (HO.out _).mono ?_
          rintro e w2 ⟨rfl, hB2⟩
          have HS2 := Lib.hid (HS.out.below hB2)
          have hR2 := Ran.below hRan hB2
          obtain ⟨c0, c1, c2, c3, cz⟩ := tokR_cells HS2.out
          clear hB2 HO HS hRan
          go_wp2_with fail
          clear c0 c1 c2 c3 cz
          have H9 := (((HS2.out.set (i := 0) (.int .i64 2)).set (i := 1) (.string y)).set (i := 2) (.int .i64 (p : Int))).set (i := 3) (.int .i64 ((p : Int) + n))
          obtain ⟨w9, hw9⟩ : ∃ x, x = ((((w2.setCell ⟨rb, 0, none⟩ (.int .i64 2)).setCell ⟨rb, 1, none⟩ (.string y)).setCell ⟨rb, 2, none⟩ (.int .i64 (p : Int))).setCell ⟨rb, 3, none⟩ (.int .i64 ((p : Int) + n))) := ⟨_, rfl⟩
          rw [← hw9] at H9
          rw [← hw9]
          have R9 : Ran w w9 := by rw [hw9]; exact Ran.set (Ran.set (Ran.set (Ran.set (hR2) _ _) _ _) _ _) _ _
          have H9 : Sat w9 (pts rb (tokR 2 y (p : Int) ((p : Int) + n)) * _) := H9
          obtain ⟨r0, r1, r2, r3, rz⟩ := tokR_cells H9
          refine bodyPost_ret (v := .tuple #[tokV (⟨2, y, (p : Int), (p : Int) + n⟩), .int .i64 0]) (by simp [results, Tryd.results19, go_sem, r0, r1, r2, r3]) rfl ⟨by rw [HRES.out], Ran.whole' R9 H9.right⟩
        · rw [if_neg hop] at hres0
          have hn0 : n = 0 := by omega
          subst hn0
          have HW := fun w => scan_calls s Hsm.out p 119 true _ (dst_wd ((bs s).drop p)) w (by omega)
          rw [← HRp.out, hRc] at HW
          have HW := fun w => show Calls _ _ #[.string s, .int .i64 (p : Int), .int .u8 119] _ _ from HW w
          cases hW : Wd (c :: t) with
          | none =>
            rw [hW] at hres0 HW
            have HW := Lib.hid (fun w => show Calls _ _ _ _ (NPost (-1) w) from HW w)
            have HRES := Lib.hid hres0
            clear hres0 hRc hR0 hc c10 hn hop c0 c1 c2 c3 cz hW
            go_wp2_with fail
            refine (HO.out _).mono ?_
            rintro e w2 ⟨rfl, hB2⟩
            have HS2 := Lib.hid (HS.out.below hB2)
            have hR2 := Ran.below hRan hB2
            clear hB2 HO HS hRan
            go_wp2_with fail
            refine (HW.out _).mono ?_
            rintro e w3 ⟨rfl, hB3⟩
            have HS3 := Lib.hid (HS2.out.below hB3)
            have hR3 := Ran.below hR2 hB3
            obtain ⟨c0, c1, c2, c3, cz⟩ := tokR_cells HS3.out
            clear hB3 HW HS2 hR2
            go_wp2_with fail
            clear c0 c1 c2 c3 cz
            have H9 := (((HS3.out.set (i := 0) (.int .i64 0)).set (i := 1) (.string ⟨#[]⟩)).set (i := 2) (.int .i64 (p : Int))).set (i := 3) (.int .i64 0)
            obtain ⟨w9, hw9⟩ : ∃ x, x = ((((w3.setCell ⟨rb, 0, none⟩ (.int .i64 0)).setCell ⟨rb, 1, none⟩ (.string ⟨#[]⟩)).setCell ⟨rb, 2, none⟩ (.int .i64 (p : Int))).setCell ⟨rb, 3, none⟩ (.int .i64 0)) := ⟨_, rfl⟩
            rw [← hw9] at H9
            rw [← hw9]
            have R9 : Ran w w9 := by rw [hw9]; exact Ran.set (Ran.set (Ran.set (Ran.set (hR3) _ _) _ _) _ _) _ _
            have H9 : Sat w9 (pts rb (tokR 0 ⟨#[]⟩ (p : Int) 0) * _) := H9
            obtain ⟨r0, r1, r2, r3, rz⟩ := tokR_cells H9
            refine bodyPost_ret (v := .tuple #[tokV (⟨0, ⟨#[]⟩, (p : Int), 0⟩), .int .i64 30]) (by simp [results, Tryd.results19, go_sem, r0, r1, r2, r3]) rfl ⟨by rw [HRES.out], Ran.whole' R9 H9.right⟩
          | some q =>
            rw [hW] at hres0 HW
            have hql := (Wd_suf hW).length_le
            have hRs := Hp.out
            rw [hRc] at hRs
            obtain ⟨st, hst⟩ : ∃ st, st = s.size - q.length := ⟨_, rfl⟩
            have hqd : q = (bs s).drop st := by
              have h3 := List.suffix_iff_eq_drop.1 ((Wd_suf hW).trans (by rw [← hRc, HRp.out]; exact List.drop_suffix p _))
              rw [bs_length] at h3; rw [hst]; exact h3
            have hstI : (s.size : Int) - (q.length : Int) = (st : Int) := by omega
            have hstp : (p : Int) ≤ (st : Int) := by omega
            have hsts : (st : Int) ≤ s.size := by omega
            have hst0 : (0 : Int) ≤ st := by omega
            have HW := fun w => show Calls _ _ _ _ (NPost ((s.size : Int) - (q.length : Int)) w) from HW w
            rw [hstI] at HW
            dsimp only at hres0
            rw [hstI] at hres0
            have HW := Lib.hid HW
            obtain ⟨y, hy⟩ : ∃ y, s.extract p st = y := ⟨_, rfl⟩
            have hyb : bs y = (c :: t).take ((c :: t).length - q.length) := by rw [← hy, bs_extract, ← HRp.out, hRc]; congr 1; omega
            rw [← hyb, show (⟨(bs y).toArray⟩ : ByteArray) = y from (bs_eq rfl).symm] at hres0
            have hyl : bs y = ((bs s).drop p).take (st - p) := by rw [← hy, bs_extract]
            obtain ⟨ad, had⟩ : ∃ b, b = (bs y).all isDig := ⟨_, rfl⟩
            rw [← had] at hres0
            obtain ⟨kd, hkd⟩ : ∃ k : Int, k = (if ad = true ∧ (q.head? = some 60 ∨ q.head? = some 62) then 3 else 4) := ⟨_, rfl⟩
            rw [← hkd] at hres0
            have Hkd := Lib.hid hkd
            have Hqd := Lib.hid (And.intro hqd (And.intro had hyl))
            have HRES := Lib.hid hres0
            clear hres0 hRc hR0 hc c10 hn hop c0 c1 c2 c3 cz hW had hkd hqd hst hstI hql hyb hyl hRs
            go_wp2_with fail
            refine (HO.out _).mono ?_
            rintro e w2 ⟨rfl, hB2⟩
            have HS2 := Lib.hid (HS.out.below hB2)
            have hR2 := Ran.below hRan hB2
            clear hB2 HO HS hRan
            go_wp2_with fail
            refine (HW.out _).mono ?_
            rintro e w3 ⟨rfl, hB3⟩
            have HS3 := Lib.hid (HS2.out.below hB3)
            have hR3 := Ran.below hR2 hB3
            clear hB3 HW HS2 hR2
            go_wp2_with fail
            go_loopg [10, 11] (st - p) (fun g dv kv wr => DgRel s p st w3 g dv kv wr)
            case atStart => exact ⟨p, rfl, Nat.le_refl _, by omega, by omega, by rw [Nat.sub_self, List.take_zero]; rfl, rfl⟩
            case round =>
              obtain ⟨j, rfl, hpj, hjs, hgj, hdv, rfl⟩ := hrel
              obtain ⟨ab, hab⟩ : ∃ b, b = (((bs s).drop p).take (j - p)).all isDig := ⟨_, rfl⟩
              rw [← hab] at hdv
              subst hdv
              have hj0 : (0 : Int) ≤ j := by omega
              by_cases hjl : j < st
              · have hjI : (j : Int) < st := by omega
                have hjz : j < s.size := by omega
                have hjzI : (j : Int) < s.size := by omega
                have hnx : (((bs s).drop p).take (j + 1 - p)).all isDig = (ab && isDig s[j]) := by
                  rw [show j + 1 - p = (j - p) + 1 by omega, List.take_add_one, List.getElem?_drop, show p + (j - p) = j by omega, bs_get s j hjz, List.all_append, ← hab]
                  simp
                rw [isDig_eq] at hnx
                have HNX := Lib.hid hnx
                have Hgj := Lib.hid hgj
                clear hnx hab hgj
                cases ab
                · go_wp2_with fail
                  go_roundg (gk - 1)
                  case measure => have := Hgj.out; omega
                  case rel => exact ⟨j + 1, by go_num, by omega, by omega, by have := Hgj.out; omega, by rw [HNX.out]; rfl, rfl⟩
                · by_cases d1 : (48 : Int) ≤ ((s[j].toNat : Nat) : Int)
                  · by_cases d2 : ((s[j].toNat : Nat) : Int) ≤ 57
                    · go_wp2_with fail
                      go_roundg (gk - 1)
                      case measure => have := Hgj.out; omega
                      case rel => exact ⟨j + 1, by go_num, by omega, by omega, by have := Hgj.out; omega, by rw [HNX.out, decide_eq_true (show 48 ≤ s[j].toNat by omega), decide_eq_true (show s[j].toNat ≤ 57 by omega)]; rfl, rfl⟩
                    · go_wp2_with fail
                      go_roundg (gk - 1)
                      case measure => have := Hgj.out; omega
                      case rel => exact ⟨j + 1, by go_num, by omega, by omega, by have := Hgj.out; omega, by rw [HNX.out, decide_eq_false (show ¬ s[j].toNat ≤ 57 by omega), Bool.and_false, Bool.and_false], rfl⟩
                  · go_wp2_with fail
                    go_roundg (gk - 1)
                    case measure => have := Hgj.out; omega
                    case rel => exact ⟨j + 1, by go_num, by omega, by omega, by have := Hgj.out; omega, by rw [HNX.out, decide_eq_false (show ¬ 48 ≤ s[j].toNat by omega), Bool.false_and, Bool.and_false], rfl⟩
              · have hjs2 : j = st := by omega
                subst hjs2
                have hjI : ¬ ((j : Int) < j) := by omega
                obtain rfl : ab = ad := by rw [Hqd.out.2.1, Hqd.out.2.2]; exact hab
                have Hq1 := Lib.hid Hqd.out.1
                obtain ⟨c0, c1, c2, c3, cz⟩ := tokR_cells HS3.out
                clear hab hgj hjl
                cases ab
                · obtain rfl : kd = 4 := by rw [Hkd.out]; exact if_neg (fun h => by cases h.1)
                  go_wp2_with fail
                  clear c0 c1 c2 c3 cz
                  have H9 := (((HS3.out.set (i := 0) (.int .i64 4)).set (i := 1) (.string y)).set (i := 2) (.int .i64 (p : Int))).set (i := 3) (.int .i64 (j : Int))
                  obtain ⟨w9, hw9⟩ : ∃ x, x = ((((w3.setCell ⟨rb, 0, none⟩ (.int .i64 4)).setCell ⟨rb, 1, none⟩ (.string y)).setCell ⟨rb, 2, none⟩ (.int .i64 (p : Int))).setCell ⟨rb, 3, none⟩ (.int .i64 (j : Int))) := ⟨_, rfl⟩
                  rw [← hw9] at H9
                  rw [← hw9]
                  have R9 : Ran w w9 := by rw [hw9]; exact Ran.set (Ran.set (Ran.set (Ran.set (hR3) _ _) _ _) _ _) _ _
                  have H9 : Sat w9 (pts rb (tokR 4 y (p : Int) (j : Int)) * _) := H9
                  obtain ⟨r0, r1, r2, r3, rz⟩ := tokR_cells H9
                  refine bodyPost_ret (v := .tuple #[tokV (⟨4, y, (p : Int), (j : Int)⟩), .int .i64 0]) (by simp [results, Tryd.results19, go_sem, r0, r1, r2, r3]) rfl ⟨by rw [HRES.out], Ran.whole' R9 H9.right⟩
                · by_cases hse : j < s.size
                  · have hseI : (j : Int) < s.size := by omega
                    have hqh : q.head? = some s[j] := by rw [Hq1.out, bs_drop s j hse]; rfl
                    by_cases c60 : s[j] = 60
                    · have b60 : (((s[j].toNat : Nat) : Int) == 60) = true := by rw [q60, c60]; rfl
                      obtain rfl : kd = 3 := by rw [Hkd.out, hqh, c60]; exact if_pos ⟨rfl, .inl rfl⟩
                      clear hqh c60
                      go_wp2_with fail
                      clear c0 c1 c2 c3 cz
                      have H9 := (((HS3.out.set (i := 0) (.int .i64 3)).set (i := 1) (.string y)).set (i := 2) (.int .i64 (p : Int))).set (i := 3) (.int .i64 (j : Int))
                      obtain ⟨w9, hw9⟩ : ∃ x, x = ((((w3.setCell ⟨rb, 0, none⟩ (.int .i64 3)).setCell ⟨rb, 1, none⟩ (.string y)).setCell ⟨rb, 2, none⟩ (.int .i64 (p : Int))).setCell ⟨rb, 3, none⟩ (.int .i64 (j : Int))) := ⟨_, rfl⟩
                      rw [← hw9] at H9
                      rw [← hw9]
                      have R9 : Ran w w9 := by rw [hw9]; exact Ran.set (Ran.set (Ran.set (Ran.set (hR3) _ _) _ _) _ _) _ _
                      have H9 : Sat w9 (pts rb (tokR 3 y (p : Int) (j : Int)) * _) := H9
                      obtain ⟨r0, r1, r2, r3, rz⟩ := tokR_cells H9
                      refine bodyPost_ret (v := .tuple #[tokV (⟨3, y, (p : Int), (j : Int)⟩), .int .i64 0]) (by simp [results, Tryd.results19, go_sem, r0, r1, r2, r3]) rfl ⟨by rw [HRES.out], Ran.whole' R9 H9.right⟩
                    · have b60 : (((s[j].toNat : Nat) : Int) == 60) = false := by rw [q60]; exact beq_eq_false_iff_ne.2 c60
                      by_cases c62 : s[j] = 62
                      · have b62 : (((s[j].toNat : Nat) : Int) == 62) = true := by rw [q62, c62]; rfl
                        obtain rfl : kd = 3 := by rw [Hkd.out, hqh, c62]; exact if_pos ⟨rfl, .inr rfl⟩
                        clear hqh c62 c60
                        go_wp2_with fail
                        clear c0 c1 c2 c3 cz
                        have H9 := (((HS3.out.set (i := 0) (.int .i64 3)).set (i := 1) (.string y)).set (i := 2) (.int .i64 (p : Int))).set (i := 3) (.int .i64 (j : Int))
                        obtain ⟨w9, hw9⟩ : ∃ x, x = ((((w3.setCell ⟨rb, 0, none⟩ (.int .i64 3)).setCell ⟨rb, 1, none⟩ (.string y)).setCell ⟨rb, 2, none⟩ (.int .i64 (p : Int))).setCell ⟨rb, 3, none⟩ (.int .i64 (j : Int))) := ⟨_, rfl⟩
                        rw [← hw9] at H9
                        rw [← hw9]
                        have R9 : Ran w w9 := by rw [hw9]; exact Ran.set (Ran.set (Ran.set (Ran.set (hR3) _ _) _ _) _ _) _ _
                        have H9 : Sat w9 (pts rb (tokR 3 y (p : Int) (j : Int)) * _) := H9
                        obtain ⟨r0, r1, r2, r3, rz⟩ := tokR_cells H9
                        refine bodyPost_ret (v := .tuple #[tokV (⟨3, y, (p : Int), (j : Int)⟩), .int .i64 0]) (by simp [results, Tryd.results19, go_sem, r0, r1, r2, r3]) rfl ⟨by rw [HRES.out], Ran.whole' R9 H9.right⟩
                      · have b62 : (((s[j].toNat : Nat) : Int) == 62) = false := by rw [q62]; exact beq_eq_false_iff_ne.2 c62
                        obtain rfl : kd = 4 := by rw [Hkd.out, hqh]; exact if_neg (by rintro ⟨_, h | h⟩; exact c60 (Option.some.inj h); exact c62 (Option.some.inj h))
                        clear hqh c62 c60
                        go_wp2_with fail
                        clear c0 c1 c2 c3 cz
                        have H9 := (((HS3.out.set (i := 0) (.int .i64 4)).set (i := 1) (.string y)).set (i := 2) (.int .i64 (p : Int))).set (i := 3) (.int .i64 (j : Int))
                        obtain ⟨w9, hw9⟩ : ∃ x, x = ((((w3.setCell ⟨rb, 0, none⟩ (.int .i64 4)).setCell ⟨rb, 1, none⟩ (.string y)).setCell ⟨rb, 2, none⟩ (.int .i64 (p : Int))).setCell ⟨rb, 3, none⟩ (.int .i64 (j : Int))) := ⟨_, rfl⟩
                        rw [← hw9] at H9
                        rw [← hw9]
                        have R9 : Ran w w9 := by rw [hw9]; exact Ran.set (Ran.set (Ran.set (Ran.set (hR3) _ _) _ _) _ _) _ _
                        have H9 : Sat w9 (pts rb (tokR 4 y (p : Int) (j : Int)) * _) := H9
                        obtain ⟨r0, r1, r2, r3, rz⟩ := tokR_cells H9
                        refine bodyPost_ret (v := .tuple #[tokV (⟨4, y, (p : Int), (j : Int)⟩), .int .i64 0]) (by simp [results, Tryd.results19, go_sem, r0, r1, r2, r3]) rfl ⟨by rw [HRES.out], Ran.whole' R9 H9.right⟩
                  · have hseI : ¬ ((j : Int) < s.size) := by omega
                    have hq0 : q = [] := by rw [Hq1.out]; exact drop_end s j (by omega)
                    obtain rfl : kd = 4 := by rw [Hkd.out, hq0]; exact if_neg (by rintro ⟨_, h | h⟩ <;> cases h)
                    clear hq0
                    go_wp2_with fail
                    clear c0 c1 c2 c3 cz
                    have H9 := (((HS3.out.set (i := 0) (.int .i64 4)).set (i := 1) (.string y)).set (i := 2) (.int .i64 (p : Int))).set (i := 3) (.int .i64 (j : Int))
                    obtain ⟨w9, hw9⟩ : ∃ x, x = ((((w3.setCell ⟨rb, 0, none⟩ (.int .i64 4)).setCell ⟨rb, 1, none⟩ (.string y)).setCell ⟨rb, 2, none⟩ (.int .i64 (p : Int))).setCell ⟨rb, 3, none⟩ (.int .i64 (j : Int))) := ⟨_, rfl⟩
                    rw [← hw9] at H9
                    rw [← hw9]
                    have R9 : Ran w w9 := by rw [hw9]; exact Ran.set (Ran.set (Ran.set (Ran.set (hR3) _ _) _ _) _ _) _ _
                    have H9 : Sat w9 (pts rb (tokR 4 y (p : Int) (j : Int)) * _) := H9
                    obtain ⟨r0, r1, r2, r3, rz⟩ := tokR_cells H9
                    refine bodyPost_ret (v := .tuple #[tokV (⟨4, y, (p : Int), (j : Int)⟩), .int .i64 0]) (by simp [results, Tryd.results19, go_sem, r0, r1, r2, r3]) rfl ⟨by rw [HRES.out], Ran.whole' R9 H9.right⟩
theorem rnext_calls (s : ByteArray) (a : Int) (w : World) (h63 : (s.size : Int) ≤ 9223372036854775807) :
    Calls Tryd.prog 19 #[.string s, .int .i64 a] w (NextPost (nextA s a) w) := by
  by_cases hm : mayE s.size a ≠ 0
  · exact rnext_bad s a w h63 hm
  · have hm0 : mayE s.size a = 0 := by omega
    obtain ⟨h1, h2, h3⟩ := mayE_ok hm0
    obtain ⟨i, rfl⟩ : ∃ i : Nat, a = (i : Int) := ⟨a.toNat, by omega⟩
    have hi : i ≤ s.size := by omega
    unfold nextA
    rw [if_neg hm, show ((i : Int)).toNat = i from rfl]
    obtain ⟨R, hR⟩ : ∃ R, R = Sk ((bs s).drop i) := ⟨_, rfl⟩
    obtain ⟨p, _, hps0, hRp⟩ := p_of s i hR
    exact rnext_good s i p w h1 hi hm0 R hR hps0 hRp
end Go.Proofs.YtlhkochpokhncaaDoor.Lexer
