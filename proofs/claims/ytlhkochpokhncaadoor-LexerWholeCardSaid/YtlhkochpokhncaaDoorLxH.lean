/- strings.Trim at digits, strings.TrimLeft at a tab; skip, Hole walked. -/
import Derived.Test.YtlhkochpokhncaaDoorLxG
import Derived.Test.YtlhkochpokhncaaDoorShf
import Derived.Test.YtlhkochpokhncaaDoorHeld
namespace Go.Proofs.YtlhkochpokhncaaDoor.Lexer
open Go.RowKit Go.Proofs.YtlhkochpokhncaaDoor Go.Proofs.YtlhkochpokhncaaDoor.Hp
set_option linter.unusedVariables false
attribute [local go_sem] Oper.semAt_some

theorem trim_calls (s cs : ByteArray) (w : World) (hs : s.size ≤ 9223372036854775807) (hc : cs.size < 1000) (ha : ∀ (j : Nat) b, cs.data.toList[j]? = some b → b.toNat < 128) :
    Calls Tryd.prog 32 #[.string s, .string cs] w (SPost ⟨(Lib.trimS (bs s) (bs cs)).toArray⟩ w) := by
  have hcon := Any.strings_Trim_laid Tryd.lays160 (by kernel_rfl) s cs w hs (by omega) ha
  exact hcon
theorem trimLeft_calls (s cs : ByteArray) (w : World) (hc : cs.size < 1000) (ha : ∀ (j : Nat) b, cs.data.toList[j]? = some b → b.toNat < 128) :
    Calls Tryd.prog 25 #[.string s, .string cs] w (SPost ⟨(Lib.trimLeftS (bs s) (bs cs)).toArray⟩ w) := by
  have hcon := Any.strings_TrimLeft_laid Tryd.lays161 (by kernel_rfl) s cs w (by omega) ha
  exact hcon
/-- What is left behind blanks, tabs, line feeds behind a \ and comments. -/
def Sk : Bytes → Bytes
  | [] => []
  | c :: t => if c = 32 ∨ c = 9 then Sk t else if c = 92 ∧ t.head? = some 10 then Sk t.tail else if c = 35 then t.dropWhile (fun x => x != 10) else c :: t
termination_by l => l.length
decreasing_by
  · simp
  · simp; omega
theorem Sk_nil : Sk [] = [] := by rw [Sk]
theorem Sk_cons (c : UInt8) (t : Bytes) : Sk (c :: t) = if c = 32 ∨ c = 9 then Sk t else if c = 92 ∧ t.head? = some 10 then Sk t.tail else if c = 35 then t.dropWhile (fun x => x != 10) else c :: t := by rw [Sk]
theorem Sk_suf (l : Bytes) : Sk l <:+ l := by
  have key : ∀ (n : Nat) (l : Bytes), l.length ≤ n → Sk l <:+ l := by
    intro n
    induction n with
    | zero =>
      intro l hl
      have : l = [] := List.eq_nil_of_length_eq_zero (by omega)
      subst this
      rw [Sk_nil]; exact List.suffix_refl _
    | succ n ih =>
      intro l hl
      cases l with
      | nil => rw [Sk_nil]; exact List.suffix_refl _
      | cons c t =>
        rw [Sk_cons]
        simp only [List.length_cons] at hl
        split
        · exact (ih t (by omega)).trans (List.suffix_cons c t)
        · split
          · exact ((ih t.tail (by rw [List.length_tail]; omega)).trans (List.tail_suffix t)).trans (List.suffix_cons c t)
          · split
            · exact (List.dropWhile_suffix _).trans (List.suffix_cons c t)
            · exact List.suffix_refl _
  exact key l.length l (Nat.le_refl _)
/-- The place of the next thing, and whether it is one. -/
def skI (n : Nat) (l : Bytes) : Int := (n : Int) - ((Sk l).length : Int)
def KPost (n : Nat) (r : Bytes) (w : World) (e : Ending) (w' : World) : Prop := e = .returned (.tuple #[.int .i64 ((n : Int) - (r.length : Int)), .bool (r != [92])]) ∧ Below w.heap.size w w'
theorem dropW_no (l : Bytes) (h : (10 : UInt8) ∉ l) : l.dropWhile (fun x => x != 10) = [] := by
  induction l with
  | nil => rfl
  | cons c l ih =>
    have hc : c ≠ 10 := fun e => h (by rw [e]; exact List.mem_cons_self ..)
    rw [List.dropWhile_cons, if_pos (by simpa using hc)]
    exact ih fun hm => h (List.mem_cons_of_mem _ hm)
theorem dropW_yes (a t : Bytes) (h : (10 : UInt8) ∉ a) : (a ++ 10 :: t).dropWhile (fun x => x != 10) = 10 :: t := by
  induction a with
  | nil => rfl
  | cons c a ih =>
    have hc : c ≠ 10 := fun e => h (by rw [e]; exact List.mem_cons_self ..)
    rw [List.cons_append, List.dropWhile_cons, if_pos (by simpa using hc)]
    exact ih fun hm => h (List.mem_cons_of_mem _ hm)
theorem drop_ixb (l : Bytes) : (l.dropWhile (fun x => x != 10) = [] ∧ Lib.indexByte l 10 = -1) ∨ ∃ n : Nat, Lib.indexByte l 10 = (n : Int) ∧ n < l.length ∧ l.dropWhile (fun x => x != 10) = l.drop n ∧ (l.drop n).head? = some 10 := by
  rcases ixb_cases l 10 with ⟨h1, h2⟩ | ⟨a, t, h1, h2, h3⟩
  · exact .inl ⟨dropW_no l h1, h2⟩
  · refine .inr ⟨a.length, h3, by rw [h1]; simp, ?_, ?_⟩
    · rw [h1, dropW_yes a t h2, List.drop_append, List.drop_eq_nil_of_le (Nat.le_refl _), List.nil_append, Nat.sub_self]; rfl
    · rw [h1, List.drop_append, List.drop_eq_nil_of_le (Nat.le_refl _), List.nil_append, Nat.sub_self]; rfl
theorem Sk_lf (t : Bytes) : Sk (10 :: t) = 10 :: t := by rw [Sk_cons, if_neg (by decide), if_neg (by simp), if_neg (by decide)]
theorem pre2 (c : UInt8) (t : Bytes) : ([92, 10] : Bytes).isPrefixOf (c :: t) = (c == 92 && t.head? == some 10) := by
  simp only [List.isPrefixOf]
  rw [bq 92 c]
  cases t with
  | nil => simp
  | cons d t =>
    simp only [List.isPrefixOf, List.head?_cons, Bool.and_true]
    rw [bq 10 d]; rfl
/-- A loop's place ahead of a thing. -/
def SkRel (s : ByteArray) (R : Bytes) (w : World) (lo : Nat) (g : Nat) (iv : Value) (wr : World) : Prop :=
  ∃ k : Nat, iv = .int .i64 (k : Int) ∧ lo ≤ k ∧ k ≤ s.size ∧ s.size - k + 1 ≤ g ∧ R = Sk ((bs s).drop k) ∧ Below w.heap.size w wr
theorem ne92 (x : ByteArray) : (!x.toList == ([92] : List UInt8)) = (bs x != [92]) := by rw [ByteArray.toList_eq]; rfl
set_option maxRecDepth 100000 in
set_option maxHeartbeats 8000000 in
theorem skip_calls (s : ByteArray) (hs : Small s) (i : Nat) (w : World) (hi : i ≤ s.size) :
    Calls Tryd.prog 29 #[.string s, .int .i64 (i : Int)] w (KPost s.size (Sk ((bs s).drop i)) w) := by
  have hsz : (s.size : Int) ≤ 1000000 := hs
  obtain ⟨R, hR⟩ : ∃ R, R = Sk ((bs s).drop i) := ⟨_, rfl⟩
  rw [← hR]
  have HR := Lib.hid hR
  have Hin := Lib.hid hi
  clear hR hi hs
  go_enter Tryd.func29, Tryd.ntmps29
  go_wp2_with fail
  go_loopg [1, 6] (s.size - i + 1) (fun g iv _ wr => SkRel s R w i g iv wr)
  case atStart => exact ⟨i, rfl, Nat.le_refl _, Hin.out, Nat.le_refl _, HR.out, Below.refl _ _⟩
  case round =>
    obtain ⟨k, rfl, hik, hk, hg, hRk, hB⟩ := hrel
    have hk0 : (0 : Int) ≤ k := by omega
    by_cases hlt : k < s.size
    · have hltI : (k : Int) < s.size := by omega
      have hd := bs_drop s k hlt
      have hRk0 := hRk
      rw [hd, Sk_cons] at hRk
      obtain ⟨c, hc⟩ : ∃ c, c = s[k] := ⟨_, rfl⟩
      rw [← hc] at hRk hd
      by_cases c32 : c = 32
      · rw [if_pos (.inl c32)] at hRk
        have b32 : (((s[k].toNat : Nat) : Int) == 32) = true := by rw [q32, ← hc, c32]; rfl
        have HRk := Lib.hid hRk
        have Hg := Lib.hid hg
        clear hRk hRk0 hd hc c32 hg
        go_wp2_with fail
        go_roundg (gk - 1)
        case measure => have := Hg.out; omega
        case rel => exact ⟨k + 1, by go_num, by omega, by omega, by have := Hg.out; omega, HRk.out, hB⟩
      · have b32 : (((s[k].toNat : Nat) : Int) == 32) = false := by rw [q32, ← hc]; exact beq_eq_false_iff_ne.2 c32
        by_cases c9 : c = 9
        · rw [if_pos (.inr c9)] at hRk
          have b9 : (((s[k].toNat : Nat) : Int) == 9) = true := by rw [q9, ← hc, c9]; rfl
          have HRk := Lib.hid hRk
          have Hg := Lib.hid hg
          clear hRk hRk0 hd hc c32 c9 hg
          go_wp2_with fail
          go_roundg (gk - 1)
          case measure => have := Hg.out; omega
          case rel => exact ⟨k + 1, by go_num, by omega, by omega, by have := Hg.out; omega, HRk.out, hB⟩
        · rw [if_neg (by rintro (h | h); exact c32 h; exact c9 h)] at hRk
          have b9 : (((s[k].toNat : Nat) : Int) == 9) = false := by rw [q9, ← hc]; exact beq_eq_false_iff_ne.2 c9
          obtain ⟨x, hx⟩ : ∃ x, s.extract k s.size = x := ⟨_, rfl⟩
          have hxb : (bs s).drop k = bs x := by rw [← hx, bs_tail]
          have hxs : x.size = s.size - k := by rw [← hx, size_tail]
          have HP := fun w => pre_calls x ⟨#[92, 10]⟩ w (by omega) (by decide)
          have hp2 : (bs ⟨#[92, 10]⟩).isPrefixOf (bs x) = (c == 92 && ((bs s).drop (k + 1)).head? == some 10) := by rw [← hxb, hd]; exact pre2 c _
          rw [hp2] at HP
          by_cases cN : c = 92 ∧ ((bs s).drop (k + 1)).head? = some 10
          · rw [if_pos cN] at hRk
            rw [show (c == 92 && ((bs s).drop (k + 1)).head? == some 10) = true by rw [cN.1, cN.2]; rfl] at HP
            have hk2 : k + 1 < s.size := by
              rcases Nat.lt_or_ge (k + 1) s.size with h | h
              · exact h
              · rw [drop_end s (k + 1) h] at cN; cases cN.2
            rw [List.tail_drop] at hRk
            have HRk := Lib.hid hRk
            have Hg := Lib.hid hg
            have HP := Lib.hid HP
            clear hRk hRk0 hd hc c32 c9 hg hp2 cN hxb
            go_wp2_with fail
            refine (HP.out _).mono ?_
            rintro e w1 ⟨rfl, rfl⟩
            go_wp2_with fail
            go_roundg (gk - 1)
            case measure => have := Hg.out; omega
            case rel => exact ⟨k + 2, by go_num, by omega, by omega, by have := Hg.out; omega, HRk.out, hB⟩
          · rw [if_neg cN] at hRk
            rw [show (c == 92 && ((bs s).drop (k + 1)).head? == some 10) = false by
              rw [Bool.eq_false_iff]; intro h; rw [Bool.and_eq_true] at h; exact cN ⟨eq_of_beq h.1, eq_of_beq h.2⟩] at HP
            have HP := Lib.hid HP
            by_cases c35 : c = 35
            · rw [if_pos c35] at hRk
              have b35 : (((s[k].toNat : Nat) : Int) == 35) = true := by rw [q35, ← hc, c35]; rfl
              have hdw : ((bs x)).dropWhile (fun y => y != 10) = R := by
                rw [hRk, ← hxb, hd, List.dropWhile_cons, if_pos (by rw [c35]; rfl)]
              have HX := Lib.hid (fun w => six_calls x 10 w)
              rcases drop_ixb (bs x) with ⟨h1, h2⟩ | ⟨m, h2, h3, h1, h4⟩
              · have hR0 : R = [] := by rw [← hdw, h1]
                subst hR0
                have HX2 := HX.out
                rw [show Lib.indexByte x.data.toList (10 : Int).toNat.toUInt8 = -1 from h2] at HX2
                have HX2 := Lib.hid HX2
                clear hRk hRk0 hd hc c32 c9 hg hp2 cN hxb c35 hdw HX h1 h2
                go_wp2_with fail
                refine (HP.out _).mono ?_
                rintro e w1 ⟨rfl, rfl⟩
                go_wp2_with fail
                refine (HX2.out _).mono ?_
                rintro e w1 ⟨rfl, rfl⟩
                go_wp2_with fail
                go_ret2
                exact ⟨by simp, hB⟩
              · have hkm : (bs s).drop (k + m) = (bs x).drop m := by rw [← hxb, List.drop_drop]
                have hRk2 : R = Sk ((bs s).drop (k + m)) := by
                  rw [hkm, ← hdw, h1]
                  match hm : (bs x).drop m with
                  | [] => rw [hm] at h4; cases h4
                  | y :: t =>
                    rw [hm] at h4
                    have := Option.some.inj h4
                    subst this
                    exact (Sk_lf t).symm
                rw [bs_length, hxs] at h3
                have hkm1 : m ≠ 0 := by
                  rintro rfl
                  rw [List.drop_zero, ← hxb, hd, c35] at h4
                  exact absurd (Option.some.inj h4) (by decide)
                have HX2 := HX.out
                rw [show Lib.indexByte x.data.toList (10 : Int).toNat.toUInt8 = (m : Int) from h2] at HX2
                have HX2 := Lib.hid HX2
                have HRk := Lib.hid hRk2
                have Hg := Lib.hid hg
                have hm0 : (0 : Int) ≤ m := by omega
                have hm1 : (m : Int) ≤ 1000000 := by omega
                clear hRk hRk0 hd hc c32 c9 hg hp2 cN hxb c35 hdw HX h1 h2 hRk2 hkm h4
                go_wp2_with fail
                refine (HP.out _).mono ?_
                rintro e w1 ⟨rfl, rfl⟩
                go_wp2_with fail
                refine (HX2.out _).mono ?_
                rintro e w1 ⟨rfl, rfl⟩
                go_wp2_with fail
                go_roundg (gk - 1)
                case measure => have := Hg.out; omega
                case rel => exact ⟨k + m, by go_num, by omega, by omega, by have := Hg.out; omega, HRk.out, hB⟩
            · rw [if_neg c35] at hRk
              have b35 : (((s[k].toNat : Nat) : Int) == 35) = false := by rw [q35, ← hc]; exact beq_eq_false_iff_ne.2 c35
              have hRx : R = bs x := by rw [hRk, ← hd, hxb]
              have hn := ne92 x
              rw [← hRx] at hn
              have hkl : (k : Int) = (s.size : Int) - (R.length : Int) := by rw [hRx, bs_length]; omega
              have Hn := Lib.hid hn
              have Hk := Lib.hid hkl
              clear hRk hRk0 hd hc c32 c9 hg hp2 cN hxb c35 hn hkl hRx
              go_wp2_with fail
              refine (HP.out _).mono ?_
              rintro e w1 ⟨rfl, rfl⟩
              go_wp2_with fail
              refine Go.Proofs.YtlhkochpokhncaaDoor.region_plan (S := (fun _ => True)) [(0, true), (1, true), (2, true), (3, true), (4, true), (5, true), (6, true)] (by kernel_rfl) (by kernel_rfl) (by kernel_rfl) ?_ ?_
              · ((try dsimp only); (first | done | (trivial)))
              simp only [Go.Proofs.YtlhkochpokhncaaDoor.planOps, List.map_cons, List.map_nil, List.getElem?_toArray, List.getElem?_cons_zero, List.getElem?_cons_succ]
              repeat (first
                | ((refine Go.Proofs.YtlhkochpokhncaaDoor.plan_yes (v := ?_) (by rfl) ?_ ?_); rotate_left; (focus (intro w hSw; (try dsimp only at hSw); go_simp; try (with_reducible rfl))); (try simp only [Act.put, List.setIfInBounds_toArray, List.set_cons_zero, List.set_cons_succ]))
                | ((refine Go.Proofs.YtlhkochpokhncaaDoor.plan_no (by rfl) ?_); (try simp only [Act.put, List.setIfInBounds_toArray, List.set_cons_zero, List.set_cons_succ]))
                | ((refine Go.Proofs.YtlhkochpokhncaaDoor.plan_step (fun K hK => ?_)); (first | (fail) | (go_simp; (fail); (try go_wp2_with fail)) | go_simp); (refine hK.out _ _ ?_ (fun hHeld => ?_)); (focus ((try dsimp only); (first | done | (trivial)))); clear hK K; (try simp only [Act.put, List.setIfInBounds_toArray, List.set_cons_zero, List.set_cons_succ])))
              refine Go.Proofs.YtlhkochpokhncaaDoor.plan_done ?_
              (try go_wp2_with fail)
              go_ret2
              exact ⟨by rw [← Hk.out, ← Hn.out]; rfl, Below.drew hB⟩
    · have hltI : ¬ ((k : Int) < s.size) := by omega
      have hks : k = s.size := by omega
      rw [drop_end s k (by omega), Sk_nil] at hRk
      subst hRk
      have Hks := Lib.hid hks
      clear hg hks
      go_wp2_with fail
      go_ret2
      exact ⟨by rw [Hks.out]; simp, hB⟩
end Go.Proofs.YtlhkochpokhncaaDoor.Lexer
