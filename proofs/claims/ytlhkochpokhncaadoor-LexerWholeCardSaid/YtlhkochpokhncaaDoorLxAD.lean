/- The document's Doc walked. -/
import Derived.Test.YtlhkochpokhncaaDoorLxAC
import Derived.Deep.CutBlock
namespace Go.Proofs.YtlhkochpokhncaaDoor.Lexer
open Go.RowKit Go.Proofs.YtlhkochpokhncaaDoor Go.Proofs.YtlhkochpokhncaaDoor.Hp
set_option linter.unusedVariables false
attribute [local go_sem] Oper.semAt_some

theorem line_cons (c : UInt8) (l : Bytes) (h : c ≠ 10) : lineL (c :: l) = c :: lineL l := by
  unfold lineL; rw [List.takeWhile_cons, if_pos (by simpa using h)]
theorem line_lf (l : Bytes) : lineL (10 :: l) = [] := by unfold lineL; rw [List.takeWhile_cons, if_neg (by decide)]
theorem rest_cons (c : UInt8) (l : Bytes) (h : c ≠ 10) : restL (c :: l) = restL l := by
  unfold restL; rw [List.dropWhile_cons, if_pos (by simpa using h)]
theorem rest_lf (l : Bytes) : restL (10 :: l) = 10 :: l := by unfold restL; rw [List.dropWhile_cons, if_neg (by decide)]
/-- What is left behind tabs. -/
def unT (tabs : Bool) (l : Bytes) : Bytes := if tabs = true then l.dropWhile (fun x => x == 9) else l
theorem unT_line (tabs : Bool) (l : Bytes) : lineL (unT tabs l) = tabL tabs (lineL l) ∧ restL (unT tabs l) = restL l := by
  unfold unT tabL
  cases tabs
  · exact ⟨rfl, rfl⟩
  · rw [if_pos rfl, if_pos rfl]
    induction l with
    | nil => exact ⟨rfl, rfl⟩
    | cons c l ih =>
      by_cases h9 : c = 9
      · subst h9
        rw [line_cons 9 l (by decide), rest_cons 9 l (by decide), List.dropWhile_cons, if_pos (by decide), List.dropWhile_cons, if_pos (by decide)]
        exact ih
      · have hb : (c == 9) = false := by simpa using h9
        rw [List.dropWhile_cons, hb]
        refine ⟨?_, rfl⟩
        by_cases h10 : c = 10
        · subst h10; rw [if_neg (by decide), line_lf]; rfl
        · rw [if_neg (by decide), line_cons c l h10, List.dropWhile_cons, hb]; rfl
def RdRel (s mark : ByteArray) (tabs : Bool) (T : Option (Bytes × Bytes)) (w : World) (g : Nat) (iv ov : Value) (wr : World) : Prop :=
  ∃ (k : Nat) (acc : ByteArray), iv = .int .i64 (k : Int) ∧ ov = .string acc ∧ DocAt s mark tabs T g (bs acc) k ∧ Below w.heap.size w wr
def TbRel (s : ByteArray) (tabs : Bool) (k : Nat) (W : World) (g : Nat) (iv : Value) (wr : World) : Prop :=
  ∃ j : Nat, iv = .int .i64 (j : Int) ∧ k ≤ j ∧ j ≤ s.size ∧ s.size - j + 1 ≤ g ∧ unT tabs ((bs s).drop k) = unT tabs ((bs s).drop j) ∧ W = wr
def ToRel (s : ByteArray) (k : Nat) (W : World) (g : Nat) (iv : Value) (wr : World) : Prop :=
  ∃ j : Nat, iv = .int .i64 (j : Int) ∧ k ≤ j ∧ j ≤ s.size ∧ s.size - j + 1 ≤ g ∧ lineL ((bs s).drop k) = ((bs s).drop k).take (j - k) ++ lineL ((bs s).drop j) ∧ W = wr
set_option maxRecDepth 100000 in
set_option maxHeartbeats 8000000 in
theorem rdoc_bad (s mark : ByteArray) (a : Int) (tabs : Bool) (w : World) (h63 : (s.size : Int) ≤ 9223372036854775807) (hm : mayE s.size a ≠ 0) :
    Calls Tryd.prog 16 #[.string s, .int .i64 a, .string mark, .bool tabs] w (DPost (docA s a mark tabs) w) := by
  have HM := Lib.hid (fun w => rmay_calls s a w h63)
  unfold docA
  rw [if_pos hm]
  obtain ⟨v, hv⟩ : ∃ v, v = mayE s.size a := ⟨_, rfl⟩
  rw [← hv] at HM hm
  rw [← hv]
  clear hv
  go_enter Tryd.func16, Tryd.ntmps16
  go_wp2_with fail
  refine (HM.out _).mono ?_
  rintro e w1 ⟨rfl, rfl⟩
  go_wp2_with fail
  go_ret3
  exact ⟨rfl, Below.refl _ _⟩
set_option maxRecDepth 100000 in
set_option maxHeartbeats 4000000 in
theorem rdoc_good (s mark : ByteArray) (i : Nat) (tabs : Bool) (w : World) (hs : (s.size : Int) ≤ 4096) (hi : i ≤ s.size) (hm : mayE s.size (i : Int) = 0) (T : Option (Bytes × Bytes)) (hT : T = docL (bs mark) tabs (s.size - i + 1) ((bs s).drop i)) :
    Calls Tryd.prog 16 #[.string s, .int .i64 (i : Int), .string mark, .bool tabs] w (DPost (docR s.size T) w) := by
  have HM := Lib.hid (fun w => rmay_calls s i w (by omega))
  rw [hm] at HM
  have HT := Lib.hid hT
  have Hi := Lib.hid hi
  clear hm hT hi
  go_enter Tryd.func16, Tryd.ntmps16
  go_wp2_with fail
  refine (HM.out _).mono ?_
  rintro e w1 ⟨rfl, rfl⟩
  go_wp2_with fail
  go_loopg [1, 12, 13] (s.size - i + 1) (fun g iv ov _ wr => RdRel s mark tabs T w g iv ov wr)
  case atStart => exact ⟨i, ⟨#[]⟩, rfl, rfl, ⟨Hi.out, Nat.le_refl _, Nat.zero_le _, by rw [HT.out]; simp [bs]⟩, Below.refl _ _⟩
  case round =>
    obtain ⟨k, acc, rfl, rfl, hAt, hB⟩ := hrel
    have hk0 : (0 : Int) ≤ k := by omega
    have HAt := Lib.hid hAt
    by_cases hlt : k < s.size
    · have hltI : (k : Int) < s.size := by omega
      have hkI : (k : Int) ≤ s.size := by omega
      obtain ⟨k1, hk1⟩ : ∃ k1 : Nat, k1 = s.size - (unT tabs ((bs s).drop k)).length := ⟨_, rfl⟩
      have hus : unT tabs ((bs s).drop k) <:+ (bs s).drop k := by
        unfold unT; split
        · exact List.dropWhile_suffix _
        · exact List.suffix_refl _
      have hul := hus.length_le
      rw [List.length_drop, bs_length] at hul
      have hud : unT tabs ((bs s).drop k) = (bs s).drop k1 := by
        have h3 := List.suffix_iff_eq_drop.1 (drop_suf s k hus)
        rw [bs_length] at h3; rw [hk1]; exact h3
      have hkk : k ≤ k1 := by omega
      have hks : k1 ≤ s.size := by omega
      have hk1I : (k1 : Int) ≤ s.size := by omega
      have hk10 : (0 : Int) ≤ k1 := by omega
      obtain ⟨hl1, hl2⟩ := unT_line tabs ((bs s).drop k)
      rw [hud] at hl1 hl2
      have HU := Lib.hid (And.intro hud (And.intro hl1 (And.intro hl2 (And.intro hkk (And.intro hks hlt)))))
      clear hk1 hus hul hud hl1 hl2 hkk hAt
      go_upto_block 2 with fail
      go_cut [1] from 24 to 38 (fun s1 wx => s1 = .int .i64 (k1 : Int) ∧ wr = wx)
      case first =>
        go_wp2_with fail
        go_loopg [1] (s.size - k + 1) (fun g iv wx => TbRel s tabs k wr g iv wx)
        case atStart => exact ⟨k, rfl, Nat.le_refl _, by omega, Nat.le_refl _, rfl, rfl⟩
        case round =>
          obtain ⟨j, rfl, hkj, hj, hgj, hDj, rfl⟩ := hrel
          have hj0 : (0 : Int) ≤ j := by omega
          have hstop : unT tabs ((bs s).drop j) = (bs s).drop j → j = k1 := by
            intro h
            have h1 := congrArg List.length (hDj.symm.trans HU.out.1)
            rw [h, List.length_drop, List.length_drop, bs_length] at h1
            have := HU.out.2.2.2.2.1
            omega
          cases tabs
          · obtain rfl := hstop rfl
            clear hDj hgj hstop
            go_wp2_with fail
            go_meet
            exact ⟨rfl, rfl⟩
          · by_cases hjl : j < s.size
            · have hjI : (j : Int) < s.size := by omega
              have hdj := bs_drop s j hjl
              by_cases c9 : s[j] = 9
              · have b9 : (((s[j].toNat : Nat) : Int) == 9) = true := by rw [q9, c9]; rfl
                have hnx : unT true ((bs s).drop k) = unT true ((bs s).drop (j + 1)) := by
                  rw [hDj, hdj, c9]; rfl
                have HNX := Lib.hid hnx
                have Hgj := Lib.hid hgj
                clear hDj hgj hstop hdj c9 hnx
                go_wp2_with fail
                go_roundg (gk - 1)
                case measure => have := Hgj.out; omega
                case rel => exact ⟨j + 1, by go_num, by omega, by omega, by have := Hgj.out; omega, HNX.out, rfl⟩
              · have b9 : (((s[j].toNat : Nat) : Int) == 9) = false := by rw [q9]; exact beq_eq_false_iff_ne.2 c9
                obtain rfl := hstop (by rw [hdj]; unfold unT; rw [if_pos rfl, List.dropWhile_cons, if_neg (by simpa using c9)])
                clear hDj hgj hstop hdj c9
                go_wp2_with fail
                go_meet
                exact ⟨rfl, rfl⟩
            · have hjI : ¬ ((j : Int) < s.size) := by omega
              obtain rfl := hstop (by rw [drop_end s j (by omega)]; rfl)
              clear hDj hgj hstop
              go_wp2_with fail
              go_meet
              exact ⟨rfl, rfl⟩
      case rest =>
        obtain ⟨rfl, rfl⟩ := hcut
        obtain ⟨n, hn⟩ : ∃ n, n = k1 + (lineL ((bs s).drop k1)).length := ⟨_, rfl⟩
        have hns : n ≤ s.size := by
          have := congrArg List.length (line_rest ((bs s).drop k1))
          rw [List.length_append, List.length_drop, bs_length] at this
          omega
        have hnI : (n : Int) ≤ s.size := by omega
        have hn0 : (0 : Int) ≤ n := by omega
        have hkn : (k1 : Int) ≤ n := by omega
        have Hn := Lib.hid hn
        clear hn
        go_upto_block 4 with fail
        go_cut [13] from 40 to 51 (fun s13 wx => s13 = .int .i64 (n : Int) ∧ wr = wx)
        case first =>
          go_wp2_with fail
          go_loopg [13] (s.size - k1 + 1) (fun g iv wx => ToRel s k1 wr g iv wx)
          case atStart => exact ⟨k1, rfl, Nat.le_refl _, hks, Nat.le_refl _, by rw [Nat.sub_self, List.take_zero]; rfl, rfl⟩
          case round =>
            obtain ⟨j, rfl, hkj, hj, hgj, hDj, rfl⟩ := hrel
            have hj0 : (0 : Int) ≤ j := by omega
            have hstop : lineL ((bs s).drop j) = [] → j = n := by
              intro h
              have h1 := congrArg List.length hDj
              rw [h, List.append_nil, List.length_take, List.length_drop, bs_length] at h1
              have := Hn.out; omega
            by_cases hjl : j < s.size
            · have hjI : (j : Int) < s.size := by omega
              have hdj := bs_drop s j hjl
              by_cases cj : s[j] = 10
              · have bj : (((s[j].toNat : Nat) : Int) == 10) = true := by rw [q10, cj]; rfl
                obtain rfl := hstop (by rw [hdj, cj, line_lf])
                clear hDj hgj hstop hdj cj
                go_wp2_with fail
                go_meet
                exact ⟨rfl, rfl⟩
              · have bj : (((s[j].toNat : Nat) : Int) == 10) = false := by rw [q10]; exact beq_eq_false_iff_ne.2 cj
                have hnx : lineL ((bs s).drop k1) = ((bs s).drop k1).take (j + 1 - k1) ++ lineL ((bs s).drop (j + 1)) := by
                  rw [hDj, hdj, line_cons _ _ cj, show j + 1 - k1 = (j - k1) + 1 by omega, List.take_add_one, List.getElem?_drop, show k1 + (j - k1) = j by omega, bs_get s j hjl]
                  simp
                have HNX := Lib.hid hnx
                have Hgj := Lib.hid hgj
                clear hDj hgj hstop hdj cj hnx
                go_wp2_with fail
                go_roundg (gk - 1)
                case measure => have := Hgj.out; omega
                case rel => exact ⟨j + 1, by go_num, by omega, by omega, by have := Hgj.out; omega, HNX.out, rfl⟩
            · have hjI : ¬ ((j : Int) < s.size) := by omega
              obtain rfl := hstop (by rw [drop_end s j (by omega)]; rfl)
              clear hDj hgj hstop
              go_wp2_with fail
              go_meet
              exact ⟨rfl, rfl⟩
        case rest =>
          obtain ⟨rfl, rfl⟩ := hcut
          obtain ⟨y, hy⟩ : ∃ y, s.extract k1 n = y := ⟨_, rfl⟩
          have hyb : bs y = tabL tabs (lineL ((bs s).drop k)) := by
            have e := line_rest ((bs s).drop k1)
            rw [← HU.out.2.1, ← hy, bs_extract]
            conv => lhs; rw [← e]
            rw [List.take_append_of_le_length (by have := Hn.out; omega)]
            exact List.take_of_length_le (by have := Hn.out; omega)
          have hmB : (y.toList == mark.toList) = decide (tabL tabs (lineL ((bs s).drop k)) = bs mark) := by
            rw [ByteArray.toList_eq, ByteArray.toList_eq]
            show (bs y == bs mark) = _
            rw [hyb]
            rw [Bool.eq_iff_iff, beq_iff_eq, decide_eq_true_iff]
          have hacc : (acc.size : Int) ≤ 4096 := by have := HAt.out.2.2.1; rw [bs_length] at this; omega
          have hr : restL ((bs s).drop k) = (bs s).drop n := by
            have e := line_rest ((bs s).drop k1)
            rw [← HU.out.2.2.1]
            have := congrArg (List.drop (lineL ((bs s).drop k1)).length) e
            rw [List.drop_append_of_le_length (Nat.le_refl _), List.drop_length, List.nil_append, List.drop_drop] at this
            rw [this, ← Hn.out]
          have Hr := Lib.hid (And.intro hyb hr)
          clear hyb hr
          by_cases hmt : tabL tabs (lineL ((bs s).drop k)) = bs mark
          · rw [decide_eq_true hmt] at hmB
            have hT3 := HAt.out.hit HU.out.2.2.2.2.2 hmt
            rw [Hr.out.2] at hT3
            by_cases hnl : n < s.size
            · have hnlI : (n : Int) < s.size := by omega
              have hres : docR s.size T = (bs acc, ((n : Int) + 1, 0)) := by
                rw [hT3, List.tail_drop]; show (bs acc, ((s.size : Int) - ((((bs s).drop (n + 1)).length : Nat) : Int), (0 : Int))) = _
                rw [List.length_drop, bs_length]; congr 2; omega
              have HRes := Lib.hid hres
              clear hT3 hres hmt
              go_wp2_with fail
              go_ret3
              exact ⟨by rw [HRes.out, show (⟨(bs acc).toArray⟩ : ByteArray) = acc from (bs_eq rfl).symm]; rfl, hB⟩
            · have hnlI : ¬ ((n : Int) < s.size) := by omega
              have hres : docR s.size T = (bs acc, ((n : Int), 0)) := by
                rw [hT3, drop_end s n (by omega)]; show (bs acc, ((s.size : Int) - ((([] : Bytes).length : Nat) : Int), (0 : Int))) = _
                congr 2; simp; omega
              have HRes := Lib.hid hres
              clear hT3 hres hmt
              go_wp2_with fail
              go_ret3
              exact ⟨by rw [HRes.out, show (⟨(bs acc).toArray⟩ : ByteArray) = acc from (bs_eq rfl).symm]; rfl, hB⟩
          · rw [decide_eq_false hmt] at hmB
            by_cases hnl : n < s.size
            · have hnlI : (n : Int) < s.size := by omega
              have hr0 : restL ((bs s).drop k) ≠ [] := by rw [Hr.out.2, bs_drop s n hnl]; simp
              have hNx := HAt.out.next HU.out.2.2.2.2.2 hmt hr0
              have hsn : s[n] = 10 := by
                rcases ixb_line ((bs s).drop k) with ⟨h4, _, _⟩ | ⟨_, h5, _, _⟩
                · exact absurd h4 hr0
                · rw [Hr.out.2, bs_drop s n hnl] at h5; exact (List.cons.inj h5).1
              have hkn1 : k + (lineL ((bs s).drop k)).length = n := by
                have h1 := congrArg List.length Hr.out.2
                have h2 := congrArg List.length (line_rest ((bs s).drop k))
                rw [List.length_append, h1, List.length_drop, List.length_drop, bs_length] at h2
                have := HU.out.2.2.2.2.2; omega
              obtain ⟨z, hz⟩ : ∃ z, s.extract k1 (n + 1) = z := ⟨_, rfl⟩
              have hzb : bs z = tabL tabs (lineL ((bs s).drop k)) ++ [10] := by
                rw [← Hr.out.1, ← hz, ← hy, bs_extract, bs_extract, show n + 1 - k1 = (n - k1) + 1 by omega, List.take_add_one, List.getElem?_drop, show k1 + (n - k1) = n by omega, bs_get s n hnl, hsn]
                rfl
              have hzs : (z.size : Int) ≤ 4097 := by
                have := congrArg List.length hzb
                rw [bs_length, List.length_append] at this
                have h3 := tab_len tabs (lineL ((bs s).drop k))
                have : z.size ≤ 4097 := by rw [this]; show _ + 1 ≤ _; omega
                omega
              obtain ⟨x, hx⟩ : ∃ x : ByteArray, acc ++ z = x := ⟨_, rfl⟩
              have hxb : bs x = bs acc ++ (tabL tabs (lineL ((bs s).drop k)) ++ [10]) := by rw [← hx, bs_app, hzb]
              rw [hkn1, ← hxb] at hNx
              have HNx := Lib.hid hNx
              clear hNx hr0 hmt hsn hkn1 hzb hxb
              go_wp2_with fail
              go_roundg (gk - 1)
              case measure => have := HNx.out.1; omega
              case rel => exact ⟨n + 1, x, by go_num, rfl, HNx.out.2.2, hB⟩
            · have hnlI : ¬ ((n : Int) < s.size) := by omega
              have hr0 : restL ((bs s).drop k) = [] := by rw [Hr.out.2]; exact drop_end s n (by omega)
              have hT3 := HAt.out.miss HU.out.2.2.2.2.2 hmt hr0
              have hys : (y.size : Int) ≤ 4096 := by
                have := congrArg List.length (bs_extract s k1 n)
                rw [hy, bs_length, List.length_take] at this
                omega
              obtain ⟨x, hx⟩ : ∃ x : ByteArray, acc ++ y = x := ⟨_, rfl⟩
              have hxl : (bs x).length ≤ n := by
                rw [← hx, bs_app, List.length_append, Hr.out.1]
                have h1 := tab_len tabs (lineL ((bs s).drop k))
                have h2 := congrArg List.length (line_rest ((bs s).drop k))
                rw [List.length_append, hr0, List.length_drop, bs_length] at h2
                have := HAt.out.2.2.1
                simp at h2
                have := HU.out.2.2.2.2.2
                omega
              have hdone : DocAt s mark tabs T (gk - 1) (bs x) n := by
                have h1 := HAt.out.2.1
                have h3 := HU.out.2.2.2.2.2
                have hn2 : n = s.size := by omega
                refine ⟨hns, by omega, hxl, ?_⟩
                rw [hT3, hn2, drop_end s s.size (Nat.le_refl _)]
                cases gk - 1 with
                | zero => rfl
                | succ g => rw [docL, if_pos rfl]; rfl
              have HD := Lib.hid (And.intro hdone HAt.out.2.1)
              clear hT3 hr0 hmt hxl hdone
              go_wp2_with fail
              go_roundg (gk - 1)
              case measure => have := HD.out.2; have := HU.out.2.2.2.2.2; omega
              case rel => exact ⟨n, x, rfl, rfl, HD.out.1, hB⟩
    · have hltI : ¬ ((k : Int) < s.size) := by omega
      have hT3 := hAt.over hlt
      have hres : docR s.size T = ([], (0, 30)) := by rw [hT3]; rfl
      have HRes := Lib.hid hres
      clear hT3 hres hAt
      go_wp2_with fail
      go_ret3
      exact ⟨by rw [HRes.out]; rfl, hB⟩
theorem rdoc_calls (s mark : ByteArray) (a : Int) (tabs : Bool) (w : World) (h63 : (s.size : Int) ≤ 9223372036854775807) :
    Calls Tryd.prog 16 #[.string s, .int .i64 a, .string mark, .bool tabs] w (DPost (docA s a mark tabs) w) := by
  by_cases hm : mayE s.size a ≠ 0
  · exact rdoc_bad s mark a tabs w h63 hm
  · have hm0 : mayE s.size a = 0 := by omega
    obtain ⟨h1, h2, h3⟩ := mayE_ok hm0
    obtain ⟨i, rfl⟩ : ∃ i : Nat, a = (i : Int) := ⟨a.toNat, by omega⟩
    have hi : i ≤ s.size := by omega
    rw [doc_res _ _ _ _ hm0]
    exact rdoc_good s mark i tabs w h1 hi hm0 _ rfl
end Go.Proofs.YtlhkochpokhncaaDoor.Lexer
