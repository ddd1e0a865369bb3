/- Doc walked. -/
import Derived.Test.YtlhkochpokhncaaDoorLxY
import Derived.WalkMore
namespace Go.Proofs.YtlhkochpokhncaaDoor.Lexer
open Go.RowKit Go.Proofs.YtlhkochpokhncaaDoor Go.Proofs.YtlhkochpokhncaaDoor.Hp
set_option linter.unusedVariables false
attribute [local go_sem] Oper.semAt_some

def DPost (r : Bytes × (Int × Int)) (w : World) (e : Ending) (w' : World) : Prop := e = .returned (.tuple #[.string ⟨r.1.toArray⟩, .int .i64 r.2.1, .int .i64 r.2.2]) ∧ Below w.heap.size w w'
theorem trimL_tab (l : Bytes) : Lib.trimLeftS l [9] = l.dropWhile (fun x => x == 9) := by
  unfold Lib.trimLeftS
  congr 1
  funext x
  simp only [List.contains, List.elem]
  cases x == 9 <;> rfl
theorem bs_app (x y : ByteArray) : bs (x ++ y) = bs x ++ bs y := by unfold bs; simp
def DocRel (s mark : ByteArray) (tabs : Bool) (T : Option (Bytes × Bytes)) (bb : Nat) (w : World) (g : Nat) (iv : Value) (wr : World) : Prop :=
  ∃ (k : Nat) (acc : Bytes) (u : Bool) (q : Option Addr) (cap : Nat), iv = .int .i64 (k : Int) ∧ DocAt s mark tabs T g acc k ∧ BSt q acc ∧ Sat wr (BldA bb u q cap acc * keep w) ∧ Ran w wr
theorem doc_res (s mark : ByteArray) (a : Int) (tabs : Bool) (hm : mayE s.size a = 0) : docA s a mark tabs = docR s.size (docL (bs mark) tabs (s.size - a.toNat + 1) ((bs s).drop a.toNat)) := by unfold docA; rw [if_neg (by rw [hm]; decide)]
set_option maxRecDepth 100000 in
set_option maxHeartbeats 8000000 in
theorem doc_bad (s mark : ByteArray) (a : Int) (tabs : Bool) (w : World) (h63 : (s.size : Int) ≤ 9223372036854775807) (hm : mayE s.size a ≠ 0) :
    Calls Tryd.prog 15 #[.string s, .int .i64 a, .string mark, .bool tabs] w (DPost (docA s a mark tabs) w) := by
  have HM := Lib.hid (fun w => may_calls s a w h63)
  unfold docA
  rw [if_pos hm]
  obtain ⟨v, hv⟩ : ∃ v, v = mayE s.size a := ⟨_, rfl⟩
  rw [← hv] at HM hm
  rw [← hv]
  clear hv
  go_enter Tryd.func15, Tryd.ntmps15
  go_wp2_with fail
  go_step3
  go_wp2_with fail
  refine (HM.out _).mono ?_
  rintro e w1 ⟨rfl, rfl⟩
  go_wp2_with fail
  (try rw [Exit.noGoto_ret])
  go_ret3
  exact ⟨rfl, Below.refl _ _⟩
set_option maxRecDepth 100000 in
set_option maxHeartbeats 16000000 in
theorem doc_good (s mark : ByteArray) (i : Nat) (tabs : Bool) (w : World) (hs : (s.size : Int) ≤ 4096) (hi : i ≤ s.size) (hm : mayE s.size (i : Int) = 0) (hmk : mark.size ≤ 1000000) (T : Option (Bytes × Bytes)) (hT : T = docL (bs mark) tabs (s.size - i + 1) ((bs s).drop i)) :
    Calls Tryd.prog 15 #[.string s, .int .i64 (i : Int), .string mark, .bool tabs] w (DPost (docR s.size T) w) := by
  have HM := Lib.hid (fun w => may_calls s i w (by omega))
  rw [hm] at HM
  have H0 : Sat (w.alloc (.cells #[.pointer none, .slice none 0 0] 58 (0, 0))) (BldA w.heap.size false none 0 [] * keep w) := by
    have h2 := ((Sat.start w).alloc (.cells #[.pointer none, .slice none 0 0] 58 (0, 0))).nil_arr 5 1
    exact h2.perm (by unfold BldA; show arr 5 1 none 0 0 [] * (pts w.heap.size _ * _) = pts w.heap.size _ * arr 5 1 none 0 0 [] * _; ac_rfl)
  have H0 := Lib.hid H0
  have HT := Lib.hid hT
  have Hi := Lib.hid hi
  clear hm hT hi
  go_enter Tryd.func15, Tryd.ntmps15
  go_wp2_with fail
  go_step3
  go_wp2_with fail
  refine (HM.out _).mono ?_
  rintro e w1 ⟨rfl, rfl⟩
  go_wp2_with fail
  go_step3
  go_wp2_with fail
  go_loopg [1, 13, 14, 15, 16] (s.size - i + 1) (fun g iv _ _ _ _ wr => DocRel s mark tabs T w.heap.size w g iv wr)
  case atStart => exact ⟨i, [], false, none, 0, rfl, ⟨Hi.out, Nat.le_refl _, Nat.zero_le _, by rw [HT.out]; simp⟩, .inl ⟨rfl, rfl⟩, H0.out, Ran.new (Below.refl 0 w) _⟩
  case round =>
    obtain ⟨k, acc, u, q, cap, rfl, hAt, hq, hS, hR⟩ := hrel
    have hk0 : (0 : Int) ≤ k := by omega
    by_cases hlt : k < s.size
    · have hltI : (k : Int) < s.size := by omega
      have hkI : (k : Int) ≤ s.size := by omega
      obtain ⟨x, hx⟩ : ∃ x, s.extract k s.size = x := ⟨_, rfl⟩
      have hxb : (bs s).drop k = bs x := by rw [← hx, bs_tail]
      have hxs : x.size = s.size - k := by rw [← hx, size_tail]
      have HC := cut_calls x wr (by omega)
      unfold CutPost at HC
      obtain ⟨ln, hln⟩ : ∃ ln : ByteArray, ln = ⟨(lineL (bs x)).toArray⟩ := ⟨_, rfl⟩
      have hlb : bs ln = lineL (bs x) := by rw [hln]
      obtain ⟨en, hen⟩ : ∃ b, b = (!(restL (bs x)).isEmpty) := ⟨_, rfl⟩
      rw [← hln, ← hen] at HC
      have hls : ln.size ≤ s.size - k := by
        rw [← bs_length, hlb]
        have := congrArg List.length (line_rest (bs x))
        rw [List.length_append, bs_length] at this
        omega
      have hlsI : (ln.size : Int) ≤ 4096 := by omega
      have hls0 : (0 : Int) ≤ ln.size := by omega
      have hll : (lineL (bs x)).length = ln.size := by rw [← hlb, bs_length]
      have HT2 := fun w => trimLeft_calls ln ⟨#[9]⟩ w (by decide) (ascii_of_all (by decide))
      obtain ⟨tl, htl⟩ : ∃ tl : ByteArray, tl = ⟨(tabL tabs (lineL (bs x))).toArray⟩ := ⟨_, rfl⟩
      have htb : bs tl = tabL tabs (lineL (bs x)) := by rw [htl]
      have hts : tl.size ≤ ln.size := by rw [← bs_length, ← bs_length ln, htb, hlb]; exact tab_len _ _
      have htsI : (tl.size : Int) ≤ 4096 := by omega
      have hmB : (tl.toList == mark.toList) = decide (tabL tabs (lineL (bs x)) = bs mark) := by
        rw [ByteArray.toList_eq, ByteArray.toList_eq]
        show (bs tl == bs mark) = _
        rw [htb]
        rw [Bool.eq_iff_iff, beq_iff_eq, decide_eq_true_iff]
      have htail : restL (bs x) ≠ [] → (restL (bs x)).tail = (bs s).drop (k + ln.size + 1) := by
        intro h
        rcases ixb_line (bs x) with ⟨h4, _, _⟩ | ⟨_, h5, _, _⟩
        · exact absurd h4 h
        · rw [h5, hll, ← hxb, List.tail_cons, List.drop_drop, Nat.add_assoc]
      have HC := Lib.hid HC
      have HAt := Lib.hid hAt
      have HS := Lib.hid hS
      have Hq := Lib.hid hq
      have Hx := Lib.hid (And.intro hxb (And.intro hll (And.intro hen (And.intro htb htail))))
      have Hsz := Lib.hid (And.intro hls (And.intro hts hlt))
      have hacc : acc.length ≤ 4096 := by have := hAt.2.2.1; omega
      have Hacc := Lib.hid hacc
      cases tabs
      · obtain rfl : tl = ln := by rw [htl, hln]; rfl
        clear HT2
        clear hAt hS hq hxb hxs hln hlb hen hls hll htl htb hts hlt htail hacc
        by_cases hmt : tabL false (lineL (bs x)) = bs mark
        · rw [decide_eq_true hmt] at hmB
          have hT3 := HAt.out.hit Hsz.out.2.2 (by rw [Hx.out.1]; exact hmt)
          rw [Hx.out.1] at hT3
          cases en
          · have hr0 : restL (bs x) = [] := by have := Hx.out.2.2.1; simpa using this.symm
            have hll2 : (k : Int) + tl.size = s.size := by
              have h1 := congrArg List.length (line_rest (bs x))
              rw [List.length_append, hr0, Hx.out.2.1, ← Hx.out.1, List.length_drop, bs_length] at h1
              simp at h1
              have := Hsz.out.2.2; omega
            have hres : docR s.size T = (acc, ((k : Int) + tl.size, 0)) := by
              rw [hT3, hr0]; show (acc, ((s.size : Int) - ((([] : Bytes).length : Nat) : Int), (0 : Int))) = _
              rw [hll2]; simp
            have HRes := Lib.hid hres
            clear hT3 hres hr0 hll2 hmt
            go_wp2_with fail
            refine HC.out.mono ?_
            rintro e w2 ⟨⟨aft, rfl⟩, hB2⟩
            have hS2 := HS.out.below hB2
            have hR2 := Ran.below hR hB2
            clear hB2 HS hR HC
            go_wp2_with fail
            refine (string_calls w.heap.size u q cap acc w2 w Hq.out (by have := Hacc.out; omega) hS2 hR2.size).mono ?_
            rintro e w5 ⟨rfl, hB5⟩
            go_wp2_with fail
            (try rw [Exit.noGoto_ret])
            go_ret3
            exact ⟨by rw [HRes.out]; rfl, (Ran.whole hR2 hS2).trans hB5⟩
          · have hr0 : restL (bs x) ≠ [] := by have := Hx.out.2.2.1; intro h; rw [h] at this; cases this
            have hlr : k + tl.size + 1 ≤ s.size := by
              rcases ixb_line (bs x) with ⟨h4, _, _⟩ | ⟨_, _, h6, _⟩
              · exact absurd h4 hr0
              · rw [Hx.out.2.1, ← Hx.out.1, List.length_drop, bs_length] at h6; omega
            have hres : docR s.size T = (acc, ((k : Int) + tl.size + 1, 0)) := by
              rw [hT3, Hx.out.2.2.2.2 hr0]; show (acc, ((s.size : Int) - ((((bs s).drop (k + tl.size + 1)).length : Nat) : Int), (0 : Int))) = _
              rw [List.length_drop, bs_length]; congr 2; omega
            have HRes := Lib.hid hres
            clear hT3 hres hr0 hmt
            go_wp2_with fail
            refine HC.out.mono ?_
            rintro e w2 ⟨⟨aft, rfl⟩, hB2⟩
            have hS2 := HS.out.below hB2
            have hR2 := Ran.below hR hB2
            clear hB2 HS hR HC
            go_wp2_with fail
            refine (string_calls w.heap.size u q cap acc w2 w Hq.out (by have := Hacc.out; omega) hS2 hR2.size).mono ?_
            rintro e w5 ⟨rfl, hB5⟩
            go_wp2_with fail
            (try rw [Exit.noGoto_ret])
            go_ret3
            exact ⟨by rw [HRes.out]; rfl, (Ran.whole hR2 hS2).trans hB5⟩
        · rw [decide_eq_false hmt] at hmB
          cases en
          · have hr0 : restL (bs x) = [] := by have := Hx.out.2.2.1; simpa using this.symm
            have hT3 := HAt.out.miss Hsz.out.2.2 (by rw [Hx.out.1]; exact hmt) (by rw [Hx.out.1]; exact hr0)
            have hres : docR s.size T = ([], (0, 30)) := by rw [hT3]; rfl
            have HRes := Lib.hid hres
            clear hT3 hres hr0 hmt
            go_wp2_with fail
            refine HC.out.mono ?_
            rintro e w2 ⟨⟨aft, rfl⟩, hB2⟩
            have hS2 := HS.out.below hB2
            have hR2 := Ran.below hR hB2
            clear hB2 HS hR HC
            go_wp2_with fail
            (try rw [Exit.noGoto_ret])
            go_ret3
            exact ⟨by rw [HRes.out]; rfl, Ran.whole hR2 hS2⟩
          · have hr0 : restL (bs x) ≠ [] := by have := Hx.out.2.2.1; intro h; rw [h] at this; cases this
            have hNx := HAt.out.next Hsz.out.2.2 (by rw [Hx.out.1]; exact hmt) (by rw [Hx.out.1]; exact hr0)
            have hk1 : (k : Int) + tl.size + 1 ≤ s.size := by have := hNx.2.1; rw [Hx.out.1, Hx.out.2.1] at this; omega
            have HNx := Lib.hid hNx
            clear hNx hr0 hmt
            obtain ⟨y, hy⟩ : ∃ y : ByteArray, tl ++ ⟨#[10]⟩ = y := ⟨_, rfl⟩
            have hyb : bs y = bs tl ++ [10] := by rw [← hy]; exact bs_app _ _
            have hys : y.size = tl.size + 1 := by rw [← bs_length, hyb, List.length_append, bs_length]; rfl
            have Hy := Lib.hid (And.intro hyb hys)
            clear hyb hys
            go_wp2_with fail
            refine HC.out.mono ?_
            rintro e w2 ⟨⟨aft, rfl⟩, hB2⟩
            have hS2 := HS.out.below hB2
            have hR2 := Ran.below hR hB2
            clear hB2 HS hR HC
            go_wp2_with fail
            refine (writestring_calls w.heap.size u q cap acc y w2 _ Hq.out (by have := Hacc.out; omega) (by have := Hy.out.2; omega) (by have := Hy.out.2; omega) hS2).mono ?_
            rintro e w4 ⟨⟨rfl, q', cap', hq', hS4⟩, hR4⟩
            have hR5 := Below.trans hR2 hR4
            have HF := Lib.hid (And.intro hq' hS4)
            clear hR4 hS2 hR2 hy hq' hS4
            go_wp2_with fail
            go_roundg (gk - 1)
            case measure => have := HNx.out.1; omega
            case rel => exact ⟨k + tl.size + 1, acc ++ bs y, true, q', cap', by go_num, by have h := HNx.out.2.2; rw [Hx.out.1, ← Hx.out.2.2.2.1, Hx.out.2.1, ← Hy.out.1] at h; exact h, HF.out.1, HF.out.2, hR5⟩
      · have e9 : (⟨(Lib.trimLeftS (bs ln) (bs ⟨#[9]⟩)).toArray⟩ : ByteArray) = tl := by
          rw [htl, hlb]; show (⟨(Lib.trimLeftS (lineL (bs x)) [9]).toArray⟩ : ByteArray) = _
          rw [trimL_tab]; rfl
        rw [e9] at HT2
        have HT2 := Lib.hid HT2
        clear e9
        clear hAt hS hq hxb hxs hln hlb hen hls hll htl htb hts hlt htail hacc
        by_cases hmt : tabL true (lineL (bs x)) = bs mark
        · rw [decide_eq_true hmt] at hmB
          have hT3 := HAt.out.hit Hsz.out.2.2 (by rw [Hx.out.1]; exact hmt)
          rw [Hx.out.1] at hT3
          cases en
          · have hr0 : restL (bs x) = [] := by have := Hx.out.2.2.1; simpa using this.symm
            have hll2 : (k : Int) + ln.size = s.size := by
              have h1 := congrArg List.length (line_rest (bs x))
              rw [List.length_append, hr0, Hx.out.2.1, ← Hx.out.1, List.length_drop, bs_length] at h1
              simp at h1
              have := Hsz.out.2.2; omega
            have hres : docR s.size T = (acc, ((k : Int) + ln.size, 0)) := by
              rw [hT3, hr0]; show (acc, ((s.size : Int) - ((([] : Bytes).length : Nat) : Int), (0 : Int))) = _
              rw [hll2]; simp
            have HRes := Lib.hid hres
            clear hT3 hres hr0 hll2 hmt
            go_wp2_with fail
            refine HC.out.mono ?_
            rintro e w2 ⟨⟨aft, rfl⟩, hB2⟩
            have hS2 := HS.out.below hB2
            have hR2 := Ran.below hR hB2
            clear hB2 HS hR HC
            go_wp2_with fail
            refine (HT2.out _).mono ?_
            rintro e w3 ⟨rfl, hB3⟩
            have hS3 := hS2.below hB3
            have hR3 := Ran.below hR2 hB3
            clear hB3 hS2 hR2 HT2
            go_wp2_with fail
            refine (string_calls w.heap.size u q cap acc w3 w Hq.out (by have := Hacc.out; omega) hS3 hR3.size).mono ?_
            rintro e w5 ⟨rfl, hB5⟩
            go_wp2_with fail
            (try rw [Exit.noGoto_ret])
            go_ret3
            exact ⟨by rw [HRes.out]; rfl, (Ran.whole hR3 hS3).trans hB5⟩
          · have hr0 : restL (bs x) ≠ [] := by have := Hx.out.2.2.1; intro h; rw [h] at this; cases this
            have hlr : k + ln.size + 1 ≤ s.size := by
              rcases ixb_line (bs x) with ⟨h4, _, _⟩ | ⟨_, _, h6, _⟩
              · exact absurd h4 hr0
              · rw [Hx.out.2.1, ← Hx.out.1, List.length_drop, bs_length] at h6; omega
            have hres : docR s.size T = (acc, ((k : Int) + ln.size + 1, 0)) := by
              rw [hT3, Hx.out.2.2.2.2 hr0]; show (acc, ((s.size : Int) - ((((bs s).drop (k + ln.size + 1)).length : Nat) : Int), (0 : Int))) = _
              rw [List.length_drop, bs_length]; congr 2; omega
            have HRes := Lib.hid hres
            clear hT3 hres hr0 hmt
            go_wp2_with fail
            refine HC.out.mono ?_
            rintro e w2 ⟨⟨aft, rfl⟩, hB2⟩
            have hS2 := HS.out.below hB2
            have hR2 := Ran.below hR hB2
            clear hB2 HS hR HC
            go_wp2_with fail
            refine (HT2.out _).mono ?_
            rintro e w3 ⟨rfl, hB3⟩
            have hS3 := hS2.below hB3
            have hR3 := Ran.below hR2 hB3
            clear hB3 hS2 hR2 HT2
            go_wp2_with fail
            refine (string_calls w.heap.size u q cap acc w3 w Hq.out (by have := Hacc.out; omega) hS3 hR3.size).mono ?_
            rintro e w5 ⟨rfl, hB5⟩
            go_wp2_with fail
            (try rw [Exit.noGoto_ret])
            go_ret3
            exact ⟨by rw [HRes.out]; rfl, (Ran.whole hR3 hS3).trans hB5⟩
        · rw [decide_eq_false hmt] at hmB
          cases en
          · have hr0 : restL (bs x) = [] := by have := Hx.out.2.2.1; simpa using this.symm
            have hT3 := HAt.out.miss Hsz.out.2.2 (by rw [Hx.out.1]; exact hmt) (by rw [Hx.out.1]; exact hr0)
            have hres : docR s.size T = ([], (0, 30)) := by rw [hT3]; rfl
            have HRes := Lib.hid hres
            clear hT3 hres hr0 hmt
            go_wp2_with fail
            refine HC.out.mono ?_
            rintro e w2 ⟨⟨aft, rfl⟩, hB2⟩
            have hS2 := HS.out.below hB2
            have hR2 := Ran.below hR hB2
            clear hB2 HS hR HC
            go_wp2_with fail
            refine (HT2.out _).mono ?_
            rintro e w3 ⟨rfl, hB3⟩
            have hS3 := hS2.below hB3
            have hR3 := Ran.below hR2 hB3
            clear hB3 hS2 hR2 HT2
            go_wp2_with fail
            (try rw [Exit.noGoto_ret])
            go_ret3
            exact ⟨by rw [HRes.out]; rfl, Ran.whole hR3 hS3⟩
          · have hr0 : restL (bs x) ≠ [] := by have := Hx.out.2.2.1; intro h; rw [h] at this; cases this
            have hNx := HAt.out.next Hsz.out.2.2 (by rw [Hx.out.1]; exact hmt) (by rw [Hx.out.1]; exact hr0)
            have hk1 : (k : Int) + ln.size + 1 ≤ s.size := by have := hNx.2.1; rw [Hx.out.1, Hx.out.2.1] at this; omega
            have HNx := Lib.hid hNx
            clear hNx hr0 hmt
            obtain ⟨y, hy⟩ : ∃ y : ByteArray, tl ++ ⟨#[10]⟩ = y := ⟨_, rfl⟩
            have hyb : bs y = bs tl ++ [10] := by rw [← hy]; exact bs_app _ _
            have hys : y.size = tl.size + 1 := by rw [← bs_length, hyb, List.length_append, bs_length]; rfl
            have Hy := Lib.hid (And.intro hyb hys)
            clear hyb hys
            go_wp2_with fail
            refine HC.out.mono ?_
            rintro e w2 ⟨⟨aft, rfl⟩, hB2⟩
            have hS2 := HS.out.below hB2
            have hR2 := Ran.below hR hB2
            clear hB2 HS hR HC
            go_wp2_with fail
            refine (HT2.out _).mono ?_
            rintro e w3 ⟨rfl, hB3⟩
            have hS3 := hS2.below hB3
            have hR3 := Ran.below hR2 hB3
            clear hB3 hS2 hR2 HT2
            go_wp2_with fail
            refine (writestring_calls w.heap.size u q cap acc y w3 _ Hq.out (by have := Hacc.out; omega) (by have := Hy.out.2; omega) (by have := Hy.out.2; omega) hS3).mono ?_
            rintro e w4 ⟨⟨rfl, q', cap', hq', hS4⟩, hR4⟩
            have hR5 := Below.trans hR3 hR4
            have HF := Lib.hid (And.intro hq' hS4)
            clear hR4 hS3 hR3 hy hq' hS4
            go_wp2_with fail
            go_roundg (gk - 1)
            case measure => have := HNx.out.1; omega
            case rel => exact ⟨k + ln.size + 1, acc ++ bs y, true, q', cap', by go_num, by have h := HNx.out.2.2; rw [Hx.out.1, ← Hx.out.2.2.2.1, Hx.out.2.1, ← Hy.out.1] at h; exact h, HF.out.1, HF.out.2, hR5⟩
    · have hltI : ¬ ((k : Int) < s.size) := by omega
      have hT3 := hAt.over hlt
      have hres : docR s.size T = ([], (0, 30)) := by rw [hT3]; rfl
      have HRes := Lib.hid hres
      have HS := Lib.hid hS
      clear hT3 hres hAt hS
      go_wp2_with fail
      (try rw [Exit.noGoto_ret])
      go_ret3
      exact ⟨by rw [HRes.out]; rfl, Ran.whole hR HS.out⟩
theorem doc_calls (s mark : ByteArray) (a : Int) (tabs : Bool) (w : World) (h63 : (s.size : Int) ≤ 9223372036854775807) (hmk : mark.size ≤ 1000000) :
    Calls Tryd.prog 15 #[.string s, .int .i64 a, .string mark, .bool tabs] w (DPost (docA s a mark tabs) w) := by
  by_cases hm : mayE s.size a ≠ 0
  · exact doc_bad s mark a tabs w h63 hm
  · have hm0 : mayE s.size a = 0 := by omega
    obtain ⟨h1, h2, h3⟩ := mayE_ok hm0
    obtain ⟨i, rfl⟩ : ∃ i : Nat, a = (i : Int) := ⟨a.toNat, by omega⟩
    have hi : i ≤ s.size := by omega
    rw [doc_res _ _ _ _ hm0]
    exact doc_good s mark i tabs w h1 hi hm0 hmk _ rfl
end Go.Proofs.YtlhkochpokhncaaDoor.Lexer
