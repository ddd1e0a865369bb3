/- strings.Cut at a line feed; Doc: plain, and walked. -/
import Derived.Test.YtlhkochpokhncaaDoorLxX
namespace Go.Proofs.YtlhkochpokhncaaDoor.Lexer
open Go.RowKit Go.Proofs.YtlhkochpokhncaaDoor Go.Proofs.YtlhkochpokhncaaDoor.Hp
set_option linter.unusedVariables false
attribute [local go_sem] Oper.semAt_some

set_option maxRecDepth 100000 in
set_option maxHeartbeats 4000000 in
theorem slindex_calls (s : ByteArray) (w : World) (h63 : (s.size : Int) ≤ 9223372036854775807) :
    Calls Tryd.prog 53 #[.string s, .string ⟨#[10]⟩] w fun e w' => e = .returned (.int .i64 (Lib.indexByte (bs s) 10)) ∧ w = w' := by
  by_cases he : bs s = [10]
  · have hs : s = ⟨#[10]⟩ := bs_eq he
    have hv : Lib.indexByte (bs s) 10 = 0 := by rw [he]; rfl
    rw [hv]
    subst hs
    go_enter Tryd.func53, Tryd.ntmps53
    go_wp2_with fail
    go_ret
    exact ⟨rfl, rfl⟩
  · have hne : (([10] : List UInt8) == s.toList) = false := by
      rw [ByteArray.toList_eq]; exact beq_eq_false_iff_ne.2 fun h => he h.symm
    obtain ⟨v, hv⟩ : ∃ v, v = Lib.indexByte (bs s) 10 := ⟨_, rfl⟩
    have HX := Lib.hid (fun w => show Calls Tryd.prog 59 #[.string s, .int .u8 10] w (fun e w' => e = .returned (.int .i64 v) ∧ w = w') from by rw [hv]; exact slix_calls s 10 w)
    rw [← hv]
    clear hv he
    go_enter Tryd.func53, Tryd.ntmps53
    go_wp2_with fail
    refine (HX.out w).mono ?_
    rintro e w1 ⟨rfl, rfl⟩
    go_wp2_with fail
    go_ret
    exact ⟨rfl, rfl⟩
/-- A text cut at its first line feed. -/
def lineL (l : Bytes) : Bytes := l.takeWhile (fun x => x != 10)
def restL (l : Bytes) : Bytes := l.dropWhile (fun x => x != 10)
theorem line_rest (l : Bytes) : lineL l ++ restL l = l := List.takeWhile_append_dropWhile
theorem ixb_line (l : Bytes) : (restL l = [] ∧ Lib.indexByte l 10 = -1 ∧ lineL l = l) ∨ (Lib.indexByte l 10 = ((lineL l).length : Int) ∧ restL l = 10 :: l.drop ((lineL l).length + 1) ∧ (lineL l).length < l.length ∧ lineL l = l.take (lineL l).length) := by
  have e := line_rest l
  rcases drop_ixb l with ⟨h1, h2⟩ | ⟨n, h2, h3, h1, h4⟩
  · refine .inl ⟨h1, h2, ?_⟩
    have : restL l = [] := h1
    rw [this, List.append_nil] at e; exact e
  · have hr : restL l = l.drop n := h1
    have hll : (lineL l).length = n := by
      have := congrArg List.length e
      rw [List.length_append, hr, List.length_drop] at this; omega
    refine .inr ⟨by rw [hll]; exact h2, ?_, by omega, ?_⟩
    · rw [hr, hll, List.drop_eq_getElem_cons h3]
      rw [List.drop_eq_getElem_cons h3] at h4
      rw [Option.some.inj h4]
    · rw [hll]
      have := congrArg (List.take n) e
      rw [List.take_append_of_le_length (by omega), List.take_of_length_le (by omega)] at this
      exact this
def CutPost (s : ByteArray) (w : World) (e : Ending) (w' : World) : Prop :=
  (∃ a, e = .returned (.tuple #[.string ⟨(lineL (bs s)).toArray⟩, .string a, .bool (!(restL (bs s)).isEmpty)])) ∧ Below w.heap.size w w'
set_option maxHeartbeats 4000000 in
theorem slcut_calls (s : ByteArray) (w : World) (h63 : (s.size : Int) ≤ 9223372036854775806) :
    Calls Tryd.prog 39 #[.string s, .string ⟨#[10]⟩] w (CutPost s w) := by
  have HI := Lib.hid (fun w => slindex_calls s w (by omega))
  unfold CutPost
  rcases ixb_line (bs s) with ⟨h1, h2, h3⟩ | ⟨h2, h1, h4, h3⟩
  · rw [h3, h1]
    rw [h2] at HI
    have e : (⟨(bs s).toArray⟩ : ByteArray) = s := (bs_eq rfl).symm
    rw [e]
    clear h1 h2 h3 e
    go_enter Tryd.func39, Tryd.ntmps39
    go_wp2_with fail
    refine (HI.out _).mono ?_
    rintro e w1 ⟨rfl, rfl⟩
    go_wp2_with fail
    go_ret3
    exact ⟨⟨_, rfl⟩, Below.refl _ _⟩
  · rw [h2] at HI
    obtain ⟨n, hn⟩ : ∃ n, n = (lineL (bs s)).length := ⟨_, rfl⟩
    rw [← hn] at HI h1 h3 h4
    rw [h1, h3]
    rw [bs_length] at h4
    have hnI : (n : Int) + 1 ≤ s.size := by omega
    have hnI2 : (n : Int) ≤ s.size := by omega
    have hn0 : (0 : Int) ≤ n := by omega
    have e : s.extract 0 n = ⟨((bs s).take n).toArray⟩ := bs_ext (by rw [bs_extract, bs_mk, List.drop_zero, Nat.sub_zero])
    rw [← e]
    clear h1 h2 h3 h4 e hn
    go_enter Tryd.func39, Tryd.ntmps39
    go_wp2_with fail
    refine (HI.out _).mono ?_
    rintro e w1 ⟨rfl, rfl⟩
    go_wp2_with fail
    go_quiet (fail)
    go_wp2_with fail
    go_ret3
    exact ⟨⟨_, rfl⟩, ⟨rfl, rfl, rfl, Nat.le_refl _, fun _ _ => rfl⟩⟩
theorem cut_calls (s : ByteArray) (w : World) (h63 : (s.size : Int) ≤ 9223372036854775806) :
    Calls Tryd.prog 24 #[.string s, .string ⟨#[10]⟩] w (CutPost s w) := by
  have HI := slcut_calls s w h63
  unfold CutPost at HI ⊢
  obtain ⟨x, hx⟩ : ∃ x : ByteArray, x = ⟨(lineL (bs s)).toArray⟩ := ⟨_, rfl⟩
  obtain ⟨b, hb⟩ : ∃ b, b = (!(restL (bs s)).isEmpty) := ⟨_, rfl⟩
  rw [← hx, ← hb] at HI ⊢
  have HI := Lib.hid HI
  clear hx hb
  go_enter Tryd.func24, Tryd.ntmps24
  go_wp2_with fail
  refine HI.out.mono ?_
  rintro e w1 ⟨⟨a, rfl⟩, hB⟩
  go_wp2_with fail
  go_ret3
  exact ⟨⟨_, rfl⟩, hB⟩
/-- A line without its tabs, if they don't count. -/
def tabL (tabs : Bool) (l : Bytes) : Bytes := if tabs = true then l.dropWhile (fun x => x == 9) else l
/-- The lines up to one: what stands ahead of it, and what behind. -/
def docL (mark : Bytes) (tabs : Bool) : Nat → Bytes → Option (Bytes × Bytes)
  | 0, _ => none
  | g + 1, l => if l = [] then none else if tabL tabs (lineL l) = mark then some ([], (restL l).tail) else if restL l = [] then none else (docL mark tabs g (restL l).tail).map fun x => (tabL tabs (lineL l) ++ 10 :: x.1, x.2)
def docR (n : Nat) (T : Option (Bytes × Bytes)) : Bytes × (Int × Int) := match T with | none => ([], (0, 30)) | some (o, r) => (o, ((n : Int) - (r.length : Int), 0))
def docA (s : ByteArray) (a : Int) (mark : ByteArray) (tabs : Bool) : Bytes × (Int × Int) :=
  if mayE s.size a ≠ 0 then ([], (0, mayE s.size a)) else docR s.size (docL (bs mark) tabs (s.size - a.toNat + 1) ((bs s).drop a.toNat))
theorem tab_len (tabs : Bool) (l : Bytes) : (tabL tabs l).length ≤ l.length := by
  unfold tabL
  split
  · exact (List.dropWhile_suffix _).length_le
  · exact Nat.le_refl _
/-- A loop's place among the lines; what has been taken. -/
def DocAt (s : ByteArray) (mark : ByteArray) (tabs : Bool) (T : Option (Bytes × Bytes)) (g : Nat) (acc : Bytes) (k : Nat) : Prop :=
  k ≤ s.size ∧ s.size - k + 1 ≤ g ∧ acc.length ≤ k ∧ T = (docL (bs mark) tabs g ((bs s).drop k)).map fun x => (acc ++ x.1, x.2)
theorem DocAt.over {s mark : ByteArray} {tabs : Bool} {T : Option (Bytes × Bytes)} {g k : Nat} {acc : Bytes} (h : DocAt s mark tabs T g acc k) (hk : ¬ k < s.size) : T = none := by
  obtain ⟨h1, h2, _, h3⟩ := h
  obtain ⟨g, rfl⟩ : ∃ f, g = f + 1 := ⟨g - 1, by omega⟩
  rw [h3, drop_end s k (by omega), docL, if_pos rfl]; rfl
theorem DocAt.hit {s mark : ByteArray} {tabs : Bool} {T : Option (Bytes × Bytes)} {g k : Nat} {acc : Bytes} (h : DocAt s mark tabs T g acc k) (hk : k < s.size) (hm : tabL tabs (lineL ((bs s).drop k)) = bs mark) : T = some (acc, (restL ((bs s).drop k)).tail) := by
  obtain ⟨h1, h2, _, h3⟩ := h
  obtain ⟨g, rfl⟩ : ∃ f, g = f + 1 := ⟨g - 1, by omega⟩
  have hne : (bs s).drop k ≠ [] := by rw [bs_drop s k hk]; simp
  rw [h3, docL, if_neg hne, if_pos hm, Option.map_some, List.append_nil]
theorem DocAt.miss {s mark : ByteArray} {tabs : Bool} {T : Option (Bytes × Bytes)} {g k : Nat} {acc : Bytes} (h : DocAt s mark tabs T g acc k) (hk : k < s.size) (hm : tabL tabs (lineL ((bs s).drop k)) ≠ bs mark) (hr : restL ((bs s).drop k) = []) : T = none := by
  obtain ⟨h1, h2, _, h3⟩ := h
  obtain ⟨g, rfl⟩ : ∃ f, g = f + 1 := ⟨g - 1, by omega⟩
  have hne : (bs s).drop k ≠ [] := by rw [bs_drop s k hk]; simp
  rw [h3, docL, if_neg hne, if_neg hm, if_pos hr]; rfl
theorem DocAt.next {s mark : ByteArray} {tabs : Bool} {T : Option (Bytes × Bytes)} {g k : Nat} {acc : Bytes} (h : DocAt s mark tabs T g acc k) (hk : k < s.size) (hm : tabL tabs (lineL ((bs s).drop k)) ≠ bs mark) (hr : restL ((bs s).drop k) ≠ []) :
    0 < g ∧ k + (lineL ((bs s).drop k)).length + 1 ≤ s.size ∧ DocAt s mark tabs T (g - 1) (acc ++ (tabL tabs (lineL ((bs s).drop k)) ++ [10])) (k + (lineL ((bs s).drop k)).length + 1) := by
  obtain ⟨h1, h2, h2a, h3⟩ := h
  obtain ⟨g, rfl⟩ : ∃ f, g = f + 1 := ⟨g - 1, by omega⟩
  have hne : (bs s).drop k ≠ [] := by rw [bs_drop s k hk]; simp
  rw [docL, if_neg hne, if_neg hm, if_neg hr] at h3
  have htl := tab_len tabs (lineL ((bs s).drop k))
  rcases ixb_line ((bs s).drop k) with ⟨h4, _, _⟩ | ⟨_, h5, h6, _⟩
  · exact absurd h4 hr
  · rw [List.length_drop, bs_length] at h6
    refine ⟨by omega, by omega, by omega, by omega, by rw [List.length_append, List.length_append]; simp; omega, ?_⟩
    rw [h3, h5]
    show Option.map _ (Option.map _ (docL _ _ g (((bs s).drop k).drop _))) = _
    rw [List.drop_drop, ← Nat.add_assoc, Option.map_map]
    congr 1
    funext x
    show (acc ++ (_ ++ 10 :: x.1), x.2) = (acc ++ (_ ++ [10]) ++ x.1, x.2)
    rw [List.append_assoc, List.append_assoc]; rfl
end Go.Proofs.YtlhkochpokhncaaDoor.Lexer
