/- HandlesPlays, part 14 of 31: the texts NdW HdN HdP NdX, joined by a program. -/
import Derived.Test.YteienbdbhnikbaaGreatDoorPw13
import Derived.Test.YteienbdbhnikbaaGreatDoorPw10
namespace Go.Proofs.YteienbdbhnikbaaGreatDoor.Hd
open Go.RowKit Go.Maps Go.Proofs.YteienbdbhnikbaaGreatDoor Go.Proofs.YteienbdbhnikbaaGreatDoor.Hp
set_option linter.unusedVariables false
attribute [local go_sem] Oper.semAt_some

/-- A path without the strokes at its end; where its last part begins; that part, and what is ahead of it. -/
def wholeB (s : ByteArray) : ByteArray := ⟨(Lib.trimRightB s.data.toList 47).toArray⟩
def cutN (s : ByteArray) : Nat := (Lib.lastIndexByte (wholeB s) 47 + 1).toNat
def aheadB (s : ByteArray) : ByteArray := (wholeB s).extract 0 (cutN s)
def partB (s : ByteArray) : ByteArray := (wholeB s).extract (cutN s) (wholeB s).size
theorem whole_le (s : ByteArray) : (wholeB s).size ≤ s.size := by
  unfold wholeB
  rw [ba_len]
  unfold Lib.trimRightB
  rw [List.length_reverse]
  refine Nat.le_trans (List.dropWhile_sublist _).length_le ?_
  rw [List.length_reverse]
  exact Nat.le_refl _
theorem cutN_eq (s : ByteArray) : Lib.lastIndexByte (wholeB s) 47 = (cutN s : Int) - 1 ∧ cutN s ≤ (wholeB s).size := by
  unfold cutN
  rcases Lib.lastIndexByte_spec (wholeB s) 47 with ⟨h, -⟩ | ⟨i, hi, h, -⟩
  · rw [h]
    exact ⟨rfl, Nat.zero_le _⟩
  · rw [h]
    omega
theorem ahead_le (s : ByteArray) : (aheadB s).size ≤ s.size := by
  unfold aheadB
  rw [ByteArray.size_extract]
  have := whole_le s
  omega
theorem part_le (s : ByteArray) : (partB s).size ≤ s.size := by
  unfold partB
  rw [ByteArray.size_extract]
  have := whole_le s
  omega
/-- A path's directory, its last part, whether a stroke stands behind it, and what is wrong with it. -/
def lastP (F : Fs) (from_ : Int) (s : ByteArray) : Int × ByteArray × Bool × Int :=
  if isK F from_ 1 = false then (0, ⟨#[]⟩, false, 1)
  else if (beginP from_ s).2 ≠ 0 then (0, ⟨#[]⟩, false, (beginP from_ s).2)
  else if cutN s = 0 then ((beginP from_ s).1, partB s, decide ((wholeB s).size < s.size), 0)
  else if (walkR F 5000 0 from_ (aheadB s) true).1.2 ≠ 0 then (0, ⟨#[]⟩, false, (walkR F 5000 0 from_ (aheadB s) true).1.2)
  else ((walkR F 5000 0 from_ (aheadB s) true).1.1, partB s, decide ((wholeB s).size < s.size), 0)
theorem last_i64 {F : Fs} (h : NumsOk F) {d : Int} (hd : I64 d) (s : ByteArray) : I64 (lastP F d s).1 := by
  unfold lastP
  split
  · exact i64_0
  split
  · exact i64_0
  split
  · exact begin_i64 hd s
  split
  · exact i64_0
  · exact walkR_i64 h _ _ _ _ _ hd
theorem last_part (F : Fs) (d : Int) (s : ByteArray) : (lastP F d s).2.1.size ≤ s.size := by
  unfold lastP
  split
  · exact Nat.zero_le _
  split
  · exact Nat.zero_le _
  split
  · exact part_le s
  split
  · exact Nat.zero_le _
  · exact part_le s
set_option maxRecDepth 100000 in
set_option maxHeartbeats 8000000 in
theorem lastN_calls (fb mb : Nat) (F : Fs) (hF : FsOk F) (hN : NumsOk F) (d : Int) (s : ByteArray) (w : World) (R : Hp) (hd : I64 d) (hs : s.size ≤ 1000000) (hG : Glob R) (h : Sat w (fsHp fb mb F * R)) :
    Calls Tryz.prog 71 #[pp fb, .int .i64 d, .string s] w fun e w' => (e = .returned (.tuple #[.int .i64 (lastP F d s).1, .string (lastP F d s).2.1, .bool (lastP F d s).2.2.1, .int .i64 (lastP F d s).2.2.2]) ∧ Sat w' (fsHp fb mb F * R)) ∧ Ran w w' := by
  have HI := is_calls fb mb F d 1 hd w R h
  unfold lastP
  cases hk : isK F d 1 with
  | false =>
    rw [hk] at HI
    rw [if_pos rfl]
    have HI := Lib.hid HI
    have h := Lib.hid h
    clear hk
    go_enter Tryz.func71, Tryz.ntmps71
    go_wp2_with fail
    refine HI.out.mono ?_
    rintro e w1 ⟨rfl, rfl⟩
    go_wp2_with fail
    refine bodyPost_ret (v := .tuple #[.int .i64 0, .string ⟨#[]⟩, .bool false, .int .i64 1]) (by simp [results, Tryz.results71, go_sem]) rfl ?_
    exact ⟨⟨rfl, h.out⟩, Below.refl 0 _⟩
  | true =>
  rw [hk] at HI
  rw [if_neg (by decide)]
  have HI := Lib.hid HI
  have S1 := h.alloc (wkO fb 0)
  have R1 := Lib.hid (Ran.new (Below.refl 0 w) (wkO fb 0))
  obtain ⟨wb, hwb⟩ : ∃ x, x = w.heap.size := ⟨_, rfl⟩
  rw [← hwb] at S1
  have HB := beginN_calls wb d s hs (w.alloc (wkO fb 0))
  clear h hk
  by_cases hb : (beginP d s).2 ≠ 0
  · rw [if_pos hb]
    obtain ⟨b1, hb1⟩ : ∃ b, b = (beginP d s).1 := ⟨_, rfl⟩
    obtain ⟨b2, hb2⟩ : ∃ b, b = (beginP d s).2 := ⟨_, rfl⟩
    rw [← hb1, ← hb2] at HB
    rw [← hb2] at hb ⊢
    rw [hwb] at HB
    have HB := Lib.hid HB
    have S1 := Lib.hid S1
    clear hb1 hb2 hs hd hwb
    go_enter Tryz.func71, Tryz.ntmps71
    go_wp2_with fail
    refine HI.out.mono ?_
    rintro e w1 ⟨rfl, rfl⟩
    go_wp2_with fail
    refine HB.out.mono ?_
    rintro e w1 ⟨rfl, rfl⟩
    go_wp2_with fail
    refine bodyPost_ret (v := .tuple #[.int .i64 0, .string ⟨#[]⟩, .bool false, .int .i64 b2]) (by simp [results, Tryz.results71, go_sem]) rfl ?_
    exact ⟨⟨rfl, S1.out.right⟩, R1.out⟩
  rw [if_neg hb]
  have hb0 : (beginP d s).2 = 0 := by simpa using hb
  rw [hb0] at HB
  have hshort := begin_short hb0
  obtain ⟨b1, hb1⟩ : ∃ b, b = (beginP d s).1 := ⟨_, rfl⟩
  rw [← hb1] at HB ⊢
  have HT := fun w => (Tryz.strings_TrimRight_one s 47 (by decide) w (by omega)).mono fun e w' (h : _ ∧ _) => (⟨h.1, h.2.symm⟩ : _ ∧ w = w')
  have HLi := fun w => (Tryz.strings_LastIndexByte (wholeB s) 47 (by have := whole_le s; omega) w).mono fun e w' (h : _ ∧ _) => (⟨h.1, h.2.symm⟩ : _ ∧ w = w')
  rw [(cutN_eq s).1] at HLi
  have hiw := (cutN_eq s).2
  have hws := whole_le s
  have HR := walk_calls fb mb wb F hF hN 5000 0 d (aheadB s) true _ R (by omega) (by omega) hd (Nat.le_trans (ahead_le s) hs) (by show 9 * 400 + 256 < 5000; omega) hG S1
  obtain ⟨y, hy⟩ : ∃ y, y = walkR F 5000 0 d (aheadB s) true := ⟨_, rfl⟩
  rw [← hy] at HR ⊢
  unfold aheadB at HR
  unfold partB
  rw [show (⟨(Lib.trimRightB s.data.toList 47).toArray⟩ : ByteArray) = wholeB s from rfl] at HT
  obtain ⟨wh, hwh⟩ : ∃ x, x = wholeB s := ⟨_, rfl⟩
  obtain ⟨i, hi⟩ : ∃ i, i = cutN s := ⟨_, rfl⟩
  rw [← hwh] at HT HLi HR hiw hws ⊢
  rw [← hi] at HLi HR hiw ⊢
  have hiwI : (i : Int) ≤ (wh.size : Int) := by omega
  have hi0 : (0 : Int) ≤ (i : Int) := by omega
  have hiM : (i : Int) ≤ 1000000 := by omega
  have hwr : IntKind.i64.wrap (i : Int) = (i : Int) := IntWalk.i64_in _ (by omega)
  have hwr2 : IntKind.i64.wrap ((i : Int) - 1 + 1) = (i : Int) := by rw [Int.sub_add_cancel]; exact hwr
  have hwM : (wh.size : Int) ≤ 1000000 := by omega
  have hsM : (s.size : Int) ≤ 1000000 := by omega
  have hlt : ((wh.size : Int) < (s.size : Int)) ↔ wh.size < s.size := by omega
  obtain ⟨⟨y1, y2⟩, l2⟩ := y
  dsimp only at HR ⊢
  have HB := Lib.hid (show Calls _ _ #[pp w.heap.size, _, _] _ _ by rw [hwb] at HB; exact HB)
  have HT := Lib.hid HT
  have HLi := Lib.hid HLi
  have HR := Lib.hid (show Calls _ _ #[pp w.heap.size, _, _, _] _ _ by rw [hwb] at HR; exact HR)
  have S1 := Lib.hid S1
  clear hb hb0 hb1 hshort hs hd hy hwh hi hws hlt hiw
  by_cases hz : i = 0
  · rw [if_pos hz]
    have hzI : ¬ (0 : Int) < (i : Int) := by omega
    clear hz HR
    go_enter Tryz.func71, Tryz.ntmps71
    go_wp2_with fail
    refine HI.out.mono ?_
    rintro e w1 ⟨rfl, rfl⟩
    go_wp2_with fail
    refine HB.out.mono ?_
    rintro e w1 ⟨rfl, rfl⟩
    go_wp2_with fail
    refine (HT.out _).mono ?_
    rintro e w1 ⟨rfl, rfl⟩
    go_wp2_with fail
    refine (HLi.out _).mono ?_
    rintro e w1 ⟨rfl, rfl⟩
    go_upto_region 13 with fail
    refine region_plan (S := (fun _ => True)) [(0, true), (1, true), (2, true), (3, true), (4, true), (5, true), (6, true), (7, true), (8, true), (9, true), (10, true), (11, true), (12, true)] (by kernel_rfl) (by kernel_rfl) (by kernel_rfl) ?_ ?_
    · ((try dsimp only); (first | done | (trivial)))
    simp only [planOps, List.map_cons, List.map_nil, List.getElem?_toArray, List.getElem?_cons_zero, List.getElem?_cons_succ]
    repeat (first
      | ((refine plan_yes (v := ?_) (by rfl) ?_ ?_); rotate_left; (focus (intro w hSw; (try dsimp only at hSw); go_simp; try (with_reducible rfl))); (try simp only [Act.put, List.setIfInBounds_toArray, List.set_cons_zero, List.set_cons_succ]))
      | ((refine plan_no (by rfl) ?_); (try simp only [Act.put, List.setIfInBounds_toArray, List.set_cons_zero, List.set_cons_succ]))
      | ((refine plan_step (fun K hK => ?_)); (first | (fail) | (go_simp; (fail); (try go_wp2_with fail)) | go_simp); (refine hK.out _ _ ?_ (fun hHeld => ?_)); (focus ((try dsimp only); (first | done | (trivial)))); clear hK K; (try simp only [Act.put, List.setIfInBounds_toArray, List.set_cons_zero, List.set_cons_succ])))
    refine plan_done ?_
    go_wp2_with fail
    refine bodyPost_ret (v := .tuple #[.int .i64 b1, .string (wh.extract i wh.size), .bool (decide (wh.size < s.size)), .int .i64 0]) (by simp [results, Tryz.results71, go_sem]) rfl ?_
    exact ⟨⟨rfl, S1.out.right.drew⟩, Ran.drewN R1.out 1⟩
  · rw [if_neg hz]
    have hzI : (0 : Int) < (i : Int) := by omega
    clear hz
    by_cases h2 : y2 = 0
    · subst h2
      rw [if_neg (fun h => h rfl)]
      go_enter Tryz.func71, Tryz.ntmps71
      go_wp2_with fail
      refine HI.out.mono ?_
      rintro e w1 ⟨rfl, rfl⟩
      go_wp2_with fail
      refine HB.out.mono ?_
      rintro e w1 ⟨rfl, rfl⟩
      go_wp2_with fail
      refine (HT.out _).mono ?_
      rintro e w1 ⟨rfl, rfl⟩
      go_wp2_with fail
      refine (HLi.out _).mono ?_
      rintro e w1 ⟨rfl, rfl⟩
      go_wp2_with fail
      refine HR.out.mono ?_
      rintro e w2 ⟨⟨rfl, S2⟩, R2⟩
      have S2 := Lib.hid S2
      have R2 := Lib.hid (Below.trans R1.out R2)
      go_upto_region 13 with fail
      refine region_plan (S := (fun _ => True)) [(0, true), (1, true), (2, true), (3, true), (4, true), (5, true), (6, true), (7, true), (8, true), (9, true), (10, true), (11, true), (12, true)] (by kernel_rfl) (by kernel_rfl) (by kernel_rfl) ?_ ?_
      · ((try dsimp only); (first | done | (trivial)))
      simp only [planOps, List.map_cons, List.map_nil, List.getElem?_toArray, List.getElem?_cons_zero, List.getElem?_cons_succ]
      repeat (first
        | ((refine plan_yes (v := ?_) (by rfl) ?_ ?_); rotate_left; (focus (intro w hSw; (try dsimp only at hSw); go_simp; try (with_reducible rfl))); (try simp only [Act.put, List.setIfInBounds_toArray, List.set_cons_zero, List.set_cons_succ]))
        | ((refine plan_no (by rfl) ?_); (try simp only [Act.put, List.setIfInBounds_toArray, List.set_cons_zero, List.set_cons_succ]))
        | ((refine plan_step (fun K hK => ?_)); (first | (fail) | (go_simp; (fail); (try go_wp2_with fail)) | go_simp); (refine hK.out _ _ ?_ (fun hHeld => ?_)); (focus ((try dsimp only); (first | done | (trivial)))); clear hK K; (try simp only [Act.put, List.setIfInBounds_toArray, List.set_cons_zero, List.set_cons_succ])))
      refine plan_done ?_
      go_wp2_with fail
      refine bodyPost_ret (v := .tuple #[.int .i64 y1, .string (wh.extract i wh.size), .bool (decide (wh.size < s.size)), .int .i64 0]) (by simp [results, Tryz.results71, go_sem]) rfl ?_
      exact ⟨⟨rfl, S2.out.right.drew⟩, Ran.drewN R2.out 1⟩
    · rw [if_pos h2]
      go_enter Tryz.func71, Tryz.ntmps71
      go_wp2_with fail
      refine HI.out.mono ?_
      rintro e w1 ⟨rfl, rfl⟩
      go_wp2_with fail
      refine HB.out.mono ?_
      rintro e w1 ⟨rfl, rfl⟩
      go_wp2_with fail
      refine (HT.out _).mono ?_
      rintro e w1 ⟨rfl, rfl⟩
      go_wp2_with fail
      refine (HLi.out _).mono ?_
      rintro e w1 ⟨rfl, rfl⟩
      go_wp2_with fail
      refine HR.out.mono ?_
      rintro e w2 ⟨⟨rfl, S2⟩, R2⟩
      have S2 := Lib.hid S2
      have R2 := Lib.hid (Below.trans R1.out R2)
      go_wp2_with fail
      refine bodyPost_ret (v := .tuple #[.int .i64 0, .string ⟨#[]⟩, .bool false, .int .i64 y2]) (by simp [results, Tryz.results71, go_sem]) rfl ?_
      exact ⟨⟨rfl, S2.out.right⟩, R2.out⟩
end Go.Proofs.YteienbdbhnikbaaGreatDoor.Hd

namespace Go.Proofs.YteienbdbhnikbaaGreatDoor.Hd
open Go.RowKit Go.Maps Go.Proofs.YteienbdbhnikbaaGreatDoor Go.Proofs.YteienbdbhnikbaaGreatDoor.Hp
set_option linter.unusedVariables false
attribute [local go_sem] Oper.semAt_some

abbrev nm (c : UInt8) : ByteArray := ⟨#[c]⟩
def Simple (c : UInt8) : Prop := c = 97 ∨ c = 98 ∨ c = 108 ∨ c = 100
end Go.Proofs.YteienbdbhnikbaaGreatDoor.Hd

namespace Go.Proofs.YteienbdbhnikbaaGreatDoor.Hd
open Go.RowKit Go.Maps Go.Proofs.YteienbdbhnikbaaGreatDoor Go.Proofs.YteienbdbhnikbaaGreatDoor.Hp
set_option linter.unusedVariables false
attribute [local go_sem] Oper.semAt_some

theorem find_findA : ∀ (L : NL) (k : Int), find L k = findA L k
  | [], _ => rfl
  | p :: L, k => by unfold find findA; rw [find_findA L k]
structure FreeN (L : NL) (g : Nat) : Prop where
  pos : 1 ≤ g
  le : g ≤ L.length + 1
  none : find L (g : Int) = none
  least : ∀ j : Nat, 1 ≤ j → j < g → (find L (j : Int)).isSome = true
theorem freeN (L : NL) : ∃ g, FreeN L g := by
  obtain ⟨g, h1, h2, h3, h4⟩ := free_number L
  exact ⟨g, h1, h2, by rw [find_findA]; exact h3, fun j a b => by rw [find_findA]; exact h4 j a b⟩
theorem find_cons (L : NL) (k j : Int) (x : Nd) : find ((k, x) :: L) j = if j = k then some x else find L j := by
  show (if k = j then some x else find L j) = _
  by_cases e : j = k
  · subst e; simp
  · rw [if_neg e, if_neg (fun h => e h.symm)]
theorem blk_cons (L : NL) (k : Int) (x : Nd) : blk ((k, x) :: L) = putP (blk L) k x.b := by
  funext j
  unfold blk putP
  rw [find_cons]
  by_cases e : j = k
  · rw [if_pos e, if_pos e]; rfl
  · rw [if_neg e, if_neg e]
structure MakeOk (F : Fs) (x : Nd) (kd : Kd) (c : UInt8) (g : Nat) (t : ByteArray) : Prop where
  simple : Simple c
  root : find F.L 1 = some x
  kind : x.kind = 1
  kids : x.kids = some kd
  new : kd.M (nm c) = none
  kn : kd.n ≤ 1000000
  free : FreeN F.L g
  n : F.n ≤ 1000000
  most : (F.L.length : Int) < F.most
  small : t.size ≤ 4096
  room : (t.size : Int) ≤ F.room - F.used
  used : 0 ≤ F.used ∧ F.used ≤ 1000000000
  rm : 0 ≤ F.room ∧ F.room ≤ 1000000000
end Go.Proofs.YteienbdbhnikbaaGreatDoor.Hd

namespace Go.Proofs.YteienbdbhnikbaaGreatDoor.Hd
open Go.RowKit Go.Maps Go.Proofs.YteienbdbhnikbaaGreatDoor Go.Proofs.YteienbdbhnikbaaGreatDoor.Hp
set_option linter.unusedVariables false

section
variable {α : Type}
def sumA (f : α → Nat) : List (Int × α) → Nat
  | [] => 0
  | p :: l => f p.2 + sumA f l
theorem sumA_get (f : α → Nat) : ∀ (L : List (Int × α)) (k : Int) (x : α), findA L k = some x → sumA f L = f x + sumA f (delA L k)
  | [], _, _, h => by cases h
  | p :: L, k, x, h => by
    unfold findA at h
    by_cases e : p.1 = k
    · rw [if_pos e] at h
      injection h with h
      unfold delA; rw [if_pos e, ← h]; rfl
    · rw [if_neg e] at h
      unfold delA; rw [if_neg e]
      show f p.2 + sumA f L = f x + (f p.2 + sumA f (delA L k))
      rw [sumA_get f L k x h]; omega
theorem sumA_upd (f : α → Nat) : ∀ (L : List (Int × α)) (k : Int) (x y : α), findA L k = some x → sumA f (updA L k y) = f y + sumA f (delA L k)
  | [], _, _, _, h => by cases h
  | p :: L, k, x, y, h => by
    unfold findA at h
    by_cases e : p.1 = k
    · rw [if_pos e] at h
      unfold delA updA; rw [if_pos e, if_pos e]; rfl
    · rw [if_neg e] at h
      unfold delA updA; rw [if_neg e, if_neg e]
      show f p.2 + sumA f (updA L k y) = f y + (f p.2 + sumA f (delA L k))
      rw [sumA_upd f L k x y h]; omega
theorem keys_upd : ∀ (L : List (Int × α)) (k : Int) (x : α), (updA L k x).map Prod.fst = L.map Prod.fst
  | [], _, _ => rfl
  | p :: L, k, x => by
    unfold updA
    by_cases e : p.1 = k
    · rw [if_pos e]; show k :: _ = p.1 :: _; rw [e]
    · rw [if_neg e]; show p.1 :: _ = p.1 :: _; rw [keys_upd L k x]
theorem del_sub : ∀ (L : List (Int × α)) (k : Int), (delA L k).Sublist L
  | [], _ => List.Sublist.slnil
  | p :: L, k => by
    unfold delA
    by_cases e : p.1 = k
    · rw [if_pos e]; exact List.sublist_cons_self _ _
    · rw [if_neg e]; exact (del_sub L k).cons_cons _
theorem nodup_del {L : List (Int × α)} (h : (L.map Prod.fst).Nodup) (k : Int) : ((delA L k).map Prod.fst).Nodup := h.sublist ((del_sub L k).map _)
theorem nodup_upd {L : List (Int × α)} (h : (L.map Prod.fst).Nodup) (k : Int) (x : α) : ((updA L k x).map Prod.fst).Nodup := by rw [keys_upd]; exact h
theorem find_of_mem : ∀ (L : List (Int × α)) (k : Int), k ∈ L.map Prod.fst → (findA L k).isSome = true
  | [], _, h => by cases h
  | p :: L, k, h => by
    unfold findA
    by_cases e : p.1 = k
    · rw [if_pos e]; rfl
    · rw [if_neg e]
      refine find_of_mem L k ?_
      rcases List.mem_cons.1 h with h | h
      · exact absurd h.symm e
      · exact h
theorem nodup_cons {L : List (Int × α)} (h : (L.map Prod.fst).Nodup) {k : Int} (x : α) (hk : findA L k = none) : (((k, x) :: L).map Prod.fst).Nodup := by
  refine List.nodup_cons.2 ⟨fun hm => ?_, h⟩
  have := find_of_mem L k hm
  rw [hk] at this
  cases this
end
theorem upd_updA : ∀ (L : NL) (k : Int) (x : Nd), upd L k x = updA L k x
  | [], _, _ => rfl
  | p :: L, k, x => by unfold upd updA; rw [upd_updA L k x]
def usedN (L : NL) : Nat := sumA (fun x : Nd => x.text.size) L
theorem used_upd {L : NL} {k : Int} {x : Nd} (h : find L k = some x) (y : Nd) : usedN (upd L k y) + x.text.size = usedN L + y.text.size := by
  rw [find_findA] at h
  unfold usedN
  rw [upd_updA, sumA_upd _ L k x y h, sumA_get _ L k x h]
  omega
/-- A directory has a name. -/
def Ref (F : Fs) (k : Int) (s : ByteArray) (v : Int) : Prop := ∃ x kd, find F.L k = some x ∧ x.kids = some kd ∧ kd.M s = some v
/-- What is true of a tree behind N calls. -/
structure TreeG (N : Nat) (F : Fs) : Prop where
  nd : (F.L.map Prod.fst).Nodup
  rng : ∀ k x, find F.L k = some x → 1 ≤ k ∧ k ≤ 1000000
  root : ∃ x, find F.L 1 = some x ∧ x.kind = 1 ∧ x.par = 1
  kinds : ∀ k x, find F.L k = some x → (x.kind = 1 ∧ ∃ kd, x.kids = some kd) ∨ ((x.kind = 2 ∨ x.kind = 3) ∧ x.kids = none)
  kid : ∀ k s v, Ref F k s v → v ≠ 1 ∧ ∃ y, find F.L v = some y ∧ y.names = 1
  uniq : ∀ j k s t v, Ref F j s v → Ref F k t v → j = k ∧ s = t
  par : ∀ k x, find F.L k = some x → k ≠ 1 → x.par = 0 ∨ ∃ s, Ref F x.par s k
  names : ∀ k x, find F.L k = some x → x.names = 0 ∨ x.names = 1
  bare : ∀ k x s v, find F.L k = some x → k ≠ 1 → x.names = 0 → ¬ Ref F k s v
  each : ∀ k x, find F.L k = some x → x.text.size ≤ 4096 ∧ 0 ≤ x.holds ∧ x.holds ≤ (N : Int) ∧ ∀ kd, x.kids = some kd → kd.sz ≤ N ∧ kd.n ≤ N
  n : F.n ≤ N ∧ F.L.length ≤ N
  used : F.used = (usedN F.L : Int)
  room : F.used ≤ F.room ∧ F.room ≤ 1000000
section
variable {N : Nat} {F : Fs}
theorem TreeG.more (h : TreeG N F) {M : Nat} (hm : N ≤ M) : TreeG M F :=
  { h with each := fun k x hx => by
             obtain ⟨h1, h2, h3, h4⟩ := h.each k x hx
             exact ⟨h1, h2, by omega, fun kd hkd => ⟨Nat.le_trans (h4 kd hkd).1 hm, Nat.le_trans (h4 kd hkd).2 hm⟩⟩,
           n := ⟨Nat.le_trans h.n.1 hm, Nat.le_trans h.n.2 hm⟩ }
theorem TreeG.ok (h : TreeG N F) (hN : N ≤ 1000000) : FsOk F := fun k x hx => by
  obtain ⟨h1, h2, h3, h4⟩ := h.each k x hx
  refine ⟨by omega, ?_, ⟨h2, by omega⟩, ?_⟩
  · cases hk : x.kids with
    | none => exact Nat.zero_le _
    | some kd => exact Nat.le_trans (h4 kd hk).1 hN
  · rcases h.names k x hx with e | e <;> rw [e] <;> omega
theorem TreeG.in_i64 (h : TreeG N F) {k : Int} {x : Nd} (hx : find F.L k = some x) : I64 k := by
  have := h.rng k x hx
  unfold I64; omega
theorem TreeG.nums (h : TreeG N F) : NumsOk F := fun k x hx => by
  refine ⟨?_, fun kd s v hk hv => ?_⟩
  · by_cases e : k = 1
    · subst e
      obtain ⟨y, hy, -, hp⟩ := h.root
      rw [hx] at hy; injection hy with hy; subst hy
      rw [hp]; exact i64_1
    · rcases h.par k x hx e with e | ⟨s, y, kd, hy, -, -⟩
      · rw [e]; exact i64_0
      · exact h.in_i64 hy
  · obtain ⟨-, y, hy, -⟩ := h.kid k s v ⟨x, kd, hx, hk, hv⟩
    exact h.in_i64 hy
theorem isK_in {k kd : Int} (h : isK F k kd = true) : ∃ x, find F.L k = some x ∧ x.kind = kd := by
  unfold isK at h
  cases hx : find F.L k with
  | none => rw [hx] at h; cases h
  | some x => rw [hx] at h; exact ⟨x, rfl, by simpa using h⟩
theorem TreeG.step_in (h : TreeG N F) {d : Int} {s : ByteArray} (hs : (stepP F d s).2 = 0) : ∃ y, find F.L (stepP F d s).1 = some y := by
  have tell : ∀ n : Int, (tellP n).2 = 0 → (n ≠ 0 → ∃ y, find F.L n = some y) → ∃ y, find F.L (tellP n).1 = some y := fun n h1 h2 => by
    unfold tellP at h1 ⊢
    by_cases e : n = 0
    · rw [if_pos e] at h1; cases h1
    · rw [if_neg e]; exact h2 e
  unfold stepP at hs ⊢
  cases hx : find F.L d with
  | none => rw [hx] at hs; cases hs
  | some x =>
    rw [hx] at hs
    dsimp only at hs ⊢
    by_cases hk : x.kind = 1
    · rw [if_pos hk] at hs ⊢
      by_cases h1 : s = dotB
      · rw [if_pos h1] at hs ⊢
        exact tell d hs fun _ => ⟨x, hx⟩
      rw [if_neg h1] at hs ⊢
      by_cases h2 : s = dotsB
      · rw [if_pos h2] at hs ⊢
        refine tell _ hs fun hp => ?_
        by_cases e : d = 1
        · subst e
          obtain ⟨y, hy, -, hpy⟩ := h.root
          rw [hx] at hy; injection hy with hy; subst hy
          rw [hpy]; exact ⟨_, hx⟩
        · rcases h.par d x hx e with e | ⟨s, y, kd, hy, -, -⟩
          · exact absurd e hp
          · exact ⟨y, hy⟩
      rw [if_neg h2] at hs ⊢
      by_cases h3 : rightB s = false
      · rw [if_pos h3] at hs; cases hs
      rw [if_neg h3] at hs ⊢
      refine tell _ hs fun hp => ?_
      unfold kidP at hp ⊢
      cases hkd : x.kids with
      | none => rw [hkd] at hp; exact absurd rfl hp
      | some kd =>
        rw [hkd] at hp
        dsimp only at hp ⊢
        cases hv : kd.M s with
        | none => rw [hv] at hp; exact absurd rfl hp
        | some v =>
          obtain ⟨-, y, hy, -⟩ := h.kid d s v ⟨x, kd, hx, hkd, hv⟩
          exact ⟨y, hy⟩
    · rw [if_neg hk] at hs; cases hs
theorem TreeG.loop_in (h : TreeG N F) : ∀ (g : Nat) (links at_ : Int) (path : List UInt8) (follow : Bool), (∃ y, find F.L at_ = some y) → (loopP F g links at_ path follow).1.2 = 0 → ∃ y, find F.L (loopP F g links at_ path follow).1.1 = some y
  | 0, links, _, _, _, _, hz => by cases hz
  | g + 1, links, at_, path, follow, hl, hz => by
    have ih := h.loop_in g
    have fin : ∀ rest more n lk, (∃ y, find F.L n = some y) → (finP F g rest more follow n lk).1.2 = 0 → ∃ y, find F.L (finP F g rest more follow n lk).1.1 = some y := by
      intro rest more n lk h8 h9
      unfold finP at h9 ⊢
      by_cases h1 : more = false
      · rw [if_pos h1]; exact h8
      · rw [if_neg h1] at h9 ⊢
        by_cases h2 : isK F n 1 = false
        · rw [if_pos h2] at h9; cases h9
        · rw [if_neg h2] at h9 ⊢
          exact ih _ _ _ _ h8 h9
    obtain ⟨p, r, m, hc⟩ : ∃ p r m, Lib.cut (Lib.trimLeftB path 47) [47] = (p, r, m) := ⟨_, _, _, rfl⟩
    by_cases hp : p = []
    · subst hp
      rw [loop_end hc]
      exact hl
    by_cases hs : (stepP F at_ ⟨p.toArray⟩).2 = 0
    · cases hk : (isK F (stepP F at_ ⟨p.toArray⟩).1 3 && (m || follow)) with
      | false =>
        rw [loop_plain hc hp hs hk] at hz ⊢
        exact fin _ _ _ _ (h.step_in hs) hz
      | true =>
        by_cases h8 : 8 < links + 1
        · rw [loop_many hc hp hs hk h8] at hz
          cases hz
        · rw [loop_link hc hp hs hk h8 _ rfl] at hz ⊢
          by_cases hw : (walkR F g (links + 1) at_ (textOf F (stepP F at_ ⟨p.toArray⟩).1) true).1.2 ≠ 0
          · rw [if_pos hw] at hz
            exact absurd hz hw
          · rw [if_neg hw] at hz ⊢
            refine fin _ _ _ _ ?_ hz
            unfold walkR at hw ⊢
            by_cases hb : (beginP at_ (textOf F (stepP F at_ ⟨p.toArray⟩).1)).2 ≠ 0
            · rw [if_pos hb] at hw
              exact absurd hb (fun e => hw e)
            · rw [if_neg hb] at hw ⊢
              refine ih _ _ _ _ ?_ (by simpa using hw)
              unfold beginP at hb ⊢
              split
              · rename_i e; rw [if_pos e] at hb; exact absurd (by decide : ((0 : Int), (10 : Int)).2 ≠ 0) hb
              · rename_i e1
                rw [if_neg e1] at hb
                split
                · rename_i e; rw [if_pos e] at hb; exact absurd (by decide : ((0 : Int), (21 : Int)).2 ≠ 0) hb
                · split
                  · obtain ⟨y, hy, -⟩ := h.root; exact ⟨y, hy⟩
                  · exact hl
    · rw [loop_bad hc hp hs] at hz
      exact absurd hz hs
theorem TreeG.begin_in (h : TreeG N F) {d : Int} (s : ByteArray) (hd : ∃ y, find F.L d = some y) (hb : ¬ (beginP d s).2 ≠ 0) : ∃ y, find F.L (beginP d s).1 = some y := by
  unfold beginP at hb ⊢
  split
  · rename_i e; rw [if_pos e] at hb; exact absurd (by decide : ((0 : Int), (10 : Int)).2 ≠ 0) hb
  · rename_i e1
    rw [if_neg e1] at hb
    split
    · rename_i e; rw [if_pos e] at hb; exact absurd (by decide : ((0 : Int), (21 : Int)).2 ≠ 0) hb
    · split
      · obtain ⟨y, hy, -⟩ := h.root; exact ⟨y, hy⟩
      · exact hd
theorem TreeG.walkR_in (h : TreeG N F) (g : Nat) (links d : Int) (s : ByteArray) (follow : Bool) (hd : ∃ y, find F.L d = some y) (hz : (walkR F g links d s follow).1.2 = 0) : ∃ y, find F.L (walkR F g links d s follow).1.1 = some y := by
  unfold walkR at hz ⊢
  by_cases hb : (beginP d s).2 ≠ 0
  · rw [if_pos hb] at hz; exact absurd hz hb
  · rw [if_neg hb] at hz ⊢
    exact h.loop_in _ _ _ _ _ (h.begin_in s hd hb) hz
theorem TreeG.walkIn (h : TreeG N F) {d : Int} {s : ByteArray} {follow : Bool} (hz : (WalkP F d s follow).2 = 0) : ∃ y, find F.L (WalkP F d s follow).1 = some y := by
  unfold WalkP at hz ⊢
  by_cases hk : isK F d 1 = false
  · rw [if_pos hk] at hz; cases hz
  · rw [if_neg hk] at hz ⊢
    obtain ⟨x, hx, -⟩ := isK_in (show isK F d 1 = true by simpa using hk)
    exact h.walkR_in _ _ _ _ _ ⟨x, hx⟩ hz
theorem TreeG.last_in (h : TreeG N F) {d : Int} {s : ByteArray} (hz : (lastP F d s).2.2.2 = 0) : ∃ y, find F.L (lastP F d s).1 = some y := by
  unfold lastP at hz ⊢
  by_cases hk : isK F d 1 = false
  · rw [if_pos hk] at hz; cases hz
  · rw [if_neg hk] at hz ⊢
    obtain ⟨x, hx, -⟩ := isK_in (show isK F d 1 = true by simpa using hk)
    by_cases hb : (beginP d s).2 ≠ 0
    · rw [if_pos hb] at hz; exact absurd hz hb
    rw [if_neg hb] at hz ⊢
    by_cases hc : cutN s = 0
    · rw [if_pos hc]; exact h.begin_in s ⟨x, hx⟩ hb
    rw [if_neg hc] at hz ⊢
    by_cases hw : (walkR F 5000 0 d (aheadB s) true).1.2 ≠ 0
    · rw [if_pos hw] at hz; exact absurd hz hw
    rw [if_neg hw]
    exact h.walkR_in _ _ _ _ _ ⟨x, hx⟩ (by simpa using hw)
end
end Go.Proofs.YteienbdbhnikbaaGreatDoor.Hd

