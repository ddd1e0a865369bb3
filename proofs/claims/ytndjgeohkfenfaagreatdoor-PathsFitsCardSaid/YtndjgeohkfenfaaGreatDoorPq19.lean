/- HandlesPlays, part 19 of 26: the texts PnW PnX PnXa PoA PoB, joined by a program. -/
import Derived.Test.YtndjgeohkfenfaaGreatDoorPq18
namespace Go.Proofs.YtndjgeohkfenfaaGreatDoor.Hd
open Go.RowKit Go.Maps Go.Proofs.YtndjgeohkfenfaaGreatDoor Go.Proofs.YtndjgeohkfenfaaGreatDoor.Hp
set_option linter.unusedVariables false
attribute [local go_sem] Oper.semAt_some

/-- A path without the strokes at its end; where its last part begins; that part, and what is ahead of it. -/
def wholeB (s : ByteArray) : ByteArray := ⟨(Lib.trimRightB s.data.toList 47).toArray⟩
def cutN (s : ByteArray) : Nat := (Lib.lastIndexByte (wholeB s) 47 + 1).toNat
def aheadB (s : ByteArray) : ByteArray := (wholeB s).extract 0 (cutN s)
def partB (s : ByteArray) : ByteArray := (wholeB s).extract (cutN s) (wholeB s).size
theorem whole_le (s : ByteArray) : (wholeB s).size ≤ s.size := by
  unfold wholeB
  rw [ba_len]
  unfold Lib.trimRightB
  rw [List.length_reverse]
  refine Nat.le_trans (List.dropWhile_sublist _).length_le ?_
  rw [List.length_reverse]
  exact Nat.le_refl _
theorem cutN_eq (s : ByteArray) : Lib.lastIndexByte (wholeB s) 47 = (cutN s : Int) - 1 ∧ cutN s ≤ (wholeB s).size := by
  unfold cutN
  rcases Lib.lastIndexByte_spec (wholeB s) 47 with ⟨h, -⟩ | ⟨i, hi, h, -⟩
  · rw [h]
    exact ⟨rfl, Nat.zero_le _⟩
  · rw [h]
    omega
theorem ahead_le (s : ByteArray) : (aheadB s).size ≤ s.size := by
  unfold aheadB
  rw [ByteArray.size_extract]
  have := whole_le s
  omega
theorem part_le (s : ByteArray) : (partB s).size ≤ s.size := by
  unfold partB
  rw [ByteArray.size_extract]
  have := whole_le s
  omega
/-- A path's directory, its last part, whether a stroke stands behind it, and what is wrong with it. -/
def lastP (F : Fs) (from_ : Int) (s : ByteArray) : Int × ByteArray × Bool × Int :=
  if isK F from_ 1 = false then (0, ⟨#[]⟩, false, 1)
  else if (beginP from_ s).2 ≠ 0 then (0, ⟨#[]⟩, false, (beginP from_ s).2)
  else if cutN s = 0 then ((beginP from_ s).1, partB s, decide ((wholeB s).size < s.size), 0)
  else if (walkR F 5000 0 from_ (aheadB s) true).1.2 ≠ 0 then (0, ⟨#[]⟩, false, (walkR F 5000 0 from_ (aheadB s) true).1.2)
  else ((walkR F 5000 0 from_ (aheadB s) true).1.1, partB s, decide ((wholeB s).size < s.size), 0)
theorem last_i64 {F : Fs} (h : NumsOk F) {d : Int} (hd : I64 d) (s : ByteArray) : I64 (lastP F d s).1 := by
  unfold lastP
  split
  · exact i64_0
  split
  · exact i64_0
  split
  · exact begin_i64 hd s
  split
  · exact i64_0
  · exact walkR_i64 h _ _ _ _ _ hd
theorem last_part (F : Fs) (d : Int) (s : ByteArray) : (lastP F d s).2.1.size ≤ s.size := by
  unfold lastP
  split
  · exact Nat.zero_le _
  split
  · exact Nat.zero_le _
  split
  · exact part_le s
  split
  · exact Nat.zero_le _
  · exact part_le s
set_option maxRecDepth 100000 in
set_option maxHeartbeats 8000000 in
theorem lastN_calls (fb mb : Nat) (F : Fs) (hF : FsOk F) (hN : NumsOk F) (d : Int) (s : ByteArray) (w : World) (R : Hp) (hd : I64 d) (hs : s.size ≤ 1000000) (hG : Glob R) (h : Sat w (fsHp fb mb F * R)) :
    Calls Tryz.prog 94 #[pp fb, .int .i64 d, .string s] w fun e w' => (e = .returned (.tuple #[.int .i64 (lastP F d s).1, .string (lastP F d s).2.1, .bool (lastP F d s).2.2.1, .int .i64 (lastP F d s).2.2.2]) ∧ Sat w' (fsHp fb mb F * R)) ∧ Ran w w' := by
  have HI := is_calls fb mb F d 1 hd w R h
  unfold lastP
  cases hk : isK F d 1 with
  | false =>
    rw [hk] at HI
    rw [if_pos rfl]
    have HI := Lib.hid HI
    have h := Lib.hid h
    clear hk
    go_enter Tryz.func94, Tryz.ntmps94
    go_wp2_with fail
    refine HI.out.mono ?_
    rintro e w1 ⟨rfl, rfl⟩
    go_wp2_with fail
    refine bodyPost_ret (v := .tuple #[.int .i64 0, .string ⟨#[]⟩, .bool false, .int .i64 1]) (by simp [results, Tryz.results94, go_sem]) rfl ?_
    exact ⟨⟨rfl, h.out⟩, Below.refl 0 _⟩
  | true =>
  rw [hk] at HI
  rw [if_neg (by decide)]
  have HI := Lib.hid HI
  have S1 := h.alloc (wkO fb 0)
  have R1 := Lib.hid (Ran.new (Below.refl 0 w) (wkO fb 0))
  obtain ⟨wb, hwb⟩ : ∃ x, x = w.heap.size := ⟨_, rfl⟩
  rw [← hwb] at S1
  have HB := beginN_calls wb d s hs (w.alloc (wkO fb 0))
  clear h hk
  by_cases hb : (beginP d s).2 ≠ 0
  · rw [if_pos hb]
    obtain ⟨b1, hb1⟩ : ∃ b, b = (beginP d s).1 := ⟨_, rfl⟩
    obtain ⟨b2, hb2⟩ : ∃ b, b = (beginP d s).2 := ⟨_, rfl⟩
    rw [← hb1, ← hb2] at HB
    rw [← hb2] at hb ⊢
    rw [hwb] at HB
    have HB := Lib.hid HB
    have S1 := Lib.hid S1
    clear hb1 hb2 hs hd hwb
    go_enter Tryz.func94, Tryz.ntmps94
    go_wp2_with fail
    refine HI.out.mono ?_
    rintro e w1 ⟨rfl, rfl⟩
    go_wp2_with fail
    refine HB.out.mono ?_
    rintro e w1 ⟨rfl, rfl⟩
    go_wp2_with fail
    refine bodyPost_ret (v := .tuple #[.int .i64 0, .string ⟨#[]⟩, .bool false, .int .i64 b2]) (by simp [results, Tryz.results94, go_sem]) rfl ?_
    exact ⟨⟨rfl, S1.out.right⟩, R1.out⟩
  rw [if_neg hb]
  have hb0 : (beginP d s).2 = 0 := by simpa using hb
  rw [hb0] at HB
  have hshort := begin_short hb0
  obtain ⟨b1, hb1⟩ : ∃ b, b = (beginP d s).1 := ⟨_, rfl⟩
  rw [← hb1] at HB ⊢
  have HT := fun w => (Tryz.strings_TrimRight_one s 47 (by decide) w (by omega)).mono fun e w' (h : _ ∧ _) => (⟨h.1, h.2.symm⟩ : _ ∧ w = w')
  have HLi := fun w => (Tryz.strings_LastIndexByte (wholeB s) 47 (by have := whole_le s; omega) w).mono fun e w' (h : _ ∧ _) => (⟨h.1, h.2.symm⟩ : _ ∧ w = w')
  rw [(cutN_eq s).1] at HLi
  have hiw := (cutN_eq s).2
  have hws := whole_le s
  have HR := walk_calls fb mb wb F hF hN 5000 0 d (aheadB s) true _ R (by omega) (by omega) hd (Nat.le_trans (ahead_le s) hs) (by show 9 * 400 + 256 < 5000; omega) hG S1
  obtain ⟨y, hy⟩ : ∃ y, y = walkR F 5000 0 d (aheadB s) true := ⟨_, rfl⟩
  rw [← hy] at HR ⊢
  unfold aheadB at HR
  unfold partB
  rw [show (⟨(Lib.trimRightB s.data.toList 47).toArray⟩ : ByteArray) = wholeB s from rfl] at HT
  obtain ⟨wh, hwh⟩ : ∃ x, x = wholeB s := ⟨_, rfl⟩
  obtain ⟨i, hi⟩ : ∃ i, i = cutN s := ⟨_, rfl⟩
  rw [← hwh] at HT HLi HR hiw hws ⊢
  rw [← hi] at HLi HR hiw ⊢
  have hiwI : (i : Int) ≤ (wh.size : Int) := by omega
  have hi0 : (0 : Int) ≤ (i : Int) := by omega
  have hiM : (i : Int) ≤ 1000000 := by omega
  have hwr : IntKind.i64.wrap (i : Int) = (i : Int) := IntWalk.i64_in _ (by omega)
  have hwr2 : IntKind.i64.wrap ((i : Int) - 1 + 1) = (i : Int) := by rw [Int.sub_add_cancel]; exact hwr
  have hwM : (wh.size : Int) ≤ 1000000 := by omega
  have hsM : (s.size : Int) ≤ 1000000 := by omega
  have hlt : ((wh.size : Int) < (s.size : Int)) ↔ wh.size < s.size := by omega
  obtain ⟨⟨y1, y2⟩, l2⟩ := y
  dsimp only at HR ⊢
  have HB := Lib.hid (show Calls _ _ #[pp w.heap.size, _, _] _ _ by rw [hwb] at HB; exact HB)
  have HT := Lib.hid HT
  have HLi := Lib.hid HLi
  have HR := Lib.hid (show Calls _ _ #[pp w.heap.size, _, _, _] _ _ by rw [hwb] at HR; exact HR)
  have S1 := Lib.hid S1
  clear hb hb0 hb1 hshort hs hd hy hwh hi hws hlt hiw
  by_cases hz : i = 0
  · rw [if_pos hz]
    have hzI : ¬ (0 : Int) < (i : Int) := by omega
    clear hz HR
    go_enter Tryz.func94, Tryz.ntmps94
    go_wp2_with fail
    refine HI.out.mono ?_
    rintro e w1 ⟨rfl, rfl⟩
    go_wp2_with fail
    refine HB.out.mono ?_
    rintro e w1 ⟨rfl, rfl⟩
    go_wp2_with fail
    refine (HT.out _).mono ?_
    rintro e w1 ⟨rfl, rfl⟩
    go_wp2_with fail
    refine (HLi.out _).mono ?_
    rintro e w1 ⟨rfl, rfl⟩
    go_upto_region 13 with fail
    refine region_plan (S := (fun _ => True)) [(0, true), (1, true), (2, true), (3, true), (4, true), (5, true), (6, true), (7, true), (8, true), (9, true), (10, true), (11, true), (12, true)] (by kernel_rfl) (by kernel_rfl) (by kernel_rfl) ?_ ?_
    · ((try dsimp only); (first | done | (trivial)))
    simp only [planOps, List.map_cons, List.map_nil, List.getElem?_toArray, List.getElem?_cons_zero, List.getElem?_cons_succ]
    repeat (first
      | ((refine plan_yes (v := ?_) (by rfl) ?_ ?_); rotate_left; (focus (intro w hSw; (try dsimp only at hSw); go_simp; try (with_reducible rfl))); (try simp only [Act.put, List.setIfInBounds_toArray, List.set_cons_zero, List.set_cons_succ]))
      | ((refine plan_no (by rfl) ?_); (try simp only [Act.put, List.setIfInBounds_toArray, List.set_cons_zero, List.set_cons_succ]))
      | ((refine plan_step (fun K hK => ?_)); (first | (fail) | (go_simp; (fail); (try go_wp2_with fail)) | go_simp); (refine hK.out _ _ ?_ (fun hHeld => ?_)); (focus ((try dsimp only); (first | done | (trivial)))); clear hK K; (try simp only [Act.put, List.setIfInBounds_toArray, List.set_cons_zero, List.set_cons_succ])))
    refine plan_done ?_
    go_wp2_with fail
    refine bodyPost_ret (v := .tuple #[.int .i64 b1, .string (wh.extract i wh.size), .bool (decide (wh.size < s.size)), .int .i64 0]) (by simp [results, Tryz.results94, go_sem]) rfl ?_
    exact ⟨⟨rfl, S1.out.right.drew⟩, Ran.drewN R1.out 1⟩
  · rw [if_neg hz]
    have hzI : (0 : Int) < (i : Int) := by omega
    clear hz
    by_cases h2 : y2 = 0
    · subst h2
      rw [if_neg (fun h => h rfl)]
      go_enter Tryz.func94, Tryz.ntmps94
      go_wp2_with fail
      refine HI.out.mono ?_
      rintro e w1 ⟨rfl, rfl⟩
      go_wp2_with fail
      refine HB.out.mono ?_
      rintro e w1 ⟨rfl, rfl⟩
      go_wp2_with fail
      refine (HT.out _).mono ?_
      rintro e w1 ⟨rfl, rfl⟩
      go_wp2_with fail
      refine (HLi.out _).mono ?_
      rintro e w1 ⟨rfl, rfl⟩
      go_wp2_with fail
      refine HR.out.mono ?_
      rintro e w2 ⟨⟨rfl, S2⟩, R2⟩
      have S2 := Lib.hid S2
      have R2 := Lib.hid (Below.trans R1.out R2)
      go_upto_region 13 with fail
      refine region_plan (S := (fun _ => True)) [(0, true), (1, true), (2, true), (3, true), (4, true), (5, true), (6, true), (7, true), (8, true), (9, true), (10, true), (11, true), (12, true)] (by kernel_rfl) (by kernel_rfl) (by kernel_rfl) ?_ ?_
      · ((try dsimp only); (first | done | (trivial)))
      simp only [planOps, List.map_cons, List.map_nil, List.getElem?_toArray, List.getElem?_cons_zero, List.getElem?_cons_succ]
      repeat (first
        | ((refine plan_yes (v := ?_) (by rfl) ?_ ?_); rotate_left; (focus (intro w hSw; (try dsimp only at hSw); go_simp; try (with_reducible rfl))); (try simp only [Act.put, List.setIfInBounds_toArray, List.set_cons_zero, List.set_cons_succ]))
        | ((refine plan_no (by rfl) ?_); (try simp only [Act.put, List.setIfInBounds_toArray, List.set_cons_zero, List.set_cons_succ]))
        | ((refine plan_step (fun K hK => ?_)); (first | (fail) | (go_simp; (fail); (try go_wp2_with fail)) | go_simp); (refine hK.out _ _ ?_ (fun hHeld => ?_)); (focus ((try dsimp only); (first | done | (trivial)))); clear hK K; (try simp only [Act.put, List.setIfInBounds_toArray, List.set_cons_zero, List.set_cons_succ])))
      refine plan_done ?_
      go_wp2_with fail
      refine bodyPost_ret (v := .tuple #[.int .i64 y1, .string (wh.extract i wh.size), .bool (decide (wh.size < s.size)), .int .i64 0]) (by simp [results, Tryz.results94, go_sem]) rfl ?_
      exact ⟨⟨rfl, S2.out.right.drew⟩, Ran.drewN R2.out 1⟩
    · rw [if_pos h2]
      go_enter Tryz.func94, Tryz.ntmps94
      go_wp2_with fail
      refine HI.out.mono ?_
      rintro e w1 ⟨rfl, rfl⟩
      go_wp2_with fail
      refine HB.out.mono ?_
      rintro e w1 ⟨rfl, rfl⟩
      go_wp2_with fail
      refine (HT.out _).mono ?_
      rintro e w1 ⟨rfl, rfl⟩
      go_wp2_with fail
      refine (HLi.out _).mono ?_
      rintro e w1 ⟨rfl, rfl⟩
      go_wp2_with fail
      refine HR.out.mono ?_
      rintro e w2 ⟨⟨rfl, S2⟩, R2⟩
      have S2 := Lib.hid S2
      have R2 := Lib.hid (Below.trans R1.out R2)
      go_wp2_with fail
      refine bodyPost_ret (v := .tuple #[.int .i64 0, .string ⟨#[]⟩, .bool false, .int .i64 y2]) (by simp [results, Tryz.results94, go_sem]) rfl ?_
      exact ⟨⟨rfl, S2.out.right⟩, R2.out⟩
end Go.Proofs.YtndjgeohkfenfaaGreatDoor.Hd

namespace Go.Proofs.YtndjgeohkfenfaaGreatDoor.Hd
open Go.RowKit Go.Maps Go.Proofs.YtndjgeohkfenfaaGreatDoor Go.Proofs.YtndjgeohkfenfaaGreatDoor.Hp
set_option linter.unusedVariables false

section
variable {α : Type}
def sumA (f : α → Nat) : List (Int × α) → Nat
  | [] => 0
  | p :: l => f p.2 + sumA f l
theorem sumA_get (f : α → Nat) : ∀ (L : List (Int × α)) (k : Int) (x : α), findA L k = some x → sumA f L = f x + sumA f (delA L k)
  | [], _, _, h => by cases h
  | p :: L, k, x, h => by
    unfold findA at h
    by_cases e : p.1 = k
    · rw [if_pos e] at h
      injection h with h
      unfold delA; rw [if_pos e, ← h]; rfl
    · rw [if_neg e] at h
      unfold delA; rw [if_neg e]
      show f p.2 + sumA f L = f x + (f p.2 + sumA f (delA L k))
      rw [sumA_get f L k x h]; omega
theorem sumA_upd (f : α → Nat) : ∀ (L : List (Int × α)) (k : Int) (x y : α), findA L k = some x → sumA f (updA L k y) = f y + sumA f (delA L k)
  | [], _, _, _, h => by cases h
  | p :: L, k, x, y, h => by
    unfold findA at h
    by_cases e : p.1 = k
    · rw [if_pos e] at h
      unfold delA updA; rw [if_pos e, if_pos e]; rfl
    · rw [if_neg e] at h
      unfold delA updA; rw [if_neg e, if_neg e]
      show f p.2 + sumA f (updA L k y) = f y + (f p.2 + sumA f (delA L k))
      rw [sumA_upd f L k x y h]; omega
theorem keys_upd : ∀ (L : List (Int × α)) (k : Int) (x : α), (updA L k x).map Prod.fst = L.map Prod.fst
  | [], _, _ => rfl
  | p :: L, k, x => by
    unfold updA
    by_cases e : p.1 = k
    · rw [if_pos e]; show k :: _ = p.1 :: _; rw [e]
    · rw [if_neg e]; show p.1 :: _ = p.1 :: _; rw [keys_upd L k x]
theorem del_sub : ∀ (L : List (Int × α)) (k : Int), (delA L k).Sublist L
  | [], _ => List.Sublist.slnil
  | p :: L, k => by
    unfold delA
    by_cases e : p.1 = k
    · rw [if_pos e]; exact List.sublist_cons_self _ _
    · rw [if_neg e]; exact (del_sub L k).cons_cons _
theorem nodup_del {L : List (Int × α)} (h : (L.map Prod.fst).Nodup) (k : Int) : ((delA L k).map Prod.fst).Nodup := h.sublist ((del_sub L k).map _)
theorem nodup_upd {L : List (Int × α)} (h : (L.map Prod.fst).Nodup) (k : Int) (x : α) : ((updA L k x).map Prod.fst).Nodup := by rw [keys_upd]; exact h
theorem find_of_mem : ∀ (L : List (Int × α)) (k : Int), k ∈ L.map Prod.fst → (findA L k).isSome = true
  | [], _, h => by cases h
  | p :: L, k, h => by
    unfold findA
    by_cases e : p.1 = k
    · rw [if_pos e]; rfl
    · rw [if_neg e]
      refine find_of_mem L k ?_
      rcases List.mem_cons.1 h with h | h
      · exact absurd h.symm e
      · exact h
theorem nodup_cons {L : List (Int × α)} (h : (L.map Prod.fst).Nodup) {k : Int} (x : α) (hk : findA L k = none) : (((k, x) :: L).map Prod.fst).Nodup := by
  refine List.nodup_cons.2 ⟨fun hm => ?_, h⟩
  have := find_of_mem L k hm
  rw [hk] at this
  cases this
end
theorem upd_updA : ∀ (L : NL) (k : Int) (x : Nd), upd L k x = updA L k x
  | [], _, _ => rfl
  | p :: L, k, x => by unfold upd updA; rw [upd_updA L k x]
def usedN (L : NL) : Nat := sumA (fun x : Nd => x.text.size) L
theorem used_upd {L : NL} {k : Int} {x : Nd} (h : find L k = some x) (y : Nd) : usedN (upd L k y) + x.text.size = usedN L + y.text.size := by
  rw [find_findA] at h
  unfold usedN
  rw [upd_updA, sumA_upd _ L k x y h, sumA_get _ L k x h]
  omega
/-- A directory has a name. -/
def Ref (F : Fs) (k : Int) (s : ByteArray) (v : Int) : Prop := ∃ x kd, find F.L k = some x ∧ x.kids = some kd ∧ kd.M s = some v
instance lawBA : LawfulBEq ByteArray where
  eq_of_beq {a b} h := by
    obtain ⟨x⟩ := a
    obtain ⟨y⟩ := b
    have h2 : (x == y) = true := h
    rw [eq_of_beq h2]
  rfl {a} := by
    obtain ⟨x⟩ := a
    show (x == x) = true
    exact beq_self_eq_true x
/-- How many names of a list are a node's. -/
def cntN (refs : List (Int × ByteArray × Int)) (k : Int) : Nat := (refs.filter fun r => r.2.2 == k).length
/-- A list of all names; each node knows how many it has. -/
structure CntR (N : Nat) (F : Fs) (refs : List (Int × ByteArray × Int)) : Prop where
  nd : refs.Nodup
  len : refs.length ≤ N
  all : ∀ k s v, Ref F k s v ↔ (k, s, v) ∈ refs
  num : ∀ k x, find F.L k = some x → x.names = (cntN refs k : Int)
theorem CntR.more {N M : Nat} {F : Fs} {refs : List (Int × ByteArray × Int)} (h : CntR N F refs) (hm : N ≤ M) : CntR M F refs := ⟨h.nd, Nat.le_trans h.len hm, h.all, h.num⟩
theorem CntR.noRef {N : Nat} {F : Fs} {refs : List (Int × ByteArray × Int)} (h : CntR N F refs) {k : Int} {x : Nd} (hx : find F.L k = some x) (h0 : x.names = 0) (j : Int) (s : ByteArray) : ¬ Ref F j s k := by
  intro hr
  have hm : ((j, s, k) : Int × ByteArray × Int) ∈ refs.filter fun r => r.2.2 == k := List.mem_filter.2 ⟨(h.all j s k).1 hr, by simp⟩
  have hp := List.length_pos_of_mem hm
  have := h.num k x hx
  unfold cntN at this
  omega
theorem CntR.bound {N : Nat} {F : Fs} {refs : List (Int × ByteArray × Int)} (h : CntR N F refs) {k : Int} {x : Nd} (hx : find F.L k = some x) : 0 ≤ x.names ∧ x.names ≤ (N : Int) := by
  have := h.num k x hx
  have h2 := h.len
  have h3 : cntN refs k ≤ refs.length := List.length_filter_le _ _
  omega
/-- What is true of a tree behind N calls. -/
structure TreeG (N : Nat) (F : Fs) : Prop where
  nd : (F.L.map Prod.fst).Nodup
  rng : ∀ k x, find F.L k = some x → 1 ≤ k ∧ k ≤ 1000000
  root : ∃ x, find F.L 1 = some x ∧ x.kind = 1 ∧ x.par = 1
  kinds : ∀ k x, find F.L k = some x → (x.kind = 1 ∧ ∃ kd, x.kids = some kd) ∨ ((x.kind = 2 ∨ x.kind = 3) ∧ x.kids = none)
  kid : ∀ k s v, Ref F k s v → v ≠ 1 ∧ ∃ y, find F.L v = some y ∧ True
  short : ∀ k s v, Ref F k s v → rightB s = true
  cnt : ∃ refs : List (Int × ByteArray × Int), CntR N F refs
  par : ∀ k x, find F.L k = some x → k ≠ 1 → x.par = 0 ∨ ∃ s, Ref F x.par s k
  bare : ∀ k x s v, find F.L k = some x → k ≠ 1 → x.names = 0 → ¬ Ref F k s v
  each : ∀ k x, find F.L k = some x → x.text.size ≤ 4096 ∧ 0 ≤ x.holds ∧ x.holds ≤ (N : Int) ∧ ∀ kd, x.kids = some kd → kd.sz ≤ N ∧ kd.n ≤ N
  n : F.n ≤ N ∧ F.L.length ≤ N
  used : F.used = (usedN F.L : Int)
  room : F.used ≤ F.room ∧ F.room ≤ 1000000
section
variable {N : Nat} {F : Fs}
theorem TreeG.more (h : TreeG N F) {M : Nat} (hm : N ≤ M) : TreeG M F :=
  { h with each := fun k x hx => by
             obtain ⟨h1, h2, h3, h4⟩ := h.each k x hx
             exact ⟨h1, h2, by omega, fun kd hkd => ⟨Nat.le_trans (h4 kd hkd).1 hm, Nat.le_trans (h4 kd hkd).2 hm⟩⟩,
           cnt := let ⟨r, hr⟩ := h.cnt; ⟨r, hr.more hm⟩,
           n := ⟨Nat.le_trans h.n.1 hm, Nat.le_trans h.n.2 hm⟩ }
theorem TreeG.ok (h : TreeG N F) (hN : N ≤ 1000000) : FsOk F := fun k x hx => by
  obtain ⟨h1, h2, h3, h4⟩ := h.each k x hx
  refine ⟨by omega, ?_, ⟨h2, by omega⟩, ?_⟩
  · cases hk : x.kids with
    | none => exact Nat.zero_le _
    | some kd => exact Nat.le_trans (h4 kd hk).1 hN
  · obtain ⟨r, hr⟩ := h.cnt
    have := hr.bound hx
    omega
theorem TreeG.in_i64 (h : TreeG N F) {k : Int} {x : Nd} (hx : find F.L k = some x) : I64 k := by
  have := h.rng k x hx
  unfold I64; omega
theorem TreeG.nums (h : TreeG N F) : NumsOk F := fun k x hx => by
  refine ⟨?_, fun kd s v hk hv => ?_⟩
  · by_cases e : k = 1
    · subst e
      obtain ⟨y, hy, -, hp⟩ := h.root
      rw [hx] at hy; injection hy with hy; subst hy
      rw [hp]; exact i64_1
    · rcases h.par k x hx e with e | ⟨s, y, kd, hy, -, -⟩
      · rw [e]; exact i64_0
      · exact h.in_i64 hy
  · obtain ⟨-, y, hy, -⟩ := h.kid k s v ⟨x, kd, hx, hk, hv⟩
    exact h.in_i64 hy
theorem isK_in {k kd : Int} (h : isK F k kd = true) : ∃ x, find F.L k = some x ∧ x.kind = kd := by
  unfold isK at h
  cases hx : find F.L k with
  | none => rw [hx] at h; cases h
  | some x => rw [hx] at h; exact ⟨x, rfl, by simpa using h⟩
theorem TreeG.step_in (h : TreeG N F) {d : Int} {s : ByteArray} (hs : (stepP F d s).2 = 0) : ∃ y, find F.L (stepP F d s).1 = some y := by
  have tell : ∀ n : Int, (tellP n).2 = 0 → (n ≠ 0 → ∃ y, find F.L n = some y) → ∃ y, find F.L (tellP n).1 = some y := fun n h1 h2 => by
    unfold tellP at h1 ⊢
    by_cases e : n = 0
    · rw [if_pos e] at h1; cases h1
    · rw [if_neg e]; exact h2 e
  unfold stepP at hs ⊢
  cases hx : find F.L d with
  | none => rw [hx] at hs; cases hs
  | some x =>
    rw [hx] at hs
    dsimp only at hs ⊢
    by_cases hk : x.kind = 1
    · rw [if_pos hk] at hs ⊢
      by_cases h1 : s = dotB
      · rw [if_pos h1] at hs ⊢
        exact tell d hs fun _ => ⟨x, hx⟩
      rw [if_neg h1] at hs ⊢
      by_cases h2 : s = dotsB
      · rw [if_pos h2] at hs ⊢
        refine tell _ hs fun hp => ?_
        by_cases e : d = 1
        · subst e
          obtain ⟨y, hy, -, hpy⟩ := h.root
          rw [hx] at hy; injection hy with hy; subst hy
          rw [hpy]; exact ⟨_, hx⟩
        · rcases h.par d x hx e with e | ⟨s, y, kd, hy, -, -⟩
          · exact absurd e hp
          · exact ⟨y, hy⟩
      rw [if_neg h2] at hs ⊢
      by_cases h3 : rightB s = false
      · rw [if_pos h3] at hs; cases hs
      rw [if_neg h3] at hs ⊢
      refine tell _ hs fun hp => ?_
      unfold kidP at hp ⊢
      cases hkd : x.kids with
      | none => rw [hkd] at hp; exact absurd rfl hp
      | some kd =>
        rw [hkd] at hp
        dsimp only at hp ⊢
        cases hv : kd.M s with
        | none => rw [hv] at hp; exact absurd rfl hp
        | some v =>
          obtain ⟨-, y, hy, -⟩ := h.kid d s v ⟨x, kd, hx, hkd, hv⟩
          exact ⟨y, hy⟩
    · rw [if_neg hk] at hs; cases hs
theorem TreeG.loop_in (h : TreeG N F) : ∀ (g : Nat) (links at_ : Int) (path : List UInt8) (follow : Bool), (∃ y, find F.L at_ = some y) → (loopP F g links at_ path follow).1.2 = 0 → ∃ y, find F.L (loopP F g links at_ path follow).1.1 = some y
  | 0, links, _, _, _, _, hz => by cases hz
  | g + 1, links, at_, path, follow, hl, hz => by
    have ih := h.loop_in g
    have fin : ∀ rest more n lk, (∃ y, find F.L n = some y) → (finP F g rest more follow n lk).1.2 = 0 → ∃ y, find F.L (finP F g rest more follow n lk).1.1 = some y := by
      intro rest more n lk h8 h9
      unfold finP at h9 ⊢
      by_cases h1 : more = false
      · rw [if_pos h1]; exact h8
      · rw [if_neg h1] at h9 ⊢
        by_cases h2 : isK F n 1 = false
        · rw [if_pos h2] at h9; cases h9
        · rw [if_neg h2] at h9 ⊢
          exact ih _ _ _ _ h8 h9
    obtain ⟨p, r, m, hc⟩ : ∃ p r m, Lib.cut (Lib.trimLeftB path 47) [47] = (p, r, m) := ⟨_, _, _, rfl⟩
    by_cases hp : p = []
    · subst hp
      rw [loop_end hc]
      exact hl
    by_cases hs : (stepP F at_ ⟨p.toArray⟩).2 = 0
    · cases hk : (isK F (stepP F at_ ⟨p.toArray⟩).1 3 && (m || follow)) with
      | false =>
        rw [loop_plain hc hp hs hk] at hz ⊢
        exact fin _ _ _ _ (h.step_in hs) hz
      | true =>
        by_cases h8 : 8 < links + 1
        · rw [loop_many hc hp hs hk h8] at hz
          cases hz
        · rw [loop_link hc hp hs hk h8 _ rfl] at hz ⊢
          by_cases hw : (walkR F g (links + 1) at_ (textOf F (stepP F at_ ⟨p.toArray⟩).1) true).1.2 ≠ 0
          · rw [if_pos hw] at hz
            exact absurd hz hw
          · rw [if_neg hw] at hz ⊢
            refine fin _ _ _ _ ?_ hz
            unfold walkR at hw ⊢
            by_cases hb : (beginP at_ (textOf F (stepP F at_ ⟨p.toArray⟩).1)).2 ≠ 0
            · rw [if_pos hb] at hw
              exact absurd hb (fun e => hw e)
            · rw [if_neg hb] at hw ⊢
              refine ih _ _ _ _ ?_ (by simpa using hw)
              unfold beginP at hb ⊢
              split
              · rename_i e; rw [if_pos e] at hb; exact absurd (by decide : ((0 : Int), (10 : Int)).2 ≠ 0) hb
              · rename_i e1
                rw [if_neg e1] at hb
                split
                · rename_i e; rw [if_pos e] at hb; exact absurd (by decide : ((0 : Int), (21 : Int)).2 ≠ 0) hb
                · split
                  · obtain ⟨y, hy, -⟩ := h.root; exact ⟨y, hy⟩
                  · exact hl
    · rw [loop_bad hc hp hs] at hz
      exact absurd hz hs
theorem TreeG.begin_in (h : TreeG N F) {d : Int} (s : ByteArray) (hd : ∃ y, find F.L d = some y) (hb : ¬ (beginP d s).2 ≠ 0) : ∃ y, find F.L (beginP d s).1 = some y := by
  unfold beginP at hb ⊢
  split
  · rename_i e; rw [if_pos e] at hb; exact absurd (by decide : ((0 : Int), (10 : Int)).2 ≠ 0) hb
  · rename_i e1
    rw [if_neg e1] at hb
    split
    · rename_i e; rw [if_pos e] at hb; exact absurd (by decide : ((0 : Int), (21 : Int)).2 ≠ 0) hb
    · split
      · obtain ⟨y, hy, -⟩ := h.root; exact ⟨y, hy⟩
      · exact hd
theorem TreeG.walkR_in (h : TreeG N F) (g : Nat) (links d : Int) (s : ByteArray) (follow : Bool) (hd : ∃ y, find F.L d = some y) (hz : (walkR F g links d s follow).1.2 = 0) : ∃ y, find F.L (walkR F g links d s follow).1.1 = some y := by
  unfold walkR at hz ⊢
  by_cases hb : (beginP d s).2 ≠ 0
  · rw [if_pos hb] at hz; exact absurd hz hb
  · rw [if_neg hb] at hz ⊢
    exact h.loop_in _ _ _ _ _ (h.begin_in s hd hb) hz
theorem TreeG.last_in (h : TreeG N F) {d : Int} {s : ByteArray} (hz : (lastP F d s).2.2.2 = 0) : ∃ y, find F.L (lastP F d s).1 = some y := by
  unfold lastP at hz ⊢
  by_cases hk : isK F d 1 = false
  · rw [if_pos hk] at hz; cases hz
  · rw [if_neg hk] at hz ⊢
    obtain ⟨x, hx, -⟩ := isK_in (show isK F d 1 = true by simpa using hk)
    by_cases hb : (beginP d s).2 ≠ 0
    · rw [if_pos hb] at hz; exact absurd hz hb
    rw [if_neg hb] at hz ⊢
    by_cases hc : cutN s = 0
    · rw [if_pos hc]; exact h.begin_in s ⟨x, hx⟩ hb
    rw [if_neg hc] at hz ⊢
    by_cases hw : (walkR F 5000 0 d (aheadB s) true).1.2 ≠ 0
    · rw [if_pos hw] at hz; exact absurd hz hw
    rw [if_neg hw]
    exact h.walkR_in _ _ _ _ _ ⟨x, hx⟩ (by simpa using hw)
end
end Go.Proofs.YtndjgeohkfenfaaGreatDoor.Hd

namespace Go.Proofs.YtndjgeohkfenfaaGreatDoor.Hd
open Go.RowKit Go.Maps Go.Proofs.YtndjgeohkfenfaaGreatDoor Go.Proofs.YtndjgeohkfenfaaGreatDoor.Hp
set_option linter.unusedVariables false

section
variable {N : Nat} {F : Fs}
/-- A node turned: its bytes, how often it is held. -/
theorem TreeG.put (h : TreeG N F) {k : Int} {x : Nd} (hx : find F.L k = some x) (x' : Nd) (u : Int) (e1 : x'.kind = x.kind) (e2 : x'.kids = x.kids) (e3 : x'.par = x.par) (e4 : x'.names = x.names)
    (ht : x'.text.size ≤ 4096) (hh : 0 ≤ x'.holds ∧ x'.holds ≤ (N : Int) + 1) (hu : u + (x.text.size : Int) = F.used + (x'.text.size : Int)) (hr : u ≤ F.room) : TreeG (N + 1) { F.put k x' with used := u } := by
  have hf : ∀ j, find (upd F.L k x') j = if j = k then some x' else find F.L j := fun j => find_upd F.L k j x' (by rw [hx]; rfl)
  have back : ∀ j z, find (upd F.L k x') j = some z → ∃ z0, find F.L j = some z0 ∧ z.kind = z0.kind ∧ z.kids = z0.kids ∧ z.par = z0.par ∧ z.names = z0.names := fun j z hz => by
    rw [hf] at hz
    by_cases e : j = k
    · rw [if_pos e] at hz; injection hz with hz; subst hz
      exact ⟨x, by rw [e]; exact hx, e1, e2, e3, e4⟩
    · rw [if_neg e] at hz; exact ⟨z, hz, rfl, rfl, rfl, rfl⟩
  have forth : ∀ j z0, find F.L j = some z0 → ∃ z, find (upd F.L k x') j = some z ∧ z.kind = z0.kind ∧ z.kids = z0.kids ∧ z.par = z0.par ∧ z.names = z0.names := fun j z0 hz => by
    rw [hf]
    by_cases e : j = k
    · subst e
      rw [hx] at hz; injection hz with hz; subst hz
      exact ⟨x', if_pos rfl, e1, e2, e3, e4⟩
    · exact ⟨z0, by rw [if_neg e]; exact hz, rfl, rfl, rfl, rfl⟩
  have ref : ∀ j s v, Ref { F.put k x' with used := u } j s v ↔ Ref F j s v := fun j s v => by
    constructor
    · rintro ⟨z, kd, hz, hk, hv⟩
      obtain ⟨z0, h0, -, g, -, -⟩ := back j z hz
      exact ⟨z0, kd, h0, by rw [← g]; exact hk, hv⟩
    · rintro ⟨z, kd, hz, hk, hv⟩
      obtain ⟨z0, h0, -, g, -, -⟩ := forth j z hz
      exact ⟨z0, kd, h0, by rw [g]; exact hk, hv⟩
  refine { nd := ?_, rng := fun j z hz => ?_, root := ?_, kinds := fun j z hz => ?_, kid := fun j s v hr => ?_, short := fun j s v hr => h.short j s v ((ref j s v).1 hr), cnt := ?_, par := fun j z hz hj => ?_, bare := fun j z s v hz hj hn => ?_, each := fun j z hz => ?_, n := ?_, used := ?_, room := ⟨hr, h.room.2⟩ }
  · show ((upd F.L k x').map Prod.fst).Nodup
    rw [upd_updA, keys_upd]; exact h.nd
  · obtain ⟨z0, h0, -⟩ := back j z hz
    exact h.rng j z0 h0
  · obtain ⟨y, hy, hk, hp⟩ := h.root
    obtain ⟨z, hz, g1, -, g3, -⟩ := forth 1 y hy
    exact ⟨z, hz, by rw [g1]; exact hk, by rw [g3]; exact hp⟩
  · obtain ⟨z0, h0, g1, g2, -, -⟩ := back j z hz
    rw [g1, g2]; exact h.kinds j z0 h0
  · obtain ⟨h1, y, hy, hn⟩ := h.kid j s v ((ref j s v).1 hr)
    obtain ⟨z, hz, -, -, -, g⟩ := forth v y hy
    exact ⟨h1, z, hz, trivial⟩
  · obtain ⟨refs, hr⟩ := h.cnt
    exact ⟨refs, hr.nd, Nat.le_succ_of_le hr.len, fun a b c => (ref a b c).trans (hr.all a b c), fun j z hz => by
      obtain ⟨z0, h0, -, -, -, g⟩ := back j z hz
      rw [g]; exact hr.num j z0 h0⟩
  · obtain ⟨z0, h0, -, -, g3, -⟩ := back j z hz
    rw [g3]
    rcases h.par j z0 h0 hj with e | ⟨s, e⟩
    · exact .inl e
    · exact .inr ⟨s, (ref _ _ _).2 e⟩
  · obtain ⟨z0, h0, -, -, -, g⟩ := back j z hz
    rw [ref]
    exact h.bare j z0 s v h0 hj (by rw [← g]; exact hn)
  · have hz := (hf j).symm.trans hz
    by_cases e : j = k
    · rw [if_pos e] at hz; injection hz with hz; subst hz
      refine ⟨ht, hh.1, by have := hh.2; omega, fun kd hkd => ?_⟩
      rw [e2] at hkd
      obtain ⟨-, -, -, h4⟩ := h.each k x hx
      exact ⟨Nat.le_succ_of_le (h4 kd hkd).1, Nat.le_succ_of_le (h4 kd hkd).2⟩
    · rw [if_neg e] at hz
      obtain ⟨h1, h2, h3, h4⟩ := h.each j z hz
      exact ⟨h1, h2, by omega, fun kd hkd => ⟨Nat.le_succ_of_le (h4 kd hkd).1, Nat.le_succ_of_le (h4 kd hkd).2⟩⟩
  · exact ⟨Nat.le_succ_of_le h.n.1, by show (upd F.L k x').length ≤ _; rw [upd_len]; exact Nat.le_succ_of_le h.n.2⟩
  · show u = (usedN (upd F.L k x') : Int)
    have := used_upd hx x'
    have := h.used
    omega
/-- A tree with one node more. -/
def madeG (F : Fs) (dir : Int) (x : Nd) (kd : Kd) (s : ByteArray) (g : Nat) (y : Nd) : Fs :=
  { F with L := ((g : Int), y) :: upd F.L dir { x with kids := some { kd with M := K.putM kd.M s (g : Int), sz := kd.sz + 1, n := kd.n + 1 } }, used := F.used + (y.text.size : Int), n := F.n + 1 }
/-- What a new node is like. -/
structure NewN (dir : Int) (y : Nd) : Prop where
  kinds : (y.kind = 1 ∧ ∃ kd, y.kids = some kd) ∨ ((y.kind = 2 ∨ y.kind = 3) ∧ y.kids = none)
  kids : ∀ kd, y.kids = some kd → (∀ s, kd.M s = none) ∧ kd.sz = 0 ∧ kd.n = 0
  par : y.par = 0 ∨ y.par = dir
  names : y.names = 1
  holds : y.holds = 0
  text : y.text.size ≤ 4096
theorem find_madeG {dir : Int} {x : Nd} (hx : find F.L dir = some x) (kd : Kd) (s : ByteArray) (g : Nat) (y : Nd) (j : Int) :
    find (madeG F dir x kd s g y).L j = if j = (g : Int) then some y else if j = dir then some { x with kids := some { kd with M := K.putM kd.M s (g : Int), sz := kd.sz + 1, n := kd.n + 1 } } else find F.L j := by
  unfold madeG
  dsimp only
  rw [find_cons, find_upd F.L dir j _ (by rw [hx]; rfl)]
theorem ref_madeG {dir : Int} {x : Nd} {kd : Kd} {s : ByteArray} {g : Nat} {y : Nd} (hx : find F.L dir = some x) (hk : x.kids = some kd) (hM : kd.M s = none) (hg : find F.L (g : Int) = none) (hy : NewN dir y) (j : Int) (t : ByteArray) (v : Int) :
    Ref (madeG F dir x kd s g y) j t v ↔ (j = dir ∧ t = s ∧ v = (g : Int)) ∨ Ref F j t v := by
  have hf := find_madeG hx kd s g y
  have hdg : dir ≠ (g : Int) := fun e => by rw [e, hg] at hx; cases hx
  constructor
  · rintro ⟨z, k0, hz, hk0, hv⟩
    rw [hf] at hz
    by_cases e1 : j = (g : Int)
    · rw [if_pos e1] at hz; injection hz with hz; subst hz
      rw [(hy.kids k0 hk0).1 t] at hv; cases hv
    rw [if_neg e1] at hz
    by_cases e2 : j = dir
    · rw [if_pos e2] at hz; injection hz with hz; subst hz
      injection hk0 with hk0; subst hk0
      have hv : (if t = s then some (g : Int) else kd.M t) = some v := hv
      by_cases e3 : t = s
      · rw [if_pos e3] at hv; injection hv with hv
        exact .inl ⟨e2, e3, hv.symm⟩
      · rw [if_neg e3] at hv
        exact .inr ⟨x, kd, by rw [e2]; exact hx, hk, hv⟩
    · rw [if_neg e2] at hz
      exact .inr ⟨z, k0, hz, hk0, hv⟩
  · rintro (⟨e1, e2, e3⟩ | ⟨z, k0, hz, hk0, hv⟩)
    · subst e1 e2 e3
      exact ⟨_, _, by rw [hf, if_neg hdg, if_pos rfl], rfl, if_pos rfl⟩
    · have e1 : j ≠ (g : Int) := fun e => by rw [e, hg] at hz; cases hz
      by_cases e2 : j = dir
      · subst e2
        rw [hx] at hz; injection hz with hz; subst hz
        rw [hk] at hk0; injection hk0 with hk0; subst hk0
        refine ⟨_, _, by rw [hf, if_neg e1, if_pos rfl], rfl, ?_⟩
        show (if t = s then some (g : Int) else kd.M t) = some v
        rw [if_neg (fun e => by rw [e, hM] at hv; cases hv)]
        exact hv
      · exact ⟨z, k0, by rw [hf, if_neg e1, if_neg e2]; exact hz, hk0, hv⟩
theorem TreeG.make (h : TreeG N F) (hN : N ≤ 900000) {dir : Int} {x : Nd} {kd : Kd} {s : ByteArray} {g : Nat} {y : Nd} (hx : find F.L dir = some x) (hk1 : x.kind = 1) (hk : x.kids = some kd) (hd : dir = 1 ∨ x.names ≠ 0) (hsr : rightB s = true) (hM : kd.M s = none) (hg : FreeN F.L g) (hy : NewN dir y) (hr : F.used + (y.text.size : Int) ≤ F.room) :
    TreeG (N + 1) (madeG F dir x kd s g y) := by
  have hf := find_madeG hx kd s g y
  have ref := ref_madeG hx hk hM hg.none hy
  have hdg : dir ≠ (g : Int) := fun e => by have := hg.none; rw [← e, hx] at this; cases this
  have hg1 : (1 : Int) ≠ (g : Int) := fun e => by
    obtain ⟨r, hr, -⟩ := h.root
    have := hg.none
    rw [← e, hr] at this; cases this
  have forth : ∀ j z0, find F.L j = some z0 → ∃ z, find (madeG F dir x kd s g y).L j = some z ∧ z.kind = z0.kind ∧ z.par = z0.par ∧ z.names = z0.names := fun j z0 hz => by
    rw [hf, if_neg (fun e => by have := hg.none; rw [← e, hz] at this; cases this)]
    by_cases e : j = dir
    · subst e
      rw [hx] at hz; injection hz with hz; subst hz
      exact ⟨_, if_pos rfl, rfl, rfl, rfl⟩
    · exact ⟨z0, by rw [if_neg e]; exact hz, rfl, rfl, rfl⟩
  have cas : ∀ j z, find (madeG F dir x kd s g y).L j = some z → (j = (g : Int) ∧ z = y) ∨ (j = dir ∧ z = { x with kids := some { kd with M := K.putM kd.M s (g : Int), sz := kd.sz + 1, n := kd.n + 1 } }) ∨ (j ≠ dir ∧ find F.L j = some z) := fun j z hz => by
    rw [hf] at hz
    split at hz
    · rename_i e; injection hz with hz; exact .inl ⟨e, hz.symm⟩
    · split at hz
      · rename_i e; injection hz with hz; exact .inr (.inl ⟨e, hz.symm⟩)
      · rename_i e; exact .inr (.inr ⟨e, hz⟩)
  obtain ⟨hx1, hx2, hx3, hx4⟩ := h.each dir x hx
  refine { nd := ?_, rng := fun j z hz => ?_, root := ?_, kinds := fun j z hz => ?_, kid := fun j t v hr => ?_, short := fun j t v hr => (by rcases (ref j t v).1 hr with ⟨-, e, -⟩ | e; exact e ▸ hsr; exact h.short j t v e), cnt := ?_, par := fun j z hz hj => ?_, bare := fun j z t v hz hj hn => ?_, each := fun j z hz => ?_, n := ?_, used := ?_, room := ⟨hr, h.room.2⟩ }
  · show ((((g : Int), y) :: upd F.L dir _).map Prod.fst).Nodup
    rw [upd_updA]
    refine nodup_cons (nodup_upd h.nd _ _) y ?_
    rw [findA_upd F.L dir (g : Int) _ (by rw [← find_findA, hx]; rfl), if_neg (fun e => hdg e.symm), ← find_findA]
    exact hg.none
  · rcases cas j z hz with ⟨e, -⟩ | ⟨e, -⟩ | ⟨-, e⟩
    · have := hg.pos; have := hg.le; have := h.n.2
      omega
    · rw [e]; exact h.rng dir x hx
    · exact h.rng j z e
  · obtain ⟨r, hr, hk, hp⟩ := h.root
    obtain ⟨z, hz, g1, g2, -⟩ := forth 1 r hr
    exact ⟨z, hz, by rw [g1]; exact hk, by rw [g2]; exact hp⟩
  · rcases cas j z hz with ⟨-, e⟩ | ⟨-, e⟩ | ⟨-, e⟩
    · rw [e]; exact hy.kinds
    · rw [e]; exact .inl ⟨hk1, _, rfl⟩
    · exact h.kinds j z e
  · rcases (ref j t v).1 hr with ⟨-, -, e⟩ | e
    · rw [e]
      exact ⟨fun e => hg1 e.symm, y, by rw [hf, if_pos rfl], trivial⟩
    · obtain ⟨h1, y0, hy0, hn⟩ := h.kid j t v e
      obtain ⟨z, hz, -, -, g3⟩ := forth v y0 hy0
      exact ⟨h1, z, hz, trivial⟩
  · obtain ⟨refs, hr⟩ := h.cnt
    have hno : ∀ a t, ¬ Ref F a t (g : Int) := fun a t hr => by
      obtain ⟨-, y0, hy0, -⟩ := h.kid a t _ hr
      rw [hg.none] at hy0; cases hy0
    have hgz : cntN refs (g : Int) = 0 := by
      unfold cntN
      rw [List.length_eq_zero_iff, List.filter_eq_nil_iff]
      rintro ⟨a, t, v⟩ hm e
      have e : v = (g : Int) := by simpa using e
      subst e
      exact hno a t ((hr.all a t _).2 hm)
    refine ⟨(dir, s, (g : Int)) :: refs, List.nodup_cons.2 ⟨fun hm => hno dir s ((hr.all _ _ _).2 hm), hr.nd⟩, Nat.succ_le_succ hr.len, fun a b c => ?_, fun j z hz => ?_⟩
    · rw [ref, hr.all, List.mem_cons]
      constructor
      · rintro (⟨e1, e2, e3⟩ | e)
        · subst e1 e2 e3; exact .inl rfl
        · exact .inr e
      · rintro (e | e)
        · injection e with e1 e2; injection e2 with e2 e3
          exact .inl ⟨e1, e2, e3⟩
        · exact .inr e
    · have hc : ∀ k : Int, cntN ((dir, s, (g : Int)) :: refs) k = if k = (g : Int) then cntN refs k + 1 else cntN refs k := fun k => by
        unfold cntN
        rw [List.filter_cons]
        by_cases e : k = (g : Int)
        · subst e; simp
        · rw [if_neg e, if_neg (by simp; exact fun e2 => e e2.symm)]
      rw [hc]
      rcases cas j z hz with ⟨e1, e⟩ | ⟨e1, e⟩ | ⟨e1, e⟩
      · rw [e, e1, if_pos rfl, hgz, hy.names]; rfl
      · rw [e, e1, if_neg hdg]
        exact hr.num dir x hx
      · rw [if_neg (fun e2 => by rw [e2, hg.none] at e; cases e)]
        exact hr.num j z e
  · rcases cas j z hz with ⟨e1, e⟩ | ⟨e1, e⟩ | ⟨-, e⟩
    · rw [e, e1]
      rcases hy.par with e2 | e2
      · exact .inl e2
      · rw [e2]; exact .inr ⟨s, (ref _ _ _).2 (.inl ⟨rfl, rfl, rfl⟩)⟩
    · rw [e]
      show x.par = 0 ∨ ∃ t, Ref _ x.par t j
      rcases h.par dir x hx (by rw [← e1]; exact hj) with e2 | ⟨t, e2⟩
      · exact .inl e2
      · exact .inr ⟨t, (ref _ _ _).2 (.inr (by rw [e1]; exact e2))⟩
    · rcases h.par j z e hj with e2 | ⟨t, e2⟩
      · exact .inl e2
      · exact .inr ⟨t, (ref _ _ _).2 (.inr e2)⟩
  · rcases cas j z hz with ⟨-, e⟩ | ⟨e1, e⟩ | ⟨e1, e⟩
    · rw [e, hy.names] at hn; cases hn
    · rcases hd with e2 | e2
      · exact absurd (e1.trans e2) hj
      · rw [e] at hn; have hn : x.names = 0 := hn
        exact absurd hn e2
    · intro hr
      rcases (ref j t v).1 hr with ⟨a1, -, -⟩ | a
      · exact e1 a1
      · exact h.bare j z t v e hj hn a
  · rcases cas j z hz with ⟨-, e⟩ | ⟨-, e⟩ | ⟨-, e⟩
    · rw [e]
      refine ⟨hy.text, by rw [hy.holds]; exact Int.le_refl _, by rw [hy.holds]; omega, fun kd' hkd => ?_⟩
      obtain ⟨-, a, b⟩ := hy.kids kd' hkd
      rw [a, b]; exact ⟨Nat.zero_le _, Nat.zero_le _⟩
    · rw [e]
      refine ⟨hx1, hx2, by show x.holds ≤ _; omega, fun kd' hkd => ?_⟩
      injection hkd with hkd; subst hkd
      exact ⟨Nat.succ_le_succ (hx4 kd hk).1, Nat.succ_le_succ (hx4 kd hk).2⟩
    · obtain ⟨h1, h2, h3, h4⟩ := h.each j z e
      exact ⟨h1, h2, by omega, fun kd hkd => ⟨Nat.le_succ_of_le (h4 kd hkd).1, Nat.le_succ_of_le (h4 kd hkd).2⟩⟩
  · refine ⟨Nat.succ_le_succ h.n.1, ?_⟩
    show (((g : Int), y) :: upd F.L dir _).length ≤ _
    rw [List.length_cons, upd_len]; exact Nat.succ_le_succ h.n.2
  · show F.used + (y.text.size : Int) = (usedN (((g : Int), y) :: upd F.L dir { x with kids := some { kd with M := K.putM kd.M s (g : Int), sz := kd.sz + 1, n := kd.n + 1 } }) : Int)
    have h1 := used_upd hx { x with kids := some { kd with M := K.putM kd.M s (g : Int), sz := kd.sz + 1, n := kd.n + 1 } }
    have h2 := h.used
    have h3 : usedN (((g : Int), y) :: upd F.L dir { x with kids := some { kd with M := K.putM kd.M s (g : Int), sz := kd.sz + 1, n := kd.n + 1 } }) = y.text.size + usedN (upd F.L dir { x with kids := some { kd with M := K.putM kd.M s (g : Int), sz := kd.sz + 1, n := kd.n + 1 } }) := rfl
    dsimp only at h1
    omega
/-- A tree with a name less. -/
def takenF (F : Fs) (d : Int) (x : Nd) (kd : Kd) (s : ByteArray) (n : Int) (y : Nd) : Fs :=
  { F with L := upd (upd F.L d { x with kids := some { kd with M := K.delM kd.M s, sz := kd.sz - 1 } }) n { y with names := y.names - 1, par := 0 } }
/-- A tree with a node less. -/
def goneF (F : Fs) (k : Int) (x : Nd) : Fs := { F with L := delA F.L k, used := F.used - (x.text.size : Int) }
theorem find_gone (h : (F.L.map Prod.fst).Nodup) (k : Int) (x : Nd) (j : Int) : find (goneF F k x).L j = if j = k then none else find F.L j := by
  unfold goneF
  dsimp only
  rw [find_findA, findA_del F.L k j h, find_findA]
theorem TreeG.gone (h : TreeG N F) {k : Int} {x : Nd} (hx : find F.L k = some x) (hk : k ≠ 1) (hn : x.names = 0) : TreeG N (goneF F k x) := by
  have hf := find_gone h.nd k x
  have cas : ∀ j z, find (goneF F k x).L j = some z → j ≠ k ∧ find F.L j = some z := fun j z hz => by
    rw [hf] at hz
    split at hz
    · cases hz
    · rename_i e; exact ⟨e, hz⟩
  have forth : ∀ j z, j ≠ k → find F.L j = some z → find (goneF F k x).L j = some z := fun j z hj hz => by rw [hf, if_neg hj]; exact hz
  have ref : ∀ j s v, Ref (goneF F k x) j s v ↔ Ref F j s v := fun j s v => by
    constructor
    · rintro ⟨z, kd, hz, hk, hv⟩
      exact ⟨z, kd, (cas j z hz).2, hk, hv⟩
    · intro hr
      have hj : j ≠ k := fun e => h.bare k x s v hx hk hn (by rw [← e]; exact hr)
      obtain ⟨z, kd, hz, hk, hv⟩ := hr
      exact ⟨z, kd, forth j z hj hz, hk, hv⟩
  refine { nd := nodup_del h.nd k, rng := fun j z hz => h.rng j z (cas j z hz).2, root := ?_, kinds := fun j z hz => h.kinds j z (cas j z hz).2, kid := fun j t v hr => ?_, short := fun j t v hr => h.short j t v ((ref j t v).1 hr), cnt := ?_, par := fun j z hz hj => ?_, bare := fun j z t v hz hj hn => ?_, each := fun j z hz => h.each j z (cas j z hz).2, n := ?_, used := ?_, room := ?_ }
  · obtain ⟨r, hr, hk1, hp⟩ := h.root
    exact ⟨r, forth 1 r (fun e => hk e.symm) hr, hk1, hp⟩
  · obtain ⟨h1, y1, hy1, hn1⟩ := h.kid j t v ((ref _ _ _).1 hr)
    obtain ⟨refs, hrf⟩ := h.cnt
    refine ⟨h1, y1, forth v y1 (fun e => ?_) hy1, trivial⟩
    subst e
    exact hrf.noRef hx hn j t ((ref _ _ _).1 hr)
  · obtain ⟨refs, hrf⟩ := h.cnt
    exact ⟨refs, hrf.nd, hrf.len, fun a b c => (ref a b c).trans (hrf.all a b c), fun j z hz => hrf.num j z (cas j z hz).2⟩
  · rcases h.par j z (cas j z hz).2 hj with e | ⟨s, e⟩
    · exact .inl e
    · exact .inr ⟨s, (ref _ _ _).2 e⟩
  · rw [ref]; exact h.bare j z t v (cas j z hz).2 hj hn
  · refine ⟨h.n.1, ?_⟩
    have := delA_len F.L k (by rw [← find_findA, hx]; rfl)
    have := h.n.2
    show (delA F.L k).length ≤ N
    omega
  · show F.used - (x.text.size : Int) = (usedN (delA F.L k) : Int)
    have h1 : usedN F.L = x.text.size + usedN (delA F.L k) := sumA_get _ F.L k x (by rw [← find_findA]; exact hx)
    have := h.used
    omega
  · refine ⟨?_, h.room.2⟩
    show F.used - (x.text.size : Int) ≤ F.room
    have := h.room.1
    omega
/-- A node that nothing names or holds goes. -/
def sweepG (F : Fs) (k : Int) (x : Nd) : Fs := if k ≠ 1 ∧ x.names = 0 ∧ x.holds = 0 then goneF F k x else F
theorem TreeG.sweep (h : TreeG N F) {k : Int} {x : Nd} (hx : find F.L k = some x) : TreeG N (sweepG F k x) := by
  unfold sweepG
  split
  · rename_i e; exact h.gone hx e.1 e.2.1
  · exact h
def dropG (F : Fs) (k : Int) : Fs := match find F.L k with
  | none => F
  | some x => if x.holds = 0 then F else sweepG (F.put k { x with holds := x.holds - 1 }) k { x with holds := x.holds - 1 }
theorem find_put' (F : Fs) (k j : Int) (x' : Nd) (h : (find F.L k).isSome = true) : find (F.put k x').L j = if j = k then some x' else find F.L j := find_upd F.L k j x' h
theorem TreeG.hold (h : TreeG N F) (k : Int) : TreeG (N + 1) (holdP F k) := by
  unfold holdP
  cases hx : find F.L k with
  | none => exact h.more (Nat.le_succ _)
  | some x =>
    obtain ⟨h1, h2, h3, h4⟩ := h.each k x hx
    exact h.put hx { x with holds := x.holds + 1 } F.used rfl rfl rfl rfl h1 ⟨by show (0 : Int) ≤ x.holds + 1; omega, by show x.holds + 1 ≤ _; omega⟩ rfl h.room.1
theorem TreeG.drop (h : TreeG N F) (k : Int) : TreeG (N + 1) (dropG F k) := by
  unfold dropG
  cases hx : find F.L k with
  | none => exact h.more (Nat.le_succ _)
  | some x =>
    dsimp only
    obtain ⟨h1, h2, h3, h4⟩ := h.each k x hx
    split
    · exact h.more (Nat.le_succ _)
    · rename_i h0
      have hp : TreeG (N + 1) (F.put k { x with holds := x.holds - 1 }) := h.put hx { x with holds := x.holds - 1 } F.used rfl rfl rfl rfl h1 ⟨by show (0 : Int) ≤ x.holds - 1; omega, by show x.holds - 1 ≤ _; omega⟩ rfl h.room.1
      exact hp.sweep (by rw [find_put' F k k _ (by rw [hx]; rfl), if_pos rfl])
end
end Go.Proofs.YtndjgeohkfenfaaGreatDoor.Hd

namespace Go.Proofs.YtndjgeohkfenfaaGreatDoor.Hd
open Go.RowKit Go.Maps Go.Proofs.YtndjgeohkfenfaaGreatDoor Go.Proofs.YtndjgeohkfenfaaGreatDoor.Hp
set_option linter.unusedVariables false
attribute [local go_sem] Oper.semAt_some

end Go.Proofs.YtndjgeohkfenfaaGreatDoor.Hd

namespace Go.Proofs.YtndjgeohkfenfaaGreatDoor.Hd
open Go.RowKit Go.Maps Go.Proofs.YtndjgeohkfenfaaGreatDoor Go.Proofs.YtndjgeohkfenfaaGreatDoor.Hp
set_option linter.unusedVariables false
attribute [local go_sem] Oper.semAt_some

/-- What Remove does. -/
inductive RemR (F : Fs) : Int → Fs → Prop
  | no (er : Int) : er ≠ 0 → er ≠ 43 → RemR F er F
  | ok (dir : Int) (x : Nd) (kd : Kd) (part : ByteArray) (n : Int) (y : Nd) : find F.L dir = some x → x.kids = some kd → kd.M part = some n → find F.L n = some y → (∀ t v, ¬ Ref F n t v) → RemR F 0 (sweepG (takenF F dir x kd part n y) n { y with names := y.names - 1, par := 0 })
end Go.Proofs.YtndjgeohkfenfaaGreatDoor.Hd

