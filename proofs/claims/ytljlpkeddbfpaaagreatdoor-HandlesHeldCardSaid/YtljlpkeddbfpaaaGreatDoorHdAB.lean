/- What HandlesMore's writes leave, in plain Lean. -/
import Derived.Test.YtljlpkeddbfpaaaGreatDoorHdAA
namespace Go.Proofs.YtljlpkeddbfpaaaGreatDoor.Hd
open Go.RowKit Go.Maps Go.Proofs.YtljlpkeddbfpaaaGreatDoor Go.Proofs.YtljlpkeddbfpaaaGreatDoor.Hp
set_option linter.unusedVariables false

/-- The text behind a write of d at a, as the statement makes it. -/
def nowB (T : ByteArray) (a : Nat) (d : ByteArray) : ByteArray :=
  if (T.extract 0 a ++ d).size < T.size then (T.extract 0 a ++ d) ++ T.extract (T.extract 0 a ++ d).size T.size else T.extract 0 a ++ d
structure Mo (F : Fs) (b : Nat) (T : ByteArray) (h : Int) : Prop where
  ok : FsOk F
  at3 : find F.L 3 = some ⟨b, 2, T, none, 0, 1, h⟩
  used : F.used = 4 + (T.size : Int)
  room : F.room = 60
theorem size_cut (T : ByteArray) (a : Nat) (h : a ≤ T.size) : (T.extract 0 a).size = a := by rw [ByteArray.size_extract]; omega
theorem cut_all (T : ByteArray) : T.extract 0 T.size = T := by
  apply ByteArray.ext
  rw [ByteArray.data_extract]
  show T.data.extract 0 T.data.size = T.data
  simp
theorem cut_join (T : ByteArray) (a : Nat) (h : a ≤ T.size) : T.extract 0 a ++ T.extract a T.size = T := by
  apply ByteArray.ext
  rw [ByteArray.data_append, ByteArray.data_extract, ByteArray.data_extract]
  show T.data.extract 0 a ++ T.data.extract a T.data.size = T.data
  rw [Array.extract_append_extract]
  simp
  exact .inr (Nat.le_max_right _ _)
theorem empty_add (T : ByteArray) : T ++ (⟨#[]⟩ : ByteArray) = T := by
  apply ByteArray.ext; rw [ByteArray.data_append]; simp
theorem zeros0 : zerosB 0 = ⟨#[]⟩ := rfl
theorem cut_end (T : ByteArray) : T.extract T.size T.size = ⟨#[]⟩ := by
  apply ByteArray.ext; rw [ByteArray.data_extract]; simp
theorem empty_of {d : ByteArray} (h : d.size = 0) : d = ⟨#[]⟩ := by
  cases d with | mk l =>
  have : l.size = 0 := h
  rw [Array.eq_empty_of_size_eq_zero this]
theorem nowB_size (T : ByteArray) (a : Nat) (d : ByteArray) (h : a ≤ T.size) : (nowB T a d).size = T.size + ((a + d.size) - T.size) := by
  unfold nowB
  have h1 : (T.extract 0 a ++ d).size = a + d.size := by rw [ByteArray.size_append, size_cut T a h]
  split
  · rename_i hlt
    rw [ByteArray.size_append, ByteArray.size_extract, h1]
    rw [h1] at hlt
    omega
  · rename_i hlt
    rw [h1] at hlt ⊢
    omega
theorem wr_now (T : ByteArray) (a : Nat) (d : ByteArray) (h : a ≤ T.size) : wrB T a d = nowB T a d := by
  unfold wrB nowB
  rw [Nat.min_eq_left h, show a - T.size = 0 by omega, zeros0, empty_add]
  have h1 : (T.extract 0 a ++ d).size = a + d.size := by rw [ByteArray.size_append, size_cut T a h]
  rw [h1]
  split
  · rename_i hlt
    rw [Nat.min_eq_left (by omega)]
  · rename_i hlt
    rw [Nat.min_eq_right (by omega), cut_end, empty_add]
theorem now_empty (T : ByteArray) (a : Nat) (d : ByteArray) (h : a ≤ T.size) (hd : d.size = 0) : nowB T a d = T := by
  have := empty_of hd
  subst this
  unfold nowB
  rw [empty_add, size_cut T a h]
  split
  · exact cut_join T a h
  · have : a = T.size := by omega
    rw [this, cut_all]
theorem now_end (T d : ByteArray) : nowB T T.size d = T ++ d := by
  unfold nowB
  rw [cut_all, if_neg (by rw [ByteArray.size_append]; omega)]
theorem mo_write {F : Fs} {b : Nat} {T : ByteArray} {h : Int} (m : Mo F b T h) (hh : 0 ≤ h ∧ h ≤ 1000000) {a : Nat} (ha : a ≤ T.size) {d : ByteArray} (hs : T.size + d.size ≤ 56) :
    (writeP F 3 ⟨b, 2, T, none, 0, 1, h⟩ a d).1 = 0 ∧ Mo (writeP F 3 ⟨b, 2, T, none, 0, 1, h⟩ a d).2 b (nowB T a d) h := by
  unfold writeP
  rw [if_neg (by omega)]
  by_cases hd : d.size = 0
  · rw [if_pos hd, now_empty T a d ha hd]
    exact ⟨rfl, m⟩
  · rw [if_neg hd]
    have hsz := nowB_size T a d ha
    have hmo : moreB T a d = (a + d.size) - T.size := rfl
    rw [if_neg (by rw [m.room, m.used]; show ¬ _ < ((moreB T a d : Nat) : Int); rw [hmo]; omega)]
    refine ⟨rfl, ?_, ?_, ?_, m.room⟩
    · show FsOk { F.put 3 _ with used := _ }
      exact m.ok.put (k := 3) (x' := { (⟨b, 2, T, none, 0, 1, h⟩ : Nd) with text := wrB T a d }) (by rw [m.at3]; rfl) ⟨by show (wrB T a d).size ≤ _; rw [wr_now T a d ha, hsz]; omega, Nat.zero_le _, hh, ⟨by show (0 : Int) ≤ 1; omega, by show (1 : Int) ≤ 1000000; omega⟩⟩
    · show find (F.put 3 { (⟨b, 2, T, none, 0, 1, h⟩ : Nd) with text := wrB T a d }).L 3 = _
      rw [find_put F 3 3 _ (by rw [m.at3]; rfl), if_pos rfl, wr_now T a d ha]
    · show F.used + ((moreB T a d : Nat) : Int) = 4 + ((nowB T a d).size : Int)
      rw [m.used, hsz, hmo]
      omega
end Go.Proofs.YtljlpkeddbfpaaaGreatDoor.Hd
