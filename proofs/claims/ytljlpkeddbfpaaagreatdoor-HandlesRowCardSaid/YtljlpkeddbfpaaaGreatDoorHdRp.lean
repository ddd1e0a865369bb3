/- What HandlesRow reads, in plain Lean; the tree behind Cut and Write; its numbers opened. -/
import Derived.Test.YtljlpkeddbfpaaaGreatDoorHdSn
import Derived.Test.YtljlpkeddbfpaaaGreatDoorHdCu
import Derived.Test.YtljlpkeddbfpaaaGreatDoorHdTt
import Derived.Test.YtljlpkeddbfpaaaGreatDoorHdO
namespace Go.Proofs.YtljlpkeddbfpaaaGreatDoor.Hd
open Go.ChangeShapes Go.WideShapes Go.ChangeAt Go.RowKit Go.Maps Go.Proofs.YtljlpkeddbfpaaaGreatDoor Go.Proofs.YtljlpkeddbfpaaaGreatDoor.Hp
set_option linter.unusedVariables false

theorem ba_ext {x y : ByteArray} (h : bs x = bs y) : x = y := ByteArray.ext (Array.ext' h)
theorem bs_cut (T : ByteArray) (a b : Nat) : bs (T.extract a b) = ((bs T).drop a).take (b - a) := by
  unfold bs; rw [ByteArray.data_extract, Array.toList_extract]
theorem bs_app (x y : ByteArray) : bs (x ++ y) = bs x ++ bs y := by unfold bs; rw [ByteArray.data_append, Array.toList_append]
def rN (s : ByteArray) (P n : Nat) : Nat := min n (s.size - P)
theorem bs_read (s : ByteArray) (P n : Nat) (h : P ≤ s.size) : bs (readB s P n) = ((bs s).drop P).take (rN s P n) := by
  unfold readB rN
  rw [Nat.min_eq_left h, bs_cut, bs_cut, ByteArray.size_extract, Nat.min_self, List.drop_zero, Nat.sub_zero]
  rw [List.take_of_length_le (l := (bs s).drop P) (by rw [List.length_drop, bs_length]; omega)]
theorem read_size (s : ByteArray) (P n : Nat) (h : P ≤ s.size) : (readB s P n).size = rN s P n := by
  rw [← bs_length, bs_read s P n h, List.length_take, List.length_drop, bs_length]
  unfold rN; omega
theorem read_join (s : ByteArray) (P n : Nat) (h : P ≤ s.size) : s.extract 0 P ++ readB s P n = s.extract 0 (P + rN s P n) := by
  apply ba_ext
  rw [bs_app, bs_cut, bs_cut, bs_read s P n h, List.drop_zero, Nat.sub_zero, Nat.sub_zero, List.take_add]
theorem read_list (s : ByteArray) (P n : Nat) (h : P ≤ s.size) : (⟨(((bs s).drop P).take (min n ((bs s).drop P).length)).toArray⟩ : ByteArray) = readB s P n := by
  apply ba_ext
  rw [bs_read s P n h, List.length_drop, bs_length]
  rfl
theorem rN_le (s : ByteArray) (P n : Nat) (h : P ≤ s.size) : P + rN s P n ≤ s.size := by unfold rN; omega
theorem rN_len (s : ByteArray) (P n : Nat) : min n ((bs s).drop P).length = rN s P n := by rw [List.length_drop, bs_length]; rfl
theorem to_bs (s : ByteArray) : (⟨(bs s).toArray⟩ : ByteArray) = s := by apply ba_ext; rfl
/-- The tree behind Cut(2, 0) and Write(2, 0, s). -/
theorem row_tree {F : Fs} (hF : Begun F) {b : Nat} (hx : find F.L 2 = some ⟨b, 2, xyz, none, 0, 1, 0⟩) (s : ByteArray) (hs : s.size ≤ 30) :
    ∃ F1 F2 : Fs, cutP F 2 ⟨b, 2, xyz, none, 0, 1, 0⟩ 0 = F1 ∧ FsOk F1 ∧ find F1.L 2 = some ⟨b, 2, ⟨#[]⟩, none, 0, 1, 0⟩ ∧ (0 ≤ F1.used ∧ F1.used ≤ 1000000000) ∧ (0 ≤ F1.room ∧ F1.room ≤ 1000000000) ∧
      writeP F1 2 ⟨b, 2, ⟨#[]⟩, none, 0, 1, 0⟩ 0 s = (0, F2) ∧ FsOk F2 ∧ find F2.L 2 = some ⟨b, 2, s, none, 0, 1, 0⟩ := by
  have hok := hF.ok
  have hT0 : (xyz.extract 0 0 : ByteArray) = ⟨#[]⟩ := by decide
  have e1 : find (cutP F 2 ⟨b, 2, xyz, none, 0, 1, 0⟩ 0).L 2 = some ⟨b, 2, ⟨#[]⟩, none, 0, 1, 0⟩ := by
    show find (F.put 2 { (⟨b, 2, xyz, none, 0, 1, 0⟩ : Nd) with text := xyz.extract 0 0 }).L 2 = _
    rw [find_put F 2 2 _ (by rw [hx]; rfl), if_pos rfl, hT0]
  have ok1 : FsOk (cutP F 2 ⟨b, 2, xyz, none, 0, 1, 0⟩ 0) := by
    show FsOk { F.put 2 _ with used := _ }
    exact hok.put (k := 2) (x' := { (⟨b, 2, xyz, none, 0, 1, 0⟩ : Nd) with text := xyz.extract 0 0 }) (by rw [hx]; rfl) ⟨by rw [hT0]; exact Nat.zero_le _, Nat.zero_le _, ⟨by show (0 : Int) ≤ 0; omega, by show (0 : Int) ≤ 1000000; omega⟩, ⟨by show (0 : Int) ≤ 1; omega, by show (1 : Int) ≤ 1000000; omega⟩⟩
  have u1 : (cutP F 2 ⟨b, 2, xyz, none, 0, 1, 0⟩ 0).used = 1 := by
    show F.used - ((xyz.size : Int) - ((0 : Nat) : Int)) = 1
    rw [hF.used]; rfl
  have r1 : (cutP F 2 ⟨b, 2, xyz, none, 0, 1, 0⟩ 0).room = 60 := hF.room
  obtain ⟨F1, hF1⟩ : ∃ F1, F1 = cutP F 2 ⟨b, 2, xyz, none, 0, 1, 0⟩ 0 := ⟨_, rfl⟩
  rw [← hF1] at e1 ok1 u1 r1
  have key : (writeP F1 2 ⟨b, 2, ⟨#[]⟩, none, 0, 1, 0⟩ 0 s).1 = 0 ∧ FsOk (writeP F1 2 ⟨b, 2, ⟨#[]⟩, none, 0, 1, 0⟩ 0 s).2 ∧ find (writeP F1 2 ⟨b, 2, ⟨#[]⟩, none, 0, 1, 0⟩ 0 s).2.L 2 = some ⟨b, 2, s, none, 0, 1, 0⟩ := by
    unfold writeP
    rw [if_neg (by omega)]
    by_cases hd : s.size = 0
    · rw [if_pos hd, empty_of hd]
      exact ⟨rfl, ok1, e1⟩
    · rw [if_neg hd]
      have hmo : moreB (⟨#[]⟩ : ByteArray) 0 s = s.size := by unfold moreB; show (0 + s.size) - 0 = _; omega
      have hw : wrB (⟨#[]⟩ : ByteArray) 0 s = s := by
        have := now_end ⟨#[]⟩ s
        rw [wr_now _ _ _ (Nat.zero_le _)]
        refine this.trans ?_
        apply ba_ext; rw [bs_app]; rfl
      rw [if_neg (by rw [r1, u1]; show ¬ _ < ((moreB (⟨#[]⟩ : ByteArray) 0 s : Nat) : Int); rw [hmo]; omega)]
      refine ⟨rfl, ?_, ?_⟩
      · show FsOk { F1.put 2 _ with used := _ }
        exact ok1.put (k := 2) (x' := { (⟨b, 2, ⟨#[]⟩, none, 0, 1, 0⟩ : Nd) with text := wrB (⟨#[]⟩ : ByteArray) 0 s }) (by rw [e1]; rfl) ⟨by show (wrB (⟨#[]⟩ : ByteArray) 0 s).size ≤ _; rw [hw]; omega, Nat.zero_le _, ⟨by show (0 : Int) ≤ 0; omega, by show (0 : Int) ≤ 1000000; omega⟩, ⟨by show (0 : Int) ≤ 1; omega, by show (1 : Int) ≤ 1000000; omega⟩⟩
      · show find (F1.put 2 { (⟨b, 2, ⟨#[]⟩, none, 0, 1, 0⟩ : Nd) with text := wrB (⟨#[]⟩ : ByteArray) 0 s }).L 2 = _
        rw [find_put F1 2 2 _ (by rw [e1]; rfl), if_pos rfl, hw]
  exact ⟨F1, (writeP F1 2 ⟨b, 2, ⟨#[]⟩, none, 0, 1, 0⟩ 0 s).2, hF1.symm, ok1, e1, by rw [u1]; omega, by rw [r1]; omega, Prod.ext key.1 rfl, key.2.1, key.2.2⟩
theorem free4 (x y z : Hn) : Free [((3 : Int), z), ((2 : Int), y), ((1 : Int), x)] 4 := ⟨by omega, Nat.le_refl _, rfl, fun j h1 h2 => by
  have : j = 1 ∨ j = 2 ∨ j = 3 := by omega
  rcases this with rfl | rfl | rfl <;> rfl⟩
theorem free5 (x y z u : Hn) : Free [((4 : Int), u), ((3 : Int), z), ((2 : Int), y), ((1 : Int), x)] 5 := ⟨by omega, Nat.le_refl _, rfl, fun j h1 h2 => by
  have : j = 1 ∨ j = 2 ∨ j = 3 ∨ j = 4 := by omega
  rcases this with rfl | rfl | rfl | rfl <;> rfl⟩
theorem cellsI' : Tryz.prog.cellsOf 3 = 1 := by kernel_rfl
def IntsAt (w : World) (ao : Option Addr) (l : List Int) : Prop := ∀ i (h : i < l.length), I64 l[i] ∧ ∃ b o, ao = some ⟨b, o, none⟩ ∧ b < w.heap.size ∧ w.cell? ⟨b, o + i, none⟩ = some (.int .i64 l[i])
set_option maxRecDepth 100000 in
theorem ints_open {H : Type} {enc : TypeId × Value → H} {W : World} {r : Reach} {b0 base : Nat} {spare : Nat → Bool} {held : Bool} {v : Value} {d : DataW H} {p : List MemPlace} (hv : Value.okWide Tryz.prog W r b0 40 v)
    (h : DataW.Trod enc Tryz.prog W base spare held 40 v d p) : ∃ ao l cap, v = .slice ao (List.length l) cap ∧ IntsAt W ao l := by
  obtain ⟨ao, len, cap, rfl⟩ := okWide_slice Tryz.underlying40 hv
  obtain ⟨fuel, hf⟩ := h
  rcases Deep.open_slice Tryz.underlying40 hf with ⟨hcs, _⟩ | ⟨a, len', cap', m, n, D, Pl, hcs, _, hl, _, hm, _, hx⟩
  · simp [Value.cells] at hcs
    obtain ⟨rfl, rfl, rfl⟩ := hcs
    exact ⟨none, [], 0, rfl, fun i hi => by simp at hi⟩
  · simp [Value.cells] at hcs
    obtain ⟨rfl, rfl, rfl⟩ := hcs
    have hlm : len ≤ m := by rw [hm]; split <;> omega
    have key : ∀ i, i < len → ∃ x : Int, I64 x ∧ W.cell? ((a.add (i * 1)).add 0) = some (.int .i64 x) := fun i hi => by
      obtain ⟨cs, hc, ht⟩ := hx i (by omega)
      rw [cellsI'] at hc
      obtain ⟨_, hlen, hat⟩ := World.cells?_some hc
      match cs, hlen, ht with
      | [c0], _, ht =>
        obtain ⟨x, e0, _, w0⟩ := DataW.trod_int Tryz.underlying3 ht
        simp only [List.cons.injEq, and_true] at e0
        exact ⟨x, i64_of w0, by rw [hat 0 (by omega)]; simp [e0]⟩
    obtain ⟨f, hfx⟩ := Deep.choose_lt key
    refine ⟨some a, (List.range len).map f, cap, by simp, fun i hi => ?_⟩
    have hi' : i < len := by simpa using hi
    obtain ⟨b, o, s⟩ := a
    have hs : s = none := by
      have h00 := (hfx 0 (by omega)).2
      simp [Addr.add] at h00
      simpa using World.cell?_spot h00
    subst hs
    obtain ⟨ok, h0⟩ := hfx i hi'
    have e : ((List.range len).map f)[i] = f i := by simp
    rw [e]
    simp only [Addr.add_lit, Nat.mul_one, Nat.add_zero] at h0
    exact ⟨ok, b, o, rfl, World.block_lt_of_cell? W _ h0, h0⟩
theorem tmod7_range (a : Int) : -7 < a.tmod 7 ∧ a.tmod 7 < 7 := by
  rcases Int.le_total 0 a with h | h
  · rw [Int.tmod_eq_emod_of_nonneg h]; omega
  · have e : a = -(-a) := by omega
    rw [e, Int.neg_tmod, Int.tmod_eq_emod_of_nonneg (by omega)]; omega
theorem seven_eq (a : Int) : (wrap64 (a.tmod 7 + 7)).tmod 7 = a % 7 := by
  obtain ⟨h1, h2⟩ := tmod7_range a
  rw [show wrap64 (a.tmod 7 + 7) = a.tmod 7 + 7 by unfold wrap64; omega]
  rcases Int.lt_or_le a 0 with h | h
  · obtain ⟨n, rfl⟩ : ∃ n : Nat, a = -(n : Int) := ⟨a.natAbs, by omega⟩
    rw [Int.neg_tmod]
    have h1 : ((n : Int)).tmod 7 = ((n % 7 : Nat) : Int) := by rw [Int.tmod_eq_emod_of_nonneg (by omega)]; omega
    rw [h1, Int.tmod_eq_emod_of_nonneg (by omega)]
    omega
  · rw [Int.tmod_eq_emod_of_nonneg h, Int.tmod_eq_emod_of_nonneg (by omega)]
    omega
end Go.Proofs.YtljlpkeddbfpaaaGreatDoor.Hd
