/- The document's answer for layer 6, walked: Drain and Append of an open buffer. -/
import Derived.Test.YtgaeafhkepfgjaaSpRb
namespace Go.Proofs.Ytgaeafhkepfgjaa.Spill
open Go.RowKit Go.Proofs.Ytgaeafhkepfgjaa Go.Proofs.Ytgaeafhkepfgjaa.Hp
set_option linter.unusedVariables false

theorem str_tail (a b : List UInt8) : (ByteArray.mk (a ++ b).toArray).extract a.length (a.length + b.length) = ⟨b.toArray⟩ := by
  rw [← List.length_append, str_drop, List.drop_left]
theorem str_head (a : List UInt8) (k : Nat) : (ByteArray.mk a.toArray).extract 0 k = ⟨(a.take k).toArray⟩ := by
  apply ByteArray.ext
  simp

def RDrainPost (ba rb k : Nat) (pre data : List UInt8) (R : Hp) (w : World) (e : Ending) (w' : World) : Prop :=
  e = .returned (.tuple #[.string ⟨(data.take k).toArray⟩, .int .i64 0]) ∧ Sat w' (rbuf ⟨ba, rb, false, pre ++ data.take k, data.drop k⟩ * R) ∧ Ran w w'
set_option maxHeartbeats 1000000 in
theorem rdrain_open (ba rb n k : Nat) (pre data : List UInt8) (w : World) (R : Hp) (hx : pre.length + data.length ≤ 1000000) (hn : (n : Int) ≤ 9223372036854775807) (hk : k = min n data.length) (H : Sat w (rbuf ⟨ba, rb, false, pre, data⟩ * R)) :
    Calls Try.prog 19 #[.pointer (some ⟨rb, 0, none⟩), .int .i64 n] w (RDrainPost ba rb k pre data R w) := by
  obtain ⟨c0, c1, c2, cf⟩ := rbo_cells (x := ⟨ba, rb, false, pre, data⟩) H.get
  simp only at c0 c1 c2 cf
  have hn0 : ¬ ((n : Int) < 0) := by omega
  have hs := str_tail pre data
  have Hk := Lib.hid hk
  clear hk
  go_enter Try.func19, Try.ntmps19
  go_wp2_with fail
  go_quiet (fail)
  by_cases hlt : n < data.length
  · have hkn : k = n := by have := Hk.out; omega
    have htl : (data.take n).length = n := by rw [List.length_take]; omega
    have hlt1 : (n : Int) < data.length := by omega
    have hh := str_head data n
    have hmn : min n data.length = n := by omega
    have Htl := Lib.hid htl
    clear htl
    go_wp2_with fail
    go_ret2
    subst hkn
    refine ⟨rfl, ?_, Ran.set (Ran.drewN (Below.refl _ _) _) _ _⟩
    have H2 : Sat ((w.drewN nq).setCell ⟨rb, 1, none⟩ (.int .i64 ((pre.length : Int) + k))) (pts rb (.cells #[.string ⟨(pre ++ data).toArray⟩, .int .i64 ((pre.length : Int) + k), .bool false] 65 (0, 0)) * R) := (H.drewN nq).set (i := 1) _
    refine H2.perm ?_
    unfold rbuf rbo
    simp only [List.append_assoc, List.take_append_drop, List.length_append, Htl.out]
    rfl
  · have hkn : k = data.length := by have := Hk.out; omega
    have hge : ¬ (n : Int) < data.length := by omega
    go_wp2_with fail
    go_ret2
    subst hkn
    refine ⟨by rw [List.take_length]; rfl, ?_, Ran.set (Ran.drewN (Below.refl _ _) _) _ _⟩
    have H2 : Sat ((w.drewN nq).setCell ⟨rb, 1, none⟩ (.int .i64 ((pre.length : Int) + data.length))) (pts rb (.cells #[.string ⟨(pre ++ data).toArray⟩, .int .i64 ((pre.length : Int) + data.length), .bool false] 65 (0, 0)) * R) := (H.drewN nq).set (i := 1) _
    refine H2.perm ?_
    unfold rbuf rbo
    simp only [List.take_length, List.drop_length, List.append_nil, List.length_append]
    rfl

set_option maxHeartbeats 1000000 in
theorem rappend_full (rp q m c cap i : Nat) (p : Option Addr) (L : List Bf) (w : World) (R : Hp) (s : ByteArray) (hi : i < L.length) (hc : L[i].closed = false) (hss : (s.size : Int) ≤ 9223372036854775807) (hs : ∀ x ∈ L, Small x) (hb : sumOf Bf.h L ≤ 1000000000) (hq : q ≤ 1048576) (hf : q < sumOf Bf.h L + s.size) (hsz : sumOf Bf.h L + s.size ≤ 9223372036854775807)
    (H : Sat w (rpool rp q m c cap p L * (all rbuf L * R))) :
    Calls Try.prog 18 #[.pointer (some ⟨rp, 0, none⟩), .pointer (some ⟨L[i].rb, 0, none⟩), .string s] w fun e w' => e = .returned (.int .i64 41) ∧ ∃ n, w' = w.drewN n := by
  obtain ⟨h0, hL, hB⟩ := rpool_at H
  obtain ⟨_, _, _, _, h3⟩ := hB i hi
  obtain ⟨d0, d1, d2, df⟩ := rbo_cells h3
  rw [hc] at d2
  obtain ⟨c0, c1, c2, c3, _⟩ := rpo_cells h0
  generalize L[i].rb = rb at *
  have hsm : ((sumOf Bf.h L : Nat) : Int) ≤ 1000000000 := by omega
  have hf1 : (q : Int) < (sumOf Bf.h L : Nat) + s.size := by omega
  have hsz1 : ((sumOf Bf.h L : Nat) : Int) + s.size ≤ 9223372036854775807 := by omega
  have hwr : IntKind.i64.wrap (((sumOf Bf.h L : Nat) : Int) + s.size) = ((sumOf Bf.h L : Nat) : Int) + s.size := IntWalk.i64_in _ (by omega)
  clear hB h3 hf hsz
  go_enter Try.func18, Try.ntmps18
  go_wp2_with fail
  go_region_held3 (fun w' => w'.cell? ⟨rp, 0, none⟩ = some (.int .i64 q)) (first | exact c0 | go_keep)
    (first
      | (go_at_call 24; refine (rheld rp q m c cap p L _ R hs hb (by exact H.drew)).mono ?_; rintro e w' ⟨rfl, n1, rfl⟩))
  go_wp2_with fail
  go_ret
  exact ⟨rfl, _, rfl⟩

/-- One buffer out of all, and a changed one back. -/
def rrest (rp q m c cap i : Nat) (p : Option Addr) (L : List Bf) (R : Hp) : Hp := rpool rp q m c cap p L * (all rbuf (L.take i) * all rbuf (L.drop (i + 1)) * R)
theorem rfocus {w : World} {rp q m c cap i : Nat} {p : Option Addr} {L : List Bf} {R : Hp} (hi : i < L.length) (H : Sat w (rpool rp q m c cap p L * (all rbuf L * R))) : Sat w (rbuf L[i] * rrest rp q m c cap i p L R) := by
  rw [all_split rbuf L i hi] at H
  exact H.perm (by unfold rrest; ac_rfl)
theorem runfocus {w : World} {rp q m c cap i : Nat} {p : Option Addr} {L : List Bf} {R : Hp} (hi : i < L.length) (x : Bf) (hx : x.rb = L[i].rb) (H : Sat w (rbuf x * rrest rp q m c cap i p L R)) : Sat w (rpool rp q m c cap p (L.set i x) * (all rbuf (L.set i x) * R)) := by
  rw [all_set rbuf L i hi]
  have hm : (L.set i x).map rptr = L.map rptr := by
    rw [List.map_set]
    have : rptr x = (L.map rptr)[i]'(by simpa using hi) := by simp [rptr, hx]
    rw [this, List.set_getElem_self]
  unfold rrest at H
  unfold rpool at H ⊢
  rw [hm, List.length_set]
  exact H.perm (by ac_rfl)
def RAppPost (rp q m c cap i : Nat) (p : Option Addr) (L : List Bf) (x : Bf) (R : Hp) (w : World) (e : Ending) (w' : World) : Prop :=
  e = .returned (.int .i64 0) ∧ Sat w' (rpool rp q m c cap p (L.set i x) * (all rbuf (L.set i x) * R)) ∧ Ran w w'
set_option maxHeartbeats 1000000 in
theorem rappend_ok (rp q m c cap i ba rb : Nat) (pre data d : List UInt8) (p : Option Addr) (L : List Bf) (w : World) (R : Hp) (hi : i < L.length) (hLi : L[i] = ⟨ba, rb, false, pre, data⟩) (hd : d.length ≤ 1000000) (hs : ∀ x ∈ L, Small x) (hb : sumOf Bf.h L ≤ 1000000000) (hq : q ≤ 1048576) (hf : sumOf Bf.h L + d.length ≤ q)
    (H : Sat w (rpool rp q m c cap p L * (all rbuf L * R))) :
    Calls Try.prog 18 #[.pointer (some ⟨rp, 0, none⟩), .pointer (some ⟨rb, 0, none⟩), .string ⟨d.toArray⟩] w (RAppPost rp q m c cap i p L ⟨ba, rb, false, pre, data ++ d⟩ R w) := by
  obtain ⟨h0, hL, hB⟩ := rpool_at H
  obtain ⟨_, _, _, _, h3⟩ := hB i hi
  have hsm := hs L[i] (List.getElem_mem hi)
  have HF := rfocus hi H
  rw [hLi] at h3 hsm HF
  obtain ⟨d0, d1, d2, df⟩ := rbo_cells h3
  obtain ⟨c0, c1, c2, c3, _⟩ := rpo_cells h0
  simp only [Small] at d0 d1 d2 df hsm
  have hsm1 : ((sumOf Bf.h L : Nat) : Int) ≤ 1000000000 := by omega
  have hf1 : ¬ (q : Int) < (sumOf Bf.h L : Nat) + (d.length : Int) := by omega
  have hwr : IntKind.i64.wrap (((sumOf Bf.h L : Nat) : Int) + (d.length : Int)) = ((sumOf Bf.h L : Nat) : Int) + (d.length : Int) := IntWalk.i64_in _ (by omega)
  have hsum : pre.length + data.length + d.length ≤ 2000000 := by omega
  clear hB h3 hf
  go_enter Try.func18, Try.ntmps18
  go_wp2_with fail
  go_region_held3 (fun w' => w'.cell? ⟨rp, 0, none⟩ = some (.int .i64 q)) (first | exact c0 | go_keep)
    (first
      | (go_at_call 24; refine (rheld rp q m c cap p L _ R hs hb (by exact H.drew)).mono ?_; rintro e w' ⟨rfl, n1, rfl⟩))
  clear hwr
  go_wp2_with fail
  go_ret
  refine ⟨rfl, ?_, Ran.set (Ran.drewN (Below.refl _ _) _) _ _⟩
  refine runfocus hi ⟨ba, rb, false, pre, data ++ d⟩ (by rw [hLi]) ?_
  have H2 := (HF.drewN (1 + n1)).set (i := 0) (.string ⟨(pre ++ (data ++ d)).toArray⟩)
  rw [← List.append_assoc, ← ByteArray.mk_append_mk] at H2
  refine H2.perm ?_
  unfold rbuf rbo
  rw [ByteArray.mk_append_mk, List.append_assoc]
  rfl
end Go.Proofs.Ytgaeafhkepfgjaa.Spill
