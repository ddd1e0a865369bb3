/- HandlesPlays, part 26 of 34: the texts HdPv HdPw HdPx HdPy HdNa HdSt HdKy, joined by a program. -/
import Derived.Test.YtljlpkeddbfpaaaGreatDoorHm25
import Derived.Test.YtljlpkeddbfpaaaGreatDoorHm15
import Derived.Test.YtljlpkeddbfpaaaGreatDoorHm13
import Derived.Test.YtljlpkeddbfpaaaGreatDoorHm7
import Derived.Test.YtljlpkeddbfpaaaGreatDoorHm5
import Derived.Test.YtljlpkeddbfpaaaGreatDoorIti
namespace Go.Proofs.YtljlpkeddbfpaaaGreatDoor.Hd
open Go.RowKit Go.Maps Go.Proofs.YtljlpkeddbfpaaaGreatDoor Go.Proofs.YtljlpkeddbfpaaaGreatDoor.Hp
set_option linter.unusedVariables false
attribute [local go_sem] Oper.semAt_some

section
variable {w : World} {c : RF} {L : List DN} {E : List EN} {R : Hp}
set_option maxRecDepth 100000 in
set_option maxHeartbeats 4000000 in
theorem rlast_calls (ch : UInt8) (hc : Simple ch) (hi : 1 < L.length) (hk : L[1].kind = 1) (h : Sat w (rfHp c L * R)) :
    Calls Tryz.prog 100 #[pp c.fb, .int .i64 1, .string (nm ch)] w fun e w' => (e = .returned (.tuple #[.int .i64 1, .string (nm ch), .bool false, .int .i64 0]) ∧ Sat w' (rfHp c L * R)) ∧ Ran w w' := by
  have HK := rkind_calls ((1 : Nat) : Int) h
  rw [kindD_at (by omega) hi, hk] at HK
  have HB := rbegin_calls ch hc w
  have HPa := rparts_calls ch hc w _ h
  clear h hk
  rcases hc with rfl | rfl | rfl | rfl
  · have HK := Lib.hid HK
    have HB := Lib.hid HB
    have HPa := Lib.hid HPa
    go_enter Tryz.func100, Tryz.ntmps100
    go_wp2_with fail
    refine HK.out.mono ?_
    rintro e w1 ⟨rfl, rfl⟩
    clear HK
    go_wp2_with fail
    refine HB.out.mono ?_
    rintro e w1 ⟨rfl, rfl⟩
    clear HB
    go_wp2_with fail
    refine HPa.out.mono ?_
    rintro e w1 ⟨p, cap, rfl, S1, R1⟩
    clear HPa
    have hcl := S1.arr_len
    obtain ⟨b, o, rfl⟩ := S1.arr_addr (by have := hcl.2.1; omega)
    have e0 := S1.arr_cell 0 (by simp)
    rw [Nat.add_zero] at e0
    have e0 : w1.drew.cell? ⟨b, o, none⟩ = some (.string (nm 97)) := e0
    have hc1 : (1 : Int) ≤ (cap : Int) := by omega
    have hcm : (cap : Int) ≤ 9223372036854775807 := by have := hcl.2.2; unfold maxLen at this; omega
    have S1 := Lib.hid (And.intro S1.right R1)
    clear R1 hcl
    go_wp2_with fail
    go_loopg [13, 14] 0 (fun (g : Nat) (v13 v14 : Value) (wr : World) => v13 = .string ⟨#[]⟩ ∧ v14 = .int .i64 0 ∧ w1 = wr)
    case atStart => exact ⟨rfl, rfl, rfl⟩
    case round =>
      obtain ⟨rfl, rfl, rfl⟩ := hrel
      have hw0 : IntKind.i64.wrap 0 = 0 := IntWalk.i64_in _ (by omega)
      go_upto_region 20 with fail
      refine region_plan (S := (fun w' => w'.cell? ⟨b, o, none⟩ = some (.string (nm 97)))) [(0, true), (1, true), (2, true), (3, true), (4, true), (5, true), (6, true), (7, true), (8, true), (9, true), (10, true), (11, true), (12, true), (13, true), (14, true), (15, true), (16, true)] (by kernel_rfl) (by kernel_rfl) (by kernel_rfl) ?_ ?_
      · ((try dsimp only); (first | done | (exact e0)))
      simp only [planOps, List.map_cons, List.map_nil, List.getElem?_toArray, List.getElem?_cons_zero, List.getElem?_cons_succ]
      repeat (first
        | ((refine plan_yes (v := ?_) (by rfl) ?_ ?_); rotate_left; (focus (intro w hSw; (try dsimp only at hSw); go_simp; try (with_reducible rfl))); (try simp only [Act.put, List.setIfInBounds_toArray, List.set_cons_zero, List.set_cons_succ]))
        | ((refine plan_no (by rfl) ?_); (try simp only [Act.put, List.setIfInBounds_toArray, List.set_cons_zero, List.set_cons_succ]))
        | ((refine plan_step (fun K hK => ?_)); (first | (fail) | (go_simp; (fail); (try go_wp2_with fail)) | go_simp); (refine hK.out _ _ ?_ (fun hHeld => ?_)); (focus ((try dsimp only); (first | done | (exact e0)))); clear hK K; (try simp only [Act.put, List.setIfInBounds_toArray, List.set_cons_zero, List.set_cons_succ])))
      refine plan_done ?_
      go_wp2_with fail
      exact bodyPost_ret (v := .tuple #[.int .i64 1, .string (nm 97), .bool false, .int .i64 0]) (by simp [results, Tryz.results100, go_sem]) rfl ⟨⟨rfl, S1.out.1.drew⟩, Ran.drewN S1.out.2 1⟩
  · have HK := Lib.hid HK
    have HB := Lib.hid HB
    have HPa := Lib.hid HPa
    go_enter Tryz.func100, Tryz.ntmps100
    go_wp2_with fail
    refine HK.out.mono ?_
    rintro e w1 ⟨rfl, rfl⟩
    clear HK
    go_wp2_with fail
    refine HB.out.mono ?_
    rintro e w1 ⟨rfl, rfl⟩
    clear HB
    go_wp2_with fail
    refine HPa.out.mono ?_
    rintro e w1 ⟨p, cap, rfl, S1, R1⟩
    clear HPa
    have hcl := S1.arr_len
    obtain ⟨b, o, rfl⟩ := S1.arr_addr (by have := hcl.2.1; omega)
    have e0 := S1.arr_cell 0 (by simp)
    rw [Nat.add_zero] at e0
    have e0 : w1.drew.cell? ⟨b, o, none⟩ = some (.string (nm 98)) := e0
    have hc1 : (1 : Int) ≤ (cap : Int) := by omega
    have hcm : (cap : Int) ≤ 9223372036854775807 := by have := hcl.2.2; unfold maxLen at this; omega
    have S1 := Lib.hid (And.intro S1.right R1)
    clear R1 hcl
    go_wp2_with fail
    go_loopg [13, 14] 0 (fun (g : Nat) (v13 v14 : Value) (wr : World) => v13 = .string ⟨#[]⟩ ∧ v14 = .int .i64 0 ∧ w1 = wr)
    case atStart => exact ⟨rfl, rfl, rfl⟩
    case round =>
      obtain ⟨rfl, rfl, rfl⟩ := hrel
      have hw0 : IntKind.i64.wrap 0 = 0 := IntWalk.i64_in _ (by omega)
      go_upto_region 20 with fail
      refine region_plan (S := (fun w' => w'.cell? ⟨b, o, none⟩ = some (.string (nm 98)))) [(0, true), (1, true), (2, true), (3, true), (4, true), (5, true), (6, true), (7, true), (8, true), (9, true), (10, true), (11, true), (12, true), (13, true), (14, true), (15, true), (16, true)] (by kernel_rfl) (by kernel_rfl) (by kernel_rfl) ?_ ?_
      · ((try dsimp only); (first | done | (exact e0)))
      simp only [planOps, List.map_cons, List.map_nil, List.getElem?_toArray, List.getElem?_cons_zero, List.getElem?_cons_succ]
      repeat (first
        | ((refine plan_yes (v := ?_) (by rfl) ?_ ?_); rotate_left; (focus (intro w hSw; (try dsimp only at hSw); go_simp; try (with_reducible rfl))); (try simp only [Act.put, List.setIfInBounds_toArray, List.set_cons_zero, List.set_cons_succ]))
        | ((refine plan_no (by rfl) ?_); (try simp only [Act.put, List.setIfInBounds_toArray, List.set_cons_zero, List.set_cons_succ]))
        | ((refine plan_step (fun K hK => ?_)); (first | (fail) | (go_simp; (fail); (try go_wp2_with fail)) | go_simp); (refine hK.out _ _ ?_ (fun hHeld => ?_)); (focus ((try dsimp only); (first | done | (exact e0)))); clear hK K; (try simp only [Act.put, List.setIfInBounds_toArray, List.set_cons_zero, List.set_cons_succ])))
      refine plan_done ?_
      go_wp2_with fail
      exact bodyPost_ret (v := .tuple #[.int .i64 1, .string (nm 98), .bool false, .int .i64 0]) (by simp [results, Tryz.results100, go_sem]) rfl ⟨⟨rfl, S1.out.1.drew⟩, Ran.drewN S1.out.2 1⟩
  · have HK := Lib.hid HK
    have HB := Lib.hid HB
    have HPa := Lib.hid HPa
    go_enter Tryz.func100, Tryz.ntmps100
    go_wp2_with fail
    refine HK.out.mono ?_
    rintro e w1 ⟨rfl, rfl⟩
    clear HK
    go_wp2_with fail
    refine HB.out.mono ?_
    rintro e w1 ⟨rfl, rfl⟩
    clear HB
    go_wp2_with fail
    refine HPa.out.mono ?_
    rintro e w1 ⟨p, cap, rfl, S1, R1⟩
    clear HPa
    have hcl := S1.arr_len
    obtain ⟨b, o, rfl⟩ := S1.arr_addr (by have := hcl.2.1; omega)
    have e0 := S1.arr_cell 0 (by simp)
    rw [Nat.add_zero] at e0
    have e0 : w1.drew.cell? ⟨b, o, none⟩ = some (.string (nm 108)) := e0
    have hc1 : (1 : Int) ≤ (cap : Int) := by omega
    have hcm : (cap : Int) ≤ 9223372036854775807 := by have := hcl.2.2; unfold maxLen at this; omega
    have S1 := Lib.hid (And.intro S1.right R1)
    clear R1 hcl
    go_wp2_with fail
    go_loopg [13, 14] 0 (fun (g : Nat) (v13 v14 : Value) (wr : World) => v13 = .string ⟨#[]⟩ ∧ v14 = .int .i64 0 ∧ w1 = wr)
    case atStart => exact ⟨rfl, rfl, rfl⟩
    case round =>
      obtain ⟨rfl, rfl, rfl⟩ := hrel
      have hw0 : IntKind.i64.wrap 0 = 0 := IntWalk.i64_in _ (by omega)
      go_upto_region 20 with fail
      refine region_plan (S := (fun w' => w'.cell? ⟨b, o, none⟩ = some (.string (nm 108)))) [(0, true), (1, true), (2, true), (3, true), (4, true), (5, true), (6, true), (7, true), (8, true), (9, true), (10, true), (11, true), (12, true), (13, true), (14, true), (15, true), (16, true)] (by kernel_rfl) (by kernel_rfl) (by kernel_rfl) ?_ ?_
      · ((try dsimp only); (first | done | (exact e0)))
      simp only [planOps, List.map_cons, List.map_nil, List.getElem?_toArray, List.getElem?_cons_zero, List.getElem?_cons_succ]
      repeat (first
        | ((refine plan_yes (v := ?_) (by rfl) ?_ ?_); rotate_left; (focus (intro w hSw; (try dsimp only at hSw); go_simp; try (with_reducible rfl))); (try simp only [Act.put, List.setIfInBounds_toArray, List.set_cons_zero, List.set_cons_succ]))
        | ((refine plan_no (by rfl) ?_); (try simp only [Act.put, List.setIfInBounds_toArray, List.set_cons_zero, List.set_cons_succ]))
        | ((refine plan_step (fun K hK => ?_)); (first | (fail) | (go_simp; (fail); (try go_wp2_with fail)) | go_simp); (refine hK.out _ _ ?_ (fun hHeld => ?_)); (focus ((try dsimp only); (first | done | (exact e0)))); clear hK K; (try simp only [Act.put, List.setIfInBounds_toArray, List.set_cons_zero, List.set_cons_succ])))
      refine plan_done ?_
      go_wp2_with fail
      exact bodyPost_ret (v := .tuple #[.int .i64 1, .string (nm 108), .bool false, .int .i64 0]) (by simp [results, Tryz.results100, go_sem]) rfl ⟨⟨rfl, S1.out.1.drew⟩, Ran.drewN S1.out.2 1⟩
  · have HK := Lib.hid HK
    have HB := Lib.hid HB
    have HPa := Lib.hid HPa
    go_enter Tryz.func100, Tryz.ntmps100
    go_wp2_with fail
    refine HK.out.mono ?_
    rintro e w1 ⟨rfl, rfl⟩
    clear HK
    go_wp2_with fail
    refine HB.out.mono ?_
    rintro e w1 ⟨rfl, rfl⟩
    clear HB
    go_wp2_with fail
    refine HPa.out.mono ?_
    rintro e w1 ⟨p, cap, rfl, S1, R1⟩
    clear HPa
    have hcl := S1.arr_len
    obtain ⟨b, o, rfl⟩ := S1.arr_addr (by have := hcl.2.1; omega)
    have e0 := S1.arr_cell 0 (by simp)
    rw [Nat.add_zero] at e0
    have e0 : w1.drew.cell? ⟨b, o, none⟩ = some (.string (nm 100)) := e0
    have hc1 : (1 : Int) ≤ (cap : Int) := by omega
    have hcm : (cap : Int) ≤ 9223372036854775807 := by have := hcl.2.2; unfold maxLen at this; omega
    have S1 := Lib.hid (And.intro S1.right R1)
    clear R1 hcl
    go_wp2_with fail
    go_loopg [13, 14] 0 (fun (g : Nat) (v13 v14 : Value) (wr : World) => v13 = .string ⟨#[]⟩ ∧ v14 = .int .i64 0 ∧ w1 = wr)
    case atStart => exact ⟨rfl, rfl, rfl⟩
    case round =>
      obtain ⟨rfl, rfl, rfl⟩ := hrel
      have hw0 : IntKind.i64.wrap 0 = 0 := IntWalk.i64_in _ (by omega)
      go_upto_region 20 with fail
      refine region_plan (S := (fun w' => w'.cell? ⟨b, o, none⟩ = some (.string (nm 100)))) [(0, true), (1, true), (2, true), (3, true), (4, true), (5, true), (6, true), (7, true), (8, true), (9, true), (10, true), (11, true), (12, true), (13, true), (14, true), (15, true), (16, true)] (by kernel_rfl) (by kernel_rfl) (by kernel_rfl) ?_ ?_
      · ((try dsimp only); (first | done | (exact e0)))
      simp only [planOps, List.map_cons, List.map_nil, List.getElem?_toArray, List.getElem?_cons_zero, List.getElem?_cons_succ]
      repeat (first
        | ((refine plan_yes (v := ?_) (by rfl) ?_ ?_); rotate_left; (focus (intro w hSw; (try dsimp only at hSw); go_simp; try (with_reducible rfl))); (try simp only [Act.put, List.setIfInBounds_toArray, List.set_cons_zero, List.set_cons_succ]))
        | ((refine plan_no (by rfl) ?_); (try simp only [Act.put, List.setIfInBounds_toArray, List.set_cons_zero, List.set_cons_succ]))
        | ((refine plan_step (fun K hK => ?_)); (first | (fail) | (go_simp; (fail); (try go_wp2_with fail)) | go_simp); (refine hK.out _ _ ?_ (fun hHeld => ?_)); (focus ((try dsimp only); (first | done | (exact e0)))); clear hK K; (try simp only [Act.put, List.setIfInBounds_toArray, List.set_cons_zero, List.set_cons_succ])))
      refine plan_done ?_
      go_wp2_with fail
      exact bodyPost_ret (v := .tuple #[.int .i64 1, .string (nm 100), .bool false, .int .i64 0]) (by simp [results, Tryz.results100, go_sem]) rfl ⟨⟨rfl, S1.out.1.drew⟩, Ran.drewN S1.out.2 1⟩
end
end Go.Proofs.YtljlpkeddbfpaaaGreatDoor.Hd

namespace Go.Proofs.YtljlpkeddbfpaaaGreatDoor.Hd
open Go.RowKit Go.Maps Go.Proofs.YtljlpkeddbfpaaaGreatDoor Go.Proofs.YtljlpkeddbfpaaaGreatDoor.Hp
set_option linter.unusedVariables false
attribute [local go_sem] Oper.semAt_some

section
variable {w : World} {c : RF} {L : List DN} {E : List EN} {R : Hp}
set_option maxRecDepth 100000 in
set_option maxHeartbeats 4000000 in
theorem dplace_calls (ch : UInt8) (kd : Int) (hc : Simple ch) (hi : 1 < L.length) (hk : L[1].kind = 1) (hkn : L[1].kn = E.length) (hE : E.length ≤ 100000) (hno : ∀ k (hk : k < E.length), (E[k].name.toList == (nm ch).toList) = false) (h : Sat w (rfHp c L * (enA L[1].kp L[1].kc E * R))) :
    Calls Tryz.prog 73 #[pp c.fb, .int .i64 1, .string (nm ch), .int .i64 kd] w fun e w' => (e = .returned (.tuple #[.int .i64 1, .string (nm ch), .int .i64 0]) ∧ Sat w' (rfHp c L * (enA L[1].kp L[1].kc E * R))) ∧ Ran w w' := by
  have HL := rlast_calls ch hc hi hk h
  have HS := fun (W : World) (hX : Sat W (rfHp c L * (enA L[1].kp L[1].kc E * R))) => rstep_calls ch hc hi hk hkn hE hno hX
  clear h hk hkn hno
  rcases hc with rfl | rfl | rfl | rfl
  all_goals
    have HL := Lib.hid HL
    have HS := Lib.hid HS
    go_enter Tryz.func73, Tryz.ntmps73
    go_wp2_with fail
    refine HL.out.mono ?_
    rintro e w1 ⟨⟨rfl, S1⟩, R1⟩
    have HS := Lib.hid (HS.out _ S1)
    have S1 := Lib.hid (And.intro S1 R1)
    clear HL R1
    go_wp2_with fail
    refine HS.out.mono ?_
    rintro e w2 ⟨rfl, rfl⟩
    clear HS
    go_wp2_with fail
    exact bodyPost_ret (v := .tuple #[.int .i64 1, .string (nm _), .int .i64 0]) (by simp [results, Tryz.results73, go_sem]) rfl ⟨⟨rfl, S1.out.1⟩, S1.out.2⟩
end
end Go.Proofs.YtljlpkeddbfpaaaGreatDoor.Hd

namespace Go.Proofs.YtljlpkeddbfpaaaGreatDoor.Hd
open Go.RowKit Go.Maps Go.Proofs.YtljlpkeddbfpaaaGreatDoor Go.Proofs.YtljlpkeddbfpaaaGreatDoor.Hp
set_option linter.unusedVariables false
attribute [local go_sem] Oper.semAt_some

abbrev dsO (k p : Int) : Obj := .cells #[.int .i64 0, .string ⟨#[]⟩, .slice none 0 0, .int .i64 0, .int .i64 0, .int .i64 0, .int .i64 k, .string ⟨#[]⟩, .slice none 0 0, .int .i64 p, .int .i64 0, .int .i64 0, .int .i64 0, .string ⟨#[]⟩, .slice none 0 0, .int .i64 0, .int .i64 0, .int .i64 0, .int .i64 0, .string ⟨#[]⟩, .slice none 0 0, .int .i64 0, .int .i64 0, .int .i64 0, .int .i64 0, .string ⟨#[]⟩, .slice none 0 0, .int .i64 0, .int .i64 0, .int .i64 0, .int .i64 0, .string ⟨#[]⟩, .slice none 0 0, .int .i64 0, .int .i64 0, .int .i64 0, .int .i64 0, .string ⟨#[]⟩, .slice none 0 0, .int .i64 0, .int .i64 0, .int .i64 0, .int .i64 0, .string ⟨#[]⟩, .slice none 0 0, .int .i64 0, .int .i64 0, .int .i64 0, .int .i64 0, .string ⟨#[]⟩, .slice none 0 0, .int .i64 0, .int .i64 0, .int .i64 0] 169 (0, 0)
theorem hmkD : ∀ w' : World, (Instr.makeSlice 164 (.int .i64 9) (.int .i64 9)).run Tryz.prog w' = .ok (.slice (some ⟨w'.heap.size, 0, none⟩) 9 9) (w'.alloc (dsO 0 0)) := fun w' => by kernel_rfl
set_option maxRecDepth 100000 in
set_option maxHeartbeats 2000000 in
theorem dnew_calls (w : World) (R : Hp) (h : Sat w R) :
    Calls Tryz.prog 44 #[.int .i64 8, .int .i64 60] w fun e w' => ∃ fb lb, e = .returned (.tuple #[pp fb, .int .i64 0]) ∧ Sat w' (pts fb (rfO ⟨fb, lb, 8, 60⟩ 9) * (pts lb (dsO 1 1) * R)) ∧ Ran w w' := by
  have S1 := (h.alloc (dsO 1 1)).alloc (rfO ⟨w.heap.size + 1, w.heap.size, 8, 60⟩ 9)
  have hsz : (w.alloc (dsO 1 1)).heap.size = w.heap.size + 1 := by simp
  rw [hsz] at S1
  have S1 := Lib.hid S1
  have R1 := Lib.hid (Ran.new (Ran.new (Below.refl 0 w) (dsO 1 1)) (rfO ⟨w.heap.size + 1, w.heap.size, 8, 60⟩ 9))
  clear h hsz
  have hmk := hmkD
  go_enter Tryz.func44, Tryz.ntmps44
  go_wp2_with fail
  go_ret2
  exact ⟨w.heap.size + 1, w.heap.size, rfl, S1.out, R1.out⟩
def root0 : List DN := [⟨0, ⟨#[]⟩, none, 0, 0, 0, 0, 0⟩, ⟨1, ⟨#[]⟩, none, 0, 0, 1, 0, 0⟩, ⟨0, ⟨#[]⟩, none, 0, 0, 0, 0, 0⟩, ⟨0, ⟨#[]⟩, none, 0, 0, 0, 0, 0⟩, ⟨0, ⟨#[]⟩, none, 0, 0, 0, 0, 0⟩, ⟨0, ⟨#[]⟩, none, 0, 0, 0, 0, 0⟩, ⟨0, ⟨#[]⟩, none, 0, 0, 0, 0, 0⟩, ⟨0, ⟨#[]⟩, none, 0, 0, 0, 0, 0⟩, ⟨0, ⟨#[]⟩, none, 0, 0, 0, 0, 0⟩]
theorem root_hp {w : World} {fb lb : Nat} {R : Hp} (h : Sat w (pts fb (rfO ⟨fb, lb, 8, 60⟩ 9) * (pts lb (dsO 1 1) * R))) : Sat w (rfHp ⟨fb, lb, 8, 60⟩ root0 * R) := by
  have h1 := h.perm (show _ = pts lb (dsO 1 1) * (pts fb (rfO ⟨fb, lb, 8, 60⟩ 9) * R) by ac_rfl)
  have h2 : Sat w (arr 169 6 (some ⟨lb, 0, none⟩) 9 9 (root0.flatMap dnC) * (pts fb (rfO ⟨fb, lb, 8, 60⟩ 9) * R)) :=
    Sat.arr_mk (by omega) (by unfold maxLen; omega) (by decide) rfl (fun j hj => by
      have e : (dsO 1 1) = .cells (root0.flatMap dnC).toArray 169 (0, 0) := rfl
      rw [Nat.zero_add]
      show (root0.flatMap dnC).toArray[j]? = _
      simp) h1
  exact h2.perm (show _ = rfHp ⟨fb, lb, 8, 60⟩ root0 * R by unfold rfHp; show _ = pts fb (rfO ⟨fb, lb, 8, 60⟩ 9) * arr 169 6 (some ⟨lb, 0, none⟩) 9 9 (root0.flatMap dnC) * R; ac_rfl)
end Go.Proofs.YtljlpkeddbfpaaaGreatDoor.Hd

namespace Go.Proofs.YtljlpkeddbfpaaaGreatDoor.Hd
open Go.RowKit Go.Maps Go.Proofs.YtljlpkeddbfpaaaGreatDoor Go.Proofs.YtljlpkeddbfpaaaGreatDoor.Hp
set_option linter.unusedVariables false
attribute [local go_sem] Oper.semAt_some

abbrev enV (x : EN) : Value := .agg #[.string x.name, .int .i64 x.node]
abbrev enO (x : EN) : Obj := .cells #[.string x.name, .int .i64 x.node] 174 (0, 0)
theorem infoEN : (Tryz.prog.info? 174).map (fun i => (i.zero, i.size, i.bytes)) = some (some (enV ⟨⟨#[]⟩, 0⟩), 2, 24) := by kernel_rfl
theorem enC_one (y : EN) : ∀ u ∈ enC y, u.oneCell' = true := fun u hu => by
  simp only [enC, List.mem_cons, List.not_mem_nil, or_false] at hu
  rcases hu with rfl | rfl <;> rfl
theorem ens_snoc (l : List EN) (y : EN) : (l ++ [y]).flatMap enC = l.flatMap enC ++ enC y := by rw [List.flatMap_append]; simp
/-- A name is appended. -/
theorem appEN {w : World} {H : Hp} {ops : Array Oper} {rest : List Oper} {o : Oper} {a : Act} {Q : Exit → Act → World → Prop} (hgd : o.guard = none) (s x : Operand)
    (ho : o.op = .call { callee := .builtin .append, args := #[s, x], argTypes := #[167, 167] })
    (p : Option Addr) (n cap : Nat) (l : List EN) (y : EN) (hn : l.length = n) (hp : a.eval s = .slice p n cap) (xb : Nat) (hvx : a.eval x = .slice (some ⟨xb, 0, none⟩) 1 1) (hx : w.heap[xb]? = some (enO y)) (h : Sat w (enA p cap l * H)) (hl : n ≤ 1000000)
    (hk : ∀ p' cap' w', Sat w' (enA p' cap' (l ++ [y]) * H) → Ran w w' → wpList Tryz.prog ops Q rest (a.put o.dst (.slice p' (n + 1) cap')) w') : wpList Tryz.prog ops Q (o :: rest) a w := by
  subst hn
  obtain ⟨i0, hi, hz0, hz1, hz2⟩ := info_parts infoEN
  refine wpList_append_arr hgd s x _ _ ho 174 i0 _ 2 24 Tryz.underlying167 hi hz0 hz1 hz2 rfl p l.length cap _ hp h _ hvx 1 (enC y) (Src.ofSlice _ Tryz.underlying167 ⟨xb, 0, none⟩ 1 1 (enC y) (by rw [hz1]; rfl) (fun j u hj => ?_) (enC_one y)) (by omega) (by unfold maxLen; omega) fun p' cap' w' h1 h2 _ => ?_
  · rw [Addr.add_lit, Nat.zero_add, cell_at hx]
    have : (enC y).toArray[j]? = (enC y)[j]? := by simp
    rw [← hj, ← this]; rfl
  · refine hk p' cap' w' ?_ h2
    unfold enA
    rw [ens_snoc, List.length_append]
    exact h1
end Go.Proofs.YtljlpkeddbfpaaaGreatDoor.Hd

namespace Go.Proofs.YtljlpkeddbfpaaaGreatDoor.Hd
open Go.RowKit Go.Maps Go.Proofs.YtljlpkeddbfpaaaGreatDoor Go.Proofs.YtljlpkeddbfpaaaGreatDoor.Hp
set_option linter.unusedVariables false
attribute [local go_sem] Oper.semAt_some

end Go.Proofs.YtljlpkeddbfpaaaGreatDoor.Hd

namespace Go.Proofs.YtljlpkeddbfpaaaGreatDoor.Hd
open Go.RowKit Go.Maps Go.Proofs.YtljlpkeddbfpaaaGreatDoor Go.Proofs.YtljlpkeddbfpaaaGreatDoor.Hp
set_option linter.unusedVariables false
attribute [local go_sem] Oper.semAt_some

set_option maxRecDepth 100000 in
set_option maxHeartbeats 8000000 in
theorem TStat_text (tb fb pb hm n : Nat) (L : HL) (id : Int) (y : Hn) (s : ByteArray) (a : Nat) (hid : I64 id) (hy : findA L id = some y) (hyt : y.t = .text s a) (w : World) (R : Hp)
    (h : Sat w (tabHp tb fb pb hm L n * R)) :
    Calls Tryz.prog 24 #[pp tb, .int .i64 id] w fun e w' => e = .returned (.tuple #[inV 2 y.refs a 0 ⟨false, false, false⟩, .int .i64 0]) ∧ Below w.heap.size w w' := by
  have S0 := (h.alloc (inO 0 0 0 0 ⟨false, false, false⟩)).perm (show _ = tabHp tb fb pb hm L n * (pts w.heap.size (inO 0 0 0 0 ⟨false, false, false⟩) * R) by ac_rfl)
  have hB0 := (Below.refl w.heap.size w).alloc (Nat.le_refl _) (inO 0 0 0 0 ⟨false, false, false⟩)
  have HGt := get_calls tb fb pb hm n L id hid _ _ S0
  unfold getE at HGt
  rw [show hblk L id = some y.b by unfold hblk; rw [hy]; rfl, hy] at HGt
  unfold pv at HGt
  have HGt := Lib.hid HGt
  obtain ⟨X, S1, back⟩ := tab_node S0 hy
  obtain ⟨d0, d1⟩ := hn_cells S1
  rw [hyt] at S1 d1
  unfold thT at d1
  unfold thO at S1
  have hmi := meth_text_info y.xb
  have S2 := S1.perm (show _ = pts y.xb (txO s a) * (X * (pts w.heap.size (inO 0 0 0 0 ⟨false, false, false⟩) * R) * pts y.b (hnO y)) by ac_rfl)
  have HIn := Lib.hid (tinfo_calls y.xb s a _ _ S2)
  have S2 := Lib.hid S2
  have hB0 := Lib.hid hB0
  clear h S0 S1 back hy
  go_enter Tryz.func24, Tryz.ntmps24
  go_wp2_with fail
  refine HGt.out.mono ?_
  rintro e w1 ⟨rfl, rfl⟩
  go_wp2_with fail
  refine HIn.out.mono ?_
  rintro e w1 ⟨rfl, hB⟩
  have S3 := (S2.out.below hB).alloc (inO 2 0 a 0 ⟨true, false, false⟩)
  have S4 := (S2.out.below hB).alloc (inO 2 y.refs a 0 ⟨true, false, false⟩)
  have S4z := (S2.out.below hB).alloc (inO 2 y.refs a 0 ⟨false, false, false⟩)
  obtain ⟨p0, p1⟩ := hn_cells (S3.perm (show _ = pts y.b (hnO y) * (pts w1.heap.size (inO 2 0 a 0 ⟨true, false, false⟩) * (pts y.xb (txO s a) * (X * (pts w.heap.size (inO 0 0 0 0 ⟨false, false, false⟩) * R)))) by ac_rfl))
  obtain ⟨u0, u1, u2, u3, u4, u5, u6⟩ := in_cells S4
  obtain ⟨v0, v1, v2, v3, v4, v5, v6⟩ := in_cells S4z
  have S5 := S4z.perm (show _ = pts w.heap.size (inO 0 0 0 0 ⟨false, false, false⟩) * (pts w1.heap.size (inO 2 y.refs a 0 ⟨false, false, false⟩) * (pts y.b (hnO y) * (pts y.xb (txO s a) * (X * R)))) by ac_rfl)
  obtain ⟨z0, z1, z2, z3, z4, z5, z6⟩ := in_cells S5
  have f0 : ∀ i, (w1.alloc (inO 2 y.refs a 0 ⟨false, false, false⟩)).frozen? ⟨w.heap.size, i, none⟩ = false := fun i => free_at S5.get i
  have S6 := ((((((S5.set (i := 0) (.int .i64 2)).set (i := 1) (.int .i64 y.refs)).set (i := 2) (.int .i64 a)).set (i := 3) (.int .i64 0)).set (i := 4) (.bool false)).set (i := 5) (.bool false)).set (i := 6) (.bool false)
  obtain ⟨r0, r1, r2, r3, r4, r5, r6⟩ := in_cells (k := 2) (rf := y.refs) (a := a) (n := 0) (m := ⟨false, false, false⟩) S6
  have hle : w.heap.size ≤ w1.heap.size := Nat.le_trans hB0.out.size hB.size
  have HB := Lib.hid (((((((((hB0.out.trans (hB.mono hB0.out.size)).alloc hle (inO 2 y.refs a 0 ⟨false, false, false⟩)).setCell (Nat.le_refl _) (p := ⟨w.heap.size, 0, none⟩) (.int .i64 2)).setCell (Nat.le_refl _) (p := ⟨w.heap.size, 1, none⟩) (.int .i64 y.refs)).setCell (Nat.le_refl _) (p := ⟨w.heap.size, 2, none⟩) (.int .i64 a)).setCell (Nat.le_refl _) (p := ⟨w.heap.size, 3, none⟩) (.int .i64 0)).setCell (Nat.le_refl _) (p := ⟨w.heap.size, 4, none⟩) (.bool false)).setCell (Nat.le_refl _) (p := ⟨w.heap.size, 5, none⟩) (.bool false)).setCell (Nat.le_refl _) (p := ⟨w.heap.size, 6, none⟩) (.bool false))
  dsimp only at z4 z5 z6 u4 u5 u6 v4 v5 v6 r4 r5 r6
  clear hB HIn HGt d0 d1 S3 S4 S4z S5 S6 S2 hB0 hle
  go_wp2_with fail
  refine bodyPost_ret (v := .tuple #[inV 2 y.refs a 0 ⟨false, false, false⟩, .int .i64 0]) (by simp [results, Tryz.results24, go_sem, r0, r1, r2, r3, r4, r5, r6]) rfl ⟨rfl, HB.out⟩
set_option maxRecDepth 100000 in
set_option maxHeartbeats 8000000 in
theorem TStat_sink (tb fb pb hm n : Nat) (L : HL) (id : Int) (y : Hn) (sp q : Option Addr) (cap : Nat) (l : List UInt8) (most : Nat) (hid : I64 id) (hy : findA L id = some y) (hyt : y.t = .sink sp q cap l most) (w : World) (R : Hp)
    (h : Sat w (tabHp tb fb pb hm L n * R)) :
    Calls Tryz.prog 24 #[pp tb, .int .i64 id] w fun e w' => e = .returned (.tuple #[inV 3 y.refs (l.length : Int) 0 ⟨false, false, false⟩, .int .i64 0]) ∧ Below w.heap.size w w' := by
  have S0 := (h.alloc (inO 0 0 0 0 ⟨false, false, false⟩)).perm (show _ = tabHp tb fb pb hm L n * (pts w.heap.size (inO 0 0 0 0 ⟨false, false, false⟩) * R) by ac_rfl)
  have hB0 := (Below.refl w.heap.size w).alloc (Nat.le_refl _) (inO 0 0 0 0 ⟨false, false, false⟩)
  have HGt := get_calls tb fb pb hm n L id hid _ _ S0
  unfold getE at HGt
  rw [show hblk L id = some y.b by unfold hblk; rw [hy]; rfl, hy] at HGt
  unfold pv at HGt
  have HGt := Lib.hid HGt
  obtain ⟨X, S1, back⟩ := tab_node S0 hy
  obtain ⟨d0, d1⟩ := hn_cells S1
  rw [hyt] at S1 d1
  unfold thT at d1
  unfold thO at S1
  have hmi := meth_sink_info y.xb
  have S2 := S1.perm (show _ = pts y.xb (skO sp q l.length cap most) * (X * (pts w.heap.size (inO 0 0 0 0 ⟨false, false, false⟩) * R) * pts y.b (hnO y)) by ac_rfl)
  have HIn := Lib.hid (sinfo_calls y.xb sp q l.length cap most _ _ S2)
  have S2 := Lib.hid S2
  have hB0 := Lib.hid hB0
  clear h S0 S1 back hy
  go_enter Tryz.func24, Tryz.ntmps24
  go_wp2_with fail
  refine HGt.out.mono ?_
  rintro e w1 ⟨rfl, rfl⟩
  go_wp2_with fail
  refine HIn.out.mono ?_
  rintro e w1 ⟨rfl, hB⟩
  have S3 := (S2.out.below hB).alloc (inO 3 0 (l.length : Int) 0 ⟨false, true, false⟩)
  have S4 := (S2.out.below hB).alloc (inO 3 y.refs (l.length : Int) 0 ⟨false, true, false⟩)
  have S4z := (S2.out.below hB).alloc (inO 3 y.refs (l.length : Int) 0 ⟨false, false, false⟩)
  obtain ⟨p0, p1⟩ := hn_cells (S3.perm (show _ = pts y.b (hnO y) * (pts w1.heap.size (inO 3 0 (l.length : Int) 0 ⟨false, true, false⟩) * (pts y.xb (skO sp q l.length cap most) * (X * (pts w.heap.size (inO 0 0 0 0 ⟨false, false, false⟩) * R)))) by ac_rfl))
  obtain ⟨u0, u1, u2, u3, u4, u5, u6⟩ := in_cells S4
  obtain ⟨v0, v1, v2, v3, v4, v5, v6⟩ := in_cells S4z
  have S5 := S4z.perm (show _ = pts w.heap.size (inO 0 0 0 0 ⟨false, false, false⟩) * (pts w1.heap.size (inO 3 y.refs (l.length : Int) 0 ⟨false, false, false⟩) * (pts y.b (hnO y) * (pts y.xb (skO sp q l.length cap most) * (X * R)))) by ac_rfl)
  obtain ⟨z0, z1, z2, z3, z4, z5, z6⟩ := in_cells S5
  have f0 : ∀ i, (w1.alloc (inO 3 y.refs (l.length : Int) 0 ⟨false, false, false⟩)).frozen? ⟨w.heap.size, i, none⟩ = false := fun i => free_at S5.get i
  have S6 := ((((((S5.set (i := 0) (.int .i64 3)).set (i := 1) (.int .i64 y.refs)).set (i := 2) (.int .i64 (l.length : Int))).set (i := 3) (.int .i64 0)).set (i := 4) (.bool false)).set (i := 5) (.bool false)).set (i := 6) (.bool false)
  obtain ⟨r0, r1, r2, r3, r4, r5, r6⟩ := in_cells (k := 3) (rf := y.refs) (a := (l.length : Int)) (n := 0) (m := ⟨false, false, false⟩) S6
  have hle : w.heap.size ≤ w1.heap.size := Nat.le_trans hB0.out.size hB.size
  have HB := Lib.hid (((((((((hB0.out.trans (hB.mono hB0.out.size)).alloc hle (inO 3 y.refs (l.length : Int) 0 ⟨false, false, false⟩)).setCell (Nat.le_refl _) (p := ⟨w.heap.size, 0, none⟩) (.int .i64 3)).setCell (Nat.le_refl _) (p := ⟨w.heap.size, 1, none⟩) (.int .i64 y.refs)).setCell (Nat.le_refl _) (p := ⟨w.heap.size, 2, none⟩) (.int .i64 (l.length : Int))).setCell (Nat.le_refl _) (p := ⟨w.heap.size, 3, none⟩) (.int .i64 0)).setCell (Nat.le_refl _) (p := ⟨w.heap.size, 4, none⟩) (.bool false)).setCell (Nat.le_refl _) (p := ⟨w.heap.size, 5, none⟩) (.bool false)).setCell (Nat.le_refl _) (p := ⟨w.heap.size, 6, none⟩) (.bool false))
  dsimp only at z4 z5 z6 u4 u5 u6 v4 v5 v6 r4 r5 r6
  clear hB HIn HGt d0 d1 S3 S4 S4z S5 S6 S2 hB0 hle
  go_wp2_with fail
  refine bodyPost_ret (v := .tuple #[inV 3 y.refs (l.length : Int) 0 ⟨false, false, false⟩, .int .i64 0]) (by simp [results, Tryz.results24, go_sem, r0, r1, r2, r3, r4, r5, r6]) rfl ⟨rfl, HB.out⟩
set_option maxRecDepth 100000 in
set_option maxHeartbeats 8000000 in
theorem TStat_reader (tb fb pb hm n : Nat) (L : HL) (id : Int) (y : Hn) (bb eb bp frm : Nat) (data : List UInt8) (hid : I64 id) (hy : findA L id = some y) (hyt : y.t = .reader bb eb) (hf : frm + data.length ≤ 1000000000) (w : World) (R : Hp)
    (h : Sat w (tabHp tb fb pb hm L n * (Spill.bufX bb bp 3 4 frm data * R))) :
    Calls Tryz.prog 24 #[pp tb, .int .i64 id] w fun e w' => e = .returned (.tuple #[inV 4 y.refs (data.length : Int) 0 ⟨false, false, false⟩, .int .i64 0]) ∧ Below w.heap.size w w' := by
  have S0 := (h.alloc (inO 0 0 0 0 ⟨false, false, false⟩)).perm (show _ = tabHp tb fb pb hm L n * (Spill.bufX bb bp 3 4 frm data * (pts w.heap.size (inO 0 0 0 0 ⟨false, false, false⟩) * R)) by ac_rfl)
  have hB0 := (Below.refl w.heap.size w).alloc (Nat.le_refl _) (inO 0 0 0 0 ⟨false, false, false⟩)
  have HGt := get_calls tb fb pb hm n L id hid _ _ S0
  unfold getE at HGt
  rw [show hblk L id = some y.b by unfold hblk; rw [hy]; rfl, hy] at HGt
  unfold pv at HGt
  have HGt := Lib.hid HGt
  obtain ⟨X, S1, back⟩ := tab_node S0 hy
  obtain ⟨d0, d1⟩ := hn_cells S1
  rw [hyt] at S1 d1
  unfold thT at d1
  unfold thO at S1
  have hmi := meth_reader_info y.xb
  have S2 := S1.perm (show _ = pts y.xb (rdO bb eb) * (Spill.bufX bb bp 3 4 frm data * (X * (pts w.heap.size (inO 0 0 0 0 ⟨false, false, false⟩) * R) * pts y.b (hnO y))) by ac_rfl)
  have HIn := Lib.hid (rinfo_calls y.xb bb eb bp frm data hf _ _ S2)
  have S2 := Lib.hid S2
  have hB0 := Lib.hid hB0
  clear h S0 S1 back hy
  go_enter Tryz.func24, Tryz.ntmps24
  go_wp2_with fail
  refine HGt.out.mono ?_
  rintro e w1 ⟨rfl, rfl⟩
  go_wp2_with fail
  refine HIn.out.mono ?_
  rintro e w1 ⟨rfl, hB⟩
  have S3 := (S2.out.below hB).alloc (inO 4 0 (data.length : Int) 0 ⟨true, false, false⟩)
  have S4 := (S2.out.below hB).alloc (inO 4 y.refs (data.length : Int) 0 ⟨true, false, false⟩)
  have S4z := (S2.out.below hB).alloc (inO 4 y.refs (data.length : Int) 0 ⟨false, false, false⟩)
  obtain ⟨p0, p1⟩ := hn_cells (S3.perm (show _ = pts y.b (hnO y) * (pts w1.heap.size (inO 4 0 (data.length : Int) 0 ⟨true, false, false⟩) * (pts y.xb (rdO bb eb) * (Spill.bufX bb bp 3 4 frm data * (X * (pts w.heap.size (inO 0 0 0 0 ⟨false, false, false⟩) * R))))) by ac_rfl))
  obtain ⟨u0, u1, u2, u3, u4, u5, u6⟩ := in_cells S4
  obtain ⟨v0, v1, v2, v3, v4, v5, v6⟩ := in_cells S4z
  have S5 := S4z.perm (show _ = pts w.heap.size (inO 0 0 0 0 ⟨false, false, false⟩) * (pts w1.heap.size (inO 4 y.refs (data.length : Int) 0 ⟨false, false, false⟩) * (pts y.b (hnO y) * (pts y.xb (rdO bb eb) * (Spill.bufX bb bp 3 4 frm data * (X * R))))) by ac_rfl)
  obtain ⟨z0, z1, z2, z3, z4, z5, z6⟩ := in_cells S5
  have f0 : ∀ i, (w1.alloc (inO 4 y.refs (data.length : Int) 0 ⟨false, false, false⟩)).frozen? ⟨w.heap.size, i, none⟩ = false := fun i => free_at S5.get i
  have S6 := ((((((S5.set (i := 0) (.int .i64 4)).set (i := 1) (.int .i64 y.refs)).set (i := 2) (.int .i64 (data.length : Int))).set (i := 3) (.int .i64 0)).set (i := 4) (.bool false)).set (i := 5) (.bool false)).set (i := 6) (.bool false)
  obtain ⟨r0, r1, r2, r3, r4, r5, r6⟩ := in_cells (k := 4) (rf := y.refs) (a := (data.length : Int)) (n := 0) (m := ⟨false, false, false⟩) S6
  have hle : w.heap.size ≤ w1.heap.size := Nat.le_trans hB0.out.size hB.size
  have HB := Lib.hid (((((((((hB0.out.trans (hB.mono hB0.out.size)).alloc hle (inO 4 y.refs (data.length : Int) 0 ⟨false, false, false⟩)).setCell (Nat.le_refl _) (p := ⟨w.heap.size, 0, none⟩) (.int .i64 4)).setCell (Nat.le_refl _) (p := ⟨w.heap.size, 1, none⟩) (.int .i64 y.refs)).setCell (Nat.le_refl _) (p := ⟨w.heap.size, 2, none⟩) (.int .i64 (data.length : Int))).setCell (Nat.le_refl _) (p := ⟨w.heap.size, 3, none⟩) (.int .i64 0)).setCell (Nat.le_refl _) (p := ⟨w.heap.size, 4, none⟩) (.bool false)).setCell (Nat.le_refl _) (p := ⟨w.heap.size, 5, none⟩) (.bool false)).setCell (Nat.le_refl _) (p := ⟨w.heap.size, 6, none⟩) (.bool false))
  dsimp only at z4 z5 z6 u4 u5 u6 v4 v5 v6 r4 r5 r6
  clear hB HIn HGt d0 d1 S3 S4 S4z S5 S6 S2 hB0 hle
  go_wp2_with fail
  refine bodyPost_ret (v := .tuple #[inV 4 y.refs (data.length : Int) 0 ⟨false, false, false⟩, .int .i64 0]) (by simp [results, Tryz.results24, go_sem, r0, r1, r2, r3, r4, r5, r6]) rfl ⟨rfl, HB.out⟩
set_option maxRecDepth 100000 in
set_option maxHeartbeats 8000000 in
theorem TStat_writer (tb fb pb hm n : Nat) (L : HL) (id : Int) (y : Hn) (bb eb bp frm : Nat) (data : List UInt8) (hid : I64 id) (hy : findA L id = some y) (hyt : y.t = .writer bb eb) (hf : frm + data.length ≤ 1000000000) (w : World) (R : Hp)
    (h : Sat w (tabHp tb fb pb hm L n * (Spill.bufX bb bp 3 4 frm data * R))) :
    Calls Tryz.prog 24 #[pp tb, .int .i64 id] w fun e w' => e = .returned (.tuple #[inV 5 y.refs (data.length : Int) 0 ⟨false, false, false⟩, .int .i64 0]) ∧ Below w.heap.size w w' := by
  have S0 := (h.alloc (inO 0 0 0 0 ⟨false, false, false⟩)).perm (show _ = tabHp tb fb pb hm L n * (Spill.bufX bb bp 3 4 frm data * (pts w.heap.size (inO 0 0 0 0 ⟨false, false, false⟩) * R)) by ac_rfl)
  have hB0 := (Below.refl w.heap.size w).alloc (Nat.le_refl _) (inO 0 0 0 0 ⟨false, false, false⟩)
  have HGt := get_calls tb fb pb hm n L id hid _ _ S0
  unfold getE at HGt
  rw [show hblk L id = some y.b by unfold hblk; rw [hy]; rfl, hy] at HGt
  unfold pv at HGt
  have HGt := Lib.hid HGt
  obtain ⟨X, S1, back⟩ := tab_node S0 hy
  obtain ⟨d0, d1⟩ := hn_cells S1
  rw [hyt] at S1 d1
  unfold thT at d1
  unfold thO at S1
  have hmi := meth_writer_info y.xb
  have S2 := S1.perm (show _ = pts y.xb (wrO bb eb) * (Spill.bufX bb bp 3 4 frm data * (X * (pts w.heap.size (inO 0 0 0 0 ⟨false, false, false⟩) * R) * pts y.b (hnO y))) by ac_rfl)
  have HIn := Lib.hid (winfo_calls y.xb bb eb bp frm data hf _ _ S2)
  have S2 := Lib.hid S2
  have hB0 := Lib.hid hB0
  clear h S0 S1 back hy
  go_enter Tryz.func24, Tryz.ntmps24
  go_wp2_with fail
  refine HGt.out.mono ?_
  rintro e w1 ⟨rfl, rfl⟩
  go_wp2_with fail
  refine HIn.out.mono ?_
  rintro e w1 ⟨rfl, hB⟩
  have S3 := (S2.out.below hB).alloc (inO 5 0 (data.length : Int) 0 ⟨false, true, false⟩)
  have S4 := (S2.out.below hB).alloc (inO 5 y.refs (data.length : Int) 0 ⟨false, true, false⟩)
  have S4z := (S2.out.below hB).alloc (inO 5 y.refs (data.length : Int) 0 ⟨false, false, false⟩)
  obtain ⟨p0, p1⟩ := hn_cells (S3.perm (show _ = pts y.b (hnO y) * (pts w1.heap.size (inO 5 0 (data.length : Int) 0 ⟨false, true, false⟩) * (pts y.xb (wrO bb eb) * (Spill.bufX bb bp 3 4 frm data * (X * (pts w.heap.size (inO 0 0 0 0 ⟨false, false, false⟩) * R))))) by ac_rfl))
  obtain ⟨u0, u1, u2, u3, u4, u5, u6⟩ := in_cells S4
  obtain ⟨v0, v1, v2, v3, v4, v5, v6⟩ := in_cells S4z
  have S5 := S4z.perm (show _ = pts w.heap.size (inO 0 0 0 0 ⟨false, false, false⟩) * (pts w1.heap.size (inO 5 y.refs (data.length : Int) 0 ⟨false, false, false⟩) * (pts y.b (hnO y) * (pts y.xb (wrO bb eb) * (Spill.bufX bb bp 3 4 frm data * (X * R))))) by ac_rfl)
  obtain ⟨z0, z1, z2, z3, z4, z5, z6⟩ := in_cells S5
  have f0 : ∀ i, (w1.alloc (inO 5 y.refs (data.length : Int) 0 ⟨false, false, false⟩)).frozen? ⟨w.heap.size, i, none⟩ = false := fun i => free_at S5.get i
  have S6 := ((((((S5.set (i := 0) (.int .i64 5)).set (i := 1) (.int .i64 y.refs)).set (i := 2) (.int .i64 (data.length : Int))).set (i := 3) (.int .i64 0)).set (i := 4) (.bool false)).set (i := 5) (.bool false)).set (i := 6) (.bool false)
  obtain ⟨r0, r1, r2, r3, r4, r5, r6⟩ := in_cells (k := 5) (rf := y.refs) (a := (data.length : Int)) (n := 0) (m := ⟨false, false, false⟩) S6
  have hle : w.heap.size ≤ w1.heap.size := Nat.le_trans hB0.out.size hB.size
  have HB := Lib.hid (((((((((hB0.out.trans (hB.mono hB0.out.size)).alloc hle (inO 5 y.refs (data.length : Int) 0 ⟨false, false, false⟩)).setCell (Nat.le_refl _) (p := ⟨w.heap.size, 0, none⟩) (.int .i64 5)).setCell (Nat.le_refl _) (p := ⟨w.heap.size, 1, none⟩) (.int .i64 y.refs)).setCell (Nat.le_refl _) (p := ⟨w.heap.size, 2, none⟩) (.int .i64 (data.length : Int))).setCell (Nat.le_refl _) (p := ⟨w.heap.size, 3, none⟩) (.int .i64 0)).setCell (Nat.le_refl _) (p := ⟨w.heap.size, 4, none⟩) (.bool false)).setCell (Nat.le_refl _) (p := ⟨w.heap.size, 5, none⟩) (.bool false)).setCell (Nat.le_refl _) (p := ⟨w.heap.size, 6, none⟩) (.bool false))
  dsimp only at z4 z5 z6 u4 u5 u6 v4 v5 v6 r4 r5 r6
  clear hB HIn HGt d0 d1 S3 S4 S4z S5 S6 S2 hB0 hle
  go_wp2_with fail
  refine bodyPost_ret (v := .tuple #[inV 5 y.refs (data.length : Int) 0 ⟨false, false, false⟩, .int .i64 0]) (by simp [results, Tryz.results24, go_sem, r0, r1, r2, r3, r4, r5, r6]) rfl ⟨rfl, HB.out⟩
set_option maxRecDepth 100000 in
set_option maxHeartbeats 4000000 in
theorem TStat_none (tb fb pb hm n : Nat) (L : HL) (id : Int) (hid : I64 id) (hy : findA L id = none) (w : World) (R : Hp) (h : Sat w (tabHp tb fb pb hm L n * R)) :
    Calls Tryz.prog 24 #[pp tb, .int .i64 id] w fun e w' => e = .returned (.tuple #[inV 0 0 0 0 ⟨false, false, false⟩, .int .i64 18]) ∧ Below w.heap.size w w' := by
  have S0 := (h.alloc (inO 0 0 0 0 ⟨false, false, false⟩)).perm (show _ = tabHp tb fb pb hm L n * (pts w.heap.size (inO 0 0 0 0 ⟨false, false, false⟩) * R) by ac_rfl)
  have HGt := get_calls tb fb pb hm n L id hid _ _ S0
  unfold getE at HGt
  rw [show hblk L id = none by unfold hblk; rw [hy]; rfl, hy] at HGt
  unfold pv at HGt
  have HGt := Lib.hid HGt
  have HB := Lib.hid ((Below.refl w.heap.size w).alloc (Nat.le_refl _) (inO 0 0 0 0 ⟨false, false, false⟩))
  obtain ⟨r0, r1, r2, r3, r4, r5, r6⟩ := in_cells ((Sat.start w).alloc (inO 0 0 0 0 ⟨false, false, false⟩))
  clear h hy S0
  go_enter Tryz.func24, Tryz.ntmps24
  go_wp2_with fail
  refine HGt.out.mono ?_
  rintro e w1 ⟨rfl, rfl⟩
  clear HGt
  go_wp2_with fail
  exact bodyPost_ret (v := .tuple #[inV 0 0 0 0 ⟨false, false, false⟩, .int .i64 18]) (by simp [results, Tryz.results24, go_sem, r0, r1, r2, r3, r4, r5, r6]) rfl ⟨rfl, HB.out⟩
end Go.Proofs.YtljlpkeddbfpaaaGreatDoor.Hd

namespace Go.Proofs.YtljlpkeddbfpaaaGreatDoor.Hd
open Go.RowKit Go.Maps Go.Sort Go.Shelf Go.Proofs.YtljlpkeddbfpaaaGreatDoor Go.Proofs.YtljlpkeddbfpaaaGreatDoor.Hp
set_option linter.unusedVariables false
attribute [local go_sem] Oper.semAt_some

/-- The numbers of a table, rising. -/
def KeysOf (M : Int → Option Nat) (ks : List Int) : Prop := ks.Pairwise (· < ·) ∧ ∀ s, s ∈ ks ↔ (M s).isSome = true
theorem own_arr {w w' : World} {S : Hp} {base E n : Nat} {v : Value} {xs : List Value} (h : Sat w S) (hb : Below w.heap.size w w') (hbase : w.heap.size ≤ base) (hrow : w'.ownsRow base E 1 v n xs) : ∃ p cap, v = .slice p n cap ∧ Sat w' (arr E 1 p n cap xs * S) := by
  obtain ⟨hl, ⟨rfl, rfl⟩ | ⟨g, cap, cur, rfl, hg, hcell, h1, h2, h3, h4⟩⟩ := hrow
  · refine ⟨none, 0, rfl, ?_⟩
    have : xs = [] := List.eq_nil_of_length_eq_zero (by omega)
    subst this
    exact (h.below hb).nil_arr E 1
  · refine ⟨_, cap, rfl, ?_⟩
    refine Sat.arr_mk h1 h2 (by omega) hl (fun j hj => ?_) (Sat.fresh h (Nat.le_trans hbase hg) hcell hb.block)
    rw [← h4, List.getElem?_take_of_lt (by omega), Nat.zero_add]
    simp
theorem key_int {v : Value} {k : Lit} (h : keyOf Tryz.prog 3 v = some k) : ∃ x, k = .int .i64 x := by
  rw [keyOf_int Tryz.underlying3] at h
  cases v with
  | int q x =>
    simp only [mapKey, Tryz.underlying3] at h
    split at h
    · exact ⟨x, by injection h with h; exact h.symm⟩
    · cases h
  | _ => simp [mapKey, Tryz.underlying3] at h
theorem keys_facts {w : World} {b n sz : Nat} {D : DataW Unit} {M : Int → Option Nat} (hown : Owns w b n D) (hR : Reads D M sz) {ss : List Int} (hp : ss.Perm (intKeys D)) : KeysOf M (ss.mergeSort (fun x y => decide (x ≤ y))) := by
  obtain ⟨es, hD, hpw, _⟩ := hown.entries intKey
  obtain ⟨es', hD', hko⟩ := hown.keysOf
  obtain rfl : es = es' := by rw [hD] at hD'; simpa using hD'
  have hk : ∀ p ∈ es, ∃ x, p.1 = .int .i64 x := fun p hp => by obtain ⟨v, hv⟩ := hko p hp; exact key_int hv
  have hnd : (intKeys D).Nodup := by
    rw [hD]
    show (es.map fun p => Go.intOf p.1).Nodup
    refine List.pairwise_map.2 (hpw.imp_of_mem fun {p q} hp' hq' hne e => hne ?_)
    obtain ⟨a, ha⟩ := hk p hp'
    obtain ⟨b, hb⟩ := hk q hq'
    rw [ha, hb] at e ⊢
    exact congrArg (Lit.int .i64) e
  have hmem : ∀ x, x ∈ intKeys D ↔ Maps.has D (ik x) = true := by
    intro x
    rw [hD, has_eq, List.any_eq_true]
    show x ∈ es.map (fun p => Go.intOf p.1) ↔ _
    rw [List.mem_map]
    constructor
    · rintro ⟨p, hp', rfl⟩
      obtain ⟨a, ha⟩ := hk p hp'
      exact ⟨p, hp', by rw [ha]; simp [Lit.sameKey, Go.intOf]⟩
    · rintro ⟨p, hp', hs⟩
      obtain ⟨a, ha⟩ := hk p hp'
      rw [ha] at hs
      exact ⟨p, hp', by rw [ha]; simpa [Lit.sameKey, Go.intOf] using hs⟩
  have tr : ∀ a b c : Int, decide (a ≤ b) = true → decide (b ≤ c) = true → decide (a ≤ c) = true := fun a b c h1 h2 => by simp only [decide_eq_true_eq] at *; omega
  have tot : ∀ a b : Int, (decide (a ≤ b) || decide (b ≤ a)) = true := fun a b => by simp only [Bool.or_eq_true, decide_eq_true_eq]; omega
  have hpm : (ss.mergeSort (fun x y => decide (x ≤ y))).Perm (intKeys D) := (List.mergeSort_perm ss _).trans hp
  have hnd2 : (ss.mergeSort (fun x y => decide (x ≤ y))).Nodup := hpm.nodup_iff.2 hnd
  have hs := List.pairwise_mergeSort tr tot ss
  refine ⟨(hs.and hnd2).imp fun {a b} h => ?_, fun s => ?_⟩
  · obtain ⟨h1, h2⟩ := h
    simp only [decide_eq_true_eq] at h1
    omega
  · rw [hpm.mem_iff, hmem, hR.has]
abbrev iv (n : Int) : Value := .int .i64 n
def AllSays (tb fb pb hm n : Nat) (L : HL) (R : Hp) (e : Ending) (w' : World) : Prop :=
  ∃ p cap ks, e = .returned (.slice p (List.length ks) cap) ∧ KeysOf (hblk L) ks ∧ Sat w' (arr 3 1 p ks.length cap (ks.map iv) * (tabHp tb fb pb hm L n * R))
set_option maxRecDepth 100000 in
set_option maxHeartbeats 4000000 in
theorem All_calls (tb fb pb hm n : Nat) (L : HL) (hn : n ≤ 1000000) (w : World) (R : Hp) (h : Sat w (tabHp tb fb pb hm L n * R)) :
    Calls Tryz.prog 23 #[pp tb] w fun e w' => AllSays tb fb pb hm n L R e w' ∧ Below w.heap.size w w' := by
  obtain ⟨c0, c1, c2⟩ := tab_cells h
  obtain ⟨D, hR, HD⟩ := pmap_out (h.perm (show _ = pmap hm (hblk L) L.length n * (pts tb (tbO fb pb hm) * all (fun p : Int × Hn => hnHp fb p.2) L * R) by unfold tabHp; ac_rfl))
  obtain ⟨hO, _⟩ := mapD_out HD
  have hsz := hO.size_le
  have hs := (callsIn_wide (n := 5)).1 (Tryz.slices_Sorted_keys_42_43 hm n D _ w hO (by unfold maxLen; omega) (by omega))
  have Hs := Lib.hid hs
  have HO := Lib.hid hO
  have H0 := Lib.hid h
  clear HD hO h hs
  go_enter Tryz.func23, Tryz.ntmps23
  go_wp2_with fail
  refine ((callsIn_wide (n := 5)).1 (Tryz.maps_Keys_43 (some hm) w)).mono ?_
  rintro e w1 ⟨rfl, rfl⟩
  go_wp2_with fail
  refine Hs.out.mono ?_
  rintro e w2 ⟨v, ss, rfl, hp, hrow, _, hb⟩
  have hb2 : Below w.heap.size w w2 := ((Below.refl _ w).alloc (Nat.le_refl _) _).trans (hb.mono (by rw [World.size_alloc]; exact Nat.le_succ _))
  obtain ⟨p, cap, rfl, HA⟩ := own_arr H0.out hb2 (by rw [World.size_alloc]; exact Nat.le_succ _) hrow
  have hlen : (ss.mergeSort (fun x y => decide (x ≤ y))).length = ss.length := by rw [List.length_mergeSort]
  have hfin : AllSays tb fb pb hm n L R (.returned (.slice p ss.length cap)) w2 := by
    refine ⟨p, cap, ss.mergeSort (fun x y => decide (x ≤ y)), by rw [hlen], keys_facts HO.out hR hp, ?_⟩
    rw [hlen]
    exact HA
  have Hfin := Lib.hid hfin
  clear hfin HA hrow hp hlen hb Hs HO H0
  go_wp2_with fail
  go_ret
  exact ⟨Hfin.out, hb2⟩
end Go.Proofs.YtljlpkeddbfpaaaGreatDoor.Hd

