/- HandlesPlays, part 10 of 26: the texts PaE PaF GlU GlM, joined by a program. -/
import Derived.Test.YtndjgeohkfenfaaGreatDoorPq9
import Derived.Lib.SliceRun
import Derived.Test.YtndjgeohkfenfaaGreatDoorPq2
import Derived.Deep.RegionLaw
import Derived.Test.YtndjgeohkfenfaaGreatDoorPq5
namespace Go.Proofs.YtndjgeohkfenfaaGreatDoor.Globs
open Go.RowKit Go.Proofs.YtndjgeohkfenfaaGreatDoor Go.Proofs.YtndjgeohkfenfaaGreatDoor.Hp
set_option linter.unusedVariables false
attribute [local go_sem] Oper.semAt_some

def zerosCh (n : Nat) : List Value := (Builtin.zeroCells (Value.agg #[.int .u8 0, .bool false]).cells n).toList
theorem zerosCh_len (n : Nat) : (zerosCh n).length = n * 2 := by simp [zerosCh, Builtin.zeroCells, Value.cells]
theorem zerosCh_one (n : Nat) : ∀ v ∈ zerosCh n, v.oneCell' = true := by
  intro v hv
  unfold zerosCh Builtin.zeroCells at hv
  simp [Value.cells] at hv
  obtain ⟨a, ha, rfl⟩ := hv
  rcases Nat.mod_two_eq_zero_or_one a with m | m <;> rw [m] <;> rfl
theorem clear_ch (w : World) (b o n c : Nat) (ty : TypeId) (hn : 0 < n) (hc : ∀ j, j < n * 2 → (w.cell? ⟨b, o + j, none⟩).isSome = true) (hf : ∀ j, j < n * 2 → w.frozen? ⟨b, o + j, none⟩ = false) :
    (Builtin.clear_ #[22] ty #[.slice (some ⟨b, o, none⟩) n c]).run Tryz.prog w = .ok (.tuple #[]) (w.setCells b o (zerosCh n)) := by
  have hst := run_storeCells_cells (P := Tryz.prog) b o (zerosCh n) 0 w (by rw [zerosCh_len]; simpa using hc) (by rw [zerosCh_len]; simpa using hf) (zerosCh_one n)
  simp only [Nat.add_zero] at hst
  unfold zerosCh at hst ⊢
  obtain ⟨m, rfl⟩ : ∃ m, n = m + 1 := ⟨n - 1, by omega⟩
  simp [Builtin.clear_, run_underlying Tryz.underlying22, hst]
theorem arr_beyond {w : World} {R : Hp} {E sz n cap b o : Nat} {xs : List Value} (h : Sat w (arr E sz (some ⟨b, o, none⟩) n cap xs * R)) (k : Nat) (hk : k ≤ n) (vs : List Value) (hv : k * sz + vs.length ≤ cap * sz) :
    Sat (w.setCells b (o + k * sz) vs) (arr E sz (some ⟨b, o, none⟩) k cap (xs.take (k * sz)) * R) ∧ Ran w (w.setCells b (o + k * sz) vs) := by
  obtain ⟨cur, h1, h2, h3, h4, h5, h6, hh⟩ := h.arr_some
  simp at h4 h6 hh
  have hks : k * sz ≤ n * sz := Nat.mul_le_mul_right _ hk
  obtain ⟨⟨cur', g1, g2, g3⟩, g4, g5⟩ := heap_setCells b vs (o + k * sz) w cur E (0, 0) hh.get (by omega)
  refine ⟨Sat.arr_mk (by omega) h3 (by rw [g2]; exact h4) (by rw [List.length_take]; omega) (fun j hj => ?_) (hh.put g1 fun k _ hk => g4 k hk), g5⟩
  rw [List.length_take] at hj
  rw [g3, if_neg (by omega), h6 j (by omega), List.getElem?_take, if_pos (by omega)]
theorem chCells_append (l m : List Ch) : chCells (l ++ m) = chCells l ++ chCells m := by unfold chCells; rw [List.flatMap_append]
theorem chCells_take (l : List Ch) (k : Nat) : (chCells l).take (k * 2) = chCells (l.take k) := by
  rcases Nat.lt_or_ge k l.length with h | h
  · conv => lhs; rw [← List.take_append_drop k l, chCells_append]
    rw [List.take_append_of_le_length (by rw [chCells_length, List.length_take]; omega), List.take_of_length_le (by rw [chCells_length, List.length_take]; omega)]
  · rw [List.take_of_length_le h, List.take_of_length_le (by rw [chCells_length]; omega)]
/-- A marked byte written into a text. -/
theorem chA_set {w : World} {S : Hp} {b o cap : Nat} {l : List Ch} (h : Sat w (chA (some ⟨b, o, none⟩) cap l * S)) (k : Nat) (hk : k < l.length) (c : Ch) :
    Sat ((w.setCell ⟨b, o + k * 2, none⟩ (.int .u8 c.b.toNat)).setCell ⟨b, o + k * 2 + 1, none⟩ (.bool c.q)) (chA (some ⟨b, o, none⟩) cap (l.set k c) * S) := by
  have h1 := (h.arr_set (k * 2) (.int .u8 c.b.toNat)).arr_set (k * 2 + 1) (.bool c.q)
  rw [← Nat.add_assoc] at h1
  have e : ((chCells l).set (k * 2) (.int .u8 c.b.toNat)).set (k * 2 + 1) (.bool c.q) = chCells (l.set k c) := by
    have hl : l = l.take k ++ (l[k] :: l.drop (k + 1)) := by rw [← List.drop_eq_getElem_cons hk, List.take_append_drop]
    have hs : l.set k c = l.take k ++ (c :: l.drop (k + 1)) := by
      rw [List.set_eq_take_append_cons_drop, if_pos hk]
    rw [hs]
    conv => lhs; rw [hl]
    rw [chCells_append, chCells_append]
    have hlen : (chCells (l.take k)).length = k * 2 := by rw [chCells_length, List.length_take]; omega
    rw [List.set_append_right _ _ (by omega), List.set_append_right _ _ (by omega), hlen, Nat.sub_self, Nat.add_sub_cancel_left]
    rfl
  rw [e] at h1
  unfold chA
  rw [List.length_set]
  exact h1
def CfOut (t : List Ch) (p : Option Addr) (cap : Nat) (S : Hp) (w : World) (g : Nat) (kv : Value) (wr : World) : Prop :=
  ∃ k : Nat, k + g = t.length ∧ 1 ≤ k ∧ kv = .int .i64 (k : Int) ∧ (∀ j (h : j + 1 < t.length), j + 1 < k → two47 (t[j + 1]) (t[j]) = false) ∧ Sat wr (chA p cap t * S) ∧ Ran w wr
def CfIn (t : List Ch) (K : Nat) (p : Option Addr) (cap : Nat) (S : Hp) (w : World) (g : Nat) (kv k2v : Value) (wr : World) : Prop :=
  ∃ (m : Nat) (L : List Ch), K + m + g = t.length ∧ 1 ≤ m ∧ k2v = .int .i64 (m : Int) ∧ L = singleL (t.take (K + m)) ∧ L.length + 1 ≤ K + m ∧ kv = .int .i64 (L.length : Int) ∧ Sat wr (chA p cap (L ++ t.drop L.length) * S) ∧ Ran w wr
theorem sg_short {t : List Ch} (h : t.length < 2) : singleL t = t := sg_none t false (fun _ _ => rfl) fun j hj => by omega
set_option maxRecDepth 100000 in
set_option maxHeartbeats 4000000 in
theorem compact_calls (t : List Ch) (p : Option Addr) (cap : Nat) (w : World) (S : Hp) (h : Sat w (chA p cap t * S)) (hm : t.length ≤ 100000) :
    Calls Tryz.prog 59 #[.slice p t.length cap, .func (.func 60) #[] #[]] w fun e w' => (e = .returned (.slice p (singleL t).length cap) ∧ Sat w' (chA p cap (singleL t) * S)) ∧ Ran w w' := by
  have hmI : (t.length : Int) ≤ 100000 := by omega
  by_cases h2 : t.length < 2
  · rw [sg_short h2]
    have h2I : (t.length : Int) < 2 := by omega
    have H := Lib.hid h
    clear h h2
    go_enter Tryz.func59, Tryz.ntmps59
    go_wp2_with fail
    go_ret
    exact ⟨⟨rfl, H.out⟩, Below.refl _ _⟩
  have h2I : ¬ (t.length : Int) < 2 := by omega
  have hcap := (h.arr_len).2
  obtain ⟨b, o, rfl⟩ := h.arr_addr (by omega)
  have hlc : (t.length : Int) ≤ (cap : Int) := by omega
  have H := Lib.hid h
  have Hcl := Lib.hid single1_calls
  clear h
  go_enter Tryz.func59, Tryz.ntmps59
  go_wp2_with fail
  go_loopg [5] (t.length - 1) (fun (g : Nat) (kv : Value) (wr : World) => CfOut t (some ⟨b, o, none⟩) cap S w g kv wr)
  case atStart => exact ⟨1, by omega, by omega, rfl, fun j _ hj => by omega, H.out, Below.refl _ _⟩
  case round =>
    clear H
    obtain ⟨k, hkg, hk1, rfl, hno, HS, HR⟩ := hrel
    by_cases hk : k < t.length
    · have hkI : (k : Int) < (t.length : Int) := by omega
      have hk0 : (0 : Int) ≤ (k : Int) := by omega
      obtain ⟨j, hj⟩ : ∃ j, k = j + 1 := ⟨k - 1, by omega⟩
      have hjI : (k : Int) - 1 = (j : Int) := by omega
      have hjt : j < t.length := by omega
      have hj0 : (0 : Int) ≤ (j : Int) := by omega
      have hjl : (j : Int) < (t.length : Int) := by omega
      have hjw : IntKind.i64.wrap (j : Int) = (j : Int) := IntWalk.i64_in _ (by omega)
      have hat := chA_at HS
      obtain ⟨b1, o1, e1, hb1, x0, x1⟩ := hat.2.2 k hk
      injection e1 with e1; injection e1 with e1 e2; subst e1 e2
      obtain ⟨b1, o1, e1, hb1, y0, y1⟩ := hat.2.2 j hjt
      injection e1 with e1; injection e1 with e1 e2; subst e1 e2
      obtain ⟨x, hx⟩ : ∃ x, x = t[k] := ⟨_, rfl⟩
      obtain ⟨y, hy⟩ : ∃ y, y = t[j] := ⟨_, rfl⟩
      rw [← hx] at x0 x1
      rw [← hy] at y0 y1
      obtain ⟨v, hv⟩ : ∃ v, v = two47 x y := ⟨_, rfl⟩
      have Hc := Lib.hid (fun W => Hcl.out x y W)
      rw [← hv] at Hc
      have HS0 := Lib.hid HS
      have Hx := Lib.hid hx
      have Hy := Lib.hid hy
      have Hv := Lib.hid hv
      have Hno := Lib.hid hno
      have Hkg := Lib.hid hkg
      have Hj := Lib.hid hj
      clear hx hy hv hno hkg hj HS hat
      go_upto_region 6 with fail
      refine region_plan (S := (fun w' => w'.cell? ⟨b, o + k * 2, none⟩ = some (.int .u8 x.b.toNat) ∧ w'.cell? ⟨b, o + k * 2 + 1, none⟩ = some (.bool x.q) ∧ w'.cell? ⟨b, o + j * 2, none⟩ = some (.int .u8 y.b.toNat) ∧ w'.cell? ⟨b, o + j * 2 + 1, none⟩ = some (.bool y.q))) [(0, true), (1, true), (2, true), (3, true), (4, true), (5, true), (6, true), (7, true), (8, true), (9, true), (10, false)] (by kernel_rfl) (by kernel_rfl) (by kernel_rfl) ?_ ?_
      · ((try dsimp only); (first | done | (first | exact ⟨x0, x1, y0, y1⟩ | exact K5)))
      simp only [planOps, List.map_cons, List.map_nil, List.getElem?_toArray, List.getElem?_cons_zero, List.getElem?_cons_succ]
      repeat (first
        | ((refine plan_yes (v := ?_) (by rfl) ?_ ?_); rotate_left; (focus (intro w hSw; (try dsimp only at hSw); go_simp; try (with_reducible rfl))); (try simp only [Act.put, List.setIfInBounds_toArray, List.set_cons_zero, List.set_cons_succ]))
        | ((refine plan_no (by rfl) ?_); (try simp only [Act.put, List.setIfInBounds_toArray, List.set_cons_zero, List.set_cons_succ]))
        | ((refine plan_step (fun K hK => ?_)); (first | (go_simp; ((go_at_call 60; refine (Hc.out _).mono ?_; rintro e w5 ⟨rfl, hb5⟩; have K5 := (And.intro ((below_cell hb5 hb1 _).trans x0) (And.intro ((below_cell hb5 hb1 _).trans x1) (And.intro ((below_cell hb5 hb1 _).trans y0) ((below_cell hb5 hb1 _).trans y1)))))); (try go_wp2_with fail)) | go_simp); (refine hK.out _ _ ?_ (fun hHeld => ?_)); (focus ((try dsimp only); (first | done | (first | exact ⟨x0, x1, y0, y1⟩ | exact K5)))); clear hK K; (try simp only [Act.put, List.setIfInBounds_toArray, List.set_cons_zero, List.set_cons_succ])))
      refine plan_done ?_
      have HS5 := Lib.hid (HS0.out.drew.below hb5)
      have R5 : Ran w w5 := Below.trans (Ran.drewN HR 1) (hb5.mono (Nat.zero_le _))
      clear HS0 Hc K5 hb5 HR x0 x1 y0 y1
      cases v with
      | false =>
        go_wp2_with fail
        go_roundg (gk - 1)
        case measure => have := Hkg.out; omega
        case rel =>
          refine ⟨k + 1, by have := Hkg.out; omega, by omega, by go_num, fun i hi hik => ?_, HS5.out, R5⟩
          by_cases e : i + 1 < k
          · exact Hno.out i hi e
          · have hij : i = j := by have := Hj.out; omega
            subst hij
            have := Hv.out
            rw [Hx.out, Hy.out] at this
            rw [this]
            congr 1
            congr 1
            exact Hj.out.symm
      | true =>
        obtain ⟨n2, hn2⟩ : ∃ n2, n2 + k = t.length := ⟨t.length - k, by omega⟩
        have hta : tailA (some ⟨b, o, none⟩) k cap 2 = some ⟨b, o + k * 2, none⟩ := by unfold tailA; rw [if_neg (by omega)]; show some (Addr.add _ _) = _; rw [Addr.add_lit]
        have hsl : ∀ W, (Instr.slice 22 (.slice (some ⟨b, o, none⟩) t.length cap) (some (.int .i64 (k : Int))) none none).run Tryz.prog W = .ok (.slice (some ⟨b, o + k * 2, none⟩) n2 (cap - k)) W := fun W => by
          rw [slice_from (some ⟨b, o, none⟩) t.length cap k (by omega) W, hta, show t.length - k = n2 by omega]
        have hL0 : singleL (t.take (k + 1)) = t.take k := by
          have h1 := sg_take t k hk (by omega)
          have hv2 := Hv.out
          rw [Hx.out, Hy.out] at hv2
          rw [h1]
          have e : t[k - 1] = t[j] := by congr 1; have := Hj.out; omega
          rw [e, ← hv2, if_pos rfl, List.append_nil]
          exact sg_none _ _ (fun _ _ => rfl) fun i hi => by
            have hi2 : i + 1 < k := by rw [List.length_take] at hi; omega
            rw [List.getElem_take, List.getElem_take]
            exact Hno.out i (by omega) hi2
        have HL0 := Lib.hid hL0
        have Hn2 := Lib.hid hn2
        have Hta := Lib.hid hta
        clear hL0 hn2 hta Hx Hy Hv Hno
        go_wp2_with fail
        go_loopg [5, 7] (t.length - k - 1) (fun (g : Nat) (kv k2v : Value) (wr : World) => CfIn t k (some ⟨b, o, none⟩) cap S w g kv k2v wr)
        case atStart => exact ⟨1, t.take k, by have := Hn2.out; omega, by omega, rfl, HL0.out.symm, by rw [List.length_take]; omega, by rw [List.length_take, Nat.min_eq_left (by omega)], by
          rw [List.length_take, Nat.min_eq_left (by omega), List.take_append_drop]
          exact HS5.out, R5⟩
        case round =>
          clear HS5 R5
          obtain ⟨m, L, hmg, hm1, rfl, hL, hLl, rfl, HS, HR⟩ := hrel
          have hAl : (L ++ t.drop L.length).length = t.length := by rw [List.length_append, List.length_drop]; omega
          have hlI : (L.length : Int) < (t.length : Int) := by omega
          have hl0 : (0 : Int) ≤ (L.length : Int) := by omega
          have hn2I : (n2 : Int) + (k : Int) = (t.length : Int) := by have := Hn2.out; omega
          by_cases hm : m < n2
          · have hmI : (m : Int) < (n2 : Int) := by omega
            have hm0 : (0 : Int) ≤ (m : Int) := by omega
            obtain ⟨i, hi⟩ : ∃ i, m = i + 1 := ⟨m - 1, by omega⟩
            have hiI : (m : Int) - 1 = (i : Int) := by omega
            have hi0 : (0 : Int) ≤ (i : Int) := by omega
            have hil : (i : Int) < (n2 : Int) := by omega
            have hiw : IntKind.i64.wrap (i : Int) = (i : Int) := IntWalk.i64_in _ (by have := Hn2.out; omega)
            have hkm : k + m < t.length := by have := Hn2.out; omega
            have hki : k + i < t.length := by omega
            have hat := chA_at HS
            obtain ⟨b1, o1, e1, hb1, x0, x1⟩ := hat.2.2 (k + m) (by omega)
            injection e1 with e1; injection e1 with e1 e2; subst e1 e2
            obtain ⟨b1, o1, e1, hb1, y0, y1⟩ := hat.2.2 (k + i) (by omega)
            injection e1 with e1; injection e1 with e1 e2; subst e1 e2
            have ga : ∀ q (h1 : L.length ≤ q) (h2 : q < t.length), (L ++ t.drop L.length)[q]'(by omega) = t[q] := fun q h1 h2 => by
              rw [List.getElem_append_right h1, List.getElem_drop]
              congr 1; omega
            rw [ga (k + m) (by omega) hkm, Nat.add_mul, ← Nat.add_assoc] at x0 x1
            rw [ga (k + i) (by omega) hki, Nat.add_mul, ← Nat.add_assoc] at y0 y1
            obtain ⟨x, hx⟩ : ∃ x, x = t[k + m] := ⟨_, rfl⟩
            obtain ⟨y, hy⟩ : ∃ y, y = t[k + i] := ⟨_, rfl⟩
            rw [← hx] at x0 x1
            rw [← hy] at y0 y1
            obtain ⟨v, hv⟩ : ∃ v, v = two47 x y := ⟨_, rfl⟩
            have Hc := Lib.hid (fun W => Hcl.out x y W)
            rw [← hv] at Hc
            have hstep : singleL (t.take (k + m + 1)) = L ++ if v = true then [] else [x] := by
              rw [sg_take t (k + m) hkm (by omega), ← hL, hv, hx, hy]
              have e : t[k + m - 1] = t[k + i] := by congr 1; omega
              rw [e]
            have HS0 := Lib.hid HS
            have Hstep := Lib.hid hstep
            have Hmg := Lib.hid hmg
            have Hi := Lib.hid hi
            have HAl := Lib.hid hAl
            have HLl := Lib.hid hLl
            obtain ⟨l, hl⟩ : ∃ l, l = L.length := ⟨_, rfl⟩
            rw [← hl] at hlI hl0 ⊢
            have Hl := Lib.hid hl
            have hlM : (l : Int) ≤ 100000 := by omega
            have hlc2 : (l : Int) ≤ (cap : Int) := by omega
            clear hv hmg hi hL HS hat hstep hx hy ga hAl hLl hl
            go_upto_region 11 with fail
            refine region_plan (S := (fun w' => w'.cell? ⟨b, o + k * 2 + m * 2, none⟩ = some (.int .u8 x.b.toNat) ∧ w'.cell? ⟨b, o + k * 2 + m * 2 + 1, none⟩ = some (.bool x.q) ∧ w'.cell? ⟨b, o + k * 2 + i * 2, none⟩ = some (.int .u8 y.b.toNat) ∧ w'.cell? ⟨b, o + k * 2 + i * 2 + 1, none⟩ = some (.bool y.q))) [(0, true), (1, true), (2, true), (3, true), (4, true), (5, true), (6, true), (7, true), (8, true), (9, true), (10, false), (11, true)] (by kernel_rfl) (by kernel_rfl) (by kernel_rfl) ?_ ?_
            · ((try dsimp only); (first | done | (first | exact ⟨x0, x1, y0, y1⟩ | exact K5)))
            simp only [planOps, List.map_cons, List.map_nil, List.getElem?_toArray, List.getElem?_cons_zero, List.getElem?_cons_succ]
            repeat (first
              | ((refine plan_yes (v := ?_) (by rfl) ?_ ?_); rotate_left; (focus (intro w hSw; (try dsimp only at hSw); go_simp; try (with_reducible rfl))); (try simp only [Act.put, List.setIfInBounds_toArray, List.set_cons_zero, List.set_cons_succ]))
              | ((refine plan_no (by rfl) ?_); (try simp only [Act.put, List.setIfInBounds_toArray, List.set_cons_zero, List.set_cons_succ]))
              | ((refine plan_step (fun K hK => ?_)); (first | (go_simp; ((go_at_call 60; refine (Hc.out _).mono ?_; rintro e w5 ⟨rfl, hb5⟩; have K5 := (And.intro ((below_cell hb5 hb1 _).trans x0) (And.intro ((below_cell hb5 hb1 _).trans x1) (And.intro ((below_cell hb5 hb1 _).trans y0) ((below_cell hb5 hb1 _).trans y1)))))); (try go_wp2_with fail)) | go_simp); (refine hK.out _ _ ?_ (fun hHeld => ?_)); (focus ((try dsimp only); (first | done | (first | exact ⟨x0, x1, y0, y1⟩ | exact K5)))); clear hK K; (try simp only [Act.put, List.setIfInBounds_toArray, List.set_cons_zero, List.set_cons_succ])))
            refine plan_done ?_
            have HS5 := HS0.out.drew.below hb5
            have R5 := Below.trans (Ran.drewN HR 1) (hb5.mono (Nat.zero_le _))
            obtain ⟨x0, x1, y0, y1⟩ := K5
            have hz := HS5.arr_free
            clear HS0 Hc hb5 HR
            cases v with
            | true =>
              have HS5 := Lib.hid HS5
              clear hz x0 x1 y0 y1
              go_wp2_with fail
              go_roundg (gk - 1)
              case measure => have := Hmg.out; have := Hn2.out; omega
              case rel => exact ⟨m + 1, L, by have := Hmg.out; have := Hn2.out; omega, by omega, by go_num, by have := Hstep.out; simp at this; exact this.symm, by have := HLl.out; omega, by rw [Hl.out], HS5.out, R5⟩
            | false =>
              have S6 := Lib.hid (chA_set HS5 L.length (by rw [HAl.out]; have := Hl.out; omega) x)
              rw [← Hl.out] at S6
              have hcl : l * 2 + 1 < (chCells (L ++ t.drop L.length)).length := by rw [chCells_length, HAl.out]; omega
              obtain ⟨u0, hu0⟩ : ∃ u, w5.cell? ⟨b, o + l * 2, none⟩ = some u := ⟨_, HS5.arr_cell (l * 2) (by omega)⟩
              have HS5' := HS5.arr_set (l * 2) (.int .u8 x.b.toNat)
              obtain ⟨u1, hu1⟩ : ∃ u, (w5.setCell ⟨b, o + l * 2, none⟩ (.int .u8 x.b.toNat)).cell? ⟨b, o + l * 2 + 1, none⟩ = some u := ⟨_, HS5'.arr_cell (l * 2 + 1) (by rw [List.length_set]; exact hcl)⟩
              have hz1 : (w5.setCell ⟨b, o + l * 2, none⟩ (.int .u8 x.b.toNat)).frozen? ⟨b, o + l * 2 + 1, none⟩ = false := HS5'.arr_free _
              have HS5 := Lib.hid HS5
              clear HS5' hcl
              obtain ⟨w6, hw6⟩ : ∃ w6, w6 = (w5.setCell ⟨b, o + l * 2, none⟩ (.int .u8 x.b.toNat)).setCell ⟨b, o + l * 2 + 1, none⟩ (.bool x.q) := ⟨_, rfl⟩
              have R6 : Ran w w6 := by rw [hw6]; exact Ran.set (Ran.set R5 _ _) _ _
              rw [← hw6] at S6
              have Hfin := Lib.hid (show CfIn t k (some ⟨b, o, none⟩) cap S w (gk - 1) (.int .i64 ((l : Int) + 1)) (.int .i64 ((m : Int) + 1)) w6 from by
                refine ⟨m + 1, L ++ [x], by have := Hmg.out; have := Hn2.out; omega, by omega, by go_num, ?_, ?_, ?_, ?_, R6⟩
                · have := Hstep.out; simp at this; exact this.symm
                · rw [List.length_append]; have := HLl.out; simp; omega
                · rw [List.length_append, ← Hl.out]; rfl
                · have hs : (L ++ t.drop L.length).set L.length x = (L ++ [x]) ++ t.drop (L ++ [x]).length := by
                    have hd : L.length < t.length := by have := Hl.out; omega
                    rw [List.set_append_right _ _ (Nat.le_refl _), Nat.sub_self, List.drop_eq_getElem_cons hd, List.set_cons_zero, List.append_assoc, List.length_append]
                    rfl
                  rw [← hs, ← Hl.out]
                  exact S6.out)
              clear S6 R6 R5
              go_wp2_with fail
              rw [← hw6]
              clear hw6
              go_roundg (gk - 1)
              case measure => have := Hmg.out; have := Hn2.out; omega
              case rel => exact Hfin.out
          · have hge : ¬ (m : Int) < (n2 : Int) := by omega
            have hme : k + m = t.length := by have := Hn2.out; omega
            rw [hme, List.take_length] at hL
            have hz := HS.arr_free
            have hcl := HS.arr_len
            obtain ⟨cur, g1, g2, g3, g4, g5, g6, g7⟩ := HS.arr_some
            have hsz := g4
            have hpt := g7.get
            dsimp only at hsz hpt
            obtain ⟨n3, hn3⟩ : ∃ n3, n3 + L.length = t.length := ⟨t.length - L.length, by omega⟩
            have hn30 : 0 < n3 := by omega
            obtain ⟨l, hl⟩ : ∃ l, l = L.length := ⟨_, rfl⟩
            have hclr : ∀ ty, (Builtin.clear_ #[22] ty #[.slice (some ⟨b, o + l * 2, none⟩) n3 (cap - l)]).run Tryz.prog wr = .ok (.tuple #[]) (wr.setCells b (o + l * 2) (zerosCh n3)) := fun ty =>
              clear_ch wr b (o + l * 2) n3 (cap - l) ty hn30 (fun q hq => by rw [cell_at hpt, Array.getElem?_eq_getElem (by omega)]; rfl) (fun q _ => free_at hpt _)
            obtain ⟨S7, R7⟩ := arr_beyond HS L.length (by omega) (zerosCh n3) (by rw [zerosCh_len]; omega)
            rw [chCells_take, List.take_left, ← hl] at S7
            rw [← hl] at R7
            obtain ⟨w7, hw7⟩ : ∃ w7, w7 = wr.setCells b (o + l * 2) (zerosCh n3) := ⟨_, rfl⟩
            rw [← hw7] at S7 R7 hclr
            have S7 := Lib.hid S7
            have R7 := Lib.hid (Below.trans HR R7)
            have hta2 : tailA (some ⟨b, o, none⟩) l cap 2 = some ⟨b, o + l * 2, none⟩ := by unfold tailA; rw [if_neg (by omega)]; show some (Addr.add _ _) = _; rw [Addr.add_lit]
            have hsl2 : ∀ W, (Instr.slice 22 (.slice (some ⟨b, o, none⟩) t.length cap) (some (.int .i64 (l : Int))) none none).run Tryz.prog W = .ok (.slice (some ⟨b, o + l * 2, none⟩) n3 (cap - l)) W := fun W => by
              rw [slice_from (some ⟨b, o, none⟩) t.length cap l (by omega) W, hta2, show t.length - l = n3 by omega]
            rw [← hl] at hlI hl0 ⊢
            have hlc2 : (l : Int) ≤ (cap : Int) := by omega
            have HL := Lib.hid hL
            have Hl := Lib.hid hl
            clear hL hl HS hcl g1 g2 g3 g4 g5 g6 g7 hsz hpt hw7 hz hta2 hme hmg hLl hAl hn3 hn30 HR
            go_wp2_with fail
            go_ret
            refine ⟨⟨?_, ?_⟩, R7.out⟩
            · rw [← HL.out, ← Hl.out]; rfl
            · rw [← HL.out]; unfold chA; rw [← Hl.out]; exact S7.out
    · have hge : ¬ (k : Int) < (t.length : Int) := by omega
      have hs : singleL t = t := sg_none t false (fun _ _ => rfl) fun j hj => hno j hj (by omega)
      have Hs := Lib.hid hs
      have HS := Lib.hid HS
      clear hno hkg hs
      go_wp2_with fail
      go_ret
      exact ⟨⟨by rw [Hs.out]; rfl, by rw [Hs.out]; exact HS.out⟩, HR⟩
end Go.Proofs.YtndjgeohkfenfaaGreatDoor.Globs

namespace Go.Proofs.YtndjgeohkfenfaaGreatDoor.Globs
open Go.RowKit Go.Proofs.YtndjgeohkfenfaaGreatDoor Go.Proofs.YtndjgeohkfenfaaGreatDoor.Hp
set_option linter.unusedVariables false
attribute [local go_sem] Oper.semAt_some

theorem single_calls (t : List Ch) (ao : Option Addr) (cap : Nat) (w : World) (S : Hp) (hrd : Rd S ao cap t) (h : Sat w S) (hm : t.length ≤ 100000) :
    Calls Tryz.prog 33 #[.slice ao t.length cap] w fun e w' => OwnPost (singleL t) S e w' ∧ Ran w w' := by
  have hc := Lib.hid (clone_calls t ao cap w S (fun W S' hs => hrd W S' hs) h (by omega))
  clear h hrd
  go_enter Tryz.func33, Tryz.ntmps33
  go_wp2_with fail
  refine hc.out.mono ?_
  rintro e w1 ⟨⟨p, pc, rfl, HS1⟩, R1⟩
  have hd := Lib.hid (compact_calls t p pc w1 S HS1 hm)
  clear HS1
  go_wp2_with fail
  refine hd.out.mono ?_
  rintro e w2 ⟨⟨rfl, HS2⟩, R2⟩
  have R3 := Below.trans R1 R2
  go_wp2_with fail
  go_ret
  exact ⟨⟨p, pc, rfl, HS2⟩, R3⟩
/-- The same in the form 'nothing that was there has turned'. -/
theorem single_below (t : List Ch) (ao : Option Addr) (cap : Nat) (w : World) (h : CharsAt w ao cap t) (hm : t.length ≤ 100000) :
    Calls Tryz.prog 33 #[.slice ao t.length cap] w (CharsPost (singleL t) w) := by
  refine (single_calls t ao cap w (keep w) (fun W S' hs => h.keep (kept_of (hs.perm (show _ = S' * keep w by ac_rfl)))) (Sat.start w) hm).mono ?_
  rintro e w' ⟨⟨p, pc, rfl, HS⟩, HR⟩
  exact ⟨p, pc, rfl, chA_at HS, HR.whole HS⟩
def fitsP (t : List Ch) (path : List UInt8) : Bool := pathB (compileL (singleL t) true) (sgB false path)
theorem bt2 {w a b : World} (h : Below w.heap.size w a) (k : Below a.heap.size a b) : Below w.heap.size w b := h.trans (k.mono h.size)
set_option maxHeartbeats 1000000 in
theorem Fits_calls (t : List Ch) (path : ByteArray) (ao : Option Addr) (cap : Nat) (w : World) (h : CharsAt w ao cap t) (hm : t.length ≤ 10000) (hp : path.size ≤ 10000) :
    Calls Tryz.prog 12 #[.slice ao t.length cap, .string path] w (FPost (fitsP t (bs path)) w) := by
  have hsl := single_len t
  have hml : (markL (bs path) true).length = path.size := by unfold markL; rw [List.length_map, bs_length]
  have hsl2 := single_len (markL (bs path) true)
  have hfin : (singleL (markL (bs path) true)).map (·.b) = sgB false (bs path) := sg_marks (bs path) false true
  have h1 := Lib.hid (single_below t ao cap w h (by omega))
  have Hfin := Lib.hid hfin
  have Hsl := Lib.hid hsl
  have Hsl2 := Lib.hid hsl2
  have Hml := Lib.hid hml
  clear h hfin hsl hsl2 hml
  go_enter Tryz.func12, Tryz.ntmps12
  go_wp2_with fail
  refine h1.out.mono ?_
  rintro e w1 ⟨p1, c1, rfl, C1, B1⟩
  have h2 := Lib.hid (compile_calls (singleL t) true p1 c1 w1 C1 (by have := Hsl.out; omega))
  go_wp2_with fail
  refine h2.out.mono ?_
  rintro e w2 ⟨p2, c2, rfl, C2, B2⟩
  have h3 := Lib.hid (of_calls path true w2 (by omega))
  go_wp2_with fail
  refine h3.out.mono ?_
  rintro e w3 ⟨p3, c3, rfl, C3, B3⟩
  have h4 := Lib.hid (single_below (markL (bs path) true) p3 c3 w3 C3 (by have := Hml.out; omega))
  go_wp2_with fail
  refine h4.out.mono ?_
  rintro e w4 ⟨p4, c4, rfl, C4, B4⟩
  have h5 := Lib.hid (plain_calls (singleL (markL (bs path) true)) p4 c4 w4 C4 (by have := Hml.out; have := Hsl2.out; omega))
  go_wp2_with fail
  refine h5.out.mono ?_
  rintro e w5 ⟨rfl, B5⟩
  rw [Hfin.out]
  have hsz : (⟨(sgB false (bs path)).toArray⟩ : ByteArray).size ≤ 10000 := by
    rw [← Hfin.out]
    show (List.toArray _).size ≤ _
    rw [List.size_toArray, List.length_map]
    have := Hml.out; have := Hsl2.out; omega
  have B12 := bt2 B1 B2
  have h6 := Lib.hid (path_calls (compileL (singleL t) true) ⟨(sgB false (bs path)).toArray⟩ p2 c2 w5 ((C2.keep (Kept.below B3)).keep (Kept.below B4) |>.keep (Kept.below B5)) (by omega))
  have B15 := Lib.hid (bt2 (bt2 (bt2 B12 B3) B4) B5)
  clear C1 C2 C3 C4 B1 B2 B3 B4 B5 B12 hsz
  go_wp2_with fail
  refine h6.out.mono ?_
  rintro e w6 ⟨rfl, B6⟩
  go_wp2_with fail
  go_ret
  refine ⟨?_, bt2 B15.out B6⟩
  unfold fitsP
  rfl
end Go.Proofs.YtndjgeohkfenfaaGreatDoor.Globs

namespace Go.Proofs.YtndjgeohkfenfaaGreatDoor.Globs
open Go.RowKit Go.Proofs.YtndjgeohkfenfaaGreatDoor Go.Proofs.YtndjgeohkfenfaaGreatDoor.Hp
set_option linter.unusedVariables false

theorem infoRng : (Tryz.prog.info? 171).map (fun i => (i.zero, i.size, i.bytes)) = some (some (.agg #[.int .u8 0, .int .u8 0]), 2, 2) := by kernel_rfl
theorem infoRit : (Tryz.prog.info? 111).map (fun i => (i.zero, i.size, i.bytes)) = some (some (.agg #[.int .i64 0, .int .u8 0, .bool false, .slice none 0 0]), 4, 40) := by kernel_rfl
theorem appRit {w : World} {H : Hp} {ops : Array Oper} {rest : List Oper} {o : Oper} {a : Act} {Q : Exit → Act → World → Prop} (hgd : o.guard = none) (s x : Operand)
    (ho : o.op = .call { callee := .builtin .append, args := #[s, x], argTypes := #[71, 71] })
    (p : Option Addr) (n cap : Nat) (xs : List Value) (hp : a.eval s = .slice p n cap) (b : Nat) (hvx : a.eval x = .slice (some ⟨b, 0, none⟩) 1 1) (h : Sat w (arr 111 4 p n cap xs * H)) (v : ItS) (hb : w.heap[b]? = some (.cells (itCell v).toArray 111 (0, 0))) (hn : n ≤ 1000000000)
    (hk : ∀ p' cap' w', Sat w' (arr 111 4 p' (n + 1) cap' (xs ++ itCell v) * H) → Ran w w' → Moved w w' p p' → wpList Tryz.prog ops Q rest (a.put o.dst (.slice p' (n + 1) cap')) w') : wpList Tryz.prog ops Q (o :: rest) a w := by
  obtain ⟨i0, hi, hz0, hz1, hz2⟩ := info_parts infoRit
  refine wpList_append_arr2 hgd s x _ _ ho 111 i0 _ 4 40 Tryz.underlying71 hi hz0 hz1 hz2 rfl p n cap xs hp h _ hvx 1 (itCell v) (Src.ofSlice w Tryz.underlying71 ⟨b, 0, none⟩ 1 1 (itCell v) (by rw [hz1]; rfl) ?_ (by unfold itCell; simp; exact ⟨rfl, rfl, rfl, rfl⟩)) (by omega) (by unfold maxLen; omega) hk
  intro j u hj
  rw [Addr.add_lit, Nat.zero_add, cell_at hb, ← hj]
  simp
theorem rgAt_arrR {w : World} {H : Hp} {p : Option Addr} {cap : Nat} {rs : List Rg} (h : Sat w (arr 171 2 p rs.length cap (rgCells rs) * H)) : RgAt w p rs := by
  obtain ⟨h1, h2, h3⟩ := h.arr_len
  refine ⟨by unfold maxLen at h3; omega, fun j hj => ?_⟩
  obtain ⟨b, o, rfl⟩ := h.arr_addr (by omega)
  obtain ⟨g0, g1⟩ := rgCells_get rs j hj
  have hl := rgCells_length rs
  refine ⟨b, o, rfl, ?_, ?_, ?_⟩
  · obtain ⟨cur, _, _, _, _, _, _, h'⟩ := h.arr_some; exact h'.lt
  · rw [h.arr_cell (j * 2) (by omega)]; rw [List.getElem?_eq_getElem (by omega)] at g0; exact g0
  · rw [Nat.add_assoc, h.arr_cell (j * 2 + 1) (by omega)]; rw [List.getElem?_eq_getElem (by omega)] at g1; exact g1
theorem itemsAt_arrR {w : World} {H : Hp} {p : Option Addr} {cap : Nat} {l : List ItS} (h : Sat w (arr 111 4 p l.length cap (itCells l) * H)) (hr : ∀ x ∈ l, RgAt w x.2.1 x.1.rs) : ItemsAt w p (l.map (·.1)) := by
  obtain ⟨h1, h2, h3⟩ := h.arr_len
  refine ⟨by rw [List.length_map]; unfold maxLen at h3; omega, fun i hi => ?_⟩
  rw [List.length_map] at hi
  obtain ⟨b, o, rfl⟩ := h.arr_addr (by omega)
  obtain ⟨g0, g1, g2, g3⟩ := itCells_get l i hi
  have hl := itCells_length l
  have hx := hr l[i] (List.getElem_mem hi)
  simp only [List.getElem_map]
  refine ⟨b, o, l[i].2.1, l[i].2.2, rfl, ?_, ?_, ?_, ?_, ?_, hx⟩
  · obtain ⟨cur, _, _, _, _, _, _, h'⟩ := h.arr_some; exact h'.lt
  · rw [h.arr_cell (i * 4) (by omega)]; rw [List.getElem?_eq_getElem (by omega)] at g0; exact g0
  · rw [Nat.add_assoc, h.arr_cell (i * 4 + 1) (by omega)]; rw [List.getElem?_eq_getElem (by omega)] at g1; exact g1
  · rw [Nat.add_assoc, h.arr_cell (i * 4 + 2) (by omega)]; rw [List.getElem?_eq_getElem (by omega)] at g2; exact g2
  · rw [Nat.add_assoc, h.arr_cell (i * 4 + 3) (by omega)]; rw [List.getElem?_eq_getElem (by omega)] at g3; exact g3
theorem kept_drew {W w : World} (h : Kept W w) : Kept W w.drew := h
end Go.Proofs.YtndjgeohkfenfaaGreatDoor.Globs

namespace Go.Proofs.YtndjgeohkfenfaaGreatDoor.Globs
open Go.RowKit Go.Proofs.YtndjgeohkfenfaaGreatDoor Go.Proofs.YtndjgeohkfenfaaGreatDoor.Hp
set_option linter.unusedVariables false

def RCPost (rs : List Rg) (w : World) (e : Ending) (w' : World) : Prop := ∃ b rc, e = .returned (.tuple #[.slice (some ⟨b, 0, none⟩) rs.length rc, .bool true]) ∧ RgAt w' (some ⟨b, 0, none⟩) rs ∧ Below w.heap.size w w'
theorem below_four (w : World) (o1 o2 o3 o4 o5 : Obj) : Below w.heap.size w (((((w.alloc o1).alloc o2).alloc o3).alloc o4).alloc o5) :=
  (((((Below.refl _ w).alloc (Nat.le_refl _) _).alloc (by simp) _).alloc (by simp; omega) _).alloc (by simp; omega) _).alloc (by simp; omega) _
theorem rclass_alnum (w : World) : Calls Tryz.prog 100 #[.string ⟨#[97, 108, 110, 117, 109]⟩] w (RCPost [(48, 57), (65, 90), (97, 122)] w) := by
  go_enter Tryz.func100, Tryz.ntmps100
  go_wp2
  go_ret2
  refine ⟨w.heap.size + 4, 3, rfl, rgAt_new (T := 171) _ (by simp) (by rw [show w.heap.size + 4 = ((((w.alloc _).alloc _).alloc _).alloc _).heap.size by simp]; exact heap_alloc_new _ _) (fun j hj => ?_), below_four _ _ _ _ _ _⟩
  match j, hj with
  | 0, _ => exact ⟨rfl, rfl⟩
  | 1, _ => exact ⟨rfl, rfl⟩
  | 2, _ => exact ⟨rfl, rfl⟩
theorem rclass_alpha (w : World) : Calls Tryz.prog 100 #[.string ⟨#[97, 108, 112, 104, 97]⟩] w (RCPost [(65, 90), (97, 122)] w) := by
  go_enter Tryz.func100, Tryz.ntmps100
  go_wp2
  go_ret2
  refine ⟨w.heap.size + 4, 2, rfl, rgAt_new (T := 171) _ (by simp) (by rw [show w.heap.size + 4 = ((((w.alloc _).alloc _).alloc _).alloc _).heap.size by simp]; exact heap_alloc_new _ _) (fun j hj => ?_), below_four _ _ _ _ _ _⟩
  match j, hj with
  | 0, _ => exact ⟨rfl, rfl⟩
  | 1, _ => exact ⟨rfl, rfl⟩
theorem rclass_blank (w : World) : Calls Tryz.prog 100 #[.string ⟨#[98, 108, 97, 110, 107]⟩] w (RCPost [(9, 9), (32, 32)] w) := by
  go_enter Tryz.func100, Tryz.ntmps100
  go_wp2
  go_ret2
  refine ⟨w.heap.size + 4, 2, rfl, rgAt_new (T := 171) _ (by simp) (by rw [show w.heap.size + 4 = ((((w.alloc _).alloc _).alloc _).alloc _).heap.size by simp]; exact heap_alloc_new _ _) (fun j hj => ?_), below_four _ _ _ _ _ _⟩
  match j, hj with
  | 0, _ => exact ⟨rfl, rfl⟩
  | 1, _ => exact ⟨rfl, rfl⟩
theorem rclass_space (w : World) : Calls Tryz.prog 100 #[.string ⟨#[115, 112, 97, 99, 101]⟩] w (RCPost [(9, 13), (32, 32)] w) := by
  go_enter Tryz.func100, Tryz.ntmps100
  go_wp2
  go_ret2
  refine ⟨w.heap.size + 4, 2, rfl, rgAt_new (T := 171) _ (by simp) (by rw [show w.heap.size + 4 = ((((w.alloc _).alloc _).alloc _).alloc _).heap.size by simp]; exact heap_alloc_new _ _) (fun j hj => ?_), below_four _ _ _ _ _ _⟩
  match j, hj with
  | 0, _ => exact ⟨rfl, rfl⟩
  | 1, _ => exact ⟨rfl, rfl⟩
theorem rclass_cntrl (w : World) : Calls Tryz.prog 100 #[.string ⟨#[99, 110, 116, 114, 108]⟩] w (RCPost [(0, 31), (127, 127)] w) := by
  go_enter Tryz.func100, Tryz.ntmps100
  go_wp2
  go_ret2
  refine ⟨w.heap.size + 4, 2, rfl, rgAt_new (T := 171) _ (by simp) (by rw [show w.heap.size + 4 = ((((w.alloc _).alloc _).alloc _).alloc _).heap.size by simp]; exact heap_alloc_new _ _) (fun j hj => ?_), below_four _ _ _ _ _ _⟩
  match j, hj with
  | 0, _ => exact ⟨rfl, rfl⟩
  | 1, _ => exact ⟨rfl, rfl⟩
theorem rclass_print (w : World) : Calls Tryz.prog 100 #[.string ⟨#[112, 114, 105, 110, 116]⟩] w (RCPost [(32, 126)] w) := by
  go_enter Tryz.func100, Tryz.ntmps100
  go_wp2
  go_ret2
  refine ⟨w.heap.size + 4, 1, rfl, rgAt_new (T := 171) _ (by simp) (by rw [show w.heap.size + 4 = ((((w.alloc _).alloc _).alloc _).alloc _).heap.size by simp]; exact heap_alloc_new _ _) (fun j hj => ?_), below_four _ _ _ _ _ _⟩
  match j, hj with
  | 0, _ => exact ⟨rfl, rfl⟩
theorem rclass_graph (w : World) : Calls Tryz.prog 100 #[.string ⟨#[103, 114, 97, 112, 104]⟩] w (RCPost [(33, 126)] w) := by
  go_enter Tryz.func100, Tryz.ntmps100
  go_wp2
  go_ret2
  refine ⟨w.heap.size + 4, 1, rfl, rgAt_new (T := 171) _ (by simp) (by rw [show w.heap.size + 4 = ((((w.alloc _).alloc _).alloc _).alloc _).heap.size by simp]; exact heap_alloc_new _ _) (fun j hj => ?_), below_four _ _ _ _ _ _⟩
  match j, hj with
  | 0, _ => exact ⟨rfl, rfl⟩
theorem rclass_digit (w : World) : Calls Tryz.prog 100 #[.string ⟨#[100, 105, 103, 105, 116]⟩] w (RCPost [(48, 57)] w) := by
  go_enter Tryz.func100, Tryz.ntmps100
  go_wp2
  go_ret2
  refine ⟨w.heap.size + 4, 1, rfl, rgAt_new (T := 171) _ (by simp) (by rw [show w.heap.size + 4 = ((((w.alloc _).alloc _).alloc _).alloc _).heap.size by simp]; exact heap_alloc_new _ _) (fun j hj => ?_), below_four _ _ _ _ _ _⟩
  match j, hj with
  | 0, _ => exact ⟨rfl, rfl⟩
theorem rclass_xdigit (w : World) : Calls Tryz.prog 100 #[.string ⟨#[120, 100, 105, 103, 105, 116]⟩] w (RCPost [(48, 57), (65, 70), (97, 102)] w) := by
  go_enter Tryz.func100, Tryz.ntmps100
  go_wp2
  go_ret2
  refine ⟨w.heap.size + 4, 3, rfl, rgAt_new (T := 171) _ (by simp) (by rw [show w.heap.size + 4 = ((((w.alloc _).alloc _).alloc _).alloc _).heap.size by simp]; exact heap_alloc_new _ _) (fun j hj => ?_), below_four _ _ _ _ _ _⟩
  match j, hj with
  | 0, _ => exact ⟨rfl, rfl⟩
  | 1, _ => exact ⟨rfl, rfl⟩
  | 2, _ => exact ⟨rfl, rfl⟩
theorem rclass_lower (w : World) : Calls Tryz.prog 100 #[.string ⟨#[108, 111, 119, 101, 114]⟩] w (RCPost [(97, 122)] w) := by
  go_enter Tryz.func100, Tryz.ntmps100
  go_wp2
  go_ret2
  refine ⟨w.heap.size + 4, 1, rfl, rgAt_new (T := 171) _ (by simp) (by rw [show w.heap.size + 4 = ((((w.alloc _).alloc _).alloc _).alloc _).heap.size by simp]; exact heap_alloc_new _ _) (fun j hj => ?_), below_four _ _ _ _ _ _⟩
  match j, hj with
  | 0, _ => exact ⟨rfl, rfl⟩
theorem rclass_upper (w : World) : Calls Tryz.prog 100 #[.string ⟨#[117, 112, 112, 101, 114]⟩] w (RCPost [(65, 90)] w) := by
  go_enter Tryz.func100, Tryz.ntmps100
  go_wp2
  go_ret2
  refine ⟨w.heap.size + 4, 1, rfl, rgAt_new (T := 171) _ (by simp) (by rw [show w.heap.size + 4 = ((((w.alloc _).alloc _).alloc _).alloc _).heap.size by simp]; exact heap_alloc_new _ _) (fun j hj => ?_), below_four _ _ _ _ _ _⟩
  match j, hj with
  | 0, _ => exact ⟨rfl, rfl⟩
theorem rclass_punct (w : World) : Calls Tryz.prog 100 #[.string ⟨#[112, 117, 110, 99, 116]⟩] w (RCPost [(33, 47), (58, 64), (91, 96), (123, 126)] w) := by
  go_enter Tryz.func100, Tryz.ntmps100
  go_wp2
  go_ret2
  refine ⟨w.heap.size + 4, 4, rfl, rgAt_new (T := 171) _ (by simp) (by rw [show w.heap.size + 4 = ((((w.alloc _).alloc _).alloc _).alloc _).heap.size by simp]; exact heap_alloc_new _ _) (fun j hj => ?_), below_four _ _ _ _ _ _⟩
  match j, hj with
  | 0, _ => exact ⟨rfl, rfl⟩
  | 1, _ => exact ⟨rfl, rfl⟩
  | 2, _ => exact ⟨rfl, rfl⟩
  | 3, _ => exact ⟨rfl, rfl⟩
theorem rclass_yes (name : ByteArray) (w : World) (h : classL (bs name) ≠ []) : Calls Tryz.prog 100 #[.string name] w (RCPost (classL (bs name)) w) := by
  by_cases h_alnum : bs name = [97, 108, 110, 117, 109]
  · rw [h_alnum, bs_eq h_alnum]; exact rclass_alnum w
  by_cases h_alpha : bs name = [97, 108, 112, 104, 97]
  · rw [h_alpha, bs_eq h_alpha]; exact rclass_alpha w
  by_cases h_blank : bs name = [98, 108, 97, 110, 107]
  · rw [h_blank, bs_eq h_blank]; exact rclass_blank w
  by_cases h_space : bs name = [115, 112, 97, 99, 101]
  · rw [h_space, bs_eq h_space]; exact rclass_space w
  by_cases h_cntrl : bs name = [99, 110, 116, 114, 108]
  · rw [h_cntrl, bs_eq h_cntrl]; exact rclass_cntrl w
  by_cases h_print : bs name = [112, 114, 105, 110, 116]
  · rw [h_print, bs_eq h_print]; exact rclass_print w
  by_cases h_graph : bs name = [103, 114, 97, 112, 104]
  · rw [h_graph, bs_eq h_graph]; exact rclass_graph w
  by_cases h_digit : bs name = [100, 105, 103, 105, 116]
  · rw [h_digit, bs_eq h_digit]; exact rclass_digit w
  by_cases h_xdigit : bs name = [120, 100, 105, 103, 105, 116]
  · rw [h_xdigit, bs_eq h_xdigit]; exact rclass_xdigit w
  by_cases h_lower : bs name = [108, 111, 119, 101, 114]
  · rw [h_lower, bs_eq h_lower]; exact rclass_lower w
  by_cases h_upper : bs name = [117, 112, 112, 101, 114]
  · rw [h_upper, bs_eq h_upper]; exact rclass_upper w
  by_cases h_punct : bs name = [112, 117, 110, 99, 116]
  · rw [h_punct, bs_eq h_punct]; exact rclass_punct w
  refine absurd ?_ h
  unfold classL
  rw [if_neg h_alnum, if_neg h_alpha, if_neg h_blank, if_neg h_space, if_neg h_cntrl, if_neg h_print, if_neg h_graph, if_neg h_digit, if_neg h_xdigit, if_neg h_lower, if_neg h_upper, if_neg h_punct]
set_option maxHeartbeats 1000000 in
theorem rclass_no (name : ByteArray) (w : World) (h : classL (bs name) = []) : Calls Tryz.prog 100 #[.string name] w fun e w' => e = .returned (.tuple #[.slice none 0 0, .bool false]) ∧ Below w.heap.size w w' := by
  obtain ⟨h0, h1, h2, h3, h4, h5, h6, h7, h8, h9, h10, h11⟩ := classL_no h
  have e0 : (name.toList == [97, 108, 110, 117, 109]) = false := by rw [beq_eq_false_iff_ne]; exact fun hh => h0 (by rw [← hh]; simp [bs, ByteArray.toList_eq])
  have e1 : (name.toList == [97, 108, 112, 104, 97]) = false := by rw [beq_eq_false_iff_ne]; exact fun hh => h1 (by rw [← hh]; simp [bs, ByteArray.toList_eq])
  have e2 : (name.toList == [98, 108, 97, 110, 107]) = false := by rw [beq_eq_false_iff_ne]; exact fun hh => h2 (by rw [← hh]; simp [bs, ByteArray.toList_eq])
  have e3 : (name.toList == [115, 112, 97, 99, 101]) = false := by rw [beq_eq_false_iff_ne]; exact fun hh => h3 (by rw [← hh]; simp [bs, ByteArray.toList_eq])
  have e4 : (name.toList == [99, 110, 116, 114, 108]) = false := by rw [beq_eq_false_iff_ne]; exact fun hh => h4 (by rw [← hh]; simp [bs, ByteArray.toList_eq])
  have e5 : (name.toList == [112, 114, 105, 110, 116]) = false := by rw [beq_eq_false_iff_ne]; exact fun hh => h5 (by rw [← hh]; simp [bs, ByteArray.toList_eq])
  have e6 : (name.toList == [103, 114, 97, 112, 104]) = false := by rw [beq_eq_false_iff_ne]; exact fun hh => h6 (by rw [← hh]; simp [bs, ByteArray.toList_eq])
  have e7 : (name.toList == [100, 105, 103, 105, 116]) = false := by rw [beq_eq_false_iff_ne]; exact fun hh => h7 (by rw [← hh]; simp [bs, ByteArray.toList_eq])
  have e8 : (name.toList == [120, 100, 105, 103, 105, 116]) = false := by rw [beq_eq_false_iff_ne]; exact fun hh => h8 (by rw [← hh]; simp [bs, ByteArray.toList_eq])
  have e9 : (name.toList == [108, 111, 119, 101, 114]) = false := by rw [beq_eq_false_iff_ne]; exact fun hh => h9 (by rw [← hh]; simp [bs, ByteArray.toList_eq])
  have e10 : (name.toList == [117, 112, 112, 101, 114]) = false := by rw [beq_eq_false_iff_ne]; exact fun hh => h10 (by rw [← hh]; simp [bs, ByteArray.toList_eq])
  have e11 : (name.toList == [112, 117, 110, 99, 116]) = false := by rw [beq_eq_false_iff_ne]; exact fun hh => h11 (by rw [← hh]; simp [bs, ByteArray.toList_eq])
  clear h h0 h1 h2 h3 h4 h5 h6 h7 h8 h9 h10 h11
  go_enter Tryz.func100, Tryz.ntmps100
  go_wp2
  go_ret2
  exact ⟨rfl, ((((Below.refl _ w).alloc (Nat.le_refl _) _).alloc (by simp) _).alloc (by simp; omega) _).alloc (by simp; omega) _⟩

theorem bareL_one {t : List Ch} {i : Nat} {b : UInt8} (h : i < t.length) : bareL (t.drop i) [b] = (t[i].b == b && !t[i].q) := by
  rw [List.drop_eq_getElem_cons h]; simp [bareL]
theorem bareL_out {t : List Ch} {i : Nat} {b : UInt8} (h : t.length ≤ i) : bareL (t.drop i) [b] = false := by
  rw [List.drop_eq_nil_of_le h]; rfl
def BPost (v : Bool) (w : World) (e : Ending) (w' : World) : Prop := e = .returned (.bool v) ∧ w = w'
set_option maxHeartbeats 1000000 in
theorem is_calls (t : List Ch) (i : Nat) (b : UInt8) (ao : Option Addr) (cap : Nat) (w : World) (h : CharsAt w ao cap t) (hm : t.length ≤ 100000) :
    Calls Tryz.prog 62 #[.slice ao t.length cap, .int .i64 i, .int .u8 b.toNat] w (BPost (bareL (t.drop i) [b]) w) := by
  by_cases hi : i < t.length
  · rw [bareL_one hi]
    have hlt : (i : Int) < t.length := by omega
    have hi0 : (0 : Int) ≤ i := by omega
    obtain ⟨hlc, hcc, hx⟩ := h
    obtain ⟨tb, o, rfl, htb, h0, h1⟩ := hx i hi
    obtain ⟨c, hc⟩ : ∃ c, c = t[i] := ⟨_, rfl⟩
    rw [← hc] at h0 h1 ⊢
    obtain ⟨cb, cq⟩ := c
    clear hx hc
    have e1 : ((cb.toNat : Int) == (b.toNat : Int)) = (cb == b) := u8_beq _ _
    cases cq
    all_goals
      simp only at h0 h1
      go_enter Tryz.func62, Tryz.ntmps62
      go_wp2_with fail
      go_ret
      exact ⟨by simp, rfl⟩
  · rw [bareL_out (by omega)]
    have hlt : ¬ ((i : Int) < t.length) := by omega
    clear h
    go_enter Tryz.func62, Tryz.ntmps62
    go_wp2_with fail
    go_ret
    exact ⟨rfl, rfl⟩
end Go.Proofs.YtndjgeohkfenfaaGreatDoor.Globs

