/- 'thing', walked. -/
import Derived.Test.YtjbdpahdhlmanaaGlH
namespace Go.Proofs.Ytjbdpahdhlmanaa.Globs
open Go.RowKit Go.Proofs.Ytjbdpahdhlmanaa Go.Proofs.Ytjbdpahdhlmanaa.Hp
set_option linter.unusedVariables false

def TT (path : Bool) (a b : UInt8) (n : Nat) : List Rg × Nat := if path && (a == 47 || b == 47) then ([], 0) else if b < a then ([], n) else ([(a, b)], n)
theorem TT_a (b : UInt8) (n : Nat) {a : UInt8} (h : (a == 47) = true) : TT true a b n = ([], 0) := by unfold TT; rw [h]; rfl
theorem TT_b (a : UInt8) (n : Nat) {b : UInt8} (h : (b == 47) = true) : TT true a b n = ([], 0) := by unfold TT; rw [h]; simp
theorem TT_gt {path : Bool} {a b : UInt8} {n : Nat} (h : path = false ∨ (a == 47) = false ∧ (b == 47) = false) (h2 : b < a) : TT path a b n = ([], n) := by
  unfold TT
  rw [if_neg (by rcases h with h | ⟨h, h'⟩ <;> simp_all), if_pos h2]
theorem TT_le {path : Bool} {a b : UInt8} {n : Nat} (h : path = false ∨ (a == 47) = false ∧ (b == 47) = false) (h2 : ¬ b < a) : TT path a b n = ([(a, b)], n) := by
  unfold TT
  rw [if_neg (by rcases h with h | ⟨h, h'⟩ <;> simp_all), if_neg h2]
theorem thingL_TT {t : List Ch} (path : Bool) (hno : namedOk t = false) : thingL t path = TT path (t.getD 0 default).b (rngTo t) (rngN t) := by
  unfold thingL TT; rw [if_neg (by rw [hno]; simp)]
theorem bs_mk (l : List UInt8) : bs ⟨l.toArray⟩ = l := rfl
set_option maxRecDepth 100000 in
set_option maxHeartbeats 8000000 in
theorem thing_calls (t : List Ch) (path : Bool) (ao : Option Addr) (cap : Nat) (w : World) (h : CharsAt w ao cap t) (hm : t.length ≤ 100000) (h0 : 0 < t.length) :
    Calls Try.prog 42 #[.slice ao t.length cap, .bool path] w (ThingPost t path w) := by
  have hcap := h.1
  have htl : (t.length : Int) ≤ 100000 := by omega
  have ht0 : (0 : Int) < t.length := by omega
  cases hok : namedOk t with
  | true =>
    cases hcl : classL (nameOf t) with
    | nil =>
      have hT : thingL t path = ([], 0) := by unfold thingL; rw [if_pos hok, if_pos hcl]
      have HT := Lib.hid hT
      have HC : Hid (∀ w : World, Calls Try.prog 51 #[.string ⟨(nameOf t).toArray⟩] w fun e w' => e = .returned (.slice none 0 0) ∧ w = w') := Lib.hid fun w => class_no _ w (by rw [bs_mk]; exact hcl)
      have HN := Lib.hid (named_calls t ao cap w h hm)
      have Hok := Lib.hid hok
      clear hT h hok hcl
      go_enter Try.func42, Try.ntmps42
      go_wp2_with fail
      refine HN.out.mono ?_
      rintro e w1 ⟨⟨_, rfl⟩ | ⟨hx, rfl⟩, hbel⟩
      · have hq := fun W => Lib.run_eql_slice_nil (P := Try.prog) W 40 67 none 0 0 0 0 Try.underlying40
        go_wp2_with fail
        refine (HC.out _).mono ?_
        rintro e w' ⟨rfl, rfl⟩
        go_wp2_with fail
        go_ret2
        exact ⟨none, 0, show Ending.returned (.tuple #[.slice none 0 0, .int .i64 0]) = _ by rw [HT.out]; rfl, by rw [HT.out]; exact rgAt_nil _ _, hbel⟩
      · rw [Hok.out] at hx; cases hx
    | cons x r =>
      have hT : thingL t path = (x :: r, namedN t + 2) := by unfold thingL; rw [if_pos hok, if_neg (by rw [hcl]; simp), hcl]
      have HT := Lib.hid hT
      have HC : Hid (∀ w : World, Calls Try.prog 51 #[.string ⟨(nameOf t).toArray⟩] w (RgsPost (x :: r) w)) := Lib.hid fun w => by
        have := class_yes ⟨(nameOf t).toArray⟩ w (by rw [bs_mk, hcl]; simp)
        rwa [bs_mk, hcl] at this
      have HN := Lib.hid (named_calls t ao cap w h hm)
      have Hok := Lib.hid hok
      have hnl := namedN_le hok
      clear hT h hok hcl
      go_enter Try.func42, Try.ntmps42
      go_wp2_with fail
      refine HN.out.mono ?_
      rintro e w1 ⟨⟨_, rfl⟩ | ⟨hx, rfl⟩, hbel⟩
      · go_wp2_with fail
        refine (HC.out _).mono ?_
        rintro e w2 ⟨b, rc, rfl, hr, hb2⟩
        have hq := fun W n c => Lib.run_eql_slice_nil (P := Try.prog) W 40 67 (some ⟨b, 0, none⟩) n c 0 0 Try.underlying40
        go_wp2_with fail
        go_ret2
        exact ⟨some ⟨b, 0, none⟩, rc, show Ending.returned (.tuple #[.slice (some ⟨b, 0, none⟩) (x :: r).length rc, .int .i64 ((namedN t : Int) + 2)]) = _ by rw [HT.out]; rfl, by rw [HT.out]; exact hr, hbel.trans (hb2.mono hbel.size)⟩
      · rw [Hok.out] at hx; cases hx
  | false =>
    have hT := thingL_TT path hok
    have HN := Lib.hid (named_calls t ao cap w h hm)
    have Hok := Lib.hid hok
    have hc0 : t.getD 0 default = t[0] := by rw [List.getD_eq_getElem?_getD, List.getElem?_eq_getElem h0]; rfl
    have hrg : isRng t = (decide (2 < t.length) && (bareL (t.drop 1) [45] && !bareL (t.drop 2) [93])) := rfl
    obtain ⟨c, hc⟩ : ∃ c, c = t[0] := ⟨_, rfl⟩
    rw [hc0, ← hc] at hT
    obtain ⟨a, q⟩ := c
    have hba := a.toNat_lt
    have HT0 := Lib.hid hT
    have Hc0 := Lib.hid hc0
    have Hrg := Lib.hid hrg
    have Hc := Lib.hid hc
    clear hok hT hc0 hrg hc
    go_enter Try.func42, Try.ntmps42
    go_wp2_with fail
    refine HN.out.mono ?_
    rintro e w1 ⟨⟨hx, rfl⟩ | ⟨_, rfl⟩, hbel⟩
    · rw [Hok.out] at hx; cases hx
    have h1 := h.keep (Kept.below hbel)
    obtain ⟨tb, o, rfl, htb, c0, c1⟩ := h1.2.2 0 h0
    rw [← Hc.out] at c0 c1
    simp only [Nat.zero_mul, Nat.add_zero] at c0 c1
    clear h
    by_cases hl : 2 < t.length
    · have hl' : (2 : Int) < t.length := by omega
      have hs1 : ∀ W, (Instr.slice 22 (.slice (some ⟨tb, o, none⟩) t.length cap) (some (.int .i64 1)) none none).run Try.prog W = .ok (.slice (tailA (some ⟨tb, o, none⟩) 1 cap 2) (t.length - 1) (cap - 1)) W := fun W => slice_from _ t.length cap 1 (by omega) W
      have hs2 : ∀ W, (Instr.slice 22 (.slice (some ⟨tb, o, none⟩) t.length cap) (some (.int .i64 2)) none none).run Try.prog W = .ok (.slice (tailA (some ⟨tb, o, none⟩) 2 cap 2) (t.length - 2) (cap - 2)) W := fun W => slice_from _ t.length cap 2 (by omega) W
      have HB1 := Lib.hid (bare_at t ⟨#[45]⟩ (some ⟨tb, o, none⟩) cap 1 w1 h1 (by omega) (by decide))
      have HB2 : Hid (∀ m, Calls Try.prog 41 #[.slice (tailA (some ⟨tb, o, none⟩) 2 cap 2) (t.length - 2) (cap - 2), .string ⟨#[93]⟩] (w1.drewN m) fun e w' => e = .returned (.bool (bareL (t.drop 2) [93])) ∧ ∃ n, w' = (w1.drewN m).drewN n) := Lib.hid fun m => bare_at t ⟨#[93]⟩ (some ⟨tb, o, none⟩) cap 2 (w1.drewN m) h1 (by omega) (by decide)
      cases hb1 : bareL (t.drop 1) [45] with
      | false =>
        have HB1' : Hid (Calls Try.prog 41 #[.slice (tailA (some ⟨tb, o, none⟩) 1 cap 2) (t.length - 1) (cap - 1), .string ⟨#[45]⟩] w1 fun e w' => e = .returned (.bool false) ∧ ∃ n, w' = w1.drewN n) := Lib.hid (by have := HB1.out; rwa [show bareL (t.drop 1) (bs ⟨#[45]⟩) = false from hb1] at this)
        have hno : isRng t = false := by rw [Hrg.out, hb1]; simp
        clear hb1 HB1 HB2 hs2
        have e1 : rngTo t = a := by unfold rngTo; rw [if_neg (by rw [hno]; simp), Hc0.out, ← Hc.out]
        have e2 : rngN t = 1 := by unfold rngN; rw [if_neg (by rw [hno]; simp)]
        have HT : Hid (thingL t path = TT path a a 1) := Lib.hid (by rw [HT0.out, e1, e2])
        clear e1 e2 hno
        go_wp2_with fail
        refine HB1'.out.mono ?_
        rintro e w' ⟨rfl, m, rfl⟩
        have ga := u8_lit a 47 (by omega)
        have gb := u8_lit a 47 (by omega)
        rw [show ((47 : Nat) : Int) = 47 from rfl] at ga gb
        have ia : UInt8.ofNat 47 = 47 := rfl
        rw [ia] at ga gb
        clear ia
        have hgt : ¬ a < a := UInt8.lt_irrefl a
        · cases path
          · clear ga gb
            have HV := Lib.hid (HT.out.trans (TT_le (.inl rfl) hgt))
            have hgt' : ¬ ((a.toNat : Int) < a.toNat) := by rw [UInt8.lt_iff_toNat_lt] at hgt; omega
            clear hgt HT HT0
            go_wp2_with fail
            go_ret2
            exact ⟨some ⟨_, 0, none⟩, 1, by rw [HV.out]; rfl, by rw [HV.out]; exact rgAt_new (T := 67) _ (by simp) (heap_alloc_new _ _) (fun j hj => by (obtain rfl : j = 0 := by simp at hj; omega); exact ⟨rfl, rfl⟩), (below_drewN hbel _).alloc (below_drewN hbel _).size _⟩
          · cases ha : (a == 47)
            · have hb := ha
              rw [ha] at ga
              clear gb
              have HV := Lib.hid (HT.out.trans (TT_le (.inr ⟨ha, hb⟩) hgt))
              have hgt' : ¬ ((a.toNat : Int) < a.toNat) := by rw [UInt8.lt_iff_toNat_lt] at hgt; omega
              clear hgt HT HT0
              go_wp2_with fail
              go_ret2
              exact ⟨some ⟨_, 0, none⟩, 1, by rw [HV.out]; rfl, by rw [HV.out]; exact rgAt_new (T := 67) _ (by simp) (heap_alloc_new _ _) (fun j hj => by (obtain rfl : j = 0 := by simp at hj; omega); exact ⟨rfl, rfl⟩), (below_drewN hbel _).alloc (below_drewN hbel _).size _⟩
            · rw [ha] at ga
              have HV := Lib.hid (HT.out.trans (TT_a a 1 ha))
              clear gb
              go_wp2_with fail
              go_ret2
              exact ⟨none, 0, show Ending.returned (.tuple #[.slice none 0 0, .int .i64 0]) = _ by rw [HV.out]; rfl, by rw [HV.out]; exact rgAt_nil _ _, below_drewN hbel _⟩
      | true =>
        have HB1' : Hid (Calls Try.prog 41 #[.slice (tailA (some ⟨tb, o, none⟩) 1 cap 2) (t.length - 1) (cap - 1), .string ⟨#[45]⟩] w1 fun e w' => e = .returned (.bool true) ∧ ∃ n, w' = w1.drewN n) := Lib.hid (by have := HB1.out; rwa [show bareL (t.drop 1) (bs ⟨#[45]⟩) = true from hb1] at this)
        cases hb2 : bareL (t.drop 2) [93] with
        | true =>
          rw [hb2] at HB2
          have hno : isRng t = false := by rw [Hrg.out, hb2]; simp
          clear hb1 hb2 HB1
          have e1 : rngTo t = a := by unfold rngTo; rw [if_neg (by rw [hno]; simp), Hc0.out, ← Hc.out]
          have e2 : rngN t = 1 := by unfold rngN; rw [if_neg (by rw [hno]; simp)]
          have HT : Hid (thingL t path = TT path a a 1) := Lib.hid (by rw [HT0.out, e1, e2])
          clear e1 e2 hno
          go_wp2_with fail
          refine HB1'.out.mono ?_
          rintro e w' ⟨rfl, m, rfl⟩
          go_wp2_with fail
          refine (HB2.out m).mono ?_
          rintro e w' ⟨rfl, m2, rfl⟩
          have ga := u8_lit a 47 (by omega)
          have gb := u8_lit a 47 (by omega)
          rw [show ((47 : Nat) : Int) = 47 from rfl] at ga gb
          have ia : UInt8.ofNat 47 = 47 := rfl
          rw [ia] at ga gb
          clear ia
          have hgt : ¬ a < a := UInt8.lt_irrefl a
          · cases path
            · clear ga gb
              have HV := Lib.hid (HT.out.trans (TT_le (.inl rfl) hgt))
              have hgt' : ¬ ((a.toNat : Int) < a.toNat) := by rw [UInt8.lt_iff_toNat_lt] at hgt; omega
              clear hgt HT HT0
              go_wp2_with fail
              go_ret2
              exact ⟨some ⟨_, 0, none⟩, 1, by rw [HV.out]; rfl, by rw [HV.out]; exact rgAt_new (T := 67) _ (by simp) (heap_alloc_new _ _) (fun j hj => by (obtain rfl : j = 0 := by simp at hj; omega); exact ⟨rfl, rfl⟩), (below_drewN hbel _).alloc (below_drewN hbel _).size _⟩
            · cases ha : (a == 47)
              · have hb := ha
                rw [ha] at ga
                clear gb
                have HV := Lib.hid (HT.out.trans (TT_le (.inr ⟨ha, hb⟩) hgt))
                have hgt' : ¬ ((a.toNat : Int) < a.toNat) := by rw [UInt8.lt_iff_toNat_lt] at hgt; omega
                clear hgt HT HT0
                go_wp2_with fail
                go_ret2
                exact ⟨some ⟨_, 0, none⟩, 1, by rw [HV.out]; rfl, by rw [HV.out]; exact rgAt_new (T := 67) _ (by simp) (heap_alloc_new _ _) (fun j hj => by (obtain rfl : j = 0 := by simp at hj; omega); exact ⟨rfl, rfl⟩), (below_drewN hbel _).alloc (below_drewN hbel _).size _⟩
              · rw [ha] at ga
                have HV := Lib.hid (HT.out.trans (TT_a a 1 ha))
                clear gb
                go_wp2_with fail
                go_ret2
                exact ⟨none, 0, show Ending.returned (.tuple #[.slice none 0 0, .int .i64 0]) = _ by rw [HV.out]; rfl, by rw [HV.out]; exact rgAt_nil _ _, below_drewN hbel _⟩
        | false =>
          rw [hb2] at HB2
          have hyes : isRng t = true := by rw [Hrg.out, hb1, hb2]; simpa using hl
          obtain ⟨tb', o', e', _, d0, d1⟩ := h1.2.2 2 hl
          simp only [Option.some.injEq, Addr.mk.injEq, and_true] at e'
          obtain ⟨rfl, rfl⟩ := e'
          obtain ⟨d, hd⟩ : ∃ d, d = t[2] := ⟨_, rfl⟩
          rw [← hd] at d0 d1
          obtain ⟨b, q2⟩ := d
          have hbb := b.toNat_lt
          have d0' : ∀ n, (w1.drewN n).cell? ⟨tb, o + 4, none⟩ = some (.int .u8 b.toNat) := fun n => d0
          have e1 : rngTo t = b := by unfold rngTo; rw [if_pos hyes, List.getD_eq_getElem?_getD, List.getElem?_eq_getElem hl, ← hd]; rfl
          have e2 : rngN t = 3 := by unfold rngN; rw [if_pos hyes]
          have HT : Hid (thingL t path = TT path a b 3) := Lib.hid (by rw [HT0.out, e1, e2])
          clear hb1 hb2 HB1 e1 e2 hyes hd d0 d1
          go_wp2_with fail
          refine HB1'.out.mono ?_
          rintro e w' ⟨rfl, m, rfl⟩
          go_wp2_with fail
          refine (HB2.out m).mono ?_
          rintro e w' ⟨rfl, m2, rfl⟩
          go_wp2_with fail
          refine Go.Proofs.Ytjbdpahdhlmanaa.region_plan (S := (fun w' => w'.cell? ⟨tb, o + 4, none⟩ = some (.int .u8 b.toNat))) [(0, true), (1, true), (2, true), (3, true), (4, true), (5, true)] (by kernel_rfl) (by kernel_rfl) (by kernel_rfl) ?_ ?_
          · ((try dsimp only); (first | done | (exact d0' 0)))
          simp only [Go.Proofs.Ytjbdpahdhlmanaa.planOps, List.map_cons, List.map_nil, List.getElem?_toArray, List.getElem?_cons_zero, List.getElem?_cons_succ]
          repeat (first
            | ((refine Go.Proofs.Ytjbdpahdhlmanaa.plan_yes (v := ?_) (by rfl) ?_ ?_); rotate_left; (focus (intro w hSw; (try dsimp only at hSw); go_simp; try (with_reducible rfl))); (try simp only [Act.put, List.setIfInBounds_toArray, List.set_cons_zero, List.set_cons_succ]))
            | ((refine Go.Proofs.Ytjbdpahdhlmanaa.plan_no (by rfl) ?_); (try simp only [Act.put, List.setIfInBounds_toArray, List.set_cons_zero, List.set_cons_succ]))
            | ((refine Go.Proofs.Ytjbdpahdhlmanaa.plan_step (fun K hK => ?_)); (first | (fail) | (go_simp; (fail); (try go_wp2_with fail)) | go_simp); (refine hK.out _ _ ?_ (fun hHeld => ?_)); (focus ((try dsimp only); (first | done | (exact d0' 0)))); clear hK K; (try simp only [Act.put, List.setIfInBounds_toArray, List.set_cons_zero, List.set_cons_succ])))
          refine Go.Proofs.Ytjbdpahdhlmanaa.plan_done ?_
          have ga := u8_lit a 47 (by omega)
          have gb := u8_lit b 47 (by omega)
          rw [show ((47 : Nat) : Int) = 47 from rfl] at ga gb
          have ia : UInt8.ofNat 47 = 47 := rfl
          rw [ia] at ga gb
          clear ia
          by_cases hgt : b < a
          · cases path
            · clear ga gb
              have HV := Lib.hid (HT.out.trans (TT_gt (.inl rfl) hgt))
              have hgt' : (b.toNat : Int) < a.toNat := by have := UInt8.lt_iff_toNat_lt.1 hgt; omega
              clear hgt HT HT0
              go_wp2_with fail
              go_ret2
              exact ⟨none, 0, show Ending.returned (.tuple #[.slice none 0 0, .int .i64 3]) = _ by rw [HV.out]; rfl, by rw [HV.out]; exact rgAt_nil _ _, below_drewN hbel _⟩
            · cases ha : (a == 47)
              · cases hb : (b == 47)
                · rw [ha] at ga
                  rw [hb] at gb
                  have HV := Lib.hid (HT.out.trans (TT_gt (.inr ⟨ha, hb⟩) hgt))
                  have hgt' : (b.toNat : Int) < a.toNat := by have := UInt8.lt_iff_toNat_lt.1 hgt; omega
                  clear hgt HT HT0
                  go_wp2_with fail
                  go_ret2
                  exact ⟨none, 0, show Ending.returned (.tuple #[.slice none 0 0, .int .i64 3]) = _ by rw [HV.out]; rfl, by rw [HV.out]; exact rgAt_nil _ _, below_drewN hbel _⟩
                · rw [ha] at ga
                  rw [hb] at gb
                  have HV := Lib.hid (HT.out.trans (TT_b a 3 hb))
                  go_wp2_with fail
                  go_ret2
                  exact ⟨none, 0, show Ending.returned (.tuple #[.slice none 0 0, .int .i64 0]) = _ by rw [HV.out]; rfl, by rw [HV.out]; exact rgAt_nil _ _, below_drewN hbel _⟩
              · rw [ha] at ga
                have HV := Lib.hid (HT.out.trans (TT_a b 3 ha))
                clear gb
                go_wp2_with fail
                go_ret2
                exact ⟨none, 0, show Ending.returned (.tuple #[.slice none 0 0, .int .i64 0]) = _ by rw [HV.out]; rfl, by rw [HV.out]; exact rgAt_nil _ _, below_drewN hbel _⟩
          · cases path
            · clear ga gb
              have HV := Lib.hid (HT.out.trans (TT_le (.inl rfl) hgt))
              have hgt' : ¬ ((b.toNat : Int) < a.toNat) := by rw [UInt8.lt_iff_toNat_lt] at hgt; omega
              clear hgt HT HT0
              go_wp2_with fail
              go_ret2
              exact ⟨some ⟨_, 0, none⟩, 1, by rw [HV.out]; rfl, by rw [HV.out]; exact rgAt_new (T := 67) _ (by simp) (heap_alloc_new _ _) (fun j hj => by (obtain rfl : j = 0 := by simp at hj; omega); exact ⟨rfl, rfl⟩), (below_drewN hbel _).alloc (below_drewN hbel _).size _⟩
            · cases ha : (a == 47)
              · cases hb : (b == 47)
                · rw [ha] at ga
                  rw [hb] at gb
                  have HV := Lib.hid (HT.out.trans (TT_le (.inr ⟨ha, hb⟩) hgt))
                  have hgt' : ¬ ((b.toNat : Int) < a.toNat) := by rw [UInt8.lt_iff_toNat_lt] at hgt; omega
                  clear hgt HT HT0
                  go_wp2_with fail
                  go_ret2
                  exact ⟨some ⟨_, 0, none⟩, 1, by rw [HV.out]; rfl, by rw [HV.out]; exact rgAt_new (T := 67) _ (by simp) (heap_alloc_new _ _) (fun j hj => by (obtain rfl : j = 0 := by simp at hj; omega); exact ⟨rfl, rfl⟩), (below_drewN hbel _).alloc (below_drewN hbel _).size _⟩
                · rw [ha] at ga
                  rw [hb] at gb
                  have HV := Lib.hid (HT.out.trans (TT_b a 3 hb))
                  go_wp2_with fail
                  go_ret2
                  exact ⟨none, 0, show Ending.returned (.tuple #[.slice none 0 0, .int .i64 0]) = _ by rw [HV.out]; rfl, by rw [HV.out]; exact rgAt_nil _ _, below_drewN hbel _⟩
              · rw [ha] at ga
                have HV := Lib.hid (HT.out.trans (TT_a b 3 ha))
                clear gb
                go_wp2_with fail
                go_ret2
                exact ⟨none, 0, show Ending.returned (.tuple #[.slice none 0 0, .int .i64 0]) = _ by rw [HV.out]; rfl, by rw [HV.out]; exact rgAt_nil _ _, below_drewN hbel _⟩
    · have hl' : ¬ ((2 : Int) < t.length) := by omega
      have hno : isRng t = false := by rw [Hrg.out, decide_eq_false hl]; rfl
      have e1 : rngTo t = a := by unfold rngTo; rw [if_neg (by rw [hno]; simp), Hc0.out, ← Hc.out]
      have e2 : rngN t = 1 := by unfold rngN; rw [if_neg (by rw [hno]; simp)]
      have HT : Hid (thingL t path = TT path a a 1) := Lib.hid (by rw [HT0.out, e1, e2])
      clear e1 e2 hno
      have ga := u8_lit a 47 (by omega)
      have gb := u8_lit a 47 (by omega)
      rw [show ((47 : Nat) : Int) = 47 from rfl] at ga gb
      have ia : UInt8.ofNat 47 = 47 := rfl
      rw [ia] at ga gb
      clear ia
      have hgt : ¬ a < a := UInt8.lt_irrefl a
      · cases path
        · clear ga gb
          have HV := Lib.hid (HT.out.trans (TT_le (.inl rfl) hgt))
          have hgt' : ¬ ((a.toNat : Int) < a.toNat) := by rw [UInt8.lt_iff_toNat_lt] at hgt; omega
          clear hgt HT HT0
          go_wp2_with fail
          go_ret2
          exact ⟨some ⟨_, 0, none⟩, 1, by rw [HV.out]; rfl, by rw [HV.out]; exact rgAt_new (T := 67) _ (by simp) (heap_alloc_new _ _) (fun j hj => by (obtain rfl : j = 0 := by simp at hj; omega); exact ⟨rfl, rfl⟩), (hbel).alloc (hbel).size _⟩
        · cases ha : (a == 47)
          · have hb := ha
            rw [ha] at ga
            clear gb
            have HV := Lib.hid (HT.out.trans (TT_le (.inr ⟨ha, hb⟩) hgt))
            have hgt' : ¬ ((a.toNat : Int) < a.toNat) := by rw [UInt8.lt_iff_toNat_lt] at hgt; omega
            clear hgt HT HT0
            go_wp2_with fail
            go_ret2
            exact ⟨some ⟨_, 0, none⟩, 1, by rw [HV.out]; rfl, by rw [HV.out]; exact rgAt_new (T := 67) _ (by simp) (heap_alloc_new _ _) (fun j hj => by (obtain rfl : j = 0 := by simp at hj; omega); exact ⟨rfl, rfl⟩), (hbel).alloc (hbel).size _⟩
          · rw [ha] at ga
            have HV := Lib.hid (HT.out.trans (TT_a a 1 ha))
            clear gb
            go_wp2_with fail
            go_ret2
            exact ⟨none, 0, show Ending.returned (.tuple #[.slice none 0 0, .int .i64 0]) = _ by rw [HV.out]; rfl, by rw [HV.out]; exact rgAt_nil _ _, hbel⟩
end Go.Proofs.Ytjbdpahdhlmanaa.Globs
