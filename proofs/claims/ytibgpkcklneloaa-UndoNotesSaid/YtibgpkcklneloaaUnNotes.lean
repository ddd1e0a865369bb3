/- UndoNotes: notes are done from the last one on, each once, and only those behind the mark: the law returns true, for all numbers and any place of the mark. -/
import Derived.Test.YtibgpkcklneloaaUnN
namespace Go.Proofs.Ytibgpkcklneloaa.undoNotes
open Go.ChangeShapes Go.WideShapes Go.ChangeAt Go.RowKit Go.Proofs.Ytibgpkcklneloaa Go.Proofs.Ytibgpkcklneloaa.Hp Go.Proofs.Ytibgpkcklneloaa.Undo
set_option linter.unusedVariables false
attribute [local go_sem] Oper.semAt_some

abbrev marksN (i a : Nat) : List Nat := if i ≤ a then [0] else [0, a]
def NRel (ob lb a : Nat) (l : List Int) (W : World) (g : Nat) (ivv : Value) (wr : World) : Prop :=
  ∃ bs : List (Nat × Int), bs.length + g = l.length ∧ ivv = .int .i64 (bs.length : Int) ∧ bs.map Prod.snd = l.take bs.length ∧ LogAt wr lb 100 3 (bs.map (oneV ob)) (marksN bs.length a) (outs ob bs bs.length * keep W) ∧ Ran W wr
def NRel2 (ob lb a : Nat) (bs : List (Nat × Int)) (l : List Int) (W : World) (g : Nat) (jv : Value) (wr : World) : Prop :=
  ∃ j : Nat, j + g = l.length - a ∧ jv = .int .i64 (j : Int) ∧ LogAt wr lb 100 3 ((bs.take a).map (oneV ob)) [0] (outs ob bs a * keep W) ∧ Ran W wr
theorem outs_snoc (ob : Nat) (bs : List (Nat × Int)) (x : Nat × Int) : outs ob (bs ++ [x]) (bs ++ [x]).length = boxHp x * outs ob bs bs.length := by
  unfold outs
  rw [List.take_length, List.drop_length, List.take_length, List.drop_length, all_snoc]
  ac_rfl
set_option maxRecDepth 100000 in
set_option maxHeartbeats 4000000 in
theorem walk (ao : Option Addr) (cap : Nat) (l : List Int) (q : Int) (W : World) (hl : IntsAt W ao l) (hq : I64 q) :
    Calls Try.prog 3 #[.slice ao l.length cap, .int .i64 q] W fun e w' => e = .returned (.bool true) ∧ Below W.heap.size W w' := by
  by_cases hok : l.length ≤ 60 ∧ 0 ≤ q ∧ q ≤ (l.length : Int)
  · obtain ⟨h60, hq0, hq1⟩ := hok
    obtain ⟨a, rfl⟩ : ∃ a : Nat, q = (a : Int) := ⟨q.toNat, by omega⟩
    have h60' : (l.length : Int) ≤ 60 := by omega
    have ha : a ≤ l.length := by omega
    go_enter Try.func3, Try.ntmps3
    go_wp2_with fail
    refine (new_calls 100 3 (by decide) (by decide) (by decide) (by decide) W (keep W) (Sat.start W)).mono ?_
    rintro e w1 ⟨rfl, HL, R1⟩
    have HL1 := HL.alloc (outO none 0 0)
    have R2 := Ran.new R1 (outO none 0 0)
    obtain ⟨lb, hlb⟩ : ∃ b, b = W.heap.size := ⟨_, rfl⟩
    have HL2 : LogAt (w1.alloc (outO none 0 0)) W.heap.size 100 3 (([] : List (Nat × Int)).map (oneV w1.heap.size)) [] (outs w1.heap.size [] 0 * keep W) := by
      obtain ⟨np, nc, mp, mc, HS⟩ := HL1
      refine ⟨np, nc, mp, mc, ?_⟩
      have h2 := outHp_in (xs := []) (p := none) (cap := 0) (S := pts W.heap.size (logO 100 3 np ([] : List Value).length nc mp ([] : List Nat).length mc) * (notes np ([] : List Value).length nc [] * (marksA mp mc [] * keep W))) (by
        have h3 := Sat.nil_arr (HS.perm (show _ = pts w1.heap.size (outO none 0 0) * (pts W.heap.size (logO 100 3 np ([] : List Value).length nc mp ([] : List Nat).length mc) * (notes np ([] : List Value).length nc [] * (marksA mp mc [] * keep W))) by ac_rfl)) 3 1
        exact pull1 h3)
      exact h2.perm (by show _ = _ * (_ * (_ * ((emp * outHp w1.heap.size []) * _))); rw [emp_sep]; simp only [List.map_nil]; ac_rfl)
    clear HL HL1 hlb R1
    go_wp2_with fail
    refine (mark_calls W.heap.size 100 3 _ [] _ _ HL2 (by decide) (by simp) (by decide)).mono ?_
    rintro e w2 ⟨rfl, HL, R3⟩
    have R4 := Below.trans R2 R3
    clear HL2 R2 R3
    obtain ⟨lb, hlb⟩ : ∃ b, b = W.heap.size := ⟨_, rfl⟩
    rw [← hlb] at HL; rw [← hlb]
    obtain ⟨ob, hob⟩ : ∃ b, b = w1.heap.size := ⟨_, rfl⟩
    rw [← hob] at HL; rw [← hob]
    clear hlb hob
    go_wp2_with fail
    go_loopg [8] (l.length) (NRel ob lb a l W)
    case atStart => exact ⟨[], by simp, rfl, rfl, by unfold marksN; rw [if_pos (show ([] : List (Nat × Int)).length ≤ a from Nat.zero_le _)]; exact HL, R4⟩
    case round =>
      clear HL R4
      obtain ⟨bs, hg, rfl, hbs, HL, HR⟩ := hrel
      have hi0 : (0 : Int) ≤ bs.length := by omega
      have hlk : IntsAt wr ao l := hl.keep HL.rest.right.kept HR.size
      by_cases hi : bs.length < l.length
      · have hil : (bs.length : Int) < l.length := by omega
        obtain ⟨f, rfl⟩ : ∃ f, gk = f + 1 := ⟨gk - 1, by omega⟩
        have hb6 : bs.length ≤ 60 := by omega
        obtain ⟨x, hx⟩ : ∃ x, x = l[bs.length] := ⟨_, rfl⟩
        have htk : l.take (bs.length + 1) = l.take bs.length ++ [x] := by rw [List.take_succ_eq_append_getElem hi, hx]
        have hmid : Hid (∀ w3 : World, ∀ ms : List Nat, ms ≠ [] → ms.length ≤ 2 → (∀ b, ms = marksN (bs ++ [(b, x)]).length a) → LogAt w3 lb 100 3 (bs.map (oneV ob)) ms (outs ob bs bs.length * keep W) → Ran W w3 → (∃ b o, ao = some ⟨b, o, none⟩ ∧ w3.cell? ⟨b, o + bs.length, none⟩ = some (.int .i64 x)) ∧
            Calls Try.prog 11 #[.pointer (some ⟨lb, 0, none⟩), .func (.func 12) #[] #[.pointer (some ⟨ob, 0, none⟩), .pointer (some ⟨w3.heap.size, 0, none⟩)]] (w3.alloc (intO x)) fun e w' => e = .returned (.int .i64 0) ∧ NRel ob lb a l W f (.int .i64 ((bs.length : Int) + 1)) w') := Lib.hid (by
          intro w3 ms hms hms2 hmk H3 R3
          have hlk3 : IntsAt w3 ao l := hl.keep H3.rest.right.kept R3.size
          obtain ⟨_, b, o, e, _, hc⟩ := hlk3 bs.length hi
          refine ⟨⟨b, o, e, by rw [hx]; exact hc⟩, ?_⟩
          have HA := H3.alloc (intO x)
          refine (note_calls lb 100 3 (bs.map (oneV ob)) ms 12 (oneC ob w3.heap.size) _ _ HA hms (by rw [List.length_map]; omega) (by rw [List.length_map]; omega) (by omega)).mono ?_
          rintro e w' ⟨rfl, HN, RN⟩
          refine ⟨rfl, bs ++ [(w3.heap.size, x)], by rw [List.length_append]; simp; omega, by simp, by rw [List.map_append, hbs, List.length_append]; exact htk.symm, ?_, Below.trans (Ran.new R3 _) RN⟩
          rw [List.map_append, ← hmk, outs_snoc]
          exact HN.perm (by show _ = pts w3.heap.size (intO x) * _ * _; ac_rfl))
        have Hl := Lib.hid hl
        have Hbs := Lib.hid hbs
        have Htk := Lib.hid htk
        have Hx := Lib.hid hx
        have Hq := Lib.hid hq
        clear hlk hl hbs htk hx hq
        by_cases hia : bs.length = a
        · have hia' : ((bs.length : Int) == (a : Int)) = true := by rw [beq_iff_eq]; omega
          have hia2 : (bs.length : Int) = (a : Int) := by omega
          have HLm : LogAt wr lb 100 3 (bs.map (oneV ob)) [0] (outs ob bs bs.length * keep W) := by
            have h2 := HL; unfold marksN at h2; rw [if_pos (Nat.le_of_eq hia)] at h2; exact h2
          clear HL
          have Hia := Lib.hid hia
          clear hia
          go_wp2_with fail
          refine (mark_calls lb 100 3 (bs.map (oneV ob)) [0] wr _ HLm (by decide) (by rw [List.length_map]; omega) (by decide)).mono ?_
          rintro e w3 ⟨rfl, HM, R3⟩
          obtain ⟨⟨b, o, rfl, hc⟩, hcall⟩ := hmid.out w3 [0, a] (by simp) (by simp) (by intro b; unfold marksN; rw [if_neg (by rw [List.length_append]; have := Hia.out; simp; omega)]) (by have h := HM; rw [List.length_map] at h; rw [show ([0, a] : List Nat) = [0] ++ [bs.length] by rw [Hia.out]; rfl]; exact h) (Below.trans HR R3)
          have Hcall := Lib.hid hcall
          clear hia' hia2 HM HLm hcall hmid R3 HR
          go_wp2_with fail
          refine Hcall.out.mono ?_
          rintro e w4 ⟨rfl, HN⟩
          have HN0 := Lib.hid HN
          clear HN Hcall
          go_wp2_with fail
          go_roundg f
          case measure => exact Nat.lt_succ_self f
          case rel => exact HN0.out
        · have hia' : ((bs.length : Int) == (a : Int)) = false := by rw [beq_eq_false_iff_ne]; omega
          have hia2 : ¬ (bs.length : Int) = (a : Int) := by omega
          have Hia := Lib.hid hia
          clear hia
          obtain ⟨⟨b, o, rfl, hc⟩, hcall⟩ := hmid.out wr (marksN bs.length a) (by unfold marksN; split <;> simp) (by unfold marksN; split <;> simp) (by intro b; unfold marksN; rw [List.length_append]; have := Hia.out; by_cases c : bs.length ≤ a; (rw [if_pos c, if_pos (by simp; omega)]); (rw [if_neg c, if_neg (by simp; omega)])) HL HR
          have Hcall := Lib.hid hcall
          clear HL hcall hmid HR
          go_wp2_with fail
          refine Hcall.out.mono ?_
          rintro e w4 ⟨rfl, HN⟩
          have HN0 := Lib.hid HN
          clear HN Hcall
          go_wp2_with fail
          go_roundg f
          case measure => exact Nat.lt_succ_self f
          case rel => exact HN0.out
      · have hge : ¬ ((bs.length : Int) < (l.length : Int)) := by omega
        have hbl : bs.length = l.length := by omega
        have hb6 : bs.length ≤ 1000000 := by omega
        have hab : a ≤ bs.length := by omega
        have Hb6 := Lib.hid hb6
        have Hl := Lib.hid hl
        have Hbs := Lib.hid hbs
        have Hq := Lib.hid hq
        have Ha := Lib.hid hab
        have Hbl := Lib.hid hbl
        have Hh := Lib.hid (And.intro h60 (And.intro hq0 (And.intro hq1 (And.intro ha hg))))
        clear hlk hl hbs hq hb6 hab h60 ha hg hi
        by_cases hal : a = l.length
        · have hal' : ((a : Int) == (l.length : Int)) = true := by rw [beq_iff_eq]; omega
          have hal2 : (a : Int) = (l.length : Int) := by omega
          have Hal := Lib.hid hal
          have HLm : LogAt wr lb 100 3 (bs.map (oneV ob)) [0] (outs ob bs bs.length * keep W) := by
            have h2 := HL; unfold marksN at h2; rw [if_pos (by omega)] at h2; exact h2
          clear HL hal hbl
          go_wp2_with fail
          refine (mark_calls lb 100 3 (bs.map (oneV ob)) [0] wr _ HLm (by decide) (by rw [List.length_map]; have := Hb6.out; omega) (by decide)).mono ?_
          rintro e w3 ⟨rfl, HM, R3⟩
          have HL3 : Hid (LogAt w3 lb 100 3 (bs.map (oneV ob)) [0, a] (outs ob bs bs.length * keep W)) := Lib.hid (by rw [List.length_map, Hbl.out, ← Hal.out] at HM; rw [Hbl.out, ← Hal.out]; exact HM)
          have R3 := Below.trans HR R3
          clear HM HLm HR
          go_wp2_with fail
          refine (note_nilfn lb w3).mono ?_
          rintro e w9 ⟨rfl, rfl⟩
          have HL4 : LogAt w3 lb 100 3 ((bs.take bs.length).map (oneV ob)) ([0] ++ [a]) (outs ob bs ((bs.take bs.length).map (oneV ob)).length * keep W) := by
            rw [List.take_length, List.length_map]; exact HL3.out
          go_wp2_with fail
          refine (undo_calls lb 100 3 ((bs.take bs.length).map (oneV ob)) [0] a w3 (outs ob bs) (keep W) HL4 (by rw [List.length_map, List.take_length]; exact Ha.out) (by rw [List.length_map, List.take_length]; exact Hb6.out) (by decide) (out_effects ob bs bs.length a (Nat.le_refl _) Hb6.out)).mono ?_
          rintro e w4 ⟨rfl, HL5, R5⟩
          have R6 := Below.trans R3 R5
          rw [← List.map_take, List.take_length] at HL5
          have HL6 := Lib.hid HL5
          have hout := HL5.rest
          unfold outs at hout
          obtain ⟨p, pc, HO⟩ := outHp_out (hout.perm (show _ = outHp ob ((bs.drop a).map Prod.snd).reverse * (all boxHp (bs.take a) * keep W) by ac_rfl))
          have hlen : ((bs.drop a).map Prod.snd).reverse.length = l.length - a := by rw [List.length_reverse, List.length_map, List.length_drop, Hbl.out]
          rw [hlen] at HO
          have c0 := one_cell HO
          have hsub : IntKind.i64.wrap ((l.length : Int) - (a : Int)) = ((l.length - a : Nat) : Int) := by have := Ha.out; have := Hbl.out; rw [IntKind.wrap_i64] <;> omega
          have Hlen := Lib.hid hlen
          clear HL3 HL4 HL5 R5 hout HO hlen
          go_wp2_with fail
          have hxs : ((bs.drop a).map Prod.snd).reverse = (l.drop a).reverse := by
            rw [List.map_drop, Hbs.out, Hbl.out, List.take_length]
          have Hxs := Lib.hid hxs
          clear hxs hsub c0
          go_loopg [10] (l.length - a) (NRel2 ob lb a bs l W)
          case atStart => exact ⟨0, by omega, rfl, HL6.out, R6⟩
          case round =>
            clear HL6 R6
            obtain ⟨j, hg2, rfl, HL, HR⟩ := hrel
            have hout := HL.rest
            unfold outs at hout
            obtain ⟨p, pc, HO⟩ := outHp_out (hout.perm (show _ = outHp ob ((bs.drop a).map Prod.snd).reverse * (all boxHp (bs.take a) * keep W) by ac_rfl))
            rw [Hlen.out, Hxs.out] at HO
            have c0 := one_cell HO
            have HA := pull1 HO
            have hj0 : (0 : Int) ≤ j := by omega
            by_cases hj : j < l.length - a
            · have hcap := HA.arr_len.2.1
              obtain ⟨pb, po, rfl⟩ := HA.arr_addr (by omega)
              have c1 := HA.arr_cell j (by simp; omega)
              have hlk : IntsAt wr ao l := Hl.out.keep HL.rest.right.kept HR.size
              obtain ⟨t, ht⟩ : ∃ t, t = l.length - 1 - j := ⟨_, rfl⟩
              have htl' : t < l.length := by omega
              obtain ⟨q9, b, o, rfl, b9, c2⟩ := hlk t htl'
              have hx1 : ((l.drop a).reverse.map iv)[j]'(by simp; omega) = .int .i64 l[t] := by
                rw [List.getElem_map, List.getElem_reverse, List.getElem_drop]
                have : a + ((l.drop a).length - 1 - j) = t := by rw [List.length_drop]; omega
                simp only [this]
              rw [hx1] at c1
              have hjl : (j : Int) < ((l.length - a : Nat) : Int) := by omega
              have hj60 : (j : Int) ≤ 60 := by omega
              have ht0 : (0 : Int) ≤ t := by omega
              have htl : (t : Int) < (l.length : Int) := by omega
              have hw1 : IntKind.i64.wrap ((l.length : Int) - 1) = (l.length : Int) - 1 := by rw [IntKind.wrap_i64] <;> omega
              have hw2 : IntKind.i64.wrap ((l.length : Int) - 1 - (j : Int)) = (t : Int) := by rw [IntKind.wrap_i64] <;> omega
              have HL0 := Lib.hid HL
              obtain ⟨x, hx⟩ : ∃ x, x = l[t] := ⟨_, rfl⟩
              rw [← hx] at c1 c2
              have Hg2 := Lib.hid hg2
              have Hj := Lib.hid hj
              clear q9 b9 HL hout HO HA hlk hx1 hx ht htl' hcap hg2 hj
              go_wp2_with fail
              refine Go.Proofs.Ytibgpkcklneloaa.region_plan (S := (fun w' => w'.cell? ⟨ob, 0, none⟩ = some (.slice (some ⟨pb, po, none⟩) (l.length - a) pc) ∧ w'.cell? ⟨pb, po + j, none⟩ = some (.int .i64 x) ∧ w'.cell? ⟨b, o + t, none⟩ = some (.int .i64 x))) [(0, true), (1, true), (2, true), (3, true), (4, true), (5, true), (6, true), (7, true), (8, true), (9, true), (10, true), (11, true), (12, true)] (by kernel_rfl) (by kernel_rfl) (by kernel_rfl) ?_ ?_
              · ((try dsimp only); (first | done | (exact ⟨c0, c1, c2⟩)))
              simp only [Go.Proofs.Ytibgpkcklneloaa.planOps, List.map_cons, List.map_nil, List.getElem?_toArray, List.getElem?_cons_zero, List.getElem?_cons_succ]
              repeat (first
                | ((refine Go.Proofs.Ytibgpkcklneloaa.plan_yes (v := ?_) (by rfl) ?_ ?_); rotate_left; (focus (intro w hSw; (try dsimp only at hSw); go_simp; try (with_reducible rfl))); (try simp only [Act.put, List.setIfInBounds_toArray, List.set_cons_zero, List.set_cons_succ]))
                | ((refine Go.Proofs.Ytibgpkcklneloaa.plan_no (by rfl) ?_); (try simp only [Act.put, List.setIfInBounds_toArray, List.set_cons_zero, List.set_cons_succ]))
                | ((refine Go.Proofs.Ytibgpkcklneloaa.plan_step (fun K hK => ?_)); (first | (fail) | (go_simp; (fail); (try go_wp2_with fail)) | go_simp); (refine hK.out _ _ ?_ (fun hHeld => ?_)); (focus ((try dsimp only); (first | done | (exact ⟨c0, c1, c2⟩)))); clear hK K; (try simp only [Act.put, List.setIfInBounds_toArray, List.set_cons_zero, List.set_cons_succ])))
              refine Go.Proofs.Ytibgpkcklneloaa.plan_done ?_
              clear hw1 hw2
              go_wp2_with fail
              go_roundg (gk - 1)
              case measure => have := Hg2.out; have := Hj.out; omega
              case rel => exact ⟨j + 1, by have := Hg2.out; have := Hj.out; omega, rfl, by obtain ⟨np, nc, mp, mc, HS⟩ := HL0.out; exact ⟨np, nc, mp, mc, HS.drew⟩, Below.drew HR⟩
            · have hjl : ¬ ((j : Int) < ((l.length - a : Nat) : Int)) := by omega
              have HL' : LogAt wr lb 100 3 ((bs.take a).map (oneV ob)) ([] ++ [0]) (outs ob bs ((bs.take a).map (oneV ob)).length * keep W) := by
                rw [List.length_map, List.length_take, Nat.min_eq_left Ha.out]; exact HL
              have hcall := undo_calls lb 100 3 ((bs.take a).map (oneV ob)) [] 0 wr (outs ob bs) (keep W) HL' (Nat.zero_le _) (by rw [List.length_map, List.length_take, Nat.min_eq_left Ha.out]; have := Ha.out; have := Hb6.out; omega) (by decide) (out_effects ob bs a 0 Ha.out Hb6.out)
              have Hcall := Lib.hid hcall
              clear HL hout HO HA HL' hcall
              go_wp2_with fail
              refine Hcall.out.mono ?_
              rintro e w5 ⟨rfl, HL7, R7⟩
              have hout := HL7.rest
              unfold outs at hout
              obtain ⟨p, pc, HO⟩ := outHp_out (hout.perm (show _ = outHp ob ((bs.drop 0).map Prod.snd).reverse * (all boxHp (bs.take 0) * keep W) by ac_rfl))
              have hlen : ((bs.drop 0).map Prod.snd).reverse.length = l.length := by rw [List.length_reverse, List.length_map, List.length_drop, Hbl.out]; rfl
              rw [hlen] at HO
              clear c0
              have c0 := one_cell HO
              have R8 := Below.trans HR R7
              have HL8 := Lib.hid HL7
              clear HL7 hout HO hlen Hcall R7
              go_wp2_with fail
              refine (undo_idle lb 100 3 _ w5 _ HL8.out).mono ?_
              rintro e w6 ⟨rfl, HL9, R9⟩
              have HL9 := Lib.hid HL9.rest.right
              have R10 := Below.trans R8 R9
              clear HL8 c0 R8 R9
              go_wp2_with fail
              refine (awake_calls w6 (keep W) HL9.out).mono ?_
              rintro e w7 ⟨⟨rfl, H⟩, b3⟩
              go_wp2_with fail
              go_ret
              exact ⟨rfl, Ran.whole' (Below.trans R10 b3) H⟩
        · have hal' : ((a : Int) == (l.length : Int)) = false := by rw [beq_eq_false_iff_ne]; omega
          have hal2 : ¬ (a : Int) = (l.length : Int) := by omega
          have Hal := Lib.hid hal
          obtain ⟨w3, hw3⟩ : ∃ w3, w3 = wr := ⟨_, rfl⟩
          subst hw3
          have HL3 : Hid (LogAt w3 lb 100 3 (bs.map (oneV ob)) [0, a] (outs ob bs bs.length * keep W)) := Lib.hid (by
            have h2 := HL; unfold marksN at h2; rw [if_neg (by omega)] at h2; exact h2)
          have R3 : Below 0 W w3 := HR
          clear HL hal hbl HR
          go_wp2_with fail
          refine (note_nilfn lb w3).mono ?_
          rintro e w9 ⟨rfl, rfl⟩
          have HL4 : LogAt w3 lb 100 3 ((bs.take bs.length).map (oneV ob)) ([0] ++ [a]) (outs ob bs ((bs.take bs.length).map (oneV ob)).length * keep W) := by
            rw [List.take_length, List.length_map]; exact HL3.out
          go_wp2_with fail
          refine (undo_calls lb 100 3 ((bs.take bs.length).map (oneV ob)) [0] a w3 (outs ob bs) (keep W) HL4 (by rw [List.length_map, List.take_length]; exact Ha.out) (by rw [List.length_map, List.take_length]; exact Hb6.out) (by decide) (out_effects ob bs bs.length a (Nat.le_refl _) Hb6.out)).mono ?_
          rintro e w4 ⟨rfl, HL5, R5⟩
          have R6 := Below.trans R3 R5
          rw [← List.map_take, List.take_length] at HL5
          have HL6 := Lib.hid HL5
          have hout := HL5.rest
          unfold outs at hout
          obtain ⟨p, pc, HO⟩ := outHp_out (hout.perm (show _ = outHp ob ((bs.drop a).map Prod.snd).reverse * (all boxHp (bs.take a) * keep W) by ac_rfl))
          have hlen : ((bs.drop a).map Prod.snd).reverse.length = l.length - a := by rw [List.length_reverse, List.length_map, List.length_drop, Hbl.out]
          rw [hlen] at HO
          have c0 := one_cell HO
          have hsub : IntKind.i64.wrap ((l.length : Int) - (a : Int)) = ((l.length - a : Nat) : Int) := by have := Ha.out; have := Hbl.out; rw [IntKind.wrap_i64] <;> omega
          have Hlen := Lib.hid hlen
          clear HL3 HL4 HL5 R5 hout HO hlen
          go_wp2_with fail
          have hxs : ((bs.drop a).map Prod.snd).reverse = (l.drop a).reverse := by
            rw [List.map_drop, Hbs.out, Hbl.out, List.take_length]
          have Hxs := Lib.hid hxs
          clear hxs hsub c0
          go_loopg [10] (l.length - a) (NRel2 ob lb a bs l W)
          case atStart => exact ⟨0, by omega, rfl, HL6.out, R6⟩
          case round =>
            clear HL6 R6
            obtain ⟨j, hg2, rfl, HL, HR⟩ := hrel
            have hout := HL.rest
            unfold outs at hout
            obtain ⟨p, pc, HO⟩ := outHp_out (hout.perm (show _ = outHp ob ((bs.drop a).map Prod.snd).reverse * (all boxHp (bs.take a) * keep W) by ac_rfl))
            rw [Hlen.out, Hxs.out] at HO
            have c0 := one_cell HO
            have HA := pull1 HO
            have hj0 : (0 : Int) ≤ j := by omega
            by_cases hj : j < l.length - a
            · have hcap := HA.arr_len.2.1
              obtain ⟨pb, po, rfl⟩ := HA.arr_addr (by omega)
              have c1 := HA.arr_cell j (by simp; omega)
              have hlk : IntsAt wr ao l := Hl.out.keep HL.rest.right.kept HR.size
              obtain ⟨t, ht⟩ : ∃ t, t = l.length - 1 - j := ⟨_, rfl⟩
              have htl' : t < l.length := by omega
              obtain ⟨q9, b, o, rfl, b9, c2⟩ := hlk t htl'
              have hx1 : ((l.drop a).reverse.map iv)[j]'(by simp; omega) = .int .i64 l[t] := by
                rw [List.getElem_map, List.getElem_reverse, List.getElem_drop]
                have : a + ((l.drop a).length - 1 - j) = t := by rw [List.length_drop]; omega
                simp only [this]
              rw [hx1] at c1
              have hjl : (j : Int) < ((l.length - a : Nat) : Int) := by omega
              have hj60 : (j : Int) ≤ 60 := by omega
              have ht0 : (0 : Int) ≤ t := by omega
              have htl : (t : Int) < (l.length : Int) := by omega
              have hw1 : IntKind.i64.wrap ((l.length : Int) - 1) = (l.length : Int) - 1 := by rw [IntKind.wrap_i64] <;> omega
              have hw2 : IntKind.i64.wrap ((l.length : Int) - 1 - (j : Int)) = (t : Int) := by rw [IntKind.wrap_i64] <;> omega
              have HL0 := Lib.hid HL
              obtain ⟨x, hx⟩ : ∃ x, x = l[t] := ⟨_, rfl⟩
              rw [← hx] at c1 c2
              have Hg2 := Lib.hid hg2
              have Hj := Lib.hid hj
              clear q9 b9 HL hout HO HA hlk hx1 hx ht htl' hcap hg2 hj
              go_wp2_with fail
              refine Go.Proofs.Ytibgpkcklneloaa.region_plan (S := (fun w' => w'.cell? ⟨ob, 0, none⟩ = some (.slice (some ⟨pb, po, none⟩) (l.length - a) pc) ∧ w'.cell? ⟨pb, po + j, none⟩ = some (.int .i64 x) ∧ w'.cell? ⟨b, o + t, none⟩ = some (.int .i64 x))) [(0, true), (1, true), (2, true), (3, true), (4, true), (5, true), (6, true), (7, true), (8, true), (9, true), (10, true), (11, true), (12, true)] (by kernel_rfl) (by kernel_rfl) (by kernel_rfl) ?_ ?_
              · ((try dsimp only); (first | done | (exact ⟨c0, c1, c2⟩)))
              simp only [Go.Proofs.Ytibgpkcklneloaa.planOps, List.map_cons, List.map_nil, List.getElem?_toArray, List.getElem?_cons_zero, List.getElem?_cons_succ]
              repeat (first
                | ((refine Go.Proofs.Ytibgpkcklneloaa.plan_yes (v := ?_) (by rfl) ?_ ?_); rotate_left; (focus (intro w hSw; (try dsimp only at hSw); go_simp; try (with_reducible rfl))); (try simp only [Act.put, List.setIfInBounds_toArray, List.set_cons_zero, List.set_cons_succ]))
                | ((refine Go.Proofs.Ytibgpkcklneloaa.plan_no (by rfl) ?_); (try simp only [Act.put, List.setIfInBounds_toArray, List.set_cons_zero, List.set_cons_succ]))
                | ((refine Go.Proofs.Ytibgpkcklneloaa.plan_step (fun K hK => ?_)); (first | (fail) | (go_simp; (fail); (try go_wp2_with fail)) | go_simp); (refine hK.out _ _ ?_ (fun hHeld => ?_)); (focus ((try dsimp only); (first | done | (exact ⟨c0, c1, c2⟩)))); clear hK K; (try simp only [Act.put, List.setIfInBounds_toArray, List.set_cons_zero, List.set_cons_succ])))
              refine Go.Proofs.Ytibgpkcklneloaa.plan_done ?_
              clear hw1 hw2
              go_wp2_with fail
              go_roundg (gk - 1)
              case measure => have := Hg2.out; have := Hj.out; omega
              case rel => exact ⟨j + 1, by have := Hg2.out; have := Hj.out; omega, rfl, by obtain ⟨np, nc, mp, mc, HS⟩ := HL0.out; exact ⟨np, nc, mp, mc, HS.drew⟩, Below.drew HR⟩
            · have hjl : ¬ ((j : Int) < ((l.length - a : Nat) : Int)) := by omega
              have HL' : LogAt wr lb 100 3 ((bs.take a).map (oneV ob)) ([] ++ [0]) (outs ob bs ((bs.take a).map (oneV ob)).length * keep W) := by
                rw [List.length_map, List.length_take, Nat.min_eq_left Ha.out]; exact HL
              have hcall := undo_calls lb 100 3 ((bs.take a).map (oneV ob)) [] 0 wr (outs ob bs) (keep W) HL' (Nat.zero_le _) (by rw [List.length_map, List.length_take, Nat.min_eq_left Ha.out]; have := Ha.out; have := Hb6.out; omega) (by decide) (out_effects ob bs a 0 Ha.out Hb6.out)
              have Hcall := Lib.hid hcall
              clear HL hout HO HA HL' hcall
              go_wp2_with fail
              refine Hcall.out.mono ?_
              rintro e w5 ⟨rfl, HL7, R7⟩
              have hout := HL7.rest
              unfold outs at hout
              obtain ⟨p, pc, HO⟩ := outHp_out (hout.perm (show _ = outHp ob ((bs.drop 0).map Prod.snd).reverse * (all boxHp (bs.take 0) * keep W) by ac_rfl))
              have hlen : ((bs.drop 0).map Prod.snd).reverse.length = l.length := by rw [List.length_reverse, List.length_map, List.length_drop, Hbl.out]; rfl
              rw [hlen] at HO
              clear c0
              have c0 := one_cell HO
              have R8 := Below.trans HR R7
              have HL8 := Lib.hid HL7
              clear HL7 hout HO hlen Hcall R7
              go_wp2_with fail
              refine (undo_idle lb 100 3 _ w5 _ HL8.out).mono ?_
              rintro e w6 ⟨rfl, HL9, R9⟩
              have HL9 := Lib.hid HL9.rest.right
              have R10 := Below.trans R8 R9
              clear HL8 c0 R8 R9
              go_wp2_with fail
              refine (awake_calls w6 (keep W) HL9.out).mono ?_
              rintro e w7 ⟨⟨rfl, H⟩, b3⟩
              go_wp2_with fail
              go_ret
              exact ⟨rfl, Ran.whole' (Below.trans R10 b3) H⟩
  · have hbad : 60 < (l.length : Int) ∨ q < 0 ∨ (l.length : Int) < q := by omega
    have H0 := Lib.hid (Sat.start W)
    clear hok
    by_cases h1 : 60 < (l.length : Int)
    · clear hbad
      go_enter Try.func3, Try.ntmps3
      go_wp2_with fail
      refine (awake_calls W (keep W) H0.out).mono ?_
      rintro e w3 ⟨⟨rfl, H⟩, b3⟩
      go_wp2_with fail
      go_ret
      exact ⟨rfl, Ran.whole' b3 H⟩
    · have h1' : (l.length : Int) ≤ 60 := by omega
      by_cases h2 : q < 0
      · clear hbad
        go_enter Try.func3, Try.ntmps3
        go_wp2_with fail
        refine (awake_calls W (keep W) H0.out).mono ?_
        rintro e w3 ⟨⟨rfl, H⟩, b3⟩
        go_wp2_with fail
        go_ret
        exact ⟨rfl, Ran.whole' b3 H⟩
      · have h2' : 0 ≤ q := by omega
        have h3 : (l.length : Int) < q := by omega
        clear hbad
        go_enter Try.func3, Try.ntmps3
        go_wp2_with fail
        refine (awake_calls W (keep W) H0.out).mono ?_
        rintro e w3 ⟨⟨rfl, H⟩, b3⟩
        go_wp2_with fail
        go_ret
        exact ⟨rfl, Ran.whole' b3 H⟩

set_option maxRecDepth 100000 in
theorem lifted (os : Os) (started : os.Started) (H : Type) (enc : TypeId × Value → H) :
    ReturnsInHanded {} Try.checked os 3 .any (Rows.undoNotesSpec.pre6 enc Try.prog Try.f3 Rows.undoNotesRow.domain false) (Rows.undoNotesSpec.post enc Try.prog Try.f3 false true false false) := by
  refine returnsInHanded_of_change (C := Try.checked) own started (by kernel_rfl) Try.func3
    (ChangeSpec.witness6 (enc := enc) (C := Try.checked) false ⟨#[], #[.slice none 0 0, .int .i64 0], []⟩ 8 (by kernel_rfl) (by kernel_rfl) (by kernel_rfl) (by kernel_rfl)) ?_
  intro W base args ds gs before hval0 hW hcnd _
  have hval : ∀ (j : Nat) t v, Try.f3.params[j]? = some t → args[j]? = some v → Value.okWide Try.prog W .any base t v := hval0
  have hW' := hW
  obtain ⟨p, q, hA0, hV, rfl, hfz, hnd⟩ := hW
  have hA : DataW.TrodAll enc Try.prog W 0 (fun _ => true) true Try.f3.params.toList args.toList ds p := hA0
  rw [Try.params3] at hA hval
  obtain ⟨v0, vs0, d0, ds0, p0, q0, hargs, rfl, rfl, h0, r0⟩ := trodAll_cons hA
  obtain ⟨v1, vs1, d1, ds1, p1, q1, rfl, rfl, rfl, h1, r1⟩ := trodAll_cons r0
  obtain ⟨rfl, rfl, rfl⟩ := trodAll_nil r1
  obtain rfl : args = #[v0, v1] := by cases args; simp_all
  obtain ⟨rfl, rfl⟩ := trodVars_none hV
  have k0 := h0
  have lt0 : ∀ x ∈ p0, x.block < W.heap.size := by obtain ⟨m, hm⟩ := k0; exact DataW.trod_lt m _ _ _ hm
  obtain ⟨ao0, l0, cap0, rfl, w0⟩ := ints_open (hval 0 22 v0 rfl rfl) h0
  obtain ⟨a1, rfl, rfl, rfl, w1⟩ := open_int Try.underlying3 (hval 1 3 v1 rfl rfl) h1
  clear hA0 hval0
  refine (walk ao0 cap0 l0 a1 W w0 (i64_of w1)).mono fun e W' ⟨he, bel⟩ => ?_
  subst he
  exact ⟨_, rfl, _, _, _, [], _, [], hW', trodAll_mk1 (shut_bool Try.underlying4 _), (trodAll_cons_mk (Below.trod laidOut (by kernel_rfl) (of_decide_eq_true (by kernel_rfl)) k0 bel lt0) (trodAll_cons_mk (shut_int Try.underlying3 w1) trodAll_mk0)), rfl, bel.frame _, fun h => by cases h⟩

theorem over : Rows.undoNotesRow.holds Try.pinned (OpenSpec.ofChange Rows.undoNotesSpec) :=
  OpenClaim.holds_of_wide 3 Try.f3 rfl rfl rfl rfl rfl rfl rfl ⟨rfl, rfl, rfl, rfl, rfl⟩ rfl rfl rfl rfl rfl (by kernel_rfl) Try.func3 (by kernel_rfl)
    (of_decide_eq_true (by kernel_rfl)) (by unfold Func.isWrapper; first | (rw [if_pos (by decide +kernel)]; kernel_rfl) | (rw [if_neg (by decide +kernel)]; exact ⟨rfl, rfl⟩))
    (fun os started H enc _ => lifted os started H enc)

theorem proved : Rows.UndoNotesSaid := over
#print axioms proved
end Go.Proofs.Ytibgpkcklneloaa.undoNotes
