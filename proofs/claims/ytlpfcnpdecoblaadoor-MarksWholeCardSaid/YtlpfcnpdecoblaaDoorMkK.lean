/- Contracts for the laws, in the form 'nothing that was there has turned'; awake walked. -/
import Derived.Test.YtlpfcnpdecoblaaDoorMkJ
namespace Go.Proofs.YtlpfcnpdecoblaaDoor.Marks
open Go.RowKit Go.Proofs.YtlpfcnpdecoblaaDoor Go.Proofs.YtlpfcnpdecoblaaDoor.Hp
set_option linter.unusedVariables false
attribute [local go_sem] Oper.semAt_some

theorem bt {w a b : World} (h : Below w.heap.size w a) (k : Below a.heap.size a b) : Below w.heap.size w b := h.trans (k.mono h.size)
theorem len3 {α : Type} {l : List α} (h : l.length = 3) : ∃ a b c, l = [a, b, c] := by
  match l, h with
  | [a, b, c], _ => exact ⟨a, b, c, rfl⟩
theorem RowsAt.keep {w W : World} {lo : Option Addr} {rs : List Rw} (h : RowsAt w lo rs) (k : Kept w W) : RowsAt W lo rs := fun i hi => by
  obtain ⟨b, o, e, hc, hr⟩ := h i hi
  exact ⟨b, o, e, (k.cell (World.block_lt_of_cell? w _ hc) _).trans hc, hr.keep k⟩
theorem rows_of {w : World} {p : Option Addr} {cap : Nat} {rs : List Rw} {S : Hp} (h : Sat w (rowsA p cap rs * S)) : RowsAt w p rs := fun i hi => by
  unfold rowsA at h
  rw [sep_assoc] at h
  have hl := h.arr_len
  obtain ⟨b, o, rfl⟩ := h.arr_addr (by omega)
  refine ⟨b, o, rfl, ?_, ?_⟩
  · rw [h.arr_cell i (by rw [List.length_map]; exact hi), List.getElem_map]
  · have h2 := h.right
    rw [all_split rwA rs i hi, sep_assoc] at h2
    exact chA_at h2
theorem join_below (rs : List Rw) (lo : Option Addr) (lc : Nat) (w : World) (h : RowsAt w lo rs) (hn : rs.length ≤ 1000000) (hs : sumL rs ≤ 1000000) :
    Calls Tryd.prog 20 #[.slice lo rs.length lc] w (CharsPost (joinL rs) w) := by
  refine (join_calls rs lo lc w (keep w) (fun W S' hs => h.keep (kept_of (hs.perm (show _ = S' * keep w by ac_rfl)))) (Sat.start w) hn hs).mono ?_
  rintro e w' ⟨⟨p, cap, rfl, hS⟩, hR⟩
  exact ⟨p, cap, rfl, chA_at hS, hR.whole hS⟩
def PartsPost (ls : List (List Ch)) (w : World) (e : Ending) (w' : World) : Prop := ∃ p cap rs, e = .returned (.slice p (List.length rs) cap) ∧ rs.map Rw.L = ls ∧ RowsAt w' p rs ∧ Below w.heap.size w w'
theorem part_below (t : List Ch) (ao : Option Addr) (cap : Nat) (b : UInt8) (w : World) (h : CharsAt w ao cap t) (hm : t.length ≤ 100000) :
    Calls Tryd.prog 22 #[.slice ao t.length cap, .int .u8 b.toNat] w (PartsPost (partL b t) w) := by
  refine (part_calls t ao cap b w h hm).mono ?_
  rintro e w' ⟨⟨p, cap, rs, rfl, hl, hS⟩, hR⟩
  exact ⟨p, cap, rs, rfl, hl, rows_of hS, hR.whole hS⟩
/-- At closed texts. -/
theorem join_lit (rs : List Rw) (lo : Option Addr) (n lc : Nat) (w : World) (t : List Ch) (m : Nat) (h : RowsAt w lo rs) (hl : rs.length = n) (hn : rs.length ≤ 1000000) (hs : sumL rs ≤ 1000000) (ht : joinL rs = t) (hm : t.length = m) :
    Calls Tryd.prog 20 #[.slice lo n lc] w fun e w' => ∃ p cap, e = .returned (.slice p m cap) ∧ CharsAt w' p cap t ∧ Below w.heap.size w w' := by
  subst hl ht hm
  exact join_below rs lo lc w h hn hs
theorem part_lit (t : List Ch) (n : Nat) (ao : Option Addr) (cap : Nat) (b : UInt8) (c : Int) (w : World) (h : CharsAt w ao cap t) (hn : t.length = n) (hc : (b.toNat : Int) = c) (hm : t.length ≤ 100000) :
    Calls Tryd.prog 22 #[.slice ao n cap, .int .u8 c] w (PartsPost (partL b t) w) := by
  subst hn hc
  exact part_below t ao cap b w h hm
theorem read_lit (s : ByteArray) (w : World) (t : List Ch) (n : Nat) (r : Int) (ht : rdL (readP false (bs s)) = t) (hn : t.length = n) (hr : rdE (readP false (bs s)) = r) (hm : s.size ≤ 100000) :
    Calls Tryd.prog 10 #[.string s] w fun e w' => ∃ p cap, e = .returned (.tuple #[.slice p n cap, .int .i64 r]) ∧ CharsAt w' p cap t ∧ Below w.heap.size w w' := by
  refine (read_calls s w hm).mono ?_
  rintro e w' ⟨p, cap, rfl, h1, h2⟩
  subst ht hn hr
  exact ⟨p, cap, rfl, h1, h2⟩
theorem plain_lit (t : List Ch) (n : Nat) (ao : Option Addr) (cap : Nat) (w : World) (s : ByteArray) (h : CharsAt w ao cap t) (hn : t.length = n) (hm : t.length ≤ 100000) (hs : (⟨(t.map (·.b)).toArray⟩ : ByteArray) = s) :
    Calls Tryd.prog 21 #[.slice ao n cap] w fun e w' => e = .returned (.string s) ∧ Below w.heap.size w w' := by
  subst hn hs
  exact plain_calls t ao cap w h hm
theorem hard_lit (t : List Ch) (n : Nat) (ao : Option Addr) (cap : Nat) (w : World) (a b : Bool) (h : CharsAt w ao cap t) (hn : t.length = n) (hm : t.length ≤ 100000) (ha : t.any (·.q) = a) (hb : t.all (·.q) = b) :
    Calls Tryd.prog 19 #[.slice ao n cap] w fun e w' => e = .returned (.tuple #[.bool a, .bool b]) ∧ Below w.heap.size w w' := by
  subst hn ha hb
  exact hard_calls t ao cap w h hm
theorem escape_lit (t : List Ch) (n : Nat) (ao : Option Addr) (cap : Nat) (w : World) (s : ByteArray) (h : CharsAt w ao cap t) (hn : t.length = n) (hm : t.length ≤ 100000) (hs : (⟨(escL t).toArray⟩ : ByteArray) = s) :
    Calls Tryd.prog 12 #[.slice ao n cap] w fun e w' => e = .returned (.string s) ∧ Below w.heap.size w w' := by
  subst hn hs
  exact escape_calls t ao cap w h hm
set_option maxRecDepth 100000 in
set_option maxHeartbeats 4000000 in
theorem awake_calls (w : World) : Calls Tryd.prog 9 #[] w (FPost true w) := by
  go_enter Tryd.func9, Tryd.ntmps9
  go_wp2_with fail
  refine (read_lit { data := #[97, 39, 98, 32, 99, 39, 92, 100] } w [⟨97, false⟩, ⟨98, true⟩, ⟨32, true⟩, ⟨99, true⟩, ⟨100, true⟩] 5 0 (by decide) rfl (by decide) (by decide)).mono ?_
  rintro e w1 ⟨p1, c1, rfl, hC1, b1⟩
  go_wp2_with fail
  refine (read_lit { data := #[39, 97] } w1 [] 0 30 (by decide) rfl (by decide) (by decide)).mono ?_
  rintro e w2 ⟨p2, c2, rfl, _, b2⟩
  have b2w := b2
  have b2 := bt b1 b2
  go_wp2_with fail
  refine (of_lit { data := #[97, 58] } false w2 [⟨97, false⟩, ⟨58, false⟩] 2 (by decide) rfl (by decide)).mono ?_
  rintro e w3 ⟨⟨p3, c3, rfl, hC3⟩, b3⟩
  go_wp2_with fail
  refine (of_lit { data := #[58] } true w3 [⟨58, true⟩] 1 (by decide) rfl (by decide)).mono ?_
  rintro e w4 ⟨⟨p4, c4, rfl, hC4⟩, b4⟩
  go_wp2_with fail
  refine (of_lit { data := #[98, 58] } false w4 [⟨98, false⟩, ⟨58, false⟩] 2 (by decide) rfl (by decide)).mono ?_
  rintro e w5 ⟨⟨p5, c5, rfl, hC5⟩, b5⟩
  have b5w := b5
  have k34 := Kept.below b4
  have k45 := Kept.below b5
  have hR : RowsAt (w5.alloc (.cells #[.slice p3 2 c3, .slice p4 1 c4, .slice p5 2 c5] 22 (0, 0))) (some ⟨w5.heap.size, 0, none⟩) [⟨p3, c3, [⟨97, false⟩, ⟨58, false⟩]⟩, ⟨p4, c4, [⟨58, true⟩]⟩, ⟨p5, c5, [⟨98, false⟩, ⟨58, false⟩]⟩] := by
    have kn := kept_alloc w5 (.cells #[.slice p3 2 c3, .slice p4 1 c4, .slice p5 2 c5] 22 (0, 0))
    have hbk := heap_alloc_new w5 (.cells #[.slice p3 2 c3, .slice p4 1 c4, .slice p5 2 c5] 22 (0, 0))
    intro i hi
    refine ⟨w5.heap.size, 0, rfl, ?_, ?_⟩
    · rw [cell_at hbk, Nat.zero_add]
      match i, hi with
      | 0, _ => rfl
      | 1, _ => rfl
      | 2, _ => rfl
    · match i, hi with
      | 0, _ => exact ((hC3.keep k34).keep k45).keep kn
      | 1, _ => exact (hC4.keep k45).keep kn
      | 2, _ => exact hC5.keep kn
  have b5 := bt (bt (bt b2 b3) b4) b5
  have b6 := b5.alloc b5.size (.cells #[.slice p3 2 c3, .slice p4 1 c4, .slice p5 2 c5] 22 (0, 0))
  have hj := Lib.hid (join_lit _ _ 3 3 _ [⟨97, false⟩, ⟨58, false⟩, ⟨58, true⟩, ⟨98, false⟩, ⟨58, false⟩] 5 hR rfl (by show (3 : Nat) ≤ 1000000; decide) (by show (5 : Nat) ≤ 1000000; decide) rfl rfl)
  have B6 := Lib.hid b6
  have C1 := Lib.hid hC1
  have B1 := Lib.hid (Kept.below (bt (bt (bt b2w b3) b4) b5w))
  clear hR hC3 hC4 hC5 hC1 b1 b2 b2w b3 b4 b5 b5w b6 k34 k45
  go_wp2_with fail
  refine hj.out.mono ?_
  rintro e w7 ⟨p7, c7, rfl, hC7, b7⟩
  have B7 := Lib.hid (bt B6.out b7)
  have K7 := Lib.hid (((B1.out.trans (kept_alloc w5 (.cells #[.slice p3 2 c3, .slice p4 1 c4, .slice p5 2 c5] 22 (0, 0)))).trans (Kept.below b7)))
  have hp := Lib.hid (part_lit _ 5 p7 c7 58 58 w7 hC7 rfl rfl (by decide))
  clear hC7 b7 hj B6 B1
  go_wp2_with fail
  refine hp.out.mono ?_
  rintro e w8 ⟨p8, c8, rs, rfl, hl8, hR8, b8⟩
  have B8 := Lib.hid (bt B7.out b8)
  have C8 := Lib.hid (C1.out.keep (K7.out.trans (Kept.below b8)))
  have hl8' : rs.map Rw.L = [[⟨97, false⟩], [⟨58, true⟩, ⟨98, false⟩], []] := hl8.trans (by decide)
  obtain ⟨r0, r1, r2, rfl⟩ : ∃ r0 r1 r2, rs = [r0, r1, r2] := by
    have h3 := congrArg List.length hl8'
    rw [List.length_map] at h3
    exact len3 h3
  have hr1 : r1.L = [⟨58, true⟩, ⟨98, false⟩] := by simpa using (List.cons.inj (List.cons.inj hl8').2).1
  obtain ⟨pb, po, rfl, hc1, hC9⟩ := hR8 1 (by simp)
  have hc1 : w8.cell? ⟨pb, po + 1, none⟩ = some (.slice r1.p 2 r1.cap) := by have h9 : w8.cell? ⟨pb, po + 1, none⟩ = some (rwV r1) := hc1; rw [h9]; unfold rwV; rw [hr1]; rfl
  have hC9 : CharsAt w8 r1.p r1.cap [⟨58, true⟩, ⟨98, false⟩] := by have h9 : CharsAt w8 r1.p r1.cap r1.L := hC9; rw [hr1] at h9; exact h9
  have hcb := World.block_lt_of_cell? w8 _ hc1
  have HC := Lib.hid (fun (w9 : World) (k : Kept w8 w9) => (And.intro ((k.cell hcb _).trans hc1) (hC9.keep k) : w9.cell? ⟨pb, po + 1, none⟩ = some (.slice r1.p 2 r1.cap) ∧ CharsAt w9 r1.p r1.cap [⟨58, true⟩, ⟨98, false⟩]))
  have hh := Lib.hid (hard_lit _ 5 p1 c1 w8 true false C8.out rfl (by decide) (by decide) (by decide))
  clear hl8 hl8' hR8 hr1 hC9 hc1 hcb b8 B7 K7 C1 hp
  go_wp2_with fail
  refine hh.out.mono ?_
  rintro e w9 ⟨rfl, b9⟩
  have B9 := Lib.hid (bt B8.out b9)
  have K9 := Lib.hid (Kept.below b9)
  have hpl := Lib.hid (plain_lit _ 5 p1 c1 w9 { data := #[97, 98, 32, 99, 100] } (C8.out.keep K9.out) rfl (by decide) (by decide))
  clear hh b9
  go_wp2_with fail
  refine hpl.out.mono ?_
  rintro e w10 ⟨rfl, b10⟩
  have B10 := Lib.hid (bt B9.out b10)
  obtain ⟨hc1, hC9⟩ := HC.out w10 (K9.out.trans (Kept.below b10))
  have hpl2 := Lib.hid (plain_lit _ 2 r1.p r1.cap w10 { data := #[58, 98] } hC9 rfl (by decide) (by decide))
  clear hpl b10 hC9 HC
  go_wp2_with fail
  refine hpl2.out.mono ?_
  rintro e w11 ⟨rfl, b11⟩
  have B11 := Lib.hid (bt B10.out b11)
  clear hpl2 b11 hc1
  go_wp2_with fail
  refine (of_lit { data := #[42] } true w11 [⟨42, true⟩] 1 (by decide) rfl (by decide)).mono ?_
  rintro e w12 ⟨⟨p12, c12, rfl, hC12⟩, b12⟩
  have B12 := Lib.hid (bt B11.out b12)
  have hes := Lib.hid (escape_lit _ 1 p12 c12 w12 { data := #[92, 42] } hC12 rfl (by decide) (by decide))
  clear b12 hC12
  go_wp2_with fail
  refine hes.out.mono ?_
  rintro e w13 ⟨rfl, b13⟩
  have B13 := Lib.hid (bt B12.out b13)
  clear hes b13
  go_wp2_with fail
  have hch := chomp_calls { data := #[97, 10, 10] } w13 (by decide)
  rw [show (⟨(chompL (bs { data := #[97, 10, 10] })).toArray⟩ : ByteArray) = { data := #[97] } from by decide] at hch
  have hch := Lib.hid hch
  refine hch.out.mono ?_
  rintro e w14 ⟨rfl, rfl⟩
  go_wp2_with fail
  go_ret
  exact ⟨rfl, B13.out⟩
end Go.Proofs.YtlpfcnpdecoblaaDoor.Marks
