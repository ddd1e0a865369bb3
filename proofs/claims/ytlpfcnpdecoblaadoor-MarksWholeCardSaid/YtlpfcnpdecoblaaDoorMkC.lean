/- strings.IndexByte, Chomp, equality of marked bytes, Find, Hard walked. -/
import Derived.Test.YtlpfcnpdecoblaaDoorMkB
import Derived.Lib.Bytealg
import Derived.Laws.Externs
import Derived.Laws.StructEq
namespace Go.Proofs.YtlpfcnpdecoblaaDoor.Marks
open Go.RowKit Go.Proofs.YtlpfcnpdecoblaaDoor Go.Proofs.YtlpfcnpdecoblaaDoor.Hp
set_option linter.unusedVariables false

set_option maxRecDepth 100000 in
theorem slix_calls (s : ByteArray) (c : Int) (w : World) :
    Calls Tryd.prog 49 #[.string s, .int .u8 c] w fun e w' => e = .returned (.int .i64 (Lib.indexByte s.data.toList c.toNat.toUInt8)) ∧ w = w' := by
  go_enter Tryd.func49, Tryd.ntmps49
  go_wp2_with fail
  rw [run_callFunc_extern Tryd.func57 (by kernel_rfl) (by kernel_rfl) (by kernel_rfl) (e := Extern.BytealgIndexByte.indexByte) (by kernel_rfl), Lib.run_indexByteString]
  simp only [Result.andThen]
  rw [Oper.upon_value]
  go_wp2_with fail
  go_ret
  exact ⟨rfl, rfl⟩
theorem six_calls (s : ByteArray) (c : Int) (w : World) :
    Calls Tryd.prog 35 #[.string s, .int .u8 c] w fun e w' => e = .returned (.int .i64 (Lib.indexByte s.data.toList c.toNat.toUInt8)) ∧ w = w' := by
  go_enter Tryd.func35, Tryd.ntmps35
  go_wp2_with fail
  refine (slix_calls s c w).mono ?_
  rintro e w' ⟨rfl, rfl⟩
  go_wp2_with fail
  go_ret
  exact ⟨rfl, rfl⟩
/-- Two marked bytes, compared. -/
abbrev chV (c : Ch) : Value := .agg #[.int .u8 c.b.toNat, .bool c.q]
theorem ch_beq (a b : Ch) : (((a.b.toNat : Int) == (b.b.toNat : Int)) && (a.q == b.q)) = (a == b) := by
  rw [u8_beq, Bool.eq_iff_iff]
  cases a; cases b
  simp
theorem bs_ext {s t : ByteArray} (h : bs s = bs t) : s = t := by rw [bs_eq (s := s) rfl, bs_eq (s := t) rfl, h]
theorem bs_extract (s : ByteArray) (a b : Nat) : bs (s.extract a b) = ((bs s).drop a).take (b - a) := by
  unfold bs
  rw [ByteArray.data_extract, Array.toList_extract, List.extract_eq_take_drop]
/-- Without line feeds at its end. -/
def chompL (l : List UInt8) : List UInt8 := (l.reverse.dropWhile (· == 10)).reverse
theorem chomp_snoc (l : List UInt8) (c : UInt8) : chompL (l ++ [c]) = if (c == 10) = true then chompL l else l ++ [c] := by
  unfold chompL
  rw [List.reverse_append]
  show ((c :: l.reverse).dropWhile _).reverse = _
  rw [List.dropWhile_cons]
  split
  · rfl
  · simp
def ChRel (s : ByteArray) (w : World) (g : Nat) (sv : Value) (wr : World) : Prop := ∃ t : ByteArray, sv = .string t ∧ t.size = g ∧ chompL (bs t) = chompL (bs s) ∧ t.size ≤ s.size ∧ wr = w
set_option maxHeartbeats 1000000 in
theorem trim_calls (s : ByteArray) (w : World) (hm : (s.size : Int) ≤ 9223372036854775807) :
    Calls Tryd.prog 51 #[.string s, .int .u8 10] w fun e w' => e = .returned (.string ⟨(chompL (bs s)).toArray⟩) ∧ w = w' := by
  have Hm := Lib.hid hm
  clear hm
  go_enter Tryd.func51, Tryd.ntmps51
  go_wp2_with fail
  go_loopg [0] (s.size) (ChRel s w)
  case atStart => exact ⟨s, rfl, rfl, rfl, Nat.le_refl _, rfl⟩
  case round =>
    obtain ⟨t, rfl, hg, hc, hts, rfl⟩ := hrel
    have hm := Hm.out
    by_cases h0 : t.size = 0
    · have hz : ¬ ((0 : Int) < (t.size : Int)) := by omega
      have ht : bs t = [] := List.eq_nil_of_length_eq_zero (by rw [bs_length]; exact h0)
      have hfin : t = ⟨(chompL (bs s)).toArray⟩ := by rw [← hc, ht]; exact bs_eq ht
      have Hfin := Lib.hid hfin
      clear hc ht hfin
      go_wp2_with fail
      go_ret
      exact ⟨congrArg (fun x => Ending.returned (.string x)) Hfin.out, rfl⟩
    · have hp : (0 : Int) < (t.size : Int) := by omega
      have hp1 : (0 : Int) ≤ (t.size : Int) - 1 := by omega
      have hp2 : (t.size : Int) - 1 < (t.size : Int) := by omega
      have hp3 : ((t.size : Int) - 1).toNat = t.size - 1 := by omega
      have hp4 : t.size - 1 < t.size := by omega
      have hp5 : (t.size : Int) - 1 ≤ (t.size : Int) := by omega
      have hts2 : (t.size : Int) ≤ 9223372036854775807 := by omega
      have hsp : bs t = (bs t).take (t.size - 1) ++ [t[t.size - 1]] := by
        have hl := bs_length t
        conv => lhs; rw [← List.take_append_drop (t.size - 1) (bs t), List.drop_eq_getElem_cons (by omega)]
        rw [show t.size - 1 + 1 = (bs t).length by omega, List.drop_length]; rfl
      have hcs := chomp_snoc ((bs t).take (t.size - 1)) t[t.size - 1]
      rw [← hsp] at hcs
      have hlit := u8_lit t[t.size - 1] 10 (by omega)
      rw [show ((10 : Nat) : Int) = 10 from rfl, show UInt8.ofNat 10 = 10 from rfl] at hlit
      have Hg := Lib.hid hg
      by_cases hl : (t[t.size - 1] == (10 : UInt8)) = true
      · rw [if_pos hl] at hcs
        rw [hl] at hlit
        have hnew : ChRel s wr (gk - 1) (.string (t.extract 0 (t.size - 1))) wr := by
          have e1 := bs_extract t 0 (t.size - 1)
          rw [List.drop_zero, Nat.sub_zero] at e1
          refine ⟨_, rfl, ?_, by rw [e1, ← hcs]; exact hc, ?_, rfl⟩
          · rw [← bs_length, e1, List.length_take, bs_length]; omega
          · rw [← bs_length, e1, List.length_take, bs_length]; omega
        have Hnew := Lib.hid hnew
        clear hnew hcs hsp hl hc hg hts
        go_wp2_with fail
        go_roundg (gk - 1)
        case measure => have := Hg.out; omega
        case rel => exact Hnew.out
      · have hl2 : (t[t.size - 1] == (10 : UInt8)) = false := by simpa using hl
        rw [if_neg hl, hc] at hcs
        rw [hl2] at hlit
        have hfin : t = ⟨(chompL (bs s)).toArray⟩ := bs_eq hcs.symm
        have Hfin := Lib.hid hfin
        clear hcs hsp hl hl2 hc hg hts hfin
        go_wp2_with fail
        go_ret
        exact ⟨congrArg (fun x => Ending.returned (.string x)) Hfin.out, rfl⟩
set_option maxRecDepth 100000 in
set_option maxHeartbeats 1000000 in
theorem chomp_calls (s : ByteArray) (w : World) (hm : (s.size : Int) ≤ 9223372036854775807) :
    Calls Tryd.prog 16 #[.string s] w fun e w' => e = .returned (.string ⟨(chompL (bs s)).toArray⟩) ∧ w = w' := by
  have ht := Lib.hid (trim_calls s w hm)
  have htr : Calls Tryd.prog 39 #[.string s, .string { data := #[10] }] w fun e w' => e = .returned (.string ⟨(chompL (bs s)).toArray⟩) ∧ w = w' := by
    by_cases h0 : s = { data := #[] }
    · subst h0
      go_enter Tryd.func39, Tryd.ntmps39
      go_wp2_with fail
      go_ret
      exact ⟨rfl, rfl⟩
    · have hne : (s.toList == ByteArray.toList { data := #[] }) = false := by
        rw [beq_eq_false_iff_ne]
        intro e
        rw [ByteArray.toList_eq, ByteArray.toList_eq] at e
        exact h0 (bs_ext e)
      have hne2 : (s.toList == []) = false := by simpa using hne
      have hne3 : s.toList ≠ [] := by simpa using hne2
      clear h0
      go_enter Tryd.func39, Tryd.ntmps39
      go_wp2_with fail
      refine ht.out.mono ?_
      rintro e w' ⟨rfl, rfl⟩
      go_wp2_with fail
      go_ret
      exact ⟨rfl, rfl⟩
  have htr := Lib.hid htr
  go_enter Tryd.func16, Tryd.ntmps16
  go_wp2_with fail
  refine htr.out.mono ?_
  rintro e w' ⟨rfl, rfl⟩
  go_wp2_with fail
  go_ret
  exact ⟨rfl, rfl⟩
/-- The place of the first that fits. -/
def idxI (p : Ch → Bool) (t : List Ch) : Int := match t.findIdx? p with
  | none => -1
  | some i => (i : Int)
theorem idx_none {p : Ch → Bool} {t : List Ch} (h : ∀ x ∈ t, p x = false) : idxI p t = -1 := by
  unfold idxI
  rw [List.findIdx?_eq_none_iff.2 h]
theorem idx_some {p : Ch → Bool} {t : List Ch} {j : Nat} (hj : j < t.length) (h1 : p t[j] = true) (h2 : ∀ i (hi : i < t.length), i < j → p t[i] = false) : idxI p t = (j : Int) := by
  unfold idxI
  rw [List.findIdx?_eq_some_iff_getElem.2 ⟨hj, h1, fun i hi => by simpa using h2 i (by omega) hi⟩]
theorem idx_cases (p : Ch → Bool) (t : List Ch) : (∀ x ∈ t, p x = false) ∨ ∃ j, ∃ hj : j < t.length, p t[j] = true ∧ ∀ i (hi : i < t.length), i < j → p t[i] = false := by
  cases h : t.findIdx? p with
  | none => exact .inl (List.findIdx?_eq_none_iff.1 h)
  | some j =>
    obtain ⟨hj, h1, h2⟩ := List.findIdx?_eq_some_iff_getElem.1 h
    exact .inr ⟨j, hj, h1, fun i hi hij => by simpa using h2 i hij⟩
def IdxPost (r : Int) (w : World) (e : Ending) (w' : World) : Prop := e = .returned (.int .i64 r) ∧ Below w.heap.size w w'
def IxRel (n : Nat) (w : World) (g : Nat) (iv : Value) (wr : World) : Prop := ∃ i : Nat, i + g = n ∧ 0 < g ∧ iv = .int .i64 (i : Int) ∧ Below w.heap.size w wr
theorem ch_facts {x : Ch} {b : UInt8} (h : (⟨b, false⟩ == x) = false) : ((b.toNat : Int) == (x.b.toNat : Int)) = false ∨ (((b.toNat : Int) == (x.b.toNat : Int)) = true ∧ x.q = true) := by
  rw [← ch_beq] at h
  cases h1 : ((b.toNat : Int) == (x.b.toNat : Int)) with
  | false => exact .inl rfl
  | true =>
    refine .inr ⟨rfl, ?_⟩
    simp only [h1, Bool.true_and] at h
    cases hq : x.q with
    | true => rfl
    | false => rw [hq] at h; cases h
set_option maxRecDepth 100000 in
set_option maxHeartbeats 2000000 in
theorem index_calls (t : List Ch) (ao : Option Addr) (cap : Nat) (b : UInt8) (w : World) (h : CharsAt w ao cap t) (hm : t.length ≤ 100000) :
    Calls Tryd.prog 45 #[.slice ao t.length cap, chV ⟨b, false⟩] w (IdxPost (idxI (⟨b, false⟩ == ·) t) w) := by
  have hmm : (t.length : Int) ≤ 100000 := by omega
  have H := Lib.hid h
  have hB : Below w.heap.size w (w.alloc (.cells #[.int .u8 b.toNat, .bool false] 37 (0, 0))) := (Below.refl _ _).alloc (Nat.le_refl _) _
  obtain ⟨vb, hvb⟩ : ∃ vb, vb = w.heap.size := ⟨_, rfl⟩
  have hv0 : (w.alloc (.cells #[.int .u8 b.toNat, .bool false] 37 (0, 0))).cell? ⟨vb, 0, none⟩ = some (.int .u8 b.toNat) := by rw [cell_at (block_new hvb.symm)]; rfl
  have hv1 : (w.alloc (.cells #[.int .u8 b.toNat, .bool false] 37 (0, 0))).cell? ⟨vb, 1, none⟩ = some (.bool false) := by rw [cell_at (block_new hvb.symm)]; rfl
  have hlt : vb < (w.alloc (.cells #[.int .u8 b.toNat, .bool false] 37 (0, 0))).heap.size := by rw [World.size_alloc, hvb]; exact Nat.lt_succ_self _
  obtain ⟨w1, hw1⟩ : ∃ w1, w1 = w.alloc (.cells #[.int .u8 b.toNat, .bool false] 37 (0, 0)) := ⟨_, rfl⟩
  rw [← hw1] at hB hv0 hv1 hlt
  have H1 := Lib.hid (h.keep (Kept.below hB))
  clear h H
  have key : ∀ (n : Nat) (r : Int), n ≤ t.length → (∀ i (hi : i < t.length), i < n → (⟨b, false⟩ == t[i]) = false) → ((n = t.length ∧ r = -1) ∨ ∃ hn : n < t.length, (⟨b, false⟩ == t[n]) = true ∧ r = (n : Int)) → Calls Tryd.prog 45 #[.slice ao t.length cap, chV ⟨b, false⟩] w (IdxPost r w) := by
    intro n r hn hno hend
    have Hno := Lib.hid hno
    have Hend := Lib.hid hend
    clear hno hend
    go_enter Tryd.func45, Tryd.ntmps45
    go_upto_region 1 with fail
    rw [← hw1, ← hvb]
    clear hw1 hvb
    go_wp2_with fail
    go_loopg [5, 8] (n + 1) (fun (g : Nat) (_ : Value) (iv : Value) (wr : World) => IxRel (n + 1) w g iv wr ∧ Below w1.heap.size w1 wr)
    case atStart => exact ⟨⟨0, by omega, by omega, rfl, hB⟩, Below.refl _ _⟩
    case round =>
      obtain ⟨⟨i, hig, hg0, rfl, hbel⟩, hb1⟩ := hrel
      have hi0 : (0 : Int) ≤ i := by omega
      have K1 := Kept.below hb1
      have c0 := (K1.cell hlt 0).trans hv0
      have c1 := (K1.cell hlt 1).trans hv1
      have Hig := Lib.hid hig
      by_cases hin : i < n
      · have hi : i < t.length := by omega
        have hil : (i : Int) < (t.length : Int) := by omega
        obtain ⟨tb, o, rfl, htb, x0, x1⟩ := (H1.out.keep K1).2.2 i hi
        have hne := Hno.out i hi hin
        obtain ⟨x, hx⟩ : ∃ x, x = t[i] := ⟨_, rfl⟩
        rw [← hx] at x0 x1 hne
        rcases ch_facts hne with e1 | ⟨e1, e2⟩
        · clear hne hx hig
          go_wp2_with fail
          refine Go.Proofs.YtlpfcnpdecoblaaDoor.region_plan (S := (fun w' => (w'.cell? ⟨vb, 0, none⟩ = some (.int .u8 b.toNat) ∧ w'.cell? ⟨vb, 1, none⟩ = some (.bool false)) ∧ w'.cell? ⟨tb, o + i * 2, none⟩ = some (.int .u8 x.b.toNat) ∧ w'.cell? ⟨tb, o + i * 2 + 1, none⟩ = some (.bool x.q))) [(0, true), (1, true), (2, true), (3, true), (4, true), (5, true)] (by kernel_rfl) (by kernel_rfl) (by kernel_rfl) ?_ ?_
          · ((try dsimp only); (first | done | (exact ⟨⟨c0, c1⟩, x0, x1⟩)))
          simp only [Go.Proofs.YtlpfcnpdecoblaaDoor.planOps, List.map_cons, List.map_nil, List.getElem?_toArray, List.getElem?_cons_zero, List.getElem?_cons_succ]
          repeat (first
            | ((refine Go.Proofs.YtlpfcnpdecoblaaDoor.plan_yes (v := ?_) (by rfl) ?_ ?_); rotate_left; (focus (intro w hSw; (try dsimp only at hSw); go_simp; try (with_reducible rfl))); (try simp only [Act.put, List.setIfInBounds_toArray, List.set_cons_zero, List.set_cons_succ]))
            | ((refine Go.Proofs.YtlpfcnpdecoblaaDoor.plan_no (by rfl) ?_); (try simp only [Act.put, List.setIfInBounds_toArray, List.set_cons_zero, List.set_cons_succ]))
            | ((refine Go.Proofs.YtlpfcnpdecoblaaDoor.plan_step (fun K hK => ?_)); (first | (fail) | (go_simp; (fail); (try go_wp2_with fail)) | go_simp); (refine hK.out _ _ ?_ (fun hHeld => ?_)); (focus ((try dsimp only); (first | done | (exact ⟨⟨c0, c1⟩, x0, x1⟩)))); clear hK K; (try simp only [Act.put, List.setIfInBounds_toArray, List.set_cons_zero, List.set_cons_succ])))
          refine Go.Proofs.YtlpfcnpdecoblaaDoor.plan_done ?_
          go_wp2_with fail
          go_roundg (gk - 1)
          case measure => omega
          case rel => exact ⟨⟨i + 1, by have := Hig.out; omega, by have := Hig.out; omega, rfl, hbel.drew⟩, hb1.drew⟩
        · rw [e2] at x1
          clear hne hx hig e2
          go_wp2_with fail
          refine Go.Proofs.YtlpfcnpdecoblaaDoor.region_plan (S := (fun w' => (w'.cell? ⟨vb, 0, none⟩ = some (.int .u8 b.toNat) ∧ w'.cell? ⟨vb, 1, none⟩ = some (.bool false)) ∧ w'.cell? ⟨tb, o + i * 2, none⟩ = some (.int .u8 x.b.toNat) ∧ w'.cell? ⟨tb, o + i * 2 + 1, none⟩ = some (.bool true))) [(0, true), (1, true), (2, true), (3, true), (4, true), (5, true)] (by kernel_rfl) (by kernel_rfl) (by kernel_rfl) ?_ ?_
          · ((try dsimp only); (first | done | (exact ⟨⟨c0, c1⟩, x0, x1⟩)))
          simp only [Go.Proofs.YtlpfcnpdecoblaaDoor.planOps, List.map_cons, List.map_nil, List.getElem?_toArray, List.getElem?_cons_zero, List.getElem?_cons_succ]
          repeat (first
            | ((refine Go.Proofs.YtlpfcnpdecoblaaDoor.plan_yes (v := ?_) (by rfl) ?_ ?_); rotate_left; (focus (intro w hSw; (try dsimp only at hSw); go_simp; try (with_reducible rfl))); (try simp only [Act.put, List.setIfInBounds_toArray, List.set_cons_zero, List.set_cons_succ]))
            | ((refine Go.Proofs.YtlpfcnpdecoblaaDoor.plan_no (by rfl) ?_); (try simp only [Act.put, List.setIfInBounds_toArray, List.set_cons_zero, List.set_cons_succ]))
            | ((refine Go.Proofs.YtlpfcnpdecoblaaDoor.plan_step (fun K hK => ?_)); (first | (fail) | (go_simp; (fail); (try go_wp2_with fail)) | go_simp); (refine hK.out _ _ ?_ (fun hHeld => ?_)); (focus ((try dsimp only); (first | done | (exact ⟨⟨c0, c1⟩, x0, x1⟩)))); clear hK K; (try simp only [Act.put, List.setIfInBounds_toArray, List.set_cons_zero, List.set_cons_succ])))
          refine Go.Proofs.YtlpfcnpdecoblaaDoor.plan_done ?_
          go_wp2_with fail
          go_roundg (gk - 1)
          case measure => omega
          case rel => exact ⟨⟨i + 1, by have := Hig.out; omega, by have := Hig.out; omega, rfl, hbel.drew⟩, hb1.drew⟩
      · have hin2 : i = n := by omega
        subst hin2
        rcases Hend.out with ⟨h1, h2⟩ | ⟨hi, h1, h2⟩
        · have hge : ¬ ((i : Int) < (t.length : Int)) := by omega
          rw [h2]
          clear hig Hend
          go_wp2_with fail
          go_ret
          exact ⟨rfl, hbel⟩
        · have hil : (i : Int) < (t.length : Int) := by omega
          obtain ⟨tb, o, rfl, htb, x0, x1⟩ := (H1.out.keep K1).2.2 i hi
          rw [← eq_of_beq h1] at x0 x1
          rw [h2]
          clear hig Hend h1 h2
          go_wp2_with fail
          refine Go.Proofs.YtlpfcnpdecoblaaDoor.region_plan (S := (fun w' => (w'.cell? ⟨vb, 0, none⟩ = some (.int .u8 b.toNat) ∧ w'.cell? ⟨vb, 1, none⟩ = some (.bool false)) ∧ w'.cell? ⟨tb, o + i * 2, none⟩ = some (.int .u8 b.toNat) ∧ w'.cell? ⟨tb, o + i * 2 + 1, none⟩ = some (.bool false))) [(0, true), (1, true), (2, true), (3, true), (4, true), (5, true)] (by kernel_rfl) (by kernel_rfl) (by kernel_rfl) ?_ ?_
          · ((try dsimp only); (first | done | (exact ⟨⟨c0, c1⟩, x0, x1⟩)))
          simp only [Go.Proofs.YtlpfcnpdecoblaaDoor.planOps, List.map_cons, List.map_nil, List.getElem?_toArray, List.getElem?_cons_zero, List.getElem?_cons_succ]
          repeat (first
            | ((refine Go.Proofs.YtlpfcnpdecoblaaDoor.plan_yes (v := ?_) (by rfl) ?_ ?_); rotate_left; (focus (intro w hSw; (try dsimp only at hSw); go_simp; try (with_reducible rfl))); (try simp only [Act.put, List.setIfInBounds_toArray, List.set_cons_zero, List.set_cons_succ]))
            | ((refine Go.Proofs.YtlpfcnpdecoblaaDoor.plan_no (by rfl) ?_); (try simp only [Act.put, List.setIfInBounds_toArray, List.set_cons_zero, List.set_cons_succ]))
            | ((refine Go.Proofs.YtlpfcnpdecoblaaDoor.plan_step (fun K hK => ?_)); (first | (fail) | (go_simp; (fail); (try go_wp2_with fail)) | go_simp); (refine hK.out _ _ ?_ (fun hHeld => ?_)); (focus ((try dsimp only); (first | done | (exact ⟨⟨c0, c1⟩, x0, x1⟩)))); clear hK K; (try simp only [Act.put, List.setIfInBounds_toArray, List.set_cons_zero, List.set_cons_succ])))
          refine Go.Proofs.YtlpfcnpdecoblaaDoor.plan_done ?_
          go_wp2_with fail
          go_ret
          exact ⟨rfl, hbel.drew⟩
  rcases idx_cases (⟨b, false⟩ == ·) t with h | ⟨j, hj, h1, h2⟩
  · rw [idx_none h]
    exact key t.length (-1) (Nat.le_refl _) (fun i hi _ => h _ (List.getElem_mem hi)) (.inl ⟨rfl, rfl⟩)
  · rw [idx_some hj h1 h2]
    exact key j j (Nat.le_of_lt hj) h2 (.inr ⟨hj, h1, rfl⟩)
theorem find_calls (t : List Ch) (ao : Option Addr) (cap : Nat) (b : UInt8) (w : World) (h : CharsAt w ao cap t) (hm : t.length ≤ 100000) :
    Calls Tryd.prog 25 #[.slice ao t.length cap, .int .u8 b.toNat] w (IdxPost (idxI (⟨b, false⟩ == ·) t) w) := by
  have hc := Lib.hid (index_calls t ao cap b w h hm)
  clear h
  go_enter Tryd.func25, Tryd.ntmps25
  go_wp2_with fail
  refine hc.out.mono ?_
  rintro e w' ⟨rfl, hb⟩
  go_wp2_with fail
  go_ret
  exact ⟨rfl, hb⟩
end Go.Proofs.YtlpfcnpdecoblaaDoor.Marks
