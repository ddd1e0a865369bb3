/- The document's is, Operator, may walked. -/
import Derived.Test.YtlhkochpokhncaaDoorLxL
namespace Go.Proofs.YtlhkochpokhncaaDoor.Lexer
open Go.RowKit Go.Proofs.YtlhkochpokhncaaDoor Go.Proofs.YtlhkochpokhncaaDoor.Hp
set_option linter.unusedVariables false
attribute [local go_sem] Oper.semAt_some

theorem pre_take (p l : Bytes) : p.isPrefixOf l = (decide (p.length ≤ l.length) && (l.take p.length == p)) := by
  rw [Bool.eq_iff_iff, List.isPrefixOf_iff_prefix, Bool.and_eq_true, decide_eq_true_iff, beq_iff_eq]
  constructor
  · intro h; exact ⟨h.length_le, (List.prefix_iff_eq_take.1 h).symm⟩
  · rintro ⟨h1, h2⟩; rw [← h2]; exact List.take_prefix _ _
set_option maxHeartbeats 2000000 in
theorem is_calls (s : ByteArray) (hs : Small s) (i : Nat) (t : ByteArray) (w : World) (hi : i ≤ s.size) (ht : t.size ≤ 1000) :
    Calls Tryd.prog 33 #[.string s, .int .i64 (i : Int), .string t] w (BPost ((bs t).isPrefixOf ((bs s).drop i)) w) := by
  have hsz : (s.size : Int) ≤ 1000000 := hs
  have hi0 : (0 : Int) ≤ i := by omega
  have hiI : (i : Int) ≤ s.size := by omega
  have htI : (t.size : Int) ≤ 1000 := by omega
  have ht0 : (0 : Int) ≤ t.size := by omega
  have hp := pre_take (bs t) ((bs s).drop i)
  rw [List.length_drop, bs_length, bs_length] at hp
  by_cases hl : (i : Int) + t.size ≤ s.size
  · obtain ⟨x, hx⟩ : ∃ x, s.extract i (i + t.size) = x := ⟨_, rfl⟩
    have hxb : bs x = ((bs s).drop i).take t.size := by rw [← hx, bs_extract, show i + t.size - i = t.size by omega]
    rw [decide_eq_true (by omega), Bool.true_and, ← hxb] at hp
    have he : (x.toList == t.toList) = (bs x == bs t) := by rw [ByteArray.toList_eq, ByteArray.toList_eq]
    rw [← he] at hp
    rw [hp]
    clear hp hxb he
    go_enter Tryd.func33, Tryd.ntmps33
    go_wp2_with fail
    go_ret
    exact ⟨rfl, Below.refl _ _⟩
  · rw [decide_eq_false (by omega), Bool.false_and] at hp
    rw [hp]
    clear hp
    go_enter Tryd.func33, Tryd.ntmps33
    go_wp2_with fail
    go_ret
    exact ⟨rfl, Below.refl _ _⟩
theorem rmay_calls (s : ByteArray) (a : Int) (w : World) (h63 : (s.size : Int) ≤ 9223372036854775807) :
    Calls Tryd.prog 28 #[.string s, .int .i64 a] w fun e w' => e = .returned (.int .i64 (mayE s.size a)) ∧ w = w' := by
  unfold mayE
  by_cases h1 : 4096 < (s.size : Int)
  · rw [if_pos h1]
    go_enter Tryd.func28, Tryd.ntmps28
    go_wp2_with fail
    go_ret
    exact ⟨rfl, rfl⟩
  · rw [if_neg h1]
    by_cases h2 : a < 0
    · rw [if_pos (.inl h2)]
      go_enter Tryd.func28, Tryd.ntmps28
      go_wp2_with fail
      go_ret
      exact ⟨rfl, rfl⟩
    · by_cases h3 : (s.size : Int) < a
      · rw [if_pos (.inr h3)]
        go_enter Tryd.func28, Tryd.ntmps28
        go_wp2_with fail
        go_ret
        exact ⟨rfl, rfl⟩
      · rw [if_neg (by omega)]
        go_enter Tryd.func28, Tryd.ntmps28
        go_wp2_with fail
        go_ret
        exact ⟨rfl, rfl⟩
def opsV : Array Value := #[.string ⟨#[60, 60, 45]⟩, .string ⟨#[38, 38]⟩, .string ⟨#[124, 124]⟩, .string ⟨#[59, 59]⟩, .string ⟨#[60, 60]⟩, .string ⟨#[60, 38]⟩, .string ⟨#[60, 62]⟩, .string ⟨#[62, 62]⟩, .string ⟨#[62, 38]⟩, .string ⟨#[62, 124]⟩, .string ⟨#[38]⟩, .string ⟨#[124]⟩, .string ⟨#[59]⟩, .string ⟨#[60]⟩, .string ⟨#[62]⟩, .string ⟨#[40]⟩, .string ⟨#[41]⟩]
theorem ops_len : opsL.length = 17 := rfl
theorem opsV_at (k : Nat) (hk : k < opsL.length) : opsV[k]? = some (.string ⟨opsL[k].toArray⟩) := by
  match k, hk with
  | 0, _ => rfl
  | 1, _ => rfl
  | 2, _ => rfl
  | 3, _ => rfl
  | 4, _ => rfl
  | 5, _ => rfl
  | 6, _ => rfl
  | 7, _ => rfl
  | 8, _ => rfl
  | 9, _ => rfl
  | 10, _ => rfl
  | 11, _ => rfl
  | 12, _ => rfl
  | 13, _ => rfl
  | 14, _ => rfl
  | 15, _ => rfl
  | 16, _ => rfl
  | n + 17, h => exact absurd h (by rw [ops_len]; omega)
def opF (l : Bytes) (k : Nat) : Nat := (((opsL.drop k).find? (fun o => o.isPrefixOf l)).map List.length).getD 0
theorem opF_zero (l : Bytes) : opF l 0 = opN l := rfl
theorem opF_hit (l : Bytes) (k : Nat) (hk : k < opsL.length) (h : opsL[k].isPrefixOf l = true) : opF l k = opsL[k].length := by
  unfold opF
  rw [List.drop_eq_getElem_cons hk, List.find?_cons, h]; rfl
theorem opF_miss (l : Bytes) (k : Nat) (hk : k < opsL.length) (h : opsL[k].isPrefixOf l = false) : opF l k = opF l (k + 1) := by
  unfold opF
  rw [List.drop_eq_getElem_cons hk, List.find?_cons, h]
theorem opF_end (l : Bytes) : opF l 17 = 0 := rfl
theorem ops_small (k : Nat) (hk : k < opsL.length) : opsL[k].length ≤ 3 := by
  have : ∀ o ∈ opsL, o.length ≤ 3 := by decide
  exact this _ (List.getElem_mem hk)
def OprRel (s : ByteArray) (i b : Nat) (w W : World) (g : Nat) (kv : Value) (wr : World) : Prop :=
  ∃ k : Nat, kv = .int .i64 (k : Int) ∧ k + g = 17 ∧ opN ((bs s).drop i) = opF ((bs s).drop i) k ∧ Below w.heap.size w wr ∧ (∀ j, j < 17 → wr.cell? ⟨b, j, none⟩ = opsV[j]?) ∧ b < wr.heap.size
set_option maxRecDepth 100000 in
set_option maxHeartbeats 8000000 in
theorem Operator_calls (s : ByteArray) (hs : Small s) (i : Nat) (w : World) (hi : i ≤ s.size) :
    Calls Tryd.prog 34 #[.string s, .int .i64 (i : Int)] w (NPost (opN ((bs s).drop i) : Int) w) := by
  have Hs := Lib.hid (And.intro hs hi)
  have hsz : (s.size : Int) ≤ 1000000 := hs
  clear hs hi
  go_enter Tryd.func34, Tryd.ntmps34
  go_wp2_with fail
  go_loopg [6] 17 (OprRel s i w.heap.size w w)
  case atStart => exact ⟨0, rfl, rfl, (opF_zero _).symm, Below.alloc (Below.refl _ _) (Nat.le_refl _) _, fun j _ => by rw [cell_at (block_new rfl)]; rfl, by simp⟩
  case round =>
    obtain ⟨k, rfl, hg, hO, hB, hC, hb⟩ := hrel
    have hk0 : (0 : Int) ≤ k := by omega
    by_cases hk : k < opsL.length
    · have hkI : (k : Int) < 17 := by have : k < 17 := hk; omega
      obtain ⟨o, ho⟩ : ∃ o : ByteArray, o = ⟨opsL[k].toArray⟩ := ⟨_, rfl⟩
      have hob : bs o = opsL[k]'hk := by rw [ho]
      have hos : o.size ≤ 1000 := by rw [← bs_length, hob]; have := ops_small k hk; omega
      have hc : wr.cell? ⟨w.heap.size, k, none⟩ = some (.string o) := (hC k hk).trans ((opsV_at k hk).trans (by rw [ho]))
      have HI := fun w => is_calls s Hs.out.1 i o w Hs.out.2 hos
      have HC := Lib.hid (And.intro hC hb)
      cases hp : opsL[k].isPrefixOf ((bs s).drop i) with
      | true =>
        rw [hob, hp] at HI
        have HI := Lib.hid HI
        have hfin : (opN ((bs s).drop i) : Int) = (o.size : Int) := by rw [hO, opF_hit _ k hk hp, ← bs_length o, hob]
        have HF := Lib.hid hfin
        clear hp hO ho hob hC hfin hg hk
        go_wp2_with fail
        refine (HI.out _).mono ?_
        rintro e w1 ⟨rfl, hB1⟩
        have hB2 := hB.trans (Below.mono (h := hB1) hB.size)
        have c1 : w1.cell? ⟨w.heap.size, k, none⟩ = some (.string o) := (World.cell?_of_block (w := wr) (hB1.block _ HC.out.2)).trans hc
        clear hB hB1 hc
        go_wp2_with fail
        go_ret
        exact ⟨by rw [HF.out]; rfl, hB2⟩
      | false =>
        rw [hob, hp] at HI
        have HI := Lib.hid HI
        have hnx := Lib.hid (hO.trans (opF_miss _ k hk hp))
        have Hg := Lib.hid hg
        clear hp hO ho hob hC hg hk
        go_wp2_with fail
        refine (HI.out _).mono ?_
        rintro e w1 ⟨rfl, hB1⟩
        have hB2 := Lib.hid (hB.trans (Below.mono (h := hB1) hB.size))
        have HC2 := Lib.hid (show (∀ j, j < 17 → w1.cell? ⟨w.heap.size, j, none⟩ = opsV[j]?) ∧ w.heap.size < w1.heap.size from ⟨fun j hj => (World.cell?_of_block (w := wr) (hB1.block _ HC.out.2)).trans (HC.out.1 j hj), Nat.lt_of_lt_of_le HC.out.2 hB1.size⟩)
        clear hB hB1 hc
        go_wp2_with fail
        go_roundg (gk - 1)
        case measure => have := Hg.out; omega
        case rel => exact ⟨k + 1, by go_num, by have := Hg.out; omega, hnx.out, hB2.out, HC2.out.1, HC2.out.2⟩
    · have hk17 : k = 17 := by rw [ops_len] at hk; omega
      subst hk17
      have hv : (opN ((bs s).drop i) : Int) = 0 := by rw [hO, opF_end]; rfl
      have HV := Lib.hid hv
      clear hO hg hC hv hk
      go_wp2_with fail
      go_ret
      exact ⟨by rw [HV.out]; rfl, hB⟩
end Go.Proofs.YtlhkochpokhncaaDoor.Lexer
