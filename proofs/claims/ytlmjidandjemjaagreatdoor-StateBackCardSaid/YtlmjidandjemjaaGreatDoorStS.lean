/- Bytes of a text; of, Name, named walked. -/
import Derived.Test.YtlmjidandjemjaaGreatDoorStLR
import Derived.Lib.Bytealg
import Derived.Laws.Externs
namespace Go.Proofs.YtlmjidandjemjaaGreatDoor.State
open Go.RowKit Go.Proofs.YtlmjidandjemjaaGreatDoor Go.Proofs.YtlmjidandjemjaaGreatDoor.Hp Go.Proofs.YtlmjidandjemjaaGreatDoor.Undo
set_option linter.unusedVariables false
attribute [local go_sem] Oper.semAt_some

abbrev bs (s : ByteArray) : List UInt8 := s.data.toList
def I64 (x : Int) : Prop := -9223372036854775808 ≤ x ∧ x ≤ 9223372036854775807
/-- What was there is as it was. -/
def Kept (W w : World) : Prop := W.heap.size ≤ w.heap.size ∧ ∀ k, k < W.heap.size → w.heap[k]? = W.heap[k]?
theorem Kept.cell {W w : World} (h : Kept W w) {b : Nat} (hb : b < W.heap.size) (j : Nat) : w.cell? ⟨b, j, none⟩ = W.cell? ⟨b, j, none⟩ := World.cell?_of_block (w := W) (h.2 b hb)
theorem Kept.refl (w : World) : Kept w w := ⟨Nat.le_refl _, fun _ _ => rfl⟩
theorem Kept.trans {a b c : World} (h : Kept a b) (k : Kept b c) : Kept a c := ⟨Nat.le_trans h.1 k.1, fun i hi => (k.2 i (Nat.lt_of_lt_of_le hi h.1)).trans (h.2 i hi)⟩
theorem Kept.below {w w' : World} (h : Below w.heap.size w w') : Kept w w' := ⟨h.size, h.block⟩
theorem u8_beq (a b : UInt8) : (((a.toNat : Nat) : Int) == ((b.toNat : Nat) : Int)) = (a == b) := by
  rw [Bool.eq_iff_iff, beq_iff_eq, beq_iff_eq]
  constructor
  · intro h; exact UInt8.toNat_inj.1 (by omega)
  · rintro rfl; rfl
theorem u8_le (a b : UInt8) : decide (((a.toNat : Nat) : Int) ≤ ((b.toNat : Nat) : Int)) = decide (a ≤ b) := by
  rw [decide_eq_decide, UInt8.le_iff_toNat_le]; omega
theorem bs_length (s : ByteArray) : (bs s).length = s.size := Array.length_toList
theorem bs_get (s : ByteArray) (i : Nat) (h : i < s.size) : (bs s)[i]? = some s[i] := by
  rw [List.getElem?_eq_getElem (by rw [bs_length]; exact h)]; rfl
theorem u8_lit (c : UInt8) (k : Nat) (hk : k < 256) : (((c.toNat : Nat) : Int) == (k : Int)) = (c == UInt8.ofNat k) := by
  have := u8_beq c (UInt8.ofNat k)
  rw [show (UInt8.ofNat k).toNat = k by rw [UInt8.toNat_ofNat']; omega] at this
  exact this
theorem kept_alloc (w : World) (o : Obj) : Kept w (w.alloc o) := ⟨by simp, fun k hk => Below.heap_alloc w o k hk⟩
theorem kept_set {W w : World} (h : Kept W w) {b : Nat} (hb : W.heap.size ≤ b) (i : Nat) (v : Value) : Kept W (w.setCell ⟨b, i, none⟩ v) :=
  ⟨by simpa [World.setCell] using h.1, fun k hk => (Below.heap_setCell w ⟨b, i, none⟩ v k (by show k ≠ b; omega)).trans (h.2 k hk)⟩
theorem kept_drew {W w : World} (h : Kept W w) : Kept W w.drew := h
theorem block_new {w : World} {o : Obj} {b : Nat} (h : w.heap.size = b) : (w.alloc o).heap[b]? = some o := by subst h; exact heap_alloc_new w o
theorem own : ownKnob Tryz.prog.godebug = none := by kernel_rfl
theorem laidOut : laidOutB Tryz.prog = true := by kernel_rfl
theorem cellsInt : Tryz.prog.cellsOf 3 = 1 := by kernel_rfl
theorem cellsU8 : Tryz.prog.cellsOf 5 = 1 := by kernel_rfl
theorem cellsBool : Tryz.prog.cellsOf 4 = 1 := by kernel_rfl
theorem i64_of {x : Int} (h : (Lit.int .i64 x).wf = true) : I64 x := by
  simp [Lit.wf, IntKind.min, IntKind.max, IntKind.signed, IntKind.bits] at h
  exact ⟨by omega, by omega⟩
theorem u8_of {x : Int} (h : (Lit.int .u8 x).wf = true) : ∃ c : UInt8, x = (c.toNat : Int) := by
  simp [Lit.wf, IntKind.min, IntKind.max, IntKind.signed, IntKind.bits] at h
  refine ⟨UInt8.ofNat x.toNat, ?_⟩
  rw [UInt8.toNat_ofNat']; omega
def FPost (v : Bool) (w : World) (e : Ending) (w' : World) : Prop := e = .returned (.bool v) ∧ Below w.heap.size w w'
theorem bs_drop (s : ByteArray) (i : Nat) (h : i < s.size) : (bs s).drop i = s[i] :: (bs s).drop (i + 1) := by
  rw [List.drop_eq_getElem_cons (by rw [bs_length]; exact h)]; rfl
theorem bs_mk (l : List UInt8) : bs ⟨l.toArray⟩ = l := rfl
theorem bs_eq {s : ByteArray} {l : List UInt8} (h : bs s = l) : s = ⟨l.toArray⟩ := by
  subst h; cases s; simp [bs]
set_option maxRecDepth 100000 in
theorem slix_calls (s : ByteArray) (c : Int) (w : World) :
    Calls Tryz.prog 136 #[.string s, .int .u8 c] w fun e w' => e = .returned (.int .i64 (Lib.indexByte s.data.toList c.toNat.toUInt8)) ∧ w = w' := by
  go_enter Tryz.func136, Tryz.ntmps136
  go_wp2_with fail
  rw [run_callFunc_extern Tryz.func161 (by kernel_rfl) (by kernel_rfl) (by kernel_rfl) (e := Extern.BytealgIndexByte.indexByte) (by kernel_rfl), Lib.run_indexByteString]
  simp only [Result.andThen]
  rw [Oper.upon_value]
  go_wp2_with fail
  go_ret
  exact ⟨rfl, rfl⟩
theorem six_calls (s : ByteArray) (c : Int) (w : World) :
    Calls Tryz.prog 108 #[.string s, .int .u8 c] w fun e w' => e = .returned (.int .i64 (Lib.indexByte s.data.toList c.toNat.toUInt8)) ∧ w = w' := by
  go_enter Tryz.func108, Tryz.ntmps108
  go_wp2_with fail
  refine (slix_calls s c w).mono ?_
  rintro e w' ⟨rfl, rfl⟩
  go_wp2_with fail
  go_ret
  exact ⟨rfl, rfl⟩
theorem bs_ext {s t : ByteArray} (h : bs s = bs t) : s = t := by rw [bs_eq (s := s) rfl, bs_eq (s := t) rfl, h]
theorem bs_extract (s : ByteArray) (a b : Nat) : bs (s.extract a b) = ((bs s).drop a).take (b - a) := by
  unfold bs
  rw [ByteArray.data_extract, Array.toList_extract, List.extract_eq_take_drop]
theorem ixb_cases (l : List UInt8) (c : UInt8) : (c ∉ l ∧ Lib.indexByte l c = -1) ∨ ∃ a t, l = a ++ c :: t ∧ c ∉ a ∧ Lib.indexByte l c = (a.length : Int) := by
  induction l with
  | nil => exact .inl ⟨by simp, rfl⟩
  | cons x l ih =>
    unfold Lib.indexByte
    by_cases h : x = c
    · subst h
      exact .inr ⟨[], l, rfl, by simp, by simp⟩
    · rcases ih with ⟨h1, h2⟩ | ⟨a, t, h1, h2, h3⟩
      · refine .inl ⟨by simp [h1, Ne.symm h], ?_⟩
        rw [h2]; simp [h]
      · refine .inr ⟨x :: a, t, by rw [h1]; rfl, by simp [h2, Ne.symm h], ?_⟩
        rw [h3]; simp [h]
theorem bs_cons (t : ByteArray) (h : 0 < t.size) : bs t = t[0] :: (bs t).drop 1 := by
  have := bs_drop t 0 h
  rw [List.drop_zero] at this
  exact this
theorem bs_tail (t : ByteArray) (n : Nat) : bs (t.extract n t.size) = (bs t).drop n := by
  rw [bs_extract]
  exact List.take_of_length_le (by rw [List.length_drop, bs_length]; exact Nat.le_refl _)
theorem size_tail (t : ByteArray) (n : Nat) : (t.extract n t.size).size = t.size - n := by
  rw [← bs_length, bs_tail, List.length_drop, bs_length]
/-- Is a byte in a text? -/
def inL (s : ByteArray) (b : UInt8) : Bool := (bs s).any (· == b)
theorem in_ixb (s : ByteArray) (b : UInt8) : decide (0 ≤ Lib.indexByte (bs s) b) = inL s b := by
  unfold inL
  rcases ixb_cases (bs s) b with ⟨h1, h2⟩ | ⟨a, t, h1, h2, h3⟩
  · rw [h2]
    have : (bs s).any (· == b) = false := by
      rw [List.any_eq_false]
      intro x hx e
      exact h1 (by have := eq_of_beq e; rw [← this]; exact hx)
    rw [this]; rfl
  · rw [h3]
    have : (bs s).any (· == b) = true := List.any_eq_true.2 ⟨b, by rw [h1]; simp, by simp⟩
    rw [this]
    exact decide_eq_true (by omega)

theorem or_all : ∀ n : Fin 256, bits BinOp.or IntKind.u8 ((n.val : Nat) : Int) 32 = (((UInt8.ofNat n.val) ||| 32).toNat : Int) := by decide +kernel
theorem or_u8 (b : UInt8) : bits BinOp.or IntKind.u8 ((b.toNat : Nat) : Int) 32 = ((b ||| 32).toNat : Int) := by
  have := or_all ⟨b.toNat, b.toNat_lt⟩
  simpa using this
theorem letter_bits (b : UInt8) : letter b = decide (97 ≤ bits BinOp.or IntKind.u8 ((b.toNat : Nat) : Int) 32 ∧ bits BinOp.or IntKind.u8 ((b.toNat : Nat) : Int) 32 ≤ 122) := by
  rw [or_u8]; unfold letter
  rw [decide_eq_decide]; omega
theorem digit_int (b : UInt8) : digit b = decide (48 ≤ ((b.toNat : Nat) : Int) ∧ ((b.toNat : Nat) : Int) ≤ 57) := by
  unfold digit
  rw [decide_eq_decide]; omega
def okB (more : ByteArray) (b : UInt8) : Bool := letter b || digit b || decide (b ∈ bs more)
theorem ix_neg (more : ByteArray) (b : UInt8) : decide (Lib.indexByte (bs more) b < 0) = !decide (b ∈ bs more) := by
  rcases ixb_cases (bs more) b with ⟨h1, h2⟩ | ⟨a, t, h1, h2, h3⟩
  · rw [h2, decide_eq_false h1]; rfl
  · rw [h3, decide_eq_true (show b ∈ bs more by rw [h1]; simp)]
    exact decide_eq_false (by omega)
theorem ofB_eq (s more : ByteArray) : ofB s more = ((bs s).all (okB more) && !(bs s).isEmpty) := rfl
theorem bs_empty (s : ByteArray) : (bs s).isEmpty = decide (s.size = 0) := by
  rw [← bs_length]
  cases bs s <;> simp
def OfRel (s more : ByteArray) (w : World) (g : Nat) (v5 v6 v9 : Value) (wr : World) : Prop :=
  ∃ i : Nat, v9 = .int .i64 (i : Int) ∧ i + g = s.size ∧ ((bs s).drop i).all (okB more) = (bs s).all (okB more) ∧ w = wr
theorem beq_nil (s : ByteArray) : (s.toList == ([] : List UInt8)) = decide (s.size = 0) := by
  rw [ByteArray.toList_eq, ← bs_length]
  show (bs s == []) = _
  cases bs s <;> simp
theorem toList_empty (s : ByteArray) : s.toList.isEmpty = decide (s.size = 0) := by
  rw [ByteArray.toList_eq]
  exact bs_empty s
set_option maxRecDepth 100000 in
set_option maxHeartbeats 8000000 in
theorem of_calls (s more : ByteArray) (w : World) (hs : (s.size : Int) ≤ 9223372036854775807) :
    Calls Tryz.prog 48 #[.string s, .string more] w fun e w' => e = .returned (.bool (ofB s more)) ∧ w = w' := by
  rw [ofB_eq]
  have hnil := beq_nil s
  have hemp := bs_empty s
  obtain ⟨r, hr⟩ : ∃ r, r = (bs s).all (okB more) := ⟨_, rfl⟩
  rw [← hr]
  have HR := Lib.hid hr
  clear hr
  go_enter Tryz.func48, Tryz.ntmps48
  go_wp2_with fail
  go_loopg [5, 6, 9] (s.size) (OfRel s more w)
  case atStart => exact ⟨0, rfl, by omega, by rw [List.drop_zero], rfl⟩
  case round =>
    obtain ⟨i, rfl, hg, hall, rfl⟩ := hrel
    rw [← HR.out] at hall
    by_cases hlt : i < s.size
    · have hltI : (i : Int) < s.size := by omega
      rw [bs_drop s i hlt, List.all_cons] at hall
      have hL := letter_bits s[i]
      have hD := digit_int s[i]
      have hI := ix_neg more s[i]
      have HX := Lib.hid (fun w => six_calls more ((s[i].toNat : Nat) : Int) w)
      have e8 : ((s[i].toNat : Nat) : Int).toNat.toUInt8 = s[i] := by simp
      rw [e8] at HX
      obtain ⟨ix, hix⟩ : ∃ ix, ix = Lib.indexByte (bs more) s[i] := ⟨_, rfl⟩
      rw [show Lib.indexByte more.data.toList s[i] = ix from hix.symm] at HX
      rw [← hix] at hI
      have hnext : okB more s[i] = true → ((bs s).drop (i + 1)).all (okB more) = (bs s).all (okB more) := fun h => by rw [h, Bool.true_and] at hall; rw [hall, HR.out]
      have hstop : okB more s[i] = false → r = false := fun h => by rw [h, Bool.false_and] at hall; exact hall.symm
      have hok : okB more s[i] = (letter s[i] || digit s[i] || decide (s[i] ∈ bs more)) := rfl
      rw [hL, hD] at hok
      have Hok := Lib.hid hok
      have Hnext := Lib.hid hnext
      have Hstop := Lib.hid hstop
      have HI := Lib.hid hI
      clear hall hL hD hix e8 hok hnext hstop hI hnil hemp
      go_wp2_with fail
      all_goals
        first
          | (have ht := Hnext.out (by
               rw [Hok.out, Bool.or_eq_true, Bool.or_eq_true]
               first
                 | exact .inl (.inl (decide_eq_true (by omega)))
                 | exact .inl (.inr (decide_eq_true (by omega))))
             go_roundg (gk - 1)
             case rel => exact ⟨i + 1, by simp, by omega, ht, rfl⟩
             case measure => omega)
          | (refine (HX.out _).mono ?_
             rintro e w1 ⟨rfl, rfl⟩
             by_cases hx : ix < 0
             · have hf : r = false := Hstop.out (by
                 rw [Hok.out]
                 have h1 := HI.out
                 rw [decide_eq_true hx] at h1
                 have h2 : decide (s[i] ∈ bs more) = false := by simpa using h1.symm
                 rw [h2, Bool.or_false, Bool.or_eq_false_iff]
                 exact ⟨decide_eq_false (by omega), decide_eq_false (by omega)⟩)
               subst hf
               go_wp2_with fail
               all_goals
                 first
                   | (go_ret; exact ⟨rfl, rfl⟩)
                   | (exfalso; rename_i hh; simp only [Bool.not_eq_false', decide_eq_true_eq] at hh; omega)
             · have ht := Hnext.out (by
                 rw [Hok.out]
                 have h1 := HI.out
                 rw [decide_eq_false hx] at h1
                 have h2 : decide (s[i] ∈ bs more) = true := by simpa using h1.symm
                 rw [h2, Bool.or_true])
               have hge : 0 ≤ ix := by omega
               go_wp2_with fail
               go_roundg (gk - 1)
               case rel => exact ⟨i + 1, by simp, by omega, ht, rfl⟩
               case measure => omega)
    · have hge : i = s.size := by omega
      subst hge
      rw [List.drop_of_length_le (by rw [bs_length]; exact Nat.le_refl _)] at hall
      have hr : r = true := hall.symm
      subst hr
      clear hall HR
      have Hnil := Lib.hid hnil
      have Hemp := Lib.hid hemp
      clear hnil hemp
      go_wp2_with fail
      go_ret
      refine ⟨?_, rfl⟩
      show Ending.returned (Value.bool (!s.toList.isEmpty)) = _
      rw [Hemp.out, toList_empty]
      rfl
theorem bs_ne {s : ByteArray} (h : (bs s).isEmpty = false) : ∃ hz : 0 < s.size, bs s = s[0] :: (bs s).drop 1 := by
  have h0 : 0 < s.size := by
    rw [bs_empty] at h
    have := of_decide_eq_false h
    omega
  have := bs_drop s 0 h0
  rw [List.drop_zero] at this
  exact ⟨h0, this⟩
set_option maxRecDepth 100000 in
set_option maxHeartbeats 8000000 in
theorem Name_calls (s : ByteArray) (w : World) (hs : (s.size : Int) ≤ 9223372036854775807) :
    Calls Tryz.prog 15 #[.string s] w fun e w' => e = .returned (.bool (isName s)) ∧ w = w' := by
  have HO := Lib.hid (fun w => of_calls s under w hs)
  unfold isName
  cases hof : ofB s under with
  | false =>
    rw [hof] at HO
    rw [Bool.false_and]
    clear hof
    go_enter Tryz.func15, Tryz.ntmps15
    go_wp2_with fail
    refine (HO.out w).mono ?_
    rintro e w1 ⟨rfl, rfl⟩
    go_wp2_with fail
    go_ret
    exact ⟨rfl, rfl⟩
  | true =>
    rw [hof] at HO
    obtain ⟨hz, hb⟩ := bs_ne (s := s) (by
      rw [ofB_eq] at hof
      rw [Bool.and_eq_true] at hof
      simpa using hof.2)
    have hD := digit_int s[0]
    have hm : firstDigit s.data.toList = digit s[0] := by
      have hb2 : s.data.toList = s[0] :: (bs s).drop 1 := hb
      rw [hb2]; rfl
    rw [hm, Bool.true_and]
    obtain ⟨dg, hdg⟩ : ∃ dg, dg = digit s[0] := ⟨_, rfl⟩
    rw [← hdg] at hD ⊢
    have HD := Lib.hid hD
    have hzI : (0 : Int) < s.size := by omega
    clear hof hb hm hD hdg
    go_enter Tryz.func15, Tryz.ntmps15
    go_wp2_with fail
    refine (HO.out w).mono ?_
    rintro e w1 ⟨rfl, rfl⟩
    go_wp2_with fail
    all_goals
      go_ret
      refine ⟨?_, rfl⟩
      rw [HD.out]
      first
        | (rw [show decide ((48 : Int) ≤ ((s[0].toNat : Nat) : Int) ∧ ((s[0].toNat : Nat) : Int) ≤ 57) = decide (((s[0].toNat : Nat) : Int) ≤ 57) by rw [decide_eq_decide]; omega]; rfl)
        | (rw [show decide ((48 : Int) ≤ ((s[0].toNat : Nat) : Int) ∧ ((s[0].toNat : Nat) : Int) ≤ 57) = false by apply decide_eq_false; omega]; rfl)
end Go.Proofs.YtlmjidandjemjaaGreatDoor.State
