/- HandlesPlays, part 10 of 29: the texts StS StTa StTb StTd, joined by a program. -/
import Derived.Test.YtlmjidandjemjaaGreatDoorSp8
import Derived.Lib.Bytealg
import Derived.Laws.Externs
import Derived.Test.YtlmjidandjemjaaGreatDoorSp1
import Derived.Test.YtlmjidandjemjaaGreatDoorSp5
namespace Go.Proofs.YtlmjidandjemjaaGreatDoor.State
open Go.RowKit Go.Proofs.YtlmjidandjemjaaGreatDoor Go.Proofs.YtlmjidandjemjaaGreatDoor.Hp Go.Proofs.YtlmjidandjemjaaGreatDoor.Undo
set_option linter.unusedVariables false
attribute [local go_sem] Oper.semAt_some

abbrev bs (s : ByteArray) : List UInt8 := s.data.toList
def I64 (x : Int) : Prop := -9223372036854775808 ≤ x ∧ x ≤ 9223372036854775807
/-- What was there is as it was. -/
def Kept (W w : World) : Prop := W.heap.size ≤ w.heap.size ∧ ∀ k, k < W.heap.size → w.heap[k]? = W.heap[k]?
theorem Kept.refl (w : World) : Kept w w := ⟨Nat.le_refl _, fun _ _ => rfl⟩
theorem Kept.trans {a b c : World} (h : Kept a b) (k : Kept b c) : Kept a c := ⟨Nat.le_trans h.1 k.1, fun i hi => (k.2 i (Nat.lt_of_lt_of_le hi h.1)).trans (h.2 i hi)⟩
theorem Kept.below {w w' : World} (h : Below w.heap.size w w') : Kept w w' := ⟨h.size, h.block⟩
theorem u8_beq (a b : UInt8) : (((a.toNat : Nat) : Int) == ((b.toNat : Nat) : Int)) = (a == b) := by
  rw [Bool.eq_iff_iff, beq_iff_eq, beq_iff_eq]
  constructor
  · intro h; exact UInt8.toNat_inj.1 (by omega)
  · rintro rfl; rfl
theorem bs_length (s : ByteArray) : (bs s).length = s.size := Array.length_toList
theorem bs_get (s : ByteArray) (i : Nat) (h : i < s.size) : (bs s)[i]? = some s[i] := by
  rw [List.getElem?_eq_getElem (by rw [bs_length]; exact h)]; rfl
theorem u8_lit (c : UInt8) (k : Nat) (hk : k < 256) : (((c.toNat : Nat) : Int) == (k : Int)) = (c == UInt8.ofNat k) := by
  have := u8_beq c (UInt8.ofNat k)
  rw [show (UInt8.ofNat k).toNat = k by rw [UInt8.toNat_ofNat']; omega] at this
  exact this
theorem own : ownKnob Tryz.prog.godebug = none := by kernel_rfl
theorem laidOut : laidOutB Tryz.prog = true := by kernel_rfl
theorem i64_of {x : Int} (h : (Lit.int .i64 x).wf = true) : I64 x := by
  simp [Lit.wf, IntKind.min, IntKind.max, IntKind.signed, IntKind.bits] at h
  exact ⟨by omega, by omega⟩
theorem bs_drop (s : ByteArray) (i : Nat) (h : i < s.size) : (bs s).drop i = s[i] :: (bs s).drop (i + 1) := by
  rw [List.drop_eq_getElem_cons (by rw [bs_length]; exact h)]; rfl
theorem bs_mk (l : List UInt8) : bs ⟨l.toArray⟩ = l := rfl
theorem bs_eq {s : ByteArray} {l : List UInt8} (h : bs s = l) : s = ⟨l.toArray⟩ := by
  subst h; cases s; simp [bs]
set_option maxRecDepth 100000 in
theorem slix_calls (s : ByteArray) (c : Int) (w : World) :
    Calls Tryz.prog 136 #[.string s, .int .u8 c] w fun e w' => e = .returned (.int .i64 (Lib.indexByte s.data.toList c.toNat.toUInt8)) ∧ w = w' := by
  go_enter Tryz.func136, Tryz.ntmps136
  go_wp2_with fail
  rw [run_callFunc_extern Tryz.func161 (by kernel_rfl) (by kernel_rfl) (by kernel_rfl) (e := Extern.BytealgIndexByte.indexByte) (by kernel_rfl), Lib.run_indexByteString]
  simp only [Result.andThen]
  rw [Oper.upon_value]
  go_wp2_with fail
  go_ret
  exact ⟨rfl, rfl⟩
theorem six_calls (s : ByteArray) (c : Int) (w : World) :
    Calls Tryz.prog 108 #[.string s, .int .u8 c] w fun e w' => e = .returned (.int .i64 (Lib.indexByte s.data.toList c.toNat.toUInt8)) ∧ w = w' := by
  go_enter Tryz.func108, Tryz.ntmps108
  go_wp2_with fail
  refine (slix_calls s c w).mono ?_
  rintro e w' ⟨rfl, rfl⟩
  go_wp2_with fail
  go_ret
  exact ⟨rfl, rfl⟩
theorem ixb_cases (l : List UInt8) (c : UInt8) : (c ∉ l ∧ Lib.indexByte l c = -1) ∨ ∃ a t, l = a ++ c :: t ∧ c ∉ a ∧ Lib.indexByte l c = (a.length : Int) := by
  induction l with
  | nil => exact .inl ⟨by simp, rfl⟩
  | cons x l ih =>
    unfold Lib.indexByte
    by_cases h : x = c
    · subst h
      exact .inr ⟨[], l, rfl, by simp, by simp⟩
    · rcases ih with ⟨h1, h2⟩ | ⟨a, t, h1, h2, h3⟩
      · refine .inl ⟨by simp [h1, Ne.symm h], ?_⟩
        rw [h2]; simp [h]
      · refine .inr ⟨x :: a, t, by rw [h1]; rfl, by simp [h2, Ne.symm h], ?_⟩
        rw [h3]; simp [h]
theorem or_all : ∀ n : Fin 256, bits BinOp.or IntKind.u8 ((n.val : Nat) : Int) 32 = (((UInt8.ofNat n.val) ||| 32).toNat : Int) := by decide +kernel
theorem or_u8 (b : UInt8) : bits BinOp.or IntKind.u8 ((b.toNat : Nat) : Int) 32 = ((b ||| 32).toNat : Int) := by
  have := or_all ⟨b.toNat, b.toNat_lt⟩
  simpa using this
theorem letter_bits (b : UInt8) : letter b = decide (97 ≤ bits BinOp.or IntKind.u8 ((b.toNat : Nat) : Int) 32 ∧ bits BinOp.or IntKind.u8 ((b.toNat : Nat) : Int) 32 ≤ 122) := by
  rw [or_u8]; unfold letter
  rw [decide_eq_decide]; omega
theorem digit_int (b : UInt8) : digit b = decide (48 ≤ ((b.toNat : Nat) : Int) ∧ ((b.toNat : Nat) : Int) ≤ 57) := by
  unfold digit
  rw [decide_eq_decide]; omega
def okB (more : ByteArray) (b : UInt8) : Bool := letter b || digit b || decide (b ∈ bs more)
theorem ix_neg (more : ByteArray) (b : UInt8) : decide (Lib.indexByte (bs more) b < 0) = !decide (b ∈ bs more) := by
  rcases ixb_cases (bs more) b with ⟨h1, h2⟩ | ⟨a, t, h1, h2, h3⟩
  · rw [h2, decide_eq_false h1]; rfl
  · rw [h3, decide_eq_true (show b ∈ bs more by rw [h1]; simp)]
    exact decide_eq_false (by omega)
theorem ofB_eq (s more : ByteArray) : ofB s more = ((bs s).all (okB more) && !(bs s).isEmpty) := rfl
theorem bs_empty (s : ByteArray) : (bs s).isEmpty = decide (s.size = 0) := by
  rw [← bs_length]
  cases bs s <;> simp
def OfRel (s more : ByteArray) (w : World) (g : Nat) (v5 v6 v9 : Value) (wr : World) : Prop :=
  ∃ i : Nat, v9 = .int .i64 (i : Int) ∧ i + g = s.size ∧ ((bs s).drop i).all (okB more) = (bs s).all (okB more) ∧ w = wr
theorem beq_nil (s : ByteArray) : (s.toList == ([] : List UInt8)) = decide (s.size = 0) := by
  rw [ByteArray.toList_eq, ← bs_length]
  show (bs s == []) = _
  cases bs s <;> simp
theorem toList_empty (s : ByteArray) : s.toList.isEmpty = decide (s.size = 0) := by
  rw [ByteArray.toList_eq]
  exact bs_empty s
set_option maxRecDepth 100000 in
set_option maxHeartbeats 8000000 in
theorem of_calls (s more : ByteArray) (w : World) (hs : (s.size : Int) ≤ 9223372036854775807) :
    Calls Tryz.prog 48 #[.string s, .string more] w fun e w' => e = .returned (.bool (ofB s more)) ∧ w = w' := by
  rw [ofB_eq]
  have hnil := beq_nil s
  have hemp := bs_empty s
  obtain ⟨r, hr⟩ : ∃ r, r = (bs s).all (okB more) := ⟨_, rfl⟩
  rw [← hr]
  have HR := Lib.hid hr
  clear hr
  go_enter Tryz.func48, Tryz.ntmps48
  go_wp2_with fail
  go_loopg [5, 6, 9] (s.size) (OfRel s more w)
  case atStart => exact ⟨0, rfl, by omega, by rw [List.drop_zero], rfl⟩
  case round =>
    obtain ⟨i, rfl, hg, hall, rfl⟩ := hrel
    rw [← HR.out] at hall
    by_cases hlt : i < s.size
    · have hltI : (i : Int) < s.size := by omega
      rw [bs_drop s i hlt, List.all_cons] at hall
      have hL := letter_bits s[i]
      have hD := digit_int s[i]
      have hI := ix_neg more s[i]
      have HX := Lib.hid (fun w => six_calls more ((s[i].toNat : Nat) : Int) w)
      have e8 : ((s[i].toNat : Nat) : Int).toNat.toUInt8 = s[i] := by simp
      rw [e8] at HX
      obtain ⟨ix, hix⟩ : ∃ ix, ix = Lib.indexByte (bs more) s[i] := ⟨_, rfl⟩
      rw [show Lib.indexByte more.data.toList s[i] = ix from hix.symm] at HX
      rw [← hix] at hI
      have hnext : okB more s[i] = true → ((bs s).drop (i + 1)).all (okB more) = (bs s).all (okB more) := fun h => by rw [h, Bool.true_and] at hall; rw [hall, HR.out]
      have hstop : okB more s[i] = false → r = false := fun h => by rw [h, Bool.false_and] at hall; exact hall.symm
      have hok : okB more s[i] = (letter s[i] || digit s[i] || decide (s[i] ∈ bs more)) := rfl
      rw [hL, hD] at hok
      have Hok := Lib.hid hok
      have Hnext := Lib.hid hnext
      have Hstop := Lib.hid hstop
      have HI := Lib.hid hI
      clear hall hL hD hix e8 hok hnext hstop hI hnil hemp
      go_wp2_with fail
      all_goals
        first
          | (have ht := Hnext.out (by
               rw [Hok.out, Bool.or_eq_true, Bool.or_eq_true]
               first
                 | exact .inl (.inl (decide_eq_true (by omega)))
                 | exact .inl (.inr (decide_eq_true (by omega))))
             go_roundg (gk - 1)
             case rel => exact ⟨i + 1, by simp, by omega, ht, rfl⟩
             case measure => omega)
          | (refine (HX.out _).mono ?_
             rintro e w1 ⟨rfl, rfl⟩
             by_cases hx : ix < 0
             · have hf : r = false := Hstop.out (by
                 rw [Hok.out]
                 have h1 := HI.out
                 rw [decide_eq_true hx] at h1
                 have h2 : decide (s[i] ∈ bs more) = false := by simpa using h1.symm
                 rw [h2, Bool.or_false, Bool.or_eq_false_iff]
                 exact ⟨decide_eq_false (by omega), decide_eq_false (by omega)⟩)
               subst hf
               go_wp2_with fail
               all_goals
                 first
                   | (go_ret; exact ⟨rfl, rfl⟩)
                   | (exfalso; rename_i hh; simp only [Bool.not_eq_false', decide_eq_true_eq] at hh; omega)
             · have ht := Hnext.out (by
                 rw [Hok.out]
                 have h1 := HI.out
                 rw [decide_eq_false hx] at h1
                 have h2 : decide (s[i] ∈ bs more) = true := by simpa using h1.symm
                 rw [h2, Bool.or_true])
               have hge : 0 ≤ ix := by omega
               go_wp2_with fail
               go_roundg (gk - 1)
               case rel => exact ⟨i + 1, by simp, by omega, ht, rfl⟩
               case measure => omega)
    · have hge : i = s.size := by omega
      subst hge
      rw [List.drop_of_length_le (by rw [bs_length]; exact Nat.le_refl _)] at hall
      have hr : r = true := hall.symm
      subst hr
      clear hall HR
      have Hnil := Lib.hid hnil
      have Hemp := Lib.hid hemp
      clear hnil hemp
      go_wp2_with fail
      go_ret
      refine ⟨?_, rfl⟩
      show Ending.returned (Value.bool (!s.toList.isEmpty)) = _
      rw [Hemp.out, toList_empty]
      rfl
theorem bs_ne {s : ByteArray} (h : (bs s).isEmpty = false) : ∃ hz : 0 < s.size, bs s = s[0] :: (bs s).drop 1 := by
  have h0 : 0 < s.size := by
    rw [bs_empty] at h
    have := of_decide_eq_false h
    omega
  have := bs_drop s 0 h0
  rw [List.drop_zero] at this
  exact ⟨h0, this⟩
set_option maxRecDepth 100000 in
set_option maxHeartbeats 8000000 in
theorem Name_calls (s : ByteArray) (w : World) (hs : (s.size : Int) ≤ 9223372036854775807) :
    Calls Tryz.prog 15 #[.string s] w fun e w' => e = .returned (.bool (isName s)) ∧ w = w' := by
  have HO := Lib.hid (fun w => of_calls s under w hs)
  unfold isName
  cases hof : ofB s under with
  | false =>
    rw [hof] at HO
    rw [Bool.false_and]
    clear hof
    go_enter Tryz.func15, Tryz.ntmps15
    go_wp2_with fail
    refine (HO.out w).mono ?_
    rintro e w1 ⟨rfl, rfl⟩
    go_wp2_with fail
    go_ret
    exact ⟨rfl, rfl⟩
  | true =>
    rw [hof] at HO
    obtain ⟨hz, hb⟩ := bs_ne (s := s) (by
      rw [ofB_eq] at hof
      rw [Bool.and_eq_true] at hof
      simpa using hof.2)
    have hD := digit_int s[0]
    have hm : firstDigit s.data.toList = digit s[0] := by
      have hb2 : s.data.toList = s[0] :: (bs s).drop 1 := hb
      rw [hb2]; rfl
    rw [hm, Bool.true_and]
    obtain ⟨dg, hdg⟩ : ∃ dg, dg = digit s[0] := ⟨_, rfl⟩
    rw [← hdg] at hD ⊢
    have HD := Lib.hid hD
    have hzI : (0 : Int) < s.size := by omega
    clear hof hb hm hD hdg
    go_enter Tryz.func15, Tryz.ntmps15
    go_wp2_with fail
    refine (HO.out w).mono ?_
    rintro e w1 ⟨rfl, rfl⟩
    go_wp2_with fail
    all_goals
      go_ret
      refine ⟨?_, rfl⟩
      rw [HD.out]
      first
        | (rw [show decide ((48 : Int) ≤ ((s[0].toNat : Nat) : Int) ∧ ((s[0].toNat : Nat) : Int) ≤ 57) = decide (((s[0].toNat : Nat) : Int) ≤ 57) by rw [decide_eq_decide]; omega]; rfl)
        | (rw [show decide ((48 : Int) ≤ ((s[0].toNat : Nat) : Int) ∧ ((s[0].toNat : Nat) : Int) ≤ 57) = false by apply decide_eq_false; omega]; rfl)
end Go.Proofs.YtlmjidandjemjaaGreatDoor.State

namespace Go.Proofs.YtlmjidandjemjaaGreatDoor.State
open Go.RowKit Go.Proofs.YtlmjidandjemjaaGreatDoor Go.Proofs.YtlmjidandjemjaaGreatDoor.Hp Go.Proofs.YtlmjidandjemjaaGreatDoor.Undo
set_option linter.unusedVariables false
attribute [local go_sem] Oper.semAt_some

def errName (k : ByteArray) : Int := if isName k = false then 16 else 0
set_option maxRecDepth 100000 in
set_option maxHeartbeats 8000000 in
theorem named_calls (sb : Nat) (k : ByteArray) (w : World) (hk : k.size ≤ maxLen) :
    Calls Tryz.prog 45 #[pp sb, .string k] w fun e w' => e = .returned (.int .i64 (errName k)) ∧ w = w' := by
  have HN := Lib.hid (fun w => Name_calls k w (by unfold maxLen at hk; omega))
  unfold errName
  cases hn : isName k with
  | true =>
    rw [hn] at HN
    go_enter Tryz.func45, Tryz.ntmps45
    go_wp2_with fail
    refine (HN.out w).mono ?_
    rintro e w1 ⟨rfl, rfl⟩
    go_wp2_with fail
    go_ret
    exact ⟨rfl, rfl⟩
  | false =>
    rw [hn] at HN
    go_enter Tryz.func45, Tryz.ntmps45
    go_wp2_with fail
    refine (HN.out w).mono ?_
    rintro e w1 ⟨rfl, rfl⟩
    go_wp2_with fail
    go_ret
    exact ⟨rfl, rfl⟩
theorem var_val (n : Now) (k : ByteArray) : (n.s.V k).getD VM.zt = n.s.var k := rfl
theorem below_new {w w1 : World} {o : Obj} (h : Below (w.alloc o).heap.size (w.alloc o) w1) : Below w.heap.size w w1 :=
  ((Below.refl _ w).alloc (Nat.le_refl _) o).trans (h.mono (by rw [World.size_alloc]; exact Nat.le_succ _))
set_option maxRecDepth 100000 in
set_option maxHeartbeats 8000000 in
theorem Var_calls (K : Ctx) (n : Now) (k : ByteArray) (w : World) (R : Hp) (hk : k.size ≤ maxLen) (h : SAt K w n R) :
    Calls Tryz.prog 20 #[pp K.sb, .string k] w fun e w' => e = .returned (.agg #[.string (n.s.var k).val, .bool (n.s.var k).set, .bool (n.s.var k).exp, .bool (n.s.var k).fix]) ∧ Below w.heap.size w w' := by
  obtain ⟨x, hx⟩ : ∃ x, x = n.s.var k := ⟨_, rfl⟩
  rw [← hx]
  have H1 := h.alloc VM.zO
  obtain ⟨c0, c1, c2, c3, c4, c5, c6, cz⟩ := H1.cells
  have HG := getV K _ n _ k hk H1
  rw [var_val, ← hx] at HG
  obtain ⟨is, his⟩ : ∃ b, b = (n.s.V k).isSome := ⟨_, rfl⟩
  rw [← his] at HG
  have HG := Lib.hid HG
  have H1 := Lib.hid H1
  clear h hx his
  go_enter Tryz.func20, Tryz.ntmps20
  go_wp2_with fail
  refine HG.out.mono ?_
  rintro e w1 ⟨rfl, hB⟩
  have HZ := (((H1.out.below hB).alloc (VM.boxO x)).rest)
  have hB2 := below_new hB
  obtain ⟨e0, e1, e2, e3⟩ := VM.box_cells HZ
  have hg := (pull1 HZ).get
  have f0 : ∀ i, (w1.alloc (VM.boxO x)).frozen? ⟨w.heap.size, i, none⟩ = false := fun i => free_at hg i
  obtain ⟨z0, z1, z2, z3⟩ := VM.box_cells (x := VM.zt) (pull1 HZ)
  have HZ2 := ((((pull1 HZ).set (i := 0) (.string x.val)).set (i := 1) (.bool x.set)).set (i := 2) (.bool x.exp)).set (i := 3) (.bool x.fix)
  have hB3 := ((((hB2.alloc hB2.size (VM.boxO x)).setCell (Nat.le_refl _) (p := ⟨w.heap.size, 0, none⟩) (.string x.val)).setCell (Nat.le_refl _) (p := ⟨w.heap.size, 1, none⟩) (.bool x.set)).setCell (Nat.le_refl _) (p := ⟨w.heap.size, 2, none⟩) (.bool x.exp)).setCell (Nat.le_refl _) (p := ⟨w.heap.size, 3, none⟩) (.bool x.fix)
  obtain ⟨r0, r1, r2, r3⟩ := VM.box_cells (x := x) HZ2
  have HB3 := Lib.hid hB3
  clear hg HZ HG H1 HZ2 hB hB2 hB3 c0 c1 c2 c3 c4 c5 c6 cz
  go_wp2_with fail
  refine bodyPost_ret (v := VM.enc x) (by simp [results, Tryz.results20, go_sem, r0, r1, r2, r3]) rfl ⟨rfl, HB3.out⟩
theorem Options_calls (K : Ctx) (n : Now) (w : World) (R : Hp) (h : SAt K w n R) :
    Calls Tryz.prog 65 #[pp K.sb] w fun e w' => e = .returned (.string n.s.o) ∧ w = w' := by
  obtain ⟨c0, c1, c2, c3, c4, c5, c6, cz⟩ := h.cells
  have HG := Lib.hid (geto K w n R h)
  clear h
  go_enter Tryz.func65, Tryz.ntmps65
  go_wp2_with fail
  refine HG.out.mono ?_
  rintro e w1 ⟨rfl, rfl⟩
  go_wp2_with fail
  go_ret
  exact ⟨rfl, rfl⟩
theorem ix_pos (o : ByteArray) (b : UInt8) : decide (0 ≤ Lib.indexByte (bs o) b) = decide (b ∈ bs o) := by
  have := ix_neg o b
  by_cases c : Lib.indexByte (bs o) b < 0
  · rw [decide_eq_true c] at this
    have h2 : decide (b ∈ bs o) = false := by simpa using this.symm
    rw [h2, decide_eq_false (by omega)]
  · rw [decide_eq_false c] at this
    have h2 : decide (b ∈ bs o) = true := by simpa using this.symm
    rw [h2, decide_eq_true (by omega)]
set_option maxRecDepth 100000 in
theorem Option_calls (K : Ctx) (n : Now) (b : UInt8) (w : World) (R : Hp) (h : SAt K w n R) :
    Calls Tryz.prog 47 #[pp K.sb, .int .u8 ((b.toNat : Nat) : Int)] w fun e w' => e = .returned (.bool (n.s.option b)) ∧ w = w' := by
  have HG := Lib.hid (Options_calls K n w R h)
  have HX := Lib.hid (fun w => six_calls n.s.o ((b.toNat : Nat) : Int) w)
  have e8 : ((b.toNat : Nat) : Int).toNat.toUInt8 = b := by simp
  rw [e8] at HX
  have hp := ix_pos n.s.o b
  obtain ⟨ix, hix⟩ : ∃ ix, ix = Lib.indexByte (bs n.s.o) b := ⟨_, rfl⟩
  rw [show Lib.indexByte n.s.o.data.toList b = ix from hix.symm] at HX
  rw [← hix] at hp
  obtain ⟨r, hr⟩ : ∃ r, r = n.s.option b := ⟨_, rfl⟩
  rw [← hr]
  have hr2 : r = decide (0 ≤ ix) := by rw [hr, hp]; rfl
  subst hr2
  clear h hr hp hix e8
  go_enter Tryz.func47, Tryz.ntmps47
  go_wp2_with fail
  refine HG.out.mono ?_
  rintro e w1 ⟨rfl, rfl⟩
  go_wp2_with fail
  refine (HX.out w).mono ?_
  rintro e w1 ⟨rfl, rfl⟩
  go_wp2_with fail
  go_ret
  exact ⟨rfl, rfl⟩
end Go.Proofs.YtlmjidandjemjaaGreatDoor.State

namespace Go.Proofs.YtlmjidandjemjaaGreatDoor.State
open Go.RowKit Go.Proofs.YtlmjidandjemjaaGreatDoor Go.Proofs.YtlmjidandjemjaaGreatDoor.Hp Go.Proofs.YtlmjidandjemjaaGreatDoor.Undo
set_option linter.unusedVariables false
attribute [local go_sem] Oper.semAt_some

/-- What a call that lays something leaves. -/
def Lays (K : Ctx) (w : World) (R : Hp) (r : Int × Now) (e : Ending) (w' : World) : Prop := (e = .returned (.int .i64 r.1) ∧ SAt K w' r.2 R) ∧ Ran w w'
theorem Lays.same {K : Ctx} {w w' : World} {n : Now} {R : Hp} {i : Int} (h : SAt K w' n R) (hr : Ran w w') : Lays K w R (i, n) (.returned (.int .i64 i)) w' := ⟨⟨rfl, h⟩, hr⟩
set_option maxRecDepth 100000 in
set_option maxHeartbeats 8000000 in
theorem Set_calls (K : Ctx) (n : Now) (k v : ByteArray) (w : World) (R : Hp) (hk : k.size ≤ maxLen) (hv : v.size ≤ maxLen) (hN : n.N ≤ 1000000) (hms : n.ms.length ≤ 1000000) (h : SAt K w n R) :
    Calls Tryz.prog 14 #[pp K.sb, .string k, .string v] w (Lays K w R (n.setP K.most k v)) := by
  obtain ⟨x, hx⟩ : ∃ x, x = n.s.var k := ⟨_, rfl⟩
  have HV := Lib.hid (Var_calls K n k w R hk h)
  have HNm := Lib.hid (fun w => named_calls K.sb k w hk)
  have H0 := Lib.hid h
  obtain ⟨r, hr⟩ : ∃ r, r = n.setP K.most k v := ⟨_, rfl⟩
  rw [← hr]
  unfold Now.setP at hr
  rw [← hx] at HV hr
  obtain ⟨en, hen⟩ : ∃ en, en = errName k := ⟨_, rfl⟩
  rw [← hen] at HNm
  unfold errName at hen
  have Hr := Lib.hid hr
  have Hen := Lib.hid hen
  have HK := Lib.hid (And.intro hk (And.intro hN hms))
  clear h hx hk hN hms hr hen
  go_enter Tryz.func14, Tryz.ntmps14
  go_wp2_with fail
  refine HV.out.mono ?_
  rintro e w1 ⟨rfl, hB⟩
  have S1 := (H0.out.below hB).alloc (VM.boxO x)
  have R1 : Ran w (w1.alloc (VM.boxO x)) := Ran.new (hB.mono (Nat.zero_le _)) _
  obtain ⟨w2, hw2⟩ : ∃ w2, w2 = w1.alloc (VM.boxO x) := ⟨_, rfl⟩
  obtain ⟨xb, hxb⟩ : ∃ b, b = w1.heap.size := ⟨_, rfl⟩
  rw [← hw2, ← hxb] at S1
  rw [← hw2] at R1
  obtain ⟨e0, e1, e2, e3⟩ := VM.box_cells S1.rest
  obtain ⟨c0, c1, c2, c3, c4, c5, c6, cz⟩ := S1.cells
  have S1 := Lib.hid S1
  have R1 := Lib.hid R1
  clear H0 HV hB
  go_upto_region 2 with fail
  rw [← hw2, ← hxb]
  clear hw2 hxb
  go_wp2_with fail
  refine (HNm.out w2).mono ?_
  rintro e w3 ⟨rfl, rfl⟩
  cases hn : isName k with
  | false =>
    have hr := Hr.out
    have hen := Hen.out
    rw [if_pos hn] at hr hen
    subst hr hen
    clear HNm hn
    go_wp2_with fail
    go_ret
    exact Lays.same S1.out.right R1.out
  | true =>
    have hr := Hr.out
    have hen := Hen.out
    rw [if_neg (by rw [hn]; decide)] at hr hen
    subst hen
    clear HNm hn Hr Hen
    by_cases hv2 : 4096 < v.size
    · rw [if_pos hv2] at hr
      subst hr
      have hvI : (4096 : Int) < v.size := by omega
      clear hv2
      go_wp2_with fail
      go_ret
      exact Lays.same S1.out.right R1.out
    · rw [if_neg hv2] at hr
      have hvI : (v.size : Int) ≤ 4096 := by omega
      have HVS := Lib.hid hvI
      clear hv2
      cases hf : x.fix with
      | true =>
        rw [hf] at e3
        rw [if_pos hf] at hr
        subst hr
        clear hf
        go_wp2_with fail
        go_ret
        exact Lays.same S1.out.right R1.out
      | false =>
        rw [hf] at e3
        rw [if_neg (by rw [hf]; decide)] at hr
        clear hf
        have HOp := Lib.hid (Option_calls K n 97 w2.drew _ S1.out.drew)
        have HSt := Lib.hid (fun y : VM.T => nsetV K w2.drew n _ k y HK.out.1 HK.out.2.1 HK.out.2.2 S1.out.drew)
        cases hxe : x.exp with
        | true =>
          rw [hxe] at e2
          rw [hxe, Bool.true_or] at hr
          subst hr
          clear HOp
          go_wp2_with fail
          refine region_plan (S := (fun w' => w'.cell? ⟨K.sb, 0, none⟩ = some (pp K.P.vb) ∧ w'.cell? ⟨xb, 2, none⟩ = some (.bool true))) [(0, true), (1, true), (2, true), (3, true), (4, true), (5, true), (6, true), (7, true), (8, true), (9, true), (10, true), (11, true), (12, true), (13, false), (14, true)] (by kernel_rfl) (by kernel_rfl) (by kernel_rfl) ?_ ?_
          · ((try dsimp only); (first | done | (first | exact ⟨c0, e2⟩ | exact ⟨hz0, hz2⟩)))
          simp only [planOps, List.map_cons, List.map_nil, List.getElem?_toArray, List.getElem?_cons_zero, List.getElem?_cons_succ]
          repeat (first
            | ((refine plan_yes (v := ?_) (by rfl) ?_ ?_); rotate_left; (focus (intro w hSw; (try dsimp only at hSw); go_simp; try (with_reducible rfl))); (try simp only [Act.put, List.setIfInBounds_toArray, List.set_cons_zero, List.set_cons_succ]))
            | ((refine plan_no (by rfl) ?_); (try simp only [Act.put, List.setIfInBounds_toArray, List.set_cons_zero, List.set_cons_succ]))
            | ((refine plan_step (fun K hK => ?_)); (first | (go_simp; (go_at_call 46; refine (HSt.out ⟨v, true, true, false⟩).mono ?_; rintro e w4 ⟨⟨rfl, hS⟩, hR⟩; obtain ⟨hz0, -⟩ := hS.cells; have hz2 := (VM.box_cells hS.rest).2.2.1; rw [hxe] at hz2; have HS := Lib.hid hS; have HRn := Lib.hid hR; clear hS hR); (try go_wp2_with fail)) | go_simp); (refine hK.out _ _ ?_ (fun hHeld => ?_)); (focus ((try dsimp only); (first | done | (first | exact ⟨c0, e2⟩ | exact ⟨hz0, hz2⟩)))); clear hK K; (try simp only [Act.put, List.setIfInBounds_toArray, List.set_cons_zero, List.set_cons_succ])))
          refine plan_done ?_
          go_wp2_with fail
          go_ret
          exact ⟨⟨rfl, HS.out.right⟩, Below.trans (Below.drew R1.out) HRn.out⟩
        | false =>
          rw [hxe] at e2
          rw [hxe, Bool.false_or] at hr
          obtain ⟨ob, hob⟩ : ∃ ob, ob = n.s.option 97 := ⟨_, rfl⟩
          rw [← hob] at HOp hr
          subst hr
          clear hob
          go_wp2_with fail
          refine region_plan (S := (fun w' => w'.cell? ⟨K.sb, 0, none⟩ = some (pp K.P.vb) ∧ w'.cell? ⟨xb, 2, none⟩ = some (.bool false))) [(0, true), (1, true), (2, true), (3, true), (4, true), (5, true), (6, true), (7, true), (8, true), (9, true), (10, false), (11, true), (12, true), (13, false), (14, true)] (by kernel_rfl) (by kernel_rfl) (by kernel_rfl) ?_ ?_
          · ((try dsimp only); (first | done | (first | exact ⟨c0, e2⟩ | exact ⟨hz0, hz2⟩)))
          simp only [planOps, List.map_cons, List.map_nil, List.getElem?_toArray, List.getElem?_cons_zero, List.getElem?_cons_succ]
          repeat (first
            | ((refine plan_yes (v := ?_) (by rfl) ?_ ?_); rotate_left; (focus (intro w hSw; (try dsimp only at hSw); go_simp; try (with_reducible rfl))); (try simp only [Act.put, List.setIfInBounds_toArray, List.set_cons_zero, List.set_cons_succ]))
            | ((refine plan_no (by rfl) ?_); (try simp only [Act.put, List.setIfInBounds_toArray, List.set_cons_zero, List.set_cons_succ]))
            | ((refine plan_step (fun K hK => ?_)); (first | (go_simp; (first | (go_at_call 47; refine HOp.out.mono ?_; rintro e w4 ⟨rfl, rfl⟩) | (go_at_call 46; refine (HSt.out ⟨v, true, ob, false⟩).mono ?_; rintro e w4 ⟨⟨rfl, hS⟩, hR⟩; obtain ⟨hz0, -⟩ := hS.cells; have hz2 := (VM.box_cells hS.rest).2.2.1; rw [hxe] at hz2; have HS := Lib.hid hS; have HRn := Lib.hid hR; clear hS hR)); (try go_wp2_with fail)) | go_simp); (refine hK.out _ _ ?_ (fun hHeld => ?_)); (focus ((try dsimp only); (first | done | (first | exact ⟨c0, e2⟩ | exact ⟨hz0, hz2⟩)))); clear hK K; (try simp only [Act.put, List.setIfInBounds_toArray, List.set_cons_zero, List.set_cons_succ])))
          refine plan_done ?_
          go_wp2_with fail
          go_ret
          exact ⟨⟨rfl, HS.out.right⟩, Below.trans (Below.drew R1.out) HRn.out⟩
end Go.Proofs.YtlmjidandjemjaaGreatDoor.State

namespace Go.Proofs.YtlmjidandjemjaaGreatDoor.State
open Go.RowKit Go.Proofs.YtlmjidandjemjaaGreatDoor Go.Proofs.YtlmjidandjemjaaGreatDoor.Hp Go.Proofs.YtlmjidandjemjaaGreatDoor.Undo
set_option linter.unusedVariables false
attribute [local go_sem] Oper.semAt_some

theorem tol (k : ByteArray) (l : List UInt8) : (k.toList == l) = decide (k = ⟨l.toArray⟩) := by
  rw [ByteArray.toList_eq]
  by_cases h : k = ⟨l.toArray⟩
  · subst h; simp
  · rw [decide_eq_false h]
    exact beq_eq_false_iff_ne.2 fun e => h (bs_eq e)
set_option maxRecDepth 100000 in
set_option maxHeartbeats 8000000 in
theorem signal_calls (k : ByteArray) (w : World) :
    Calls Tryz.prog 98 #[.string k] w fun e w' => e = .returned (.bool (isSignal k)) ∧ w = w' := by
  have h1 := tol k [69, 88, 73, 84]
  have h2 := tol k [72, 85, 80]
  have h3 := tol k [73, 78, 84]
  have h4 := tol k [84, 69, 82, 77]
  have h5 := tol k [85, 83, 82, 49]
  have hs : isSignal k = (decide (k = ⟨#[69, 88, 73, 84]⟩) || decide (k = ⟨#[72, 85, 80]⟩) || decide (k = ⟨#[73, 78, 84]⟩) || decide (k = ⟨#[84, 69, 82, 77]⟩) || decide (k = ⟨#[85, 83, 82, 49]⟩)) := rfl
  rw [hs]
  clear hs
  rw [show ([69, 88, 73, 84] : List UInt8).toArray = #[69, 88, 73, 84] from rfl] at h1
  rw [show ([72, 85, 80] : List UInt8).toArray = #[72, 85, 80] from rfl] at h2
  rw [show ([73, 78, 84] : List UInt8).toArray = #[73, 78, 84] from rfl] at h3
  rw [show ([84, 69, 82, 77] : List UInt8).toArray = #[84, 69, 82, 77] from rfl] at h4
  rw [show ([85, 83, 82, 49] : List UInt8).toArray = #[85, 83, 82, 49] from rfl] at h5
  generalize decide (k = ⟨#[69, 88, 73, 84]⟩) = b1 at *
  generalize decide (k = ⟨#[72, 85, 80]⟩) = b2 at *
  generalize decide (k = ⟨#[73, 78, 84]⟩) = b3 at *
  generalize decide (k = ⟨#[84, 69, 82, 77]⟩) = b4 at *
  generalize decide (k = ⟨#[85, 83, 82, 49]⟩) = b5 at *
  cases b1
  · cases b2
    · cases b3
      · cases b4
        · cases b5
          all_goals
            go_enter Tryz.func98, Tryz.ntmps98
            go_wp2_with fail
            go_ret
            exact ⟨rfl, rfl⟩
        · go_enter Tryz.func98, Tryz.ntmps98
          go_wp2_with fail
          go_ret
          exact ⟨rfl, rfl⟩
      · go_enter Tryz.func98, Tryz.ntmps98
        go_wp2_with fail
        go_ret
        exact ⟨rfl, rfl⟩
    · go_enter Tryz.func98, Tryz.ntmps98
      go_wp2_with fail
      go_ret
      exact ⟨rfl, rfl⟩
  · go_enter Tryz.func98, Tryz.ntmps98
    go_wp2_with fail
    go_ret
    exact ⟨rfl, rfl⟩
theorem Alias_calls (K : Ctx) (n : Now) (k : ByteArray) (w : World) (R : Hp) (hk : k.size ≤ maxLen) (h : SAt K w n R) :
    Calls Tryz.prog 68 #[pp K.sb, .string k] w fun e w' => e = .returned (.tuple #[.string ((n.s.A k).getD ⟨#[]⟩), .bool (n.s.A k).isSome]) ∧ Below w.heap.size w w' := by
  obtain ⟨c0, c1, c2, c3, c4, c5, c6, cz⟩ := h.cells
  have HG := getA K w n R k hk h
  rw [show (n.s.A k).getD SM.zt = (n.s.A k).getD ⟨#[]⟩ from rfl] at HG
  obtain ⟨x, hx⟩ : ∃ x, x = (n.s.A k).getD ⟨#[]⟩ := ⟨_, rfl⟩
  obtain ⟨b, hb⟩ : ∃ b, b = (n.s.A k).isSome := ⟨_, rfl⟩
  rw [← hx, ← hb] at HG ⊢
  have HG := Lib.hid HG
  clear h hx hb
  go_enter Tryz.func68, Tryz.ntmps68
  go_wp2_with fail
  refine HG.out.mono ?_
  rintro e w1 ⟨rfl, hB⟩
  go_wp2_with fail
  go_ret2
  exact ⟨rfl, hB⟩
theorem Trap_calls (K : Ctx) (n : Now) (k : ByteArray) (w : World) (R : Hp) (hk : k.size ≤ maxLen) (h : SAt K w n R) :
    Calls Tryz.prog 39 #[pp K.sb, .string k] w fun e w' => e = .returned (.tuple #[.string ((n.s.T k).getD ⟨#[]⟩), .bool (n.s.T k).isSome]) ∧ Below w.heap.size w w' := by
  obtain ⟨c0, c1, c2, c3, c4, c5, c6, cz⟩ := h.cells
  have HG := getT K w n R k hk h
  rw [show (n.s.T k).getD SM.zt = (n.s.T k).getD ⟨#[]⟩ from rfl] at HG
  obtain ⟨x, hx⟩ : ∃ x, x = (n.s.T k).getD ⟨#[]⟩ := ⟨_, rfl⟩
  obtain ⟨b, hb⟩ : ∃ b, b = (n.s.T k).isSome := ⟨_, rfl⟩
  rw [← hx, ← hb] at HG ⊢
  have HG := Lib.hid HG
  clear h hx hb
  go_enter Tryz.func39, Tryz.ntmps39
  go_wp2_with fail
  refine HG.out.mono ?_
  rintro e w1 ⟨rfl, hB⟩
  go_wp2_with fail
  go_ret2
  exact ⟨rfl, hB⟩
set_option maxRecDepth 100000 in
set_option maxHeartbeats 8000000 in
theorem SetAlias_calls (K : Ctx) (n : Now) (k : ByteArray) (v : ByteArray) (hv : v.size ≤ maxLen) (w : World) (R : Hp) (hk : k.size ≤ maxLen) (hN : n.N ≤ 1000000) (hms : n.ms.length ≤ 1000000) (h : SAt K w n R) :
    Calls Tryz.prog 53 #[pp K.sb, .string k, .string v] w (Lays K w R (n.setA K.most k v)) := by
  obtain ⟨c0, c1, c2, c3, c4, c5, c6, cz⟩ := h.cells
  obtain ⟨r, hr⟩ : ∃ r, r = n.setA K.most k v := ⟨_, rfl⟩
  rw [← hr]
  unfold Now.setA at hr
  have HO := Lib.hid (fun w => of_calls k aliasB w (by unfold maxLen at hk; omega))
  rw [show ofB k aliasB = isAlias k from rfl] at HO
  have H0 := Lib.hid h
  have HS := Lib.hid (nsetA K w n R k v hk hN hms h)
  have Hr := Lib.hid hr
  clear h hr hN hms
  cases hn : isAlias k with
  | false =>
    have hr := Hr.out
    rw [if_pos hn] at hr
    rw [hn] at HO
    subst hr
    clear hn HS
    go_enter Tryz.func53, Tryz.ntmps53
    go_wp2_with fail
    refine (HO.out w).mono ?_
    rintro e w3 ⟨rfl, rfl⟩
    go_wp2_with fail
    go_ret
    exact Lays.same H0.out (Below.refl 0 w)
  | true =>
    have hr := Hr.out
    rw [if_neg (by rw [hn]; decide)] at hr
    rw [hn] at HO
    by_cases hv2 : 4096 < v.size
    · rw [if_pos hv2] at hr
      have hvI : (4096 : Int) < v.size := by omega
      subst hr
      clear hn HS hv2 Hr
      go_enter Tryz.func53, Tryz.ntmps53
      go_wp2_with fail
      refine (HO.out w).mono ?_
      rintro e w3 ⟨rfl, rfl⟩
      go_wp2_with fail
      go_ret
      exact Lays.same H0.out (Below.refl 0 w)
    · rw [if_neg hv2] at hr
      have hvI : (v.size : Int) ≤ 4096 := by omega
      subst hr
      clear hn hv2 Hr
      go_enter Tryz.func53, Tryz.ntmps53
      go_wp2_with fail
      refine (HO.out w).mono ?_
      rintro e w3 ⟨rfl, rfl⟩
      go_wp2_with fail
      refine HS.out.mono ?_
      rintro e w4 ⟨⟨rfl, S4⟩, R4⟩
      have S4 := Lib.hid S4
      go_wp2_with fail
      go_ret
      exact ⟨⟨rfl, S4.out⟩, R4⟩
set_option maxRecDepth 100000 in
set_option maxHeartbeats 8000000 in
theorem SetTrap_calls (K : Ctx) (n : Now) (k : ByteArray) (v : ByteArray) (hv : v.size ≤ maxLen) (w : World) (R : Hp) (hk : k.size ≤ maxLen) (hN : n.N ≤ 1000000) (hms : n.ms.length ≤ 1000000) (h : SAt K w n R) :
    Calls Tryz.prog 37 #[pp K.sb, .string k, .string v] w (Lays K w R (n.setT K.most k v)) := by
  obtain ⟨c0, c1, c2, c3, c4, c5, c6, cz⟩ := h.cells
  obtain ⟨r, hr⟩ : ∃ r, r = n.setT K.most k v := ⟨_, rfl⟩
  rw [← hr]
  unfold Now.setT at hr
  have HO := Lib.hid (fun w => signal_calls k w)
  have H0 := Lib.hid h
  have HS := Lib.hid (nsetT K w n R k v hk hN hms h)
  have Hr := Lib.hid hr
  clear h hr hN hms
  cases hn : isSignal k with
  | false =>
    have hr := Hr.out
    rw [if_pos hn] at hr
    rw [hn] at HO
    subst hr
    clear hn HS
    go_enter Tryz.func37, Tryz.ntmps37
    go_wp2_with fail
    refine (HO.out w).mono ?_
    rintro e w3 ⟨rfl, rfl⟩
    go_wp2_with fail
    go_ret
    exact Lays.same H0.out (Below.refl 0 w)
  | true =>
    have hr := Hr.out
    rw [if_neg (by rw [hn]; decide)] at hr
    rw [hn] at HO
    by_cases hv2 : 4096 < v.size
    · rw [if_pos hv2] at hr
      have hvI : (4096 : Int) < v.size := by omega
      subst hr
      clear hn HS hv2 Hr
      go_enter Tryz.func37, Tryz.ntmps37
      go_wp2_with fail
      refine (HO.out w).mono ?_
      rintro e w3 ⟨rfl, rfl⟩
      go_wp2_with fail
      go_ret
      exact Lays.same H0.out (Below.refl 0 w)
    · rw [if_neg hv2] at hr
      have hvI : (v.size : Int) ≤ 4096 := by omega
      subst hr
      clear hn hv2 Hr
      go_enter Tryz.func37, Tryz.ntmps37
      go_wp2_with fail
      refine (HO.out w).mono ?_
      rintro e w3 ⟨rfl, rfl⟩
      go_wp2_with fail
      refine HS.out.mono ?_
      rintro e w4 ⟨⟨rfl, S4⟩, R4⟩
      have S4 := Lib.hid S4
      go_wp2_with fail
      go_ret
      exact ⟨⟨rfl, S4.out⟩, R4⟩
set_option maxRecDepth 100000 in
set_option maxHeartbeats 8000000 in
theorem Untrap_calls (K : Ctx) (n : Now) (k : ByteArray) (w : World) (R : Hp) (hk : k.size ≤ maxLen) (hN : n.N ≤ 1000000) (hms : n.ms.length ≤ 1000000) (h : SAt K w n R) :
    Calls Tryz.prog 55 #[pp K.sb, .string k] w (Lays K w R (n.unT K.most k)) := by
  obtain ⟨c0, c1, c2, c3, c4, c5, c6, cz⟩ := h.cells
  obtain ⟨r, hr⟩ : ∃ r, r = n.unT K.most k := ⟨_, rfl⟩
  rw [← hr]
  unfold Now.unT at hr
  have HO := Lib.hid (fun w => signal_calls k w)
  have H0 := Lib.hid h
  have Hr := Lib.hid hr
  clear hr
  cases hn : isSignal k with
  | false =>
    have hr := Hr.out
    rw [if_pos hn] at hr
    rw [hn] at HO
    subst hr
    clear hn h hN hms
    go_enter Tryz.func55, Tryz.ntmps55
    go_wp2_with fail
    refine (HO.out w).mono ?_
    rintro e w3 ⟨rfl, rfl⟩
    go_wp2_with fail
    go_ret
    exact Lays.same H0.out (Below.refl 0 w)
  | true =>
    have hr := Hr.out
    rw [if_neg (by rw [hn]; decide)] at hr
    rw [hn] at HO
    unfold Now.delT at hr
    cases hs : (n.s.T k).isSome with
    | false =>
      rw [if_pos hs] at hr
      subst hr
      have HD := Lib.hid (idleT K w n R k hk hs h)
      clear hn Hr hs h hN hms
      go_enter Tryz.func55, Tryz.ntmps55
      go_wp2_with fail
      refine (HO.out w).mono ?_
      rintro e w3 ⟨rfl, rfl⟩
      go_wp2_with fail
      refine HD.out.mono ?_
      rintro e w4 ⟨rfl, hB4⟩
      have S4 := Lib.hid (H0.out.below hB4)
      have R4 := Lib.hid (hB4.mono (Nat.zero_le _))
      clear hB4
      go_wp2_with fail
      go_ret
      exact Lays.same S4.out R4.out
    | true =>
      rw [if_neg (by rw [hs]; decide)] at hr
      subst hr
      have HD := Lib.hid (ndelT K w n R k hk hN hms hs h)
      clear hn Hr hs h hN hms
      go_enter Tryz.func55, Tryz.ntmps55
      go_wp2_with fail
      refine (HO.out w).mono ?_
      rintro e w3 ⟨rfl, rfl⟩
      go_wp2_with fail
      refine HD.out.mono ?_
      rintro e w4 ⟨⟨rfl, S4⟩, R4⟩
      have S4 := Lib.hid S4
      go_wp2_with fail
      go_ret
      exact ⟨⟨rfl, S4.out⟩, R4⟩
set_option maxRecDepth 100000 in
set_option maxHeartbeats 8000000 in
theorem Unalias_calls (K : Ctx) (n : Now) (k : ByteArray) (w : World) (R : Hp) (hk : k.size ≤ maxLen) (hN : n.N ≤ 1000000) (hms : n.ms.length ≤ 1000000) (h : SAt K w n R) :
    Calls Tryz.prog 54 #[pp K.sb, .string k] w (Lays K w R (n.unA K.most k)) := by
  obtain ⟨c0, c1, c2, c3, c4, c5, c6, cz⟩ := h.cells
  obtain ⟨r, hr⟩ : ∃ r, r = n.unA K.most k := ⟨_, rfl⟩
  rw [← hr]
  unfold Now.unA at hr
  have HO := Lib.hid (Alias_calls K n k w R hk h)
  have H0 := Lib.hid h
  have Hr := Lib.hid hr
  clear hr
  obtain ⟨x, hx⟩ : ∃ x, x = (n.s.A k).getD ⟨#[]⟩ := ⟨_, rfl⟩
  rw [← hx] at HO
  cases hs : (n.s.A k).isSome with
  | false =>
    have hr := Hr.out
    rw [if_pos hs] at hr
    rw [hs] at HO
    subst hr
    clear hs h hN hms hx
    go_enter Tryz.func54, Tryz.ntmps54
    go_wp2_with fail
    refine HO.out.mono ?_
    rintro e w1 ⟨rfl, hB⟩
    have S1 := H0.out.below hB
    have R1 := Lib.hid (hB.mono (Nat.zero_le _) : Ran w w1)
    clear c0 c1 c2 c3 c4 c5 c6 cz
    obtain ⟨c0, c1, c2, c3, c4, c5, c6, cz⟩ := S1.cells
    have S1 := Lib.hid S1
    clear hB
    go_wp2_with fail
    go_ret
    exact Lays.same S1.out R1.out
  | true =>
    have hr := Hr.out
    rw [if_neg (by rw [hs]; decide)] at hr
    rw [hs] at HO
    subst hr
    clear h hx Hr
    go_enter Tryz.func54, Tryz.ntmps54
    go_wp2_with fail
    refine HO.out.mono ?_
    rintro e w1 ⟨rfl, hB⟩
    have S1 := H0.out.below hB
    have R1 := Lib.hid (hB.mono (Nat.zero_le _) : Ran w w1)
    clear c0 c1 c2 c3 c4 c5 c6 cz
    obtain ⟨c0, c1, c2, c3, c4, c5, c6, cz⟩ := S1.cells
    have HD := Lib.hid (ndelA K w1 n R k hk hN hms hs S1)
    clear hB S1 hs H0 HO hN hms
    go_wp2_with fail
    refine HD.out.mono ?_
    rintro e w4 ⟨⟨rfl, S4⟩, R4⟩
    have S4 := Lib.hid S4
    have R4 := Lib.hid (Below.trans R1.out R4)
    go_wp2_with fail
    go_ret
    exact ⟨⟨rfl, S4.out⟩, R4.out⟩
/-- What a call answers that gives a map's keys. -/
def NamesSays (K : Ctx) (n : Now) (R : Hp) (e : Ending) (w' : World) : Prop :=
  ∃ p cap ks, e = .returned (.slice p (List.length ks) cap) ∧ KeysOf n.s.V ks ∧ ks.length ≤ 1000000 ∧ SAt K w' n (arr 9 1 p ks.length cap (ks.map Value.string) * R)
theorem keysV (K : Ctx) (n : Now) (w : World) (R : Hp) (hN : n.N ≤ 1000000) (h : SAt K w n R) :
    Calls Tryz.prog 113 #[pp K.P.vb] w fun e w' => NamesSays K n R e w' ∧ Below w.heap.size w w' := by
  obtain ⟨B, X, hB, h1, h2⟩ := h.frameV
  refine (VM.keys_calls K.P.vb _ B n.s.V w _ (by omega) h1).mono ?_
  rintro e w' ⟨⟨p, cap, ks, rfl, hk, hkl, HA⟩, hb⟩
  exact ⟨⟨p, cap, ks, rfl, hk, by omega, h2 _ _ (HA.perm (by ac_rfl))⟩, hb⟩
set_option maxRecDepth 100000 in
theorem Names_calls (K : Ctx) (n : Now) (w : World) (R : Hp) (hN : n.N ≤ 1000000) (h : SAt K w n R) :
    Calls Tryz.prog 66 #[pp K.sb] w fun e w' => NamesSays K n R e w' ∧ Below w.heap.size w w' := by
  obtain ⟨c0, c1, c2, c3, c4, c5, c6, cz⟩ := h.cells
  have HK := Lib.hid (keysV K n w R hN h)
  clear h
  go_enter Tryz.func66, Tryz.ntmps66
  go_wp2_with fail
  refine HK.out.mono ?_
  rintro e w' ⟨⟨p, cap, ks, rfl, hk, hkl, HA⟩, hb⟩
  have HA := Lib.hid HA
  have Hk := Lib.hid (And.intro hk hkl)
  clear hk hkl HK
  go_wp2_with fail
  go_ret
  exact ⟨⟨p, cap, ks, rfl, Hk.out.1, Hk.out.2, HA.out⟩, hb⟩
/-- What a call answers that gives a map's keys. -/
def AliasesSays (K : Ctx) (n : Now) (R : Hp) (e : Ending) (w' : World) : Prop :=
  ∃ p cap ks, e = .returned (.slice p (List.length ks) cap) ∧ KeysOf n.s.A ks ∧ ks.length ≤ 1000000 ∧ SAt K w' n (arr 9 1 p ks.length cap (ks.map Value.string) * R)
theorem keysA (K : Ctx) (n : Now) (w : World) (R : Hp) (hN : n.N ≤ 1000000) (h : SAt K w n R) :
    Calls Tryz.prog 100 #[pp K.P.ab] w fun e w' => AliasesSays K n R e w' ∧ Below w.heap.size w w' := by
  obtain ⟨B, X, hB, h1, h2⟩ := h.frameA
  refine (SM.keys_calls K.P.ab _ B n.s.A w _ (by omega) h1).mono ?_
  rintro e w' ⟨⟨p, cap, ks, rfl, hk, hkl, HA⟩, hb⟩
  exact ⟨⟨p, cap, ks, rfl, hk, by omega, h2 _ _ (HA.perm (by ac_rfl))⟩, hb⟩
set_option maxRecDepth 100000 in
theorem Aliases_calls (K : Ctx) (n : Now) (w : World) (R : Hp) (hN : n.N ≤ 1000000) (h : SAt K w n R) :
    Calls Tryz.prog 67 #[pp K.sb] w fun e w' => AliasesSays K n R e w' ∧ Below w.heap.size w w' := by
  obtain ⟨c0, c1, c2, c3, c4, c5, c6, cz⟩ := h.cells
  have HK := Lib.hid (keysA K n w R hN h)
  clear h
  go_enter Tryz.func67, Tryz.ntmps67
  go_wp2_with fail
  refine HK.out.mono ?_
  rintro e w' ⟨⟨p, cap, ks, rfl, hk, hkl, HA⟩, hb⟩
  have HA := Lib.hid HA
  have Hk := Lib.hid (And.intro hk hkl)
  clear hk hkl HK
  go_wp2_with fail
  go_ret
  exact ⟨⟨p, cap, ks, rfl, Hk.out.1, Hk.out.2, HA.out⟩, hb⟩
def TKeysSays (K : Ctx) (n : Now) (R : Hp) (e : Ending) (w' : World) : Prop :=
  ∃ p cap ks, e = .returned (.slice p (List.length ks) cap) ∧ KeysOf n.s.T ks ∧ ks.length ≤ 1000000 ∧ SAt K w' n (arr 9 1 p ks.length cap (ks.map Value.string) * R)
theorem keysT (K : Ctx) (n : Now) (w : World) (R : Hp) (hN : n.N ≤ 1000000) (h : SAt K w n R) :
    Calls Tryz.prog 100 #[pp K.P.tb] w fun e w' => TKeysSays K n R e w' ∧ Below w.heap.size w w' := by
  obtain ⟨B, X, hB, h1, h2⟩ := h.frameT
  refine (SM.keys_calls K.P.tb _ B n.s.T w _ (by omega) h1).mono ?_
  rintro e w' ⟨⟨p, cap, ks, rfl, hk, hkl, HA⟩, hb⟩
  exact ⟨⟨p, cap, ks, rfl, hk, by omega, h2 _ _ (HA.perm (by ac_rfl))⟩, hb⟩
theorem Status_calls (K : Ctx) (n : Now) (w : World) (R : Hp) (h : SAt K w n R) :
    Calls Tryz.prog 25 #[pp K.sb] w fun e w' => e = .returned (.int .i64 n.q) ∧ w = w' := by
  obtain ⟨c0, c1, c2, c3, c4, c5, c6, cz⟩ := h.cells
  clear h
  go_enter Tryz.func25, Tryz.ntmps25
  go_wp2_with fail
  go_ret
  exact ⟨rfl, rfl⟩
theorem and255 (k : Int) : bits BinOp.and IntKind.i64 k 255 = k % 256 := by
  have h1 : (BitVec.ofInt 64 k &&& BitVec.ofInt 64 255).toNat = (k % 256).toNat := by
    rw [BitVec.toNat_and, show (BitVec.ofInt 64 255).toNat = 2 ^ 8 - 1 from rfl, Nat.and_two_pow_sub_one_eq_mod, BitVec.toNat_ofInt]
    have : ((2 ^ 64 : Nat) : Int) = 18446744073709551616 := by decide
    rw [this]
    omega
  show IntKind.i64.wrap ((BitVec.ofInt 64 k &&& BitVec.ofInt 64 255).toNat : Int) = k % 256
  rw [h1, IntWalk.i64_in _ (by omega)]
  omega
theorem SetStatus_calls (K : Ctx) (n : Now) (k : Int) (w : World) (R : Hp) (h : SAt K w n R) :
    Calls Tryz.prog 58 #[pp K.sb, .int .i64 k] w fun e w' => (e = .returned (.tuple #[]) ∧ SAt K w' (n.setQ k).2 R) ∧ Ran w w' := by
  obtain ⟨c0, c1, c2, c3, c4, c5, c6, cz⟩ := h.cells
  have HS := Lib.hid (h.status (k % 256))
  have ha := and255 k
  clear h
  go_enter Tryz.func58, Tryz.ntmps58
  go_wp2_with fail
  go_end0
  refine ⟨⟨rfl, ?_⟩, Ran.set (Below.refl 0 w) _ _⟩
  exact HS.out
end Go.Proofs.YtlmjidandjemjaaGreatDoor.State

