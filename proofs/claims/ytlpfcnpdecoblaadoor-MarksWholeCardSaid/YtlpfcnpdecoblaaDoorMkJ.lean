/- Read walked. -/
import Derived.Test.YtlpfcnpdecoblaaDoorMkI
namespace Go.Proofs.YtlpfcnpdecoblaaDoor.Marks
open Go.RowKit Go.Proofs.YtlpfcnpdecoblaaDoor Go.Proofs.YtlpfcnpdecoblaaDoor.Hp
set_option linter.unusedVariables false
attribute [local go_sem] Oper.semAt_some

/-- What a text says: none where more is needed; q: within quotes. -/
def readP : Bool → List UInt8 → Option (List Ch)
  | false, [] => some []
  | true, [] => none
  | true, c :: t => if (c == 39) = true then readP false t else (readP true t).map (⟨c, true⟩ :: ·)
  | false, [c] => if (c == 39) = true then none else if (c == 92) = true then none else some [⟨c, false⟩]
  | false, c :: d :: t => if (c == 39) = true then readP true (d :: t) else if (c == 92) = true then (if (d == 10) = true then readP false t else (readP false t).map (⟨d, true⟩ :: ·)) else (readP false (d :: t)).map (⟨c, false⟩ :: ·)
theorem readP_true (c : UInt8) (t : List UInt8) : readP true (c :: t) = if (c == 39) = true then readP false t else (readP true t).map (⟨c, true⟩ :: ·) := rfl
theorem readP_quote (l : List UInt8) : readP false (39 :: l) = readP true l := by
  cases l with
  | nil => rfl
  | cons d t => rfl
theorem readP_slash1 : readP false [92] = none := rfl
theorem readP_slash (d : UInt8) (t : List UInt8) : readP false (92 :: d :: t) = if (d == 10) = true then readP false t else (readP false t).map (⟨d, true⟩ :: ·) := rfl
theorem readP_other (c : UInt8) (l : List UInt8) (h1 : (c == 39) = false) (h2 : (c == 92) = false) : readP false (c :: l) = (readP false l).map (⟨c, false⟩ :: ·) := by
  cases l with
  | nil => simp [readP, h1, h2]
  | cons d t => simp [readP, h1, h2]
theorem readP_in (a t : List UInt8) (h : (39 : UInt8) ∉ a) : readP true (a ++ 39 :: t) = (readP false t).map (markL a true ++ ·) := by
  induction a with
  | nil => simp [readP, markL]
  | cons c a ih =>
    have hc : (c == 39) = false := by
      rw [beq_eq_false_iff_ne]; exact fun e => h (by rw [e]; exact List.mem_cons_self ..)
    rw [List.cons_append, readP_true, hc, ih (fun hm => h (List.mem_cons_of_mem _ hm))]
    simp [markL, Function.comp_def]
theorem readP_open (a : List UInt8) (h : (39 : UInt8) ∉ a) : readP true a = none := by
  induction a with
  | nil => rfl
  | cons c a ih =>
    have hc : (c == 39) = false := by
      rw [beq_eq_false_iff_ne]; exact fun e => h (by rw [e]; exact List.mem_cons_self ..)
    rw [readP_true, hc, ih (fun hm => h (List.mem_cons_of_mem _ hm))]
    rfl
theorem ixb_cases (l : List UInt8) (c : UInt8) : (c ∉ l ∧ Lib.indexByte l c = -1) ∨ ∃ a t, l = a ++ c :: t ∧ c ∉ a ∧ Lib.indexByte l c = (a.length : Int) := by
  induction l with
  | nil => exact .inl ⟨by simp, rfl⟩
  | cons x l ih =>
    unfold Lib.indexByte
    by_cases h : x = c
    · subst h
      exact .inr ⟨[], l, rfl, by simp, by simp⟩
    · rcases ih with ⟨h1, h2⟩ | ⟨a, t, h1, h2, h3⟩
      · refine .inl ⟨by simp [h1, Ne.symm h], ?_⟩
        rw [h2]; simp [h]
      · refine .inr ⟨x :: a, t, by rw [h1]; rfl, by simp [h2, Ne.symm h], ?_⟩
        rw [h3]; simp [h]
def rdE (r : Option (List Ch)) : Int := if r = none then 30 else 0
def rdL (r : Option (List Ch)) : List Ch := r.getD []
def ReadPost (s : ByteArray) (w : World) (e : Ending) (w' : World) : Prop := ∃ p cap, e = .returned (.tuple #[.slice p (rdL (readP false (bs s))).length cap, .int .i64 (rdE (readP false (bs s)))]) ∧ CharsAt w' p cap (rdL (readP false (bs s))) ∧ Below w.heap.size w w'
theorem read_none {s : ByteArray} {w w' : World} (h : readP false (bs s) = none) (hb : Below w.heap.size w w') : ReadPost s w (.returned (.tuple #[.slice none 0 0, .int .i64 30])) w' := by
  refine ⟨none, 0, by rw [h]; rfl, ?_, hb⟩
  rw [h]
  exact ⟨by simp [rdL], by simp, fun i hi => by simp [rdL] at hi⟩
def RdRel (s : ByteArray) (w : World) (g : Nat) (sv ov : Value) (wr : World) : Prop :=
  ∃ (t : ByteArray) (p : Option Addr) (cap : Nat) (acc : List Ch), t.size = g ∧ sv = .string t ∧ ov = .slice p acc.length cap ∧ acc.length + t.size ≤ s.size ∧ readP false (bs s) = (readP false (bs t)).map (acc ++ ·) ∧ Sat wr (chA p cap acc * keep w) ∧ Ran w wr
theorem bs_cons (t : ByteArray) (h : 0 < t.size) : bs t = t[0] :: (bs t).drop 1 := by
  have := bs_drop t 0 h
  rw [List.drop_zero] at this
  exact this
theorem bs_tail (t : ByteArray) (n : Nat) : bs (t.extract n t.size) = (bs t).drop n := by
  rw [bs_extract]
  exact List.take_of_length_le (by rw [List.length_drop, bs_length]; exact Nat.le_refl _)
theorem size_tail (t : ByteArray) (n : Nat) : (t.extract n t.size).size = t.size - n := by
  rw [← bs_length, bs_tail, List.length_drop, bs_length]
theorem map_snoc (r : Option (List Ch)) (acc : List Ch) (c : Ch) : (r.map (c :: ·)).map (acc ++ ·) = r.map ((acc ++ [c]) ++ ·) := by
  cases r <;> simp
theorem chCells_app (a b : List Ch) : chCells (a ++ b) = chCells a ++ chCells b := by unfold chCells; exact List.flatMap_append
set_option maxRecDepth 100000 in
set_option maxHeartbeats 8000000 in
theorem read_calls (s : ByteArray) (w : World) (hm : s.size ≤ 100000) :
    Calls Tryd.prog 10 #[.string s] w (ReadPost s w) := by
  have Hm := Lib.hid hm
  clear hm
  go_enter Tryd.func10, Tryd.ntmps10
  go_wp2_with fail
  go_loopg [0, 4, 5] (s.size) (fun (g : Nat) (sv ov _ : Value) (wr : World) => RdRel s w g sv ov wr)
  case atStart => exact ⟨s, none, 0, [], rfl, rfl, rfl, by simp, by simp, by show Sat w (arr 37 2 none 0 0 [] * keep w); exact (Sat.start w).nil_arr _ _, Below.refl 0 w⟩
  case round =>
    obtain ⟨t, p, cap, acc, hg, rfl, rfl, hlen, hrd, HS, HR⟩ := hrel
    have hsm := Hm.out
    by_cases h0 : t.size = 0
    · have ht : bs t = [] := List.eq_nil_of_length_eq_zero (by rw [bs_length]; exact h0)
      have hte : t = { data := #[] } := bs_eq ht
      have hpost : ReadPost s w (.returned (.tuple #[.slice p acc.length cap, .int .i64 0])) wr := by
        have e : readP false (bs s) = some acc := by rw [hrd, ht]; simp [readP]
        refine ⟨p, cap, by rw [e]; rfl, ?_, HR.whole HS⟩
        rw [e]
        exact chA_at HS
      have Hpost := Lib.hid hpost
      clear hpost hg hlen hrd HS HR ht h0
      subst hte
      go_wp2_with fail
      go_ret2
      exact Hpost.out
    · have hp : 0 < t.size := by omega
      have hp1 : (0 : Int) < (t.size : Int) := by omega
      have hp2 : (1 : Int) ≤ (t.size : Int) := by omega
      have hp3 : (t.size : Int) ≤ 100000 := by omega
      have hne : (t.toList == ByteArray.toList { data := #[] }) = false := by
        rw [beq_eq_false_iff_ne]
        intro e
        rw [ByteArray.toList_eq, ByteArray.toList_eq] at e
        have : t.size = 0 := by rw [← bs_length]; unfold bs; rw [e]; rfl
        omega
      have hne2 : (t.toList == []) = false := by simpa using hne
      have hne3 : t.toList ≠ [] := by simpa using hne2
      have hcons := bs_cons t hp
      have l39 := u8_lit t[0] 39 (by omega)
      have l92 := u8_lit t[0] 92 (by omega)
      rw [show ((39 : Nat) : Int) = 39 from rfl, show UInt8.ofNat 39 = 39 from rfl] at l39
      rw [show ((92 : Nat) : Int) = 92 from rfl, show UInt8.ofNat 92 = 92 from rfl] at l92
      obtain ⟨al, hal⟩ : ∃ n, n = acc.length := ⟨_, rfl⟩
      have hal9 : al ≤ 100000 := by omega
      have Hal := Lib.hid hal
      have Hg := Lib.hid hg
      have Hlen := Lib.hid hlen
      by_cases c39 : t[0] = 39
      · rw [c39] at hcons
        rw [hcons, readP_quote] at hrd
        have e39 : (t[0] == (39 : UInt8)) = true := by rw [c39]; rfl
        rw [e39] at l39
        have hix := Lib.hid (six_calls (t.extract 1 t.size) 39 wr)
        rw [show (39 : Int).toNat.toUInt8 = 39 from rfl, show (t.extract 1 t.size).data.toList = (bs t).drop 1 from bs_tail t 1] at hix
        rcases ixb_cases ((bs t).drop 1) 39 with ⟨hno, hi⟩ | ⟨a, u, hau, hno, hi⟩
        · rw [hi] at hix
          have hpost := Lib.hid (read_none (w := w) (w' := wr) (by rw [hrd, readP_open _ hno]; rfl) (HR.whole HS))
          clear hg hlen hrd HS HR hcons hno hi c39 e39 hal
          go_wp2_with fail
          refine hix.out.mono ?_
          rintro e w2 ⟨rfl, rfl⟩
          go_wp2_with fail
          go_ret2
          exact hpost.out
        · rw [hi] at hix
          rw [hau, readP_in a u hno] at hrd
          have hal2 : a.length + 1 + u.length + 1 = t.size := by
            have h1 := congrArg List.length hau
            rw [List.length_drop, bs_length, List.length_append, List.length_cons] at h1; omega
          have ha0 : (0 : Int) ≤ (a.length : Int) := by omega
          have ha1 : ¬ ((a.length : Int) < 0) := by omega
          have ha2 : (1 : Int) + (a.length : Int) ≤ (t.size : Int) := by omega
          have ha3 : (1 : Int) ≤ 1 + (a.length : Int) := by omega
          have ha4 : (a.length : Int) + 2 ≤ (t.size : Int) := by omega
          have ha5 : (0 : Int) ≤ (a.length : Int) + 2 := by omega
          have ha6 : (0 : Int) ≤ 1 + (a.length : Int) := by omega
          have ha7 : ((1 : Int) + (a.length : Int)).toNat = 1 + a.length := by omega
          have ha8 : ((a.length : Int) + 2).toNat = a.length + 2 := by omega
          have hmid : bs (t.extract 1 (1 + a.length)) = a := by
            rw [bs_extract, hau, show 1 + a.length - 1 = a.length by omega]
            exact List.take_left
          have hof := of_calls (t.extract 1 (1 + a.length)) true wr (by rw [← bs_length, hmid]; omega)
          rw [hmid] at hof
          have hof := Lib.hid hof
          have htl : bs (t.extract (a.length + 2) t.size) = u := by
            rw [bs_tail, show a.length + 2 = 1 + (a.length + 1) by omega, ← List.drop_drop, hau]
            rw [show a ++ 39 :: u = (a ++ [39]) ++ u by simp]
            exact List.drop_left' (by simp)
          have htz : (t.extract (a.length + 2) t.size).size = t.size - (a.length + 2) := size_tail t _
          have hml : (markL a true).length = a.length := by unfold markL; rw [List.length_map]
          have Hml := Lib.hid hml
          have HS0 := Lib.hid HS
          have hlim : al + a.length ≤ 1000000000 := by omega
          have hnext := Lib.hid (fun (p' : Option Addr) (cap' : Nat) (w' : World) (hs : Sat w' (arr 37 2 p' (al + a.length) cap' (chCells acc ++ chCells (markL a true)) * keep w)) (hr : Ran w w') => (show RdRel s w (t.size - (a.length + 2)) (.string (t.extract (a.length + 2) t.size)) (.slice p' (al + a.length) cap') w' from by
            have e1 : (acc ++ markL a true).length = al + a.length := by rw [List.length_append, hml, hal]
            refine ⟨_, p', cap', acc ++ markL a true, htz, rfl, by rw [e1], by rw [e1, htz]; omega, ?_, ?_, hr⟩
            · rw [hrd, htl]; cases readP false u <;> simp
            · unfold chA
              rw [e1, chCells_app]
              exact hs))
          have hmeas := Lib.hid (show t.size - (a.length + 2) < gk by omega)
          obtain ⟨n, hn⟩ : ∃ n, n = a.length := ⟨_, rfl⟩
          rw [← hn] at hix ha0 ha1 ha2 ha3 ha4 ha5 ha6 ha7 ha8 hof hlim hnext hmeas Hml
          have hbr : Ran w wr := HR
          rw [← hal] 
          clear hg hlen hrd HS hcons hno hi c39 e39 hal hau hal2 hmid htl htz hml hn h0
          go_wp2_with fail
          refine hix.out.mono ?_
          rintro e w2 ⟨rfl, rfl⟩
          go_wp2_with fail
          refine hof.out.mono ?_
          rintro e w3 ⟨p3, cap3, he, hC3, hb3⟩
          have hsrc := srcCh hC3
          rw [Hml.out] at he hsrc
          subst he
          have hsrc := Lib.hid hsrc
          have HSB : Sat w3 (arr 37 2 p al cap (chCells acc) * keep w) := by rw [Hal.out]; exact HS0.out.below hb3
          have R3 : Ran w w3 := Below.trans hbr (hb3.mono (Nat.zero_le _))
          clear hC3 hb3
          go_wp2_with (at_builtin; go_loud (refine appCh rfl _ _ rfl p al cap _ rfl _ rfl n _ hsrc.out HSB hlim ?_; intro p' cap' w6 T6 R6; clear HSB))
          have Hrel := Lib.hid (hnext.out p' cap' w6 T6 (Below.trans R3 R6))
          clear T6 R6 hnext
          go_roundg (t.size - (n + 2))
          case measure => exact hmeas.out
          case rel => exact Hrel.out
      · have e39 : (t[0] == (39 : UInt8)) = false := by simpa using c39
        rw [e39] at l39
        by_cases c92 : t[0] = 92
        · rw [c92] at hcons
          have e92 : (t[0] == (92 : UInt8)) = true := by rw [c92]; rfl
          rw [e92] at l92
          by_cases h1 : t.size < 2
          · have h1' : (t.size : Int) < 2 := by omega
            have hd1 : (bs t).drop 1 = [] := List.drop_eq_nil_of_le (by rw [bs_length]; omega)
            rw [hcons, hd1, readP_slash1] at hrd
            have hpost := Lib.hid (read_none (w := w) (w' := wr) (by rw [hrd]; rfl) (HR.whole HS))
            clear hg hlen hrd HS HR hcons hd1 c39 c92 e39 e92 hal h0
            go_wp2_with fail
            go_ret2
            exact hpost.out
          · have h1' : ¬ ((t.size : Int) < 2) := by omega
            have h1'' : (2 : Int) ≤ (t.size : Int) := by omega
            have h1t : 1 < t.size := by omega
            have h1i : (1 : Int) < (t.size : Int) := by omega
            have hd1 := bs_drop t 1 h1t
            rw [hcons, hd1, readP_slash] at hrd
            have l10 := u8_lit t[1] 10 (by omega)
            rw [show ((10 : Nat) : Int) = 10 from rfl, show UInt8.ofNat 10 = 10 from rfl] at l10
            have htl := bs_tail t 2
            have htz := size_tail t 2
            have hmeas := Lib.hid (show t.size - 2 < gk by omega)
            by_cases c10 : (t[1] == (10 : UInt8)) = true
            · rw [if_pos c10] at hrd
              rw [c10] at l10
              have Hrel := Lib.hid (show RdRel s w (t.size - 2) (.string (t.extract 2 t.size)) (.slice p acc.length cap) wr from ⟨_, p, cap, acc, htz, rfl, rfl, by rw [htz]; omega, by rw [hrd, htl], HS, HR⟩)
              clear hg hlen hrd HS HR hcons hd1 c39 c92 e39 e92 c10 htl htz h0
              rw [← hal]
              rw [← hal] at Hrel
              clear hal
              go_wp2_with fail
              go_roundg (t.size - 2)
              case measure => exact hmeas.out
              case rel => exact Hrel.out
            · have e10 : (t[1] == (10 : UInt8)) = false := by simpa using c10
              rw [if_neg c10, map_snoc] at hrd
              rw [e10] at l10
              have hnext := Lib.hid (fun (p' : Option Addr) (cap' : Nat) (w' : World) (hs : Sat w' (arr 37 2 p' (al + 1) cap' (chCells acc ++ [.int .u8 t[1].toNat, .bool true]) * keep w)) (hr : Ran w w') => (show RdRel s w (t.size - 2) (.string (t.extract 2 t.size)) (.slice p' (al + 1) cap') w' from by
                have e1 : (acc ++ [(⟨t[1], true⟩ : Ch)]).length = al + 1 := by rw [List.length_append, hal]; rfl
                refine ⟨_, p', cap', acc ++ [⟨t[1], true⟩], htz, rfl, by rw [e1], by rw [e1, htz]; omega, by rw [hrd, htl], ?_, hr⟩
                unfold chA
                rw [e1, chCells_snoc]
                exact hs))
              obtain ⟨d, hd⟩ : ∃ d, d = t[1] := ⟨_, rfl⟩
              have HSB : Sat (wr.alloc (.cells #[.int .u8 t[1].toNat, .bool true] 37 (0, 0))) (arr 37 2 p al cap (chCells acc) * keep w) := by rw [hal]; exact HS.old _
              have hsrc := Lib.hid (src1 (w := wr.alloc (.cells #[.int .u8 t[1].toNat, .bool true] 37 (0, 0))) (c := ⟨t[1], true⟩) (block_new rfl))
              have RB := Ran.new HR (.cells #[.int .u8 t[1].toNat, .bool true] 37 (0, 0))
              have hlim : al + 1 ≤ 1000000000 := by omega
              clear hg hlen hrd HS hcons hd1 c39 c92 e39 e92 c10 e10 htl htz h0 hd
              rw [← hal]
              clear hal
              go_wp2_with (at_builtin; go_loud (refine appCh rfl _ _ rfl p al cap _ rfl _ rfl 1 _ hsrc.out HSB hlim ?_; intro p' cap' w6 T6 R6; clear HSB))
              have Hrel := Lib.hid (hnext.out p' cap' w6 T6 (Below.trans RB R6))
              clear T6 R6 hnext
              go_roundg (t.size - 2)
              case measure => exact hmeas.out
              case rel => exact Hrel.out
        · have e92 : (t[0] == (92 : UInt8)) = false := by simpa using c92
          rw [e92] at l92
          rw [hcons, readP_other _ _ e39 e92, map_snoc] at hrd
          have htl := bs_tail t 1
          have htz := size_tail t 1
          have hmeas := Lib.hid (show t.size - 1 < gk by omega)
          have hnext := Lib.hid (fun (p' : Option Addr) (cap' : Nat) (w' : World) (hs : Sat w' (arr 37 2 p' (al + 1) cap' (chCells acc ++ [.int .u8 t[0].toNat, .bool false]) * keep w)) (hr : Ran w w') => (show RdRel s w (t.size - 1) (.string (t.extract 1 t.size)) (.slice p' (al + 1) cap') w' from by
            have e1 : (acc ++ [(⟨t[0], false⟩ : Ch)]).length = al + 1 := by rw [List.length_append, hal]; rfl
            refine ⟨_, p', cap', acc ++ [⟨t[0], false⟩], htz, rfl, by rw [e1], by rw [e1, htz]; omega, by rw [hrd, htl], ?_, hr⟩
            unfold chA
            rw [e1, chCells_snoc]
            exact hs))
          have HSB : Sat (wr.alloc (.cells #[.int .u8 t[0].toNat, .bool false] 37 (0, 0))) (arr 37 2 p al cap (chCells acc) * keep w) := by rw [hal]; exact HS.old _
          have hsrc := Lib.hid (src1 (w := wr.alloc (.cells #[.int .u8 t[0].toNat, .bool false] 37 (0, 0))) (c := ⟨t[0], false⟩) (block_new rfl))
          have RB := Ran.new HR (.cells #[.int .u8 t[0].toNat, .bool false] 37 (0, 0))
          have hlim : al + 1 ≤ 1000000000 := by omega
          clear hg hlen hrd HS hcons c39 c92 e39 e92 htl htz h0
          rw [← hal]
          clear hal
          go_wp2_with (at_builtin; go_loud (refine appCh rfl _ _ rfl p al cap _ rfl _ rfl 1 _ hsrc.out HSB hlim ?_; intro p' cap' w6 T6 R6; clear HSB))
          have Hrel := Lib.hid (hnext.out p' cap' w6 T6 (Below.trans RB R6))
          clear T6 R6 hnext
          go_roundg (t.size - 1)
          case measure => exact hmeas.out
          case rel => exact Hrel.out
end Go.Proofs.YtlpfcnpdecoblaaDoor.Marks
