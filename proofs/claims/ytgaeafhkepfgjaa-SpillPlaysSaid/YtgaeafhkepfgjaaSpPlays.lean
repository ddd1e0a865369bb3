/- SpillPlays: what each call answers, and what is held, call by call: the law returns true, for all rows of calls and all three numbers. -/
import Derived.Test.YtgaeafhkepfgjaaSpO
import Derived.Test.YtgaeafhkepfgjaaSpRf
import Derived.Test.YtgaeafhkepfgjaaArrs
import Derived.Deep.CutBlock
namespace Go.Proofs.Ytgaeafhkepfgjaa.spillPlays
open Go.ChangeShapes Go.WideShapes Go.ChangeAt Go.RowKit Go.Proofs.Ytgaeafhkepfgjaa Go.Proofs.Ytgaeafhkepfgjaa.Hp Go.Proofs.Ytgaeafhkepfgjaa.Spill
set_option linter.unusedVariables false

theorem nums_set {q m c tot B : Nat} {L : List Bf} (N : Nums q m c tot B L) (tot' B' : Nat) (k : Nat) (hk : k < L.length) (x : Bf) (hB : B ≤ B') (hB2 : B' ≤ 12300) (ht : tot' ≤ B') (hx : x.pre.length + x.data.length ≤ B')
    (h1 : sumOf Bf.h L - L[k].h + x.h ≤ q) (h2 : sumOf Bf.h L - L[k].h + x.h ≤ B') : Nums q m c tot' B' (L.set k x) := by
  have hs := sum_set_eq Bf.h L k hk x
  obtain ⟨b1, b2, b3, b4, b5, b6, b7, b8, b9, b10⟩ := N
  refine ⟨b1, b2, b3, b4, ht, hB2, ?_, by omega, by omega, by rw [List.length_set]; exact b10⟩
  intro y hy
  rcases List.mem_or_eq_of_mem_set hy with h | rfl
  · have := b7 y h; omega
  · exact hx
theorem nums_set' {q m c tot B : Nat} {L : List Bf} (N : Nums q m c tot B L) (tot' B' : Nat) (k : Nat) (hk : k < L.length) {y : Bf} (hy : L[k] = y) (x : Bf) (hB : B ≤ B') (hB2 : B' ≤ 12300) (ht : tot' ≤ B') (hx : x.pre.length + x.data.length ≤ B')
    (h1 : sumOf Bf.h L + x.h ≤ q + y.h) (h2 : sumOf Bf.h L + x.h ≤ B' + y.h) : Nums q m c tot' B' (L.set k x) := by
  have := sum_get Bf.h L k hk
  rw [hy] at this
  exact nums_set N tot' B' k hk x hB hB2 ht hx (by rw [hy]; omega) (by rw [hy]; omega)
theorem nums_mono {q m c tot B : Nat} {L : List Bf} (N : Nums q m c tot B L) (B' : Nat) (hB : B ≤ B') (hB2 : B' ≤ 12300) : Nums q m c tot B' L := by
  obtain ⟨b1, b2, b3, b4, b5, b6, b7, b8, b9, b10⟩ := N
  exact ⟨b1, b2, b3, b4, by omega, hB2, fun x h => by have := b7 x h; omega, b8, by omega, b10⟩
theorem nums_snoc {q m c tot B ba rb : Nat} {L : List Bf} (N : Nums q m c tot B L) (hl : L.length ≤ 40) : Nums q m c tot B (L ++ [⟨ba, rb, false, [], []⟩]) := by
  have hs := sumOf_snoc Bf.h L ⟨ba, rb, false, [], []⟩
  rw [show Bf.h ⟨ba, rb, false, [], []⟩ = 0 from rfl] at hs
  obtain ⟨b1, b2, b3, b4, b5, b6, b7, b8, b9, b10⟩ := N
  refine ⟨b1, b2, b3, b4, b5, b6, ?_, by omega, by omega, by simp; omega⟩
  intro y hy
  rcases List.mem_append.1 hy with h | h
  · exact b7 y h
  · simp at h; subst h; simp

theorem which_calls (ask at_ n : Int) (s : Value) (many : Nat) (w : World) (hm : 1 ≤ many) (hm2 : many ≤ 41) (ha : I64 at_) :
    Calls Try.prog 17 #[.agg #[.int .i64 ask, .int .i64 at_, .int .i64 n, s], .int .i64 many] w fun e w' => (∃ k : Nat, k < many ∧ e = .returned (.int .i64 k)) ∧ Ran w w' ∧ (∀ P, Sat w P → Sat w' P) := by
  have h1 : -(many : Int) < at_.tmod many := by have := Int.lt_tmod_of_pos at_ (show (0 : Int) < many by omega); omega
  have h2 : at_.tmod many < many := Int.tmod_lt_of_pos at_ (by omega)
  have h3 : IntKind.i64.wrap (at_.tmod many) = at_.tmod many := IntWalk.i64_in _ (by omega)
  have h4 : IntKind.i64.wrap (at_.tmod many + many) = at_.tmod many + many := IntWalk.i64_in _ (by omega)
  have h5 : 0 ≤ (at_.tmod many + many).tmod many := Int.tmod_nonneg _ (by omega)
  have h6 : (at_.tmod many + many).tmod many < many := Int.tmod_lt_of_pos _ (by omega)
  have h7 : IntKind.i64.wrap ((at_.tmod many + many).tmod many) = (at_.tmod many + many).tmod many := IntWalk.i64_in _ (by omega)
  have h0 : (many : Int) ≠ 0 := by omega
  obtain ⟨k, hk⟩ : ∃ k : Nat, (at_.tmod many + many).tmod many = k := ⟨((at_.tmod many + many).tmod many).toNat, by omega⟩
  go_enter Try.func17, Try.ntmps17
  go_wp2
  go_ret
  exact ⟨⟨k, by omega, rfl⟩, Ran.new (Below.refl _ _) _, fun P h => h.old _⟩

theorem PH.dropR {bp rp q m c tot capA capR : Nat} {pA pR : Option Addr} {Ls Lr : List Bf} {R : Hp} {w : World} {ob : Nat} {o : Obj} (h : PH bp rp q m c tot capA capR pA pR Ls Lr (pts ob o * R) w) : PH bp rp q m c tot capA capR pA pR Ls Lr R w := by
  unfold PH RS at *
  refine (h.perm (show _ = pts ob o * (poolX bp q m c (sumOf Bf.h Ls) (sumOf (Bf.u m c) Ls) (sumOf Bf.o Ls) tot * (all (sbuf bp m c) Ls * (arr 29 1 pA Ls.length capA (Ls.map sptr) * (rpool rp q m c capR pR Lr * (all rbuf Lr * R))))) by ac_rfl)).right
theorem PH.xcell {bp rp q m c tot capA capR k : Nat} {pA pR : Option Addr} {L : List Bf} {R : Hp} {w : World} (h : PH bp rp q m c tot capA capR pA pR L L R w) (hk : k < L.length) :
    ∃ b o, pA = some ⟨b, o, none⟩ ∧ w.cell? ⟨b, o + k, none⟩ = some (.pointer (some ⟨L[k].ba, 0, none⟩)) := by
  unfold PH RS at h
  have h2 := h.perm (show _ = arr 29 1 pA L.length capA (L.map sptr) * (poolX bp q m c (sumOf Bf.h L) (sumOf (Bf.u m c) L) (sumOf Bf.o L) tot * (all (sbuf bp m c) L * (rpool rp q m c capR pR L * (all rbuf L * R)))) by ac_rfl)
  have hl := h2.arr_len
  obtain ⟨b, o, rfl⟩ := h2.arr_addr (by omega)
  refine ⟨b, o, rfl, ?_⟩
  have := h2.arr_cell k (by simpa using hk)
  simpa [sptr] using this
/-- In the midst of a round: a call was done on both sides. -/
def PMid (bp rp q m c i k xa yb : Nat) (R : Hp) (W : World) (pA : Option Addr) (capA n : Nat) (wx : World) : Prop :=
  ∃ (L : List Bf) (tot capR : Nat) (pR : Option Addr) (h : k < L.length), L[k].ba = xa ∧ L[k].rb = yb ∧ L.length = n ∧ Nums q m c tot (300 * (i + 1)) L ∧ PH bp rp q m c tot capA capR pA pR L L R wx ∧ Ran W wx
/-- At a round's head. -/
def PInv (bp rp q m c i : Nat) (R : Hp) (W : World) (av : Value) (wr : World) : Prop :=
  ∃ (L : List Bf) (tot capA capR : Nat) (pA pR : Option Addr), av = .slice pA L.length capA ∧ L.length ≤ i ∧ Nums q m c tot (300 * i) L ∧ PH bp rp q m c tot capA capR pA pR L L R wr ∧ Ran W wr
def PRel (bp rp q m c : Nat) (W : World) (l : List Opr) (k : Nat) (av iv : Value) (wr : World) : Prop :=
  ∃ i : Nat, i + k = l.length ∧ iv = .int .i64 (i : Int) ∧ PInv bp rp q m c i (keep W) W av wr

set_option maxRecDepth 1000000 in
set_option maxHeartbeats 8000000 in
theorem walk (ao : Option Addr) (cap : Nat) (l : List Opr) (x y z : Int) (W : World) (hl : OpsAt W ao l) (hx : I64 x) (hy : I64 y) (hz : I64 z) :
    Calls Try.prog 4 #[.slice ao l.length cap, .agg #[.int .i64 x, .int .i64 y, .int .i64 z]] W fun e w' => e = .returned (.bool true) ∧ Below W.heap.size W w' := by
  have H0 := (Sat.start W).old (.cells #[.int .i64 x, .int .i64 y, .int .i64 z] 38)
  have R0 : Ran W (W.alloc (.cells #[.int .i64 x, .int .i64 y, .int .i64 z] 38)) := Ran.new (Below.refl _ _) _
  have hl0 : OpsAt (W.alloc (.cells #[.int .i64 x, .int .i64 y, .int .i64 z] 38)) ao l := hl.keep H0.kept (by simp)
  by_cases hf : Few l
  · by_cases hbad : x < 0 ∨ 1048576 < x ∨ y < 0 ∨ 65536 < y ∨ z < 1 ∨ 65536 < z
    · have HB := Lib.hid (new_bad x y z (W.alloc (.cells #[.int .i64 x, .int .i64 y, .int .i64 z] 38)) hbad)
      have HR := Lib.hid (rnew_bad x y z (W.alloc (.cells #[.int .i64 x, .int .i64 y, .int .i64 z] 38)) hbad)
      clear hbad
      go_enter Try.func4, Try.ntmps4
      go_wp2_with (first
        | (go_at_call 7; refine (few_yes _ _ _ _ (by exact hl0) hf).mono ?_; rintro e w' ⟨rfl, rfl⟩)
        | (go_at_call 9; refine HB.out.mono ?_; rintro e w' ⟨rfl, rfl⟩)
        | (go_at_call 15; refine HR.out.mono ?_; rintro e w' ⟨rfl, rfl⟩)
        | (go_at_call 8; refine (awake_calls _ (keep W) (by exact H0)).mono ?_; rintro e w' ⟨rfl, H, R⟩))
      go_ret
      exact ⟨rfl, Ran.whole' (R0.trans R) H⟩
    · obtain ⟨q, rfl⟩ : ∃ k : Nat, x = (k : Int) := ⟨x.toNat, by omega⟩
      obtain ⟨m, rfl⟩ : ∃ k : Nat, y = (k : Int) := ⟨y.toNat, by omega⟩
      obtain ⟨c, rfl⟩ : ∃ k : Nat, z = (k : Int) := ⟨z.toNat, by omega⟩
      have hq : q ≤ 1048576 := by omega
      have hm : m ≤ 65536 := by omega
      have hc : 1 ≤ c := by omega
      have hc2 : c ≤ 65536 := by omega
      have hl40 := hf.1
      have HX := (Sat.start W).alloc (.cells #[.int .i64 q, .int .i64 m, .int .i64 c] 38)
      clear hbad hx hy hz
      go_enter Try.func4, Try.ntmps4
      go_wp2_with (first
        | (go_at_call 7; refine (few_yes _ _ _ _ (by exact hl0) hf).mono ?_; rintro e w' ⟨rfl, rfl⟩)
        | (go_at_call 9; refine (xnew q m c _ _ (by exact HX) (by omega) (by omega) (by omega) (by omega)).mono ?_; rintro e w1 ⟨bp, rfl, H1, R1⟩; have C0 := cell_at H1.right.get)
        | (go_at_call 15; refine (rnew_good q m c w1 _ (by exact H1) (by omega) (by omega) (by omega) (by omega)).mono ?_; rintro e w2 ⟨rp, rfl, H2, R2⟩))
      have HP : PH bp rp q m c 0 0 0 none none [] [] (keep W) w2 := by
        unfold PH RS
        have h5 := (H2.perm (show _ = pts W.heap.size (.cells #[.int .i64 q, .int .i64 m, .int .i64 c] 38 (0, 0)) * (poolX bp q m c 0 0 0 0 * (rpool rp q m c 0 none [] * keep W)) by ac_rfl)).right
        refine h5.perm ?_
        show _ = poolX bp q m c 0 0 0 0 * (emp * (arr 29 1 none 0 0 [] * (rpool rp q m c 0 none [] * (emp * keep W))))
        rw [arr_nil, emp_sep, emp_sep, emp_sep]
      have HR := (R0.trans R1).trans R2
      clear H2 H1 HX H0 R0 R1 R2 C0 hl0
      go_loopg [9, 10] (l.length) (PRel bp rp q m c W l)
      case atStart => exact ⟨0, by omega, rfl, [], 0, 0, 0, none, none, rfl, by simp, ⟨hc, hc2, hm, hq, by omega, by omega, by simp, by simp [sumOf], by simp [sumOf], by simp⟩, HP, HR⟩
      case round =>
        clear HP HR
        obtain ⟨i, hik, rfl, L, tot, capA, capR, pA, pR, rfl, hLi, N, HP, HR⟩ := hrel
        by_cases hi : i < l.length
        · obtain ⟨ok, b, o, rfl, hb, g0, g1, g2, g3⟩ := hl i hi
          have hat : ∀ w' : World, (∀ k, k < W.heap.size → w'.heap[k]? = W.heap[k]?) → ∀ j, w'.cell? ⟨b, j, none⟩ = W.cell? ⟨b, j, none⟩ := fun w' hk j => World.cell?_of_block (w := W) (hk b hb)
          have h0 := (hat wr HP.frame.kept _).trans g0
          have h1 := (hat wr HP.frame.kept _).trans g1
          have h2 := (hat wr HP.frame.kept _).trans g2
          have h3 := (hat wr HP.frame.kept _).trans g3
          have hdd := hf.2 l[i] (List.getElem_mem hi)
          have hlt : (i : Int) < l.length := by omega
          have hi0 : (0 : Int) ≤ i := by omega
          have hN : l[i].n ≤ 9223372036854775807 := ok.2.2.1.2
          have hA : I64 l[i].at_ := ok.2.1
          generalize l[i].data = d at *
          generalize l[i].n = dn at *
          generalize l[i].ask = ask at *
          generalize l[i].at_ = at_ at *
          have hm1 : -4 < ask.tmod 4 := by have := Int.lt_tmod_of_pos ask (show (0 : Int) < 4 by omega); omega
          have hm2 : ask.tmod 4 < 4 := Int.tmod_lt_of_pos ask (by omega)
          have Hik := Lib.hid hik
          have Hl := Lib.hid hl
          have Hf := Lib.hid hf
          clear hat g0 g1 g2 g3 hik hl hf ok
          have HPa : Sat (wr.alloc (.cells #[.int .i64 ask, .int .i64 at_, .int .i64 dn, .string ⟨d.toArray⟩] 34)) (pts wr.heap.size (.cells #[.int .i64 ask, .int .i64 at_, .int .i64 dn, .string ⟨d.toArray⟩] 34 (0, 0)) * _) := Sat.alloc HP _
          have HRa := Ran.new HR (.cells #[.int .i64 ask, .int .i64 at_, .int .i64 dn, .string ⟨d.toArray⟩] 34)
          obtain ⟨ob, hob⟩ : ∃ ob, ob = wr.heap.size := ⟨_, rfl⟩
          rw [← hob] at HPa
          have HPb : PH bp rp q m c tot capA capR pA pR L L (pts ob (.cells #[.int .i64 ask, .int .i64 at_, .int .i64 dn, .string ⟨d.toArray⟩] 34 (0, 0)) * keep W) (wr.alloc (.cells #[.int .i64 ask, .int .i64 at_, .int .i64 dn, .string ⟨d.toArray⟩] 34)) := by
            unfold PH RS at *
            exact HPa.perm (by ac_rfl)
          clear HPa
          have hr : ask.tmod 4 % 4 = 0 ∨ ask.tmod 4 % 4 = 1 ∨ ask.tmod 4 % 4 = 2 ∨ ask.tmod 4 % 4 = 3 := by omega
          rcases hr with hr | hr
          ·
            clear Hl Hf HP HR hN hA hdd hb
            go_wp2_with fail
            clear h0 h1 h2 h3
            refine (p_open N (by exact HPb)).mono ?_
            rintro e w2 ⟨ba, rfl, H2, R2⟩
            have H3 : Sat (w2.alloc (.cells #[.pointer (some ⟨ba, 0, none⟩)] 29)) (arr 29 1 pA L.length capA (L.map sptr) * _) := H2.old _
            have Hc : (w2.alloc (.cells #[.pointer (some ⟨ba, 0, none⟩)] 29)).cell? ⟨w2.heap.size, 0, none⟩ = some (.pointer (some ⟨ba, 0, none⟩)) := by simp
            have HC := Lib.hid Hc
            have HR2 := Ran.new (HRa.trans R2) (.cells #[.pointer (some ⟨ba, 0, none⟩)] 29)
            clear Hc H2 HPb R2 HRa hob
            go_wp2_with (at_builtin; refine app42 rfl _ _ rfl pA L.length capA _ rfl w2.heap.size (.pointer (some ⟨ba, 0, none⟩)) rfl H3 HC.out rfl (by omega) ?_; intro p' cap' w3 HS' HR'; clear H3 HC)
            refine (r_open N (by exact HS')).mono ?_
            rintro e w4 ⟨rb, capR', pR', rfl, H5, R5⟩
            go_wp2_with fail
            go_roundg (gk - 1)
            case measure => have := Hik.out; omega
            case rel =>
              refine ⟨i + 1, by have := Hik.out; omega, rfl, L ++ [⟨ba, rb, false, [], []⟩], tot, cap', capR', p', pR', by simp, by simp; omega, nums_mono (nums_snoc N (by omega)) _ (by omega) (by omega), PH.dropR H5, (HR2.trans HR').trans R5⟩
          · by_cases hL0 : L.length = 0
            ·
              obtain rfl : L = [] := List.eq_nil_of_length_eq_zero hL0
              have hz1 : ((ask.tmod 4 + 4) % 4 == (0 : Int)) = false := by rw [beq_eq_false_iff_ne]; omega
              have hz2 : (ask.tmod 4 % 4 == (0 : Int)) = false := by rw [beq_eq_false_iff_ne]; omega
              clear Hl Hf HP HR hN hA hdd hb hr hL0
              go_wp2_with fail
              clear h0 h1 h2 h3
              refine (p_open N (by exact HPb)).mono ?_
              rintro e w2 ⟨ba, rfl, H2, R2⟩
              have H3 : Sat (w2.alloc (.cells #[.pointer (some ⟨ba, 0, none⟩)] 29)) (arr 29 1 pA 0 capA [] * _) := H2.old _
              have Hc : (w2.alloc (.cells #[.pointer (some ⟨ba, 0, none⟩)] 29)).cell? ⟨w2.heap.size, 0, none⟩ = some (.pointer (some ⟨ba, 0, none⟩)) := by simp
              have HC := Lib.hid Hc
              have HR2 := Ran.new (HRa.trans R2) (.cells #[.pointer (some ⟨ba, 0, none⟩)] 29)
              clear Hc H2 HPb R2 HRa hob
              go_wp2_with (at_builtin; refine app42 rfl _ _ rfl pA 0 capA _ rfl w2.heap.size (.pointer (some ⟨ba, 0, none⟩)) rfl H3 HC.out rfl (by omega) ?_; intro p' cap' w3 HS' HR'; clear H3 HC)
              refine (r_open N (by exact HS')).mono ?_
              rintro e w4 ⟨rb, capR', pR', rfl, H5, R5⟩
              go_wp2_with fail
              go_roundg (gk - 1)
              case measure => have := Hik.out; omega
              case rel =>
                refine ⟨i + 1, by have := Hik.out; omega, rfl, [⟨ba, rb, false, [], []⟩], tot, cap', capR', p', pR', by simp, by simp, nums_mono (nums_snoc N (by simp)) _ (by omega) (by omega), PH.dropR H5, (HR2.trans HR').trans R5⟩
            · have hz1 : ((ask.tmod 4 + 4) % 4 == (0 : Int)) = false := by rw [beq_eq_false_iff_ne]; omega
              have hz2 : (ask.tmod 4 % 4 == (0 : Int)) = false := by rw [beq_eq_false_iff_ne]; omega
              have hz3 : ((L.length : Int) == (0 : Int)) = false := by rw [beq_eq_false_iff_ne]; omega
              have hz4 : (L.length == 0) = false := by rw [beq_eq_false_iff_ne]; omega
              have hL41 := N.hl
              have hLp : 0 < L.length := by omega
              clear HP HR hL0
              go_wp2_with fail
              clear h0 h1 h2 h3 hb
              refine (which_calls ask at_ dn (.string ⟨d.toArray⟩) L.length _ (by omega) (by omega) hA).mono ?_
              rintro e w2 ⟨⟨k, hk, rfl⟩, R2, K2⟩
              have HP2 : PH bp rp q m c tot capA capR pA pR L L (pts ob (.cells #[.int .i64 ask, .int .i64 at_, .int .i64 dn, .string ⟨d.toArray⟩] 34 (0, 0)) * keep W) w2 := K2 _ HPb
              have HR2 := HRa.trans R2
              clear K2 HPb HRa R2 hA
              obtain ⟨hr0, hrl, hrB⟩ := rpool_at HP2.ref
              obtain ⟨rc0, rc1, rc2, rc3, _⟩ := rpo_cells hr0
              obtain ⟨rb0, ro, rfl, hr1, hr2⟩ := hrB k hk
              obtain ⟨pb, po, rfl, hx1⟩ := PH.xcell HP2 hk
              have hk0 : (0 : Int) ≤ k := by omega
              have hkl : (k : Int) < L.length := by omega
              clear hr0 hrl hrB rc0 rc1 rc2 hr2
              rw [← hob]
              clear hob hz1 hz2 hz3 hz4
              obtain ⟨xa, hxa⟩ : ∃ xa, xa = L[k].ba := ⟨_, rfl⟩
              obtain ⟨yb, hyb⟩ : ∃ yb, yb = L[k].rb := ⟨_, rfl⟩
              rw [← hxa] at hx1
              rw [← hyb] at hr1
              have Hxa := Lib.hid hxa
              have Hyb := Lib.hid hyb
              clear hxa hyb
              go_upto_block 2 with (fail)
              generalize ask.tmod 4 % 4 = rr at *
              go_cut [16, 17, 18, 19] from 101 to 142 (fun _ _ _ _ wx => PMid bp rp q m c i k xa yb (pts ob (.cells #[.int .i64 ask, .int .i64 at_, .int .i64 dn, .string ⟨d.toArray⟩] 34 (0, 0)) * keep W) W (some ⟨pb, po, none⟩) capA L.length wx)
              case first =>
                have o3 : w2.cell? ⟨ob, 3, none⟩ = some (.string ⟨d.toArray⟩) := cell_at HP2.frame.get 3
                have o2 : w2.cell? ⟨ob, 2, none⟩ = some (.int .i64 dn) := cell_at HP2.frame.get 2
                have hX1 := HP2.isOpen hk
                have hR1 := HP2.rcell hk
                have gh := sum_get Bf.h L k hk
                have gs := N.hs L[k] (List.getElem_mem hk)
                have sh := fun x => sum_set_eq Bf.h L k hk x
                obtain ⟨x0, hx0⟩ : ∃ x0, L[k] = x0 := ⟨_, rfl⟩
                obtain ⟨ba, rb, cld, pre, data⟩ := x0
                obtain rfl : xa = ba := by rw [Hxa.out, hx0]
                obtain rfl : yb = rb := by rw [Hyb.out, hx0]
                rw [hx0] at hX1 hR1 gh gs sh
                simp only [Bf.h] at gh sh gs
                have hX1' : w2.cell? ⟨xa, 1, none⟩ = some (.bool cld) := hX1
                have Hx0 := Lib.hid hx0
                have HPd : PH bp rp q m c tot capA capR (some ⟨pb, po, none⟩) (some ⟨rb0, ro, none⟩) L L (pts ob (.cells #[.int .i64 ask, .int .i64 at_, .int .i64 dn, .string ⟨d.toArray⟩] 34 (0, 0)) * keep W) w2.drew := Sat.drew HP2
                have HX1 := Lib.hid hX1'
                have HR1 := Lib.hid hR1
                have Gh := Lib.hid gh
                have Sh := Lib.hid sh
                have hhq := N.hh
                have hhB := N.hh2
                have hBB := N.hB
                have htB := N.ht
                have hi1 : 300 * (i + 1) ≤ 12300 := by omega
                clear hx0 Hxa Hyb hX1 hX1' hR1 gh sh rc3 hr1 hx1 Hl Hf
                rcases hr with rfl | rfl | rfl
                · cases cld
                  · by_cases hfit : sumOf Bf.h L + d.length ≤ q
                    ·
                      go_wp2_with fail
                      have hset : (L.set k ⟨xa, yb, false, pre, data ++ d⟩)[k]? = some ⟨xa, yb, false, pre, data ++ d⟩ := List.getElem?_set_self hk
                      have HPd2 := Lib.hid HPd
                      go_region_held3 (fun w' => w'.cell? ⟨ob, 3, none⟩ = some (.string ⟨d.toArray⟩)) (first | exact cell_at (PH.frame H4).get 3 | exact cell_at (PH.frame H3).get 3 | go_keep)
                        (first
                          | (go_at_call 13; refine (p_append N hk Hx0.out hdd hfit (by exact HPd)).mono ?_; rintro e w3 ⟨rfl, H3, R3⟩)
                          | (go_at_call 18; refine (r_append N hk Hx0.out hdd hfit (by exact H3)).mono ?_; rintro e w4 ⟨rfl, H4, R4⟩))
                      go_wp2_with fail
                      go_meet
                      exact ⟨L.set k ⟨xa, yb, false, pre, data ++ d⟩, tot + d.length, capR, _, by simpa using hk, by simp, by simp, by simp, nums_set' N (tot + d.length) _ k hk Hx0.out ⟨xa, yb, false, pre, data ++ d⟩ (by omega) (by omega) (by omega) (by simp; omega) (by simp [Bf.h]; omega) (by simp [Bf.h]; omega), H4, (Ran.drewN HR2 1).trans (R3.trans R4)⟩
                    ·
                      go_wp2_with fail
                      go_region_held3 (fun w' => w'.cell? ⟨ob, 3, none⟩ = some (.string ⟨d.toArray⟩)) (first | exact o3 | go_keep)
                        (first
                          | (go_at_call 13; refine (p_append_full N hk Hx0.out hdd (by omega) (by exact HPd)).mono ?_; rintro e w3 ⟨rfl, n3, rfl⟩)
                          | (go_at_call 18; refine (r_append_full N hk Hx0.out hdd (by omega) (by exact HPd.drewN n3)).mono ?_; rintro e w4 ⟨rfl, n4, rfl⟩))
                      go_wp2_with fail
                      go_meet
                      exact ⟨L, tot, capR, _, hk, by rw [Hx0.out], by rw [Hx0.out], rfl, nums_mono N _ (by omega) (by omega), HP2.drewN _, Ran.drewN HR2 _⟩
                  ·
                    go_wp2_with fail
                    go_region_held3 (fun w' => w'.cell? ⟨ob, 3, none⟩ = some (.string ⟨d.toArray⟩)) (first | exact o3 | go_keep)
                      (first
                        | (go_at_call 13; refine (append_closed _ _ xa (by exact HX1.out)).mono ?_; rintro e w3 ⟨rfl, rfl⟩)
                        | (go_at_call 18; refine (rappend_closed ⟨xa, yb, true, pre, data⟩ rp _ _ (by exact HR1.out) rfl).mono ?_; rintro e w4 ⟨rfl, rfl⟩))
                    go_wp2_with fail
                    go_meet
                    exact ⟨L, tot, capR, _, hk, by rw [Hx0.out], by rw [Hx0.out], rfl, nums_mono N _ (by omega) (by omega), HP2.drewN _, Ran.drewN HR2 _⟩
                · cases cld
                  · by_cases hn : dn < 0
                    ·
                      go_wp2_with fail
                      refine (drain_neg dn _ xa (by exact HX1.out) hn).mono ?_
                      rintro e w3 ⟨rfl, rfl⟩
                      go_wp2_with fail
                      refine (rdrain_neg ⟨xa, yb, false, pre, data⟩ dn _ (by exact HR1.out) rfl hn).mono ?_
                      rintro e w3 ⟨rfl, rfl⟩
                      go_wp2_with fail
                      go_meet
                      exact ⟨L, tot, capR, _, hk, by rw [Hx0.out], by rw [Hx0.out], rfl, nums_mono N _ (by omega) (by omega), HP2, HR2⟩
                    ·
                      obtain ⟨n, rfl⟩ : ∃ n : Nat, dn = (n : Int) := ⟨dn.toNat, by omega⟩
                      obtain ⟨g, hg⟩ : ∃ g, g = min n data.length := ⟨_, rfl⟩
                      have hgd : g ≤ data.length := by omega
                      have Hg := Lib.hid hg
                      clear hg
                      go_wp2_with fail
                      refine (p_drain N hk Hx0.out hN Hg.out (by exact HP2)).mono ?_
                      rintro e w3 ⟨rfl, H3, R3⟩
                      have o2' : w3.cell? ⟨ob, 2, none⟩ = some (.int .i64 n) := cell_at (PH.frame H3).get 2
                      go_wp2_with fail
                      refine (r_drain N hk Hx0.out hN Hg.out (by exact H3)).mono ?_
                      rintro e w4 ⟨rfl, H4, R4⟩
                      have hkl : (data.take g).length = g := by rw [List.length_take]; omega
                      go_wp2_with fail
                      go_meet
                      exact ⟨L.set k ⟨xa, yb, false, pre ++ data.take g, data.drop g⟩, tot, capR, _, by simpa using hk, by simp, by simp, by simp, nums_set' N tot _ k hk Hx0.out ⟨xa, yb, false, pre ++ data.take g, data.drop g⟩ (by omega) (by omega) (by omega) (by simp only [List.length_append, List.length_take, List.length_drop]; omega) (by simp only [Bf.h, List.length_drop]; simp; omega) (by simp only [Bf.h, List.length_drop]; simp; omega), H4, HR2.trans (R3.trans R4)⟩
                  ·
                    go_wp2_with fail
                    refine (drain_closed dn _ xa (by exact HX1.out)).mono ?_
                    rintro e w3 ⟨rfl, rfl⟩
                    go_wp2_with fail
                    refine (rdrain_closed ⟨xa, yb, true, pre, data⟩ dn _ (by exact HR1.out) rfl).mono ?_
                    rintro e w3 ⟨rfl, rfl⟩
                    go_wp2_with fail
                    go_meet
                    exact ⟨L, tot, capR, _, hk, by rw [Hx0.out], by rw [Hx0.out], rfl, nums_mono N _ (by omega) (by omega), HP2, HR2⟩
                · cases cld
                  ·
                    go_wp2_with fail
                    refine (p_close N hk Hx0.out (by exact HP2)).mono ?_
                    rintro e w3 ⟨rfl, H3, R3⟩
                    go_wp2_with fail
                    refine (r_close hk Hx0.out (by exact H3)).mono ?_
                    rintro e w4 ⟨rfl, H4, R4⟩
                    go_wp2_with fail
                    go_meet
                    exact ⟨L.set k ⟨xa, yb, true, pre, data⟩, tot, capR, _, by simpa using hk, by simp, by simp, by simp, nums_set' N tot _ k hk Hx0.out ⟨xa, yb, true, pre, data⟩ (by omega) (by omega) (by omega) (by simp; omega) (by simp [Bf.h]; omega) (by simp [Bf.h]; omega), H4, HR2.trans (R3.trans R4)⟩
                  ·
                    go_wp2_with fail
                    refine (close_closed _ xa (by exact HX1.out)).mono ?_
                    rintro e w3 ⟨rfl, rfl⟩
                    go_wp2_with fail
                    refine (rclose_closed ⟨xa, yb, true, pre, data⟩ _ (by exact HR1.out) rfl).mono ?_
                    rintro e w3 ⟨rfl, rfl⟩
                    go_wp2_with fail
                    go_meet
                    exact ⟨L, tot, capR, _, hk, by rw [Hx0.out], by rw [Hx0.out], rfl, nums_mono N _ (by omega) (by omega), HP2, HR2⟩
              case rest =>
                clear HP2 HR2 rc3 hr1 hx1 hdd hm1 hm2 hN N Hxa Hyb hk hkl hLp hr
                obtain ⟨L2, tot2, capR2, pR2, hk, e1, e2, e3, N, HP, HR⟩ := hcut
                have L1 := p_len N hk HP
                have L2r := fun n => r_len N hk (HP.drewN n)
                rw [e1] at L1
                simp only [e2] at L2r
                have Hlen := Lib.hid L1
                have Hlenr := Lib.hid L2r
                have E3 := Lib.hid e3
                clear L1 L2r e1 e2 e3
                go_wp2_with fail
                refine Hlen.out.mono ?_
                rintro e w3 ⟨rfl, n1, rfl⟩
                go_wp2_with fail
                refine (Hlenr.out n1).mono ?_
                rintro e w3 ⟨rfl, n2, rfl⟩
                go_wp2_with fail
                refine (p_held (by exact HP.drewN _)).mono ?_
                rintro e w3 ⟨rfl, rfl⟩
                go_wp2_with fail
                refine (r_held N (by exact HP.drewN _)).mono ?_
                rintro e w3 ⟨rfl, n3, rfl⟩
                go_wp2_with fail
                refine (p_chunks (by exact HP.drewN _)).mono ?_
                rintro e w3 ⟨rfl, rfl⟩
                go_wp2_with fail
                refine (r_chunks N (by exact HP.drewN _)).mono ?_
                rintro e w3 ⟨rfl, n4, rfl⟩
                go_wp2_with fail
                refine (p_buffers (by exact HP.drewN _)).mono ?_
                rintro e w3 ⟨rfl, rfl⟩
                go_wp2_with fail
                refine (r_buffers N (by exact HP.drewN _)).mono ?_
                rintro e w3 ⟨rfl, n5, rfl⟩
                go_wp2_with fail
                go_roundg (gk - 1)
                case measure => have := Hik.out; omega
                case rel => exact ⟨i + 1, by have := Hik.out; omega, rfl, L2, tot2, capA, capR2, _, _, by rw [E3.out], by have := E3.out; omega, N, PH.dropR (HP.drewN _), Ran.drewN HR _⟩
        · have hge : ¬ ((i : Int) < l.length) := by omega
          clear hl hf hLi
          go_wp2_with fail
          refine (awake_calls _ (keep W) (by exact HP.frame)).mono ?_
          rintro e w4 ⟨rfl, H4, R4⟩
          go_wp2_with fail
          go_ret
          exact ⟨rfl, Ran.whole' (HR.trans R4) H4⟩
  · go_enter Try.func4, Try.ntmps4
    go_wp2_with (first
      | (go_at_call 7; refine (few_no _ _ _ _ (by exact hl0) hf).mono ?_; rintro e w' ⟨rfl, rfl⟩)
      | (go_at_call 8; refine (awake_calls _ (keep W) (by exact H0)).mono ?_; rintro e w' ⟨rfl, H, R⟩))
    go_ret
    exact ⟨rfl, Ran.whole' (R0.trans R) H⟩
set_option maxRecDepth 100000 in
theorem lifted (os : Os) (started : os.Started) (H : Type) (enc : TypeId × Value → H) :
    ReturnsInHanded {} Try.checked os 4 .any (Rows.spillPlaysSpec.pre6 enc Try.prog Try.f4 Rows.spillPlaysRow.domain false) (Rows.spillPlaysSpec.post enc Try.prog Try.f4 false true false false) := by
  refine returnsInHanded_of_change (C := Try.checked) own started (by kernel_rfl) Try.func4
    (ChangeSpec.witness6 (enc := enc) (C := Try.checked) false ⟨#[], #[.slice none 0 0, .agg #[.int .i64 0, .int .i64 0, .int .i64 0]], []⟩ 8 (by kernel_rfl) (by kernel_rfl) (by kernel_rfl) (by kernel_rfl)) ?_
  intro W base args ds gs before hval0 hW hcnd _
  have hval : ∀ (j : Nat) t v, Try.f4.params[j]? = some t → args[j]? = some v → Value.okWide Try.prog W .any base t v := hval0
  have hW' := hW
  obtain ⟨p, q, hA0, hV, rfl, hfz, hnd⟩ := hW
  have hA : DataW.TrodAll enc Try.prog W 0 (fun _ => true) true Try.f4.params.toList args.toList ds p := hA0
  rw [Try.params4] at hA hval
  obtain ⟨v0, vs0, d0, ds0, p0, q0, hargs, rfl, rfl, h0, r0⟩ := trodAll_cons hA
  obtain ⟨v1, vs1, d1, ds1, p1, q1, rfl, rfl, rfl, h1, r1⟩ := trodAll_cons r0
  obtain ⟨rfl, rfl, rfl⟩ := trodAll_nil r1
  obtain rfl : args = #[v0, v1] := by cases args; simp_all
  obtain ⟨rfl, rfl⟩ := trodVars_none hV
  have k0 := h0
  have lt0 : ∀ x ∈ p0, x.block < W.heap.size := by obtain ⟨m, hm⟩ := k0; exact DataW.trod_lt m _ _ _ hm
  obtain ⟨ao0, l0, cap0, rfl, w0⟩ := ops_open (hval 0 22 v0 rfl rfl) h0
  obtain ⟨x1, y1, z1, rfl, rfl, rfl, wx1, wy1, wz1⟩ := open_arr3 Try.underlying38 Try.underlying3 (by kernel_rfl) (by kernel_rfl) (hval 1 38 v1 rfl rfl) h1
  clear hA0 hval0
  refine (walk ao0 cap0 l0 x1 y1 z1 W w0 (i64_of wx1) (i64_of wy1) (i64_of wz1)).mono fun e W' ⟨he, bel⟩ => ?_
  subst he
  exact ⟨_, rfl, _, _, _, [], _, [], hW', trodAll_mk1 (shut_bool Try.underlying4 _), (trodAll_cons_mk (Below.trod laidOut (by kernel_rfl) (of_decide_eq_true (by kernel_rfl)) k0 bel lt0) (trodAll_cons_mk (shut_arr3 Try.underlying38 Try.underlying3 (by kernel_rfl) (by kernel_rfl) wx1 wy1 wz1) trodAll_mk0)), rfl, bel.frame _, fun h => by cases h⟩

theorem over : Rows.spillPlaysRow.holds Try.pinned (OpenSpec.ofChange Rows.spillPlaysSpec) :=
  OpenClaim.holds_of_wide 4 Try.f4 rfl rfl rfl rfl rfl rfl rfl ⟨rfl, rfl, rfl, rfl, rfl⟩ rfl rfl rfl rfl rfl (by kernel_rfl) Try.func4 (by kernel_rfl)
    (of_decide_eq_true (by kernel_rfl)) (by unfold Func.isWrapper; first | (rw [if_pos (by decide +kernel)]; kernel_rfl) | (rw [if_neg (by decide +kernel)]; exact ⟨rfl, rfl⟩))
    (fun os started H enc _ => lifted os started H enc)

theorem proved : Rows.SpillPlaysSaid := over
#print axioms proved
end Go.Proofs.Ytgaeafhkepfgjaa.spillPlays
