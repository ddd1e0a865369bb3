/- 'All' of globs, walked. -/
import Derived.Test.YtjbdpahdhlmanaaGlAm
import Derived.Test.YtjbdpahdhlmanaaGlAn
import Derived.Test.YtjbdpahdhlmanaaGlO
import Derived.Shelf.Abstract
namespace Go.Proofs.Ytjbdpahdhlmanaa.Globs
open Go.RowKit Go.Proofs.Ytjbdpahdhlmanaa Go.Proofs.Ytjbdpahdhlmanaa.Hp
set_option linter.unusedVariables false
attribute [local go_sem] Oper.semAt_some

/-- An append to an owned slice, inside a fence. -/
theorem appStrIn {F : Fence} {n0 : Nat} {w : World} {H : Hp} {ops : Array Oper} {rest : List Oper} {o : Oper} {a : Act} {Q : Exit → Act → World → Prop} (hgd : o.guard = none) (s x : Operand)
    (ho : o.op = .call { callee := .builtin .append, args := #[s, x], argTypes := #[47, 47] })
    (p : Option Addr) (n cap : Nat) (xs : List Value) (hp : a.eval s = .slice p n cap) (b : Nat) (hvx : a.eval x = .slice (some ⟨b, 0, none⟩) 1 1) (h : Sat w (arr 9 1 p n cap xs * H)) (v : Value) (hb : w.heap[b]? = some (.cells #[v] 9 (0, 0))) (h0 : v.oneCell' = true) (hn : n ≤ 1000000000)
    (hk : ∀ p' cap' w', Sat w' (arr 9 1 p' (n + 1) cap' (xs ++ [v]) * H) → Ran w w' → wpListIn F n0 Try.prog ops Q rest (a.put o.dst (.slice p' (n + 1) cap')) w') : wpListIn F n0 Try.prog ops Q (o :: rest) a w := by
  obtain ⟨i0, hi, hz0, hz1, hz2⟩ := info_parts infoStr
  refine wpListIn_plain hgd fun K hK' => ?_
  obtain ⟨p', cap', w', hr, h1, h2, _⟩ := run_append_arr (P := Try.prog) 47 47 o.type 9 i0 _ 1 16 Try.underlying47 hi hz0 hz1 hz2 rfl p n cap xs h (.slice (some ⟨b, 0, none⟩) 1 1) 1 [v] (Src.ofSlice w Try.underlying47 ⟨b, 0, none⟩ 1 1 [v] (by rw [hz1]; rfl) (by
    intro j u hj
    rw [Addr.add_lit, Nat.zero_add, cell_at hb, ← hj]
    simp) (by simp [h0])) (by omega) (by unfold maxLen; omega)
  unfold Oper.wpIn
  refine ⟨?_, ?_⟩
  · simp [Oper.about, ho, resolve, Target.leads, Sem.run_pure]
  · rw [Oper.semAt_plain F _ _ (by rw [ho]; intro c hc'; cases hc')]
    simp [execOp, ho, resolve, invoke, builtin, hp, hvx, hr, Result.andThen]
    exact hK' _ _ (hk p' cap' w' h1 h2)
def StrsAt (w : World) (q : Option Addr) (l : List ByteArray) : Prop := (l.length : Int) ≤ 9223372036854775807 ∧ ∀ i (h : i < l.length), ∃ b o, q = some ⟨b, o, none⟩ ∧ b < w.heap.size ∧ w.cell? ⟨b, o + i, none⟩ = some (.string l[i])
theorem StrsAt.keep {W w : World} {q : Option Addr} {l : List ByteArray} (h : StrsAt W q l) (k : Kept W w) : StrsAt w q l :=
  ⟨h.1, fun i hi => by
    obtain ⟨b, o, e, hb, h0⟩ := h.2 i hi
    exact ⟨b, o, e, Nat.lt_of_lt_of_le hb k.1, by rw [k.cell hb]; exact h0⟩⟩
theorem strsAt_nil (w : World) : StrsAt w none [] := ⟨by simp, fun i h => by simp at h⟩
theorem strsAt_arr {w : World} {R : Hp} {p : Option Addr} {cap : Nat} {l : List ByteArray} (h : Sat w (strs p cap l * R)) : StrsAt w p l := by
  obtain ⟨h1, h2, h3⟩ := h.arr_len
  refine ⟨by unfold maxLen at h3; omega, fun i hi => ?_⟩
  obtain ⟨b, o, rfl, hc⟩ := strs_cell h i hi
  obtain ⟨cur, _, _, _, _, _, _, hh⟩ := h.arr_some
  exact ⟨b, o, rfl, hh.lt, hc⟩
def AllPost (l : List ByteArray) (er : Int) (w : World) (e : Ending) (w' : World) : Prop := ∃ q cap, e = .returned (.tuple #[.slice q l.length cap, .int .i64 er]) ∧ StrsAt w' q l ∧ Below w.heap.size w w'
theorem texts_calls (al : ByteArray) (most : Int) (w : World) :
    Calls Try.prog 40 #[.string al, .int .i64 most] w fun e w' => e = .returned (.func (.func 49) #[] #[.pointer (some ⟨w.heap.size + 1, 0, none⟩), .pointer (some ⟨w.heap.size, 0, none⟩)]) ∧ w' = (w.alloc (.cells #[.string al] 9 (0, 0))).alloc (.cells #[.int .i64 most] 3 (0, 0)) := by
  go_enter Try.func40, Try.ntmps40
  go_wp2_with fail
  go_ret
  exact ⟨rfl, rfl⟩
def A1Rel (al : ByteArray) (w1 : World) (g : Nat) (nv iv : Value) (wr : World) : Prop := ∃ i m : Nat, i + g = al.size ∧ nv = .int .i64 (i : Int) ∧ (∀ j, j < i → dupAt al j = false) ∧ wr = w1.drewN m
def A2Rel (al : ByteArray) (m : Nat) (w1 : World) (g : Nat) (mv rv nv : Value) (wr : World) : Prop := ∃ n : Nat, n + g = m + 1 ∧ mv = .int .i64 ((txtL al n).length : Int) ∧ rv = .int .i64 ((levL al n).length : Int) ∧ nv = .int .i64 (n : Int) ∧ (txtL al n).length ≤ 4096 ∧ (levL al n).length ≤ 1228800 ∧ wr = w1
def outF (p : List Itm) (l : List ByteArray) : List ByteArray := l.filter fun s => matchB p (bs s)
/-- Between two rounds. -/
def AOut (p : List Itm) (ob : Nat) (pre : List ByteArray) : Hp :=
  ex fun q : Option Addr × Nat => pts ob (.cells #[.slice q.1 (outF p pre).length q.2] 47 (0, 0)) * strs q.1 q.2 (outF p pre)
def AInv (p : List Itm) (ap : Option Addr) (cp : Nat) (w : World) (pb ob : Nat) (pre : List ByteArray) : Hp := AOut p ob pre * (pts pb (.cells #[.slice ap p.length cp] 24 (0, 0)) * keep w)
set_option maxRecDepth 100000 in
set_option maxHeartbeats 4000000 in
theorem all_calls (p : List Itm) (al : ByteArray) (most : Int) (ap : Option Addr) (cp : Nat) (w : World) (h : ItemsAt w ap p) (ha : al.size ≤ 300) (hmost : I64 most) :
    Calls Try.prog 30 #[.slice ap p.length cp, .string al, .int .i64 most] w (AllPost (allL p al most) (allE al most) w) := by
  have hal : (al.size : Int) ≤ 300 := by omega
  obtain ⟨hmo1, hmo2⟩ := hmost
  refine calls_of_wp_marks Try.func30 rfl ?_
  simp only [Try.ntmps30, List.size_toArray, List.length_cons, List.length_nil, Nat.reduceAdd, Nat.reduceSub, Array.replicate_succ, Array.replicate_zero, List.push_toArray, List.append_toArray, List.nil_append, List.cons_append]
  go_wp2_with fail
  obtain ⟨w1, hw1⟩ : ∃ w1, w1 = w.alloc (.cells #[.slice ap p.length cp] 24 (0, 0)) := ⟨_, rfl⟩
  rw [← hw1]
  have S1 : Sat w1 (pts w.heap.size (.cells #[.slice ap p.length cp] 24 (0, 0)) * keep w) := by rw [hw1]; exact (Sat.start w).alloc _
  have R1 : Ran w w1 := by rw [hw1]; exact Ran.new (Below.refl _ _) _
  clear hw1
  go_loopg [16, 8] (al.size) (A1Rel al w1)
  case atStart => exact ⟨0, 0, by omega, rfl, fun j hj => absurd hj (Nat.not_lt_zero j), rfl⟩
  case round =>
    obtain ⟨i, m, hig, rfl, hno, rfl⟩ := hrel
    have hi0 : (0 : Int) ≤ i := by omega
    by_cases hi : i < al.size
    · have hi' : (i : Int) < al.size := by omega
      have hi1 : (i : Int) ≤ al.size := by omega
      have hdx := dup_ix al i hi
      have hix := six_calls (al.extract 0 i) (al[i].toNat : Int)
      obtain ⟨r, hr⟩ : ∃ r, r = Lib.indexByte (al.extract 0 i).data.toList ((al[i].toNat : Int).toNat.toUInt8) := ⟨_, rfl⟩
      rw [← hr] at hdx hix
      have HIX := Lib.hid hix
      have Hig := Lib.hid hig
      have Hno := Lib.hid hno
      clear hix hr hig hno
      by_cases hd : dupAt al i = true
      · have hr0 : (0 : Int) ≤ r := hdx.2 hd
        have hE := allE_dup (al := al) (most := most) ⟨i, hi, hd⟩
        have hL := all_err (p := p) hE (by decide)
        have HE := Lib.hid hE
        have HL := Lib.hid hL
        clear hdx hd hE hL
        go_wp2_with fail
        refine Go.Proofs.Ytjbdpahdhlmanaa.region_plan (S := (fun w' => True)) [(0, true), (1, true), (2, true), (3, true), (4, true), (5, true), (6, false), (7, true)] (by kernel_rfl) (by kernel_rfl) (by kernel_rfl) ?_ ?_
        · ((try dsimp only); (first | done | (trivial)))
        simp only [Go.Proofs.Ytjbdpahdhlmanaa.planOps, List.map_cons, List.map_nil, List.getElem?_toArray, List.getElem?_cons_zero, List.getElem?_cons_succ]
        repeat (first
          | ((refine Go.Proofs.Ytjbdpahdhlmanaa.plan_yes (v := ?_) (by rfl) ?_ ?_); rotate_left; (focus (intro w hSw; (try dsimp only at hSw); go_simp; try (with_reducible rfl))); (try simp only [Act.put, List.setIfInBounds_toArray, List.set_cons_zero, List.set_cons_succ]))
          | ((refine Go.Proofs.Ytjbdpahdhlmanaa.plan_no (by rfl) ?_); (try simp only [Act.put, List.setIfInBounds_toArray, List.set_cons_zero, List.set_cons_succ]))
          | ((refine Go.Proofs.Ytjbdpahdhlmanaa.plan_step (fun K hK => ?_)); (first | (refine (HIX.out _).mono ?_; rintro e w' ⟨rfl, rfl⟩) | (go_simp; (refine (HIX.out _).mono ?_; rintro e w' ⟨rfl, rfl⟩); (try go_wp2_with fail)) | go_simp); (refine hK.out _ _ ?_ (fun hHeld => ?_)); (focus ((try dsimp only); (first | done | (trivial)))); clear hK K; (try simp only [Act.put, List.setIfInBounds_toArray, List.set_cons_zero, List.set_cons_succ])))
        refine Go.Proofs.Ytjbdpahdhlmanaa.plan_done ?_
        go_wp2_with fail
        (try simp only [Exit.inBlock, Exit.then])
        refine marks_ret (results_tmp2 rfl _ _ _) rfl ?_
        exact ⟨none, 0, by rw [HE.out, HL.out]; rfl, by rw [HL.out]; exact strsAt_nil _, Ran.whole' (Below.drew (Ran.drewN R1 _)) (S1.right.drewN _).drew⟩
      · have hr0 : ¬ ((0 : Int) ≤ r) := fun e => hd (hdx.1 e)
        have Hd := Lib.hid hd
        clear hdx hd
        go_wp2_with fail
        refine Go.Proofs.Ytjbdpahdhlmanaa.region_plan (S := (fun w' => True)) [(0, true), (1, true), (2, true), (3, true), (4, true), (5, true), (6, false), (7, true)] (by kernel_rfl) (by kernel_rfl) (by kernel_rfl) ?_ ?_
        · ((try dsimp only); (first | done | (trivial)))
        simp only [Go.Proofs.Ytjbdpahdhlmanaa.planOps, List.map_cons, List.map_nil, List.getElem?_toArray, List.getElem?_cons_zero, List.getElem?_cons_succ]
        repeat (first
          | ((refine Go.Proofs.Ytjbdpahdhlmanaa.plan_yes (v := ?_) (by rfl) ?_ ?_); rotate_left; (focus (intro w hSw; (try dsimp only at hSw); go_simp; try (with_reducible rfl))); (try simp only [Act.put, List.setIfInBounds_toArray, List.set_cons_zero, List.set_cons_succ]))
          | ((refine Go.Proofs.Ytjbdpahdhlmanaa.plan_no (by rfl) ?_); (try simp only [Act.put, List.setIfInBounds_toArray, List.set_cons_zero, List.set_cons_succ]))
          | ((refine Go.Proofs.Ytjbdpahdhlmanaa.plan_step (fun K hK => ?_)); (first | (refine (HIX.out _).mono ?_; rintro e w' ⟨rfl, rfl⟩) | (go_simp; (refine (HIX.out _).mono ?_; rintro e w' ⟨rfl, rfl⟩); (try go_wp2_with fail)) | go_simp); (refine hK.out _ _ ?_ (fun hHeld => ?_)); (focus ((try dsimp only); (first | done | (trivial)))); clear hK K; (try simp only [Act.put, List.setIfInBounds_toArray, List.set_cons_zero, List.set_cons_succ])))
        refine Go.Proofs.Ytjbdpahdhlmanaa.plan_done ?_
        go_wp2_with fail
        go_roundg (gk - 1)
        case measure => have := Hig.out; omega
        case rel => exact ⟨i + 1, m + 1, by have := Hig.out; omega, by go_num, fun j hj => by
          rcases Nat.lt_or_ge j i with h4 | h4
          · exact Hno.out j h4
          · obtain rfl : j = i := by omega
            simpa using Hd.out, rfl⟩
    · have hge : ¬ ((i : Int) < al.size) := by omega
      have hnd : ¬ hasDup al := by
        rintro ⟨j, hj, hd⟩
        rw [hno j (by omega)] at hd; cases hd
      have Hnd := Lib.hid hnd
      have S2 := S1.drewN m
      have R2 := Ran.drewN R1 m
      obtain ⟨w2, hw2⟩ : ∃ w2, w2 = w1.drewN m := ⟨_, rfl⟩
      rw [← hw2] at S2 R2 ⊢
      clear hnd hno hig hw2 S1 R1
      by_cases hneg : most < 0
      · have hE := allE_neg (al := al) hneg
        have hL := all_err (p := p) hE (by decide)
        have HE := Lib.hid hE
        have HL := Lib.hid hL
        clear hE hL
        go_wp2_with fail
        (try simp only [Exit.inBlock, Exit.then])
        refine marks_ret (results_tmp2 rfl _ _ _) rfl ?_
        exact ⟨none, 0, by rw [HE.out, HL.out]; rfl, by rw [HL.out]; exact strsAt_nil _, Ran.whole' R2 S2.right⟩
      · obtain ⟨m, hm⟩ : ∃ m, m = longest al most := ⟨_, rfl⟩
        have hmz : al.size = 0 → m = 0 := fun e => by rw [hm]; unfold longest; rw [if_pos e]
        have hmn : ¬ al.size = 0 → (m : Int) = most := fun e => by rw [hm]; unfold longest; rw [if_neg e]; omega
        have Hm := Lib.hid hm
        have hm9 : (m : Int) ≤ 9223372036854775807 := by rcases Nat.eq_zero_or_pos al.size with e | e
                                                         · have := hmz e; omega
                                                         · have := hmn (by omega); omega
        have hm0 : (0 : Int) ≤ m := by omega
        have Hmz := Lib.hid hmz
        have Hmn := Lib.hid hmn
        clear hm hmz hmn
        go_upto_if 32 with fail
        go_cut [2] from 14 (fun s2 wx => s2 = .int .i64 (m : Int) ∧ w2 = wx)
        case first =>
          clear S2 R2
          by_cases hz : al.size = 0
          · have hzb : ((al.size : Int) == 0) = true := by rw [beq_iff_eq]; omega
            have h0 := Lib.hid (Hmz.out hz)
            clear hz
            go_wp2_with fail
            go_meet
            exact ⟨by rw [h0.out]; rfl, rfl⟩
          · have hzb : ((al.size : Int) == 0) = false := by rw [beq_eq_false_iff_ne]; omega
            have h0 := Lib.hid (Hmn.out hz)
            clear hz
            go_wp2_with fail
            go_meet
            exact ⟨by rw [h0.out], rfl⟩
        case rest =>
        obtain ⟨rfl, rfl⟩ := hcut
        go_wp2_with fail
        go_loopg [9, 10, 11] (m + 1) (A2Rel al m w2)
        case atStart => exact ⟨0, by omega, rfl, rfl, rfl, by simp [txtL], by simp [levL], rfl⟩
        case round =>
          obtain ⟨n, hng, rfl, rfl, rfl, htx, hlv, rfl⟩ := hrel
          have hn0 : (0 : Int) ≤ n := by omega
          by_cases hn : n ≤ m
          · have hn' : (n : Int) ≤ m := by omega
            have hn4 : n ≤ 4096 := by
              rcases Nat.eq_zero_or_pos al.size with e | e
              · have := Hmz.out e; omega
              · exact Nat.le_trans (txt_ge al e n) htx
            have hsu := txt_succ_len al n
            have hls := lev_succ_len al n
            have htm := txt_mono al (show n + 1 ≤ m + 1 by omega)
            obtain ⟨X, hX⟩ : ∃ x, x = (txtL al n).length := ⟨_, rfl⟩
            obtain ⟨Y, hY⟩ : ∃ x, x = (levL al n).length := ⟨_, rfl⟩
            rw [← hX, ← hY] at hsu
            rw [← hY] at hls
            rw [← hX] at htx ⊢
            rw [← hY] at hlv ⊢
            have hxy : (X : Int) + (Y : Int) ≤ 1300000 := by omega
            have Hng := Lib.hid hng
            have Hsu := Lib.hid hsu
            have Hls := Lib.hid hls
            have Htm := Lib.hid htm
            by_cases hmany : 4096 < X + Y
            · have hmany2 : (4096 : Int) < (X : Int) + (Y : Int) := by omega
              have hE := allE_many (al := al) (most := most) Hnd.out (by omega) (by rw [← Hm.out]; omega)
              have hL := all_err (p := p) hE (by decide)
              have HE := Lib.hid hE
              have HL := Lib.hid hL
              clear hE hL hsu hls htm hX hY hng hmany
              go_wp2_with fail
              (try simp only [Exit.inBlock, Exit.then])
              refine marks_ret (results_tmp2 rfl _ _ _) rfl ?_
              exact ⟨none, 0, by rw [HE.out, HL.out]; rfl, by rw [HL.out]; exact strsAt_nil _, Ran.whole' R2 S2.right⟩
            · have hmany2 : ¬ ((4096 : Int) < (X : Int) + (Y : Int)) := by omega
              have hle : Y * al.size ≤ 1228800 := Nat.le_trans (Nat.mul_le_mul (show Y ≤ 4096 by omega) ha) (by decide)
              have hmul : (Y : Int) * (al.size : Int) = ((Y * al.size : Nat) : Int) := by rw [Int.natCast_mul]
              have hle2 : (Y : Int) * (al.size : Int) ≤ 1228800 := by rw [hmul]; omega
              have hge2 : (0 : Int) ≤ (Y : Int) * (al.size : Int) := by rw [hmul]; omega
              have Hmul := Lib.hid hmul
              have Hle := Lib.hid hle
              have Hmany := Lib.hid hmany
              clear hsu hls htm hX hY hng hmany hmul hle
              go_wp2_with fail
              go_roundg (gk - 1)
              case measure => have := Hng.out; omega
              case rel => exact ⟨n + 1, by have := Hng.out; omega, by rw [Hsu.out]; rfl, by rw [Hls.out, Hmul.out], by go_num, by rw [Hsu.out]; have := Hmany.out; omega, by rw [Hls.out]; exact Hle.out, rfl⟩
          · have hge : ¬ ((n : Int) ≤ m) := by omega
            have hnn : n = m + 1 := by omega
            rw [hnn] at htx
            have Htx := Lib.hid htx
            clear hnn htx hlv hng
            go_wp2_with fail
            refine (texts_calls al m _).mono ?_
            rintro e w3 ⟨rfl, hw3⟩
            have hm4 : m ≤ 4096 := by
              rcases Nat.eq_zero_or_pos al.size with e | e
              · have := Hmz.out e; omega
              · have := txt_ge al e (m + 1); have := Htx.out; omega
            obtain ⟨ob, hob⟩ : ∃ ob, ob = wr.heap.size := ⟨_, rfl⟩
            have S3 : Sat w3 (pts (ob + 2) (.cells #[.int .i64 m] 3 (0, 0)) * (pts (ob + 1) (.cells #[.string al] 9 (0, 0)) * (pts ob (.cells #[.slice none 0 0] 47 (0, 0)) * (pts w.heap.size (.cells #[.slice ap p.length cp] 24 (0, 0)) * keep w)))) := by
              rw [hw3, hob]
              have := ((S2.alloc (.cells #[.slice none 0 0] 47 (0, 0))).alloc (.cells #[.string al] 9 (0, 0))).alloc (.cells #[.int .i64 m] 3 (0, 0))
              simpa only [World.size_alloc] using this
            have R3 : Ran w w3 := by rw [hw3]; exact Ran.new (Ran.new (Ran.new R2 _) _) _
            have hpos : 0 ≤ most := by omega
            have Hpos := Lib.hid hpos
            obtain ⟨pb, hpb⟩ : ∃ pb, pb = w.heap.size := ⟨_, rfl⟩
            rw [← hpb] at S3 ⊢
            have Hpb := Lib.hid hpb
            rw [World.size_alloc, ← hob]
            clear hw3 S2 R2 hob hpb hge hneg hpos hmo1 hmo2 hm9 hm0 hn0 hn hi hi0 Hmz Hmn
            go_wp2_with fail
            have hI0 : Sat w3 (AInv p ap cp w pb ob [] * (boxes (ob + 2) (ob + 1) m al * emp)) := by
              unfold AInv AOut
              rw [sep_assoc]
              refine Sat.ex_in (none, 0) ?_
              have := S3.nil_arr 9 1
              exact this.perm (by show _ = (pts ob (.cells #[.slice none 0 0] 47 (0, 0)) * arr 9 1 none 0 0 []) * _; rw [sep_emp]; unfold boxes; ac_rfl)
            refine wp_rangeFunc_sat (n := 3) rfl (enters_of Try.func49 (by kernel_rfl) rfl) (texts_iter al m (ob + 2) (ob + 1) 3 ha Htx.out (by omega) emp) (fun _ => rfl) (AInv p ap cp w pb ob) hI0 ?_ ?assign ?body ?done
            case assign =>
              intro l x W K hK
              gi_wp2
              exact hK
            case body =>
              rintro l pre x post S W hx hs
              have hxs : x.size ≤ m + 1 := txtL_size al x (by rw [hx]; simp)
              have hxs' : (x.size : Int) ≤ 9223372036854775806 := by omega
              have hs2 := hs.perm (show _ = AOut p ob pre * (pts pb (.cells #[.slice ap p.length cp] 24 (0, 0)) * (keep w * S)) by unfold AInv; ac_rfl)
              have hpb := hs2.right.get
              have cpb : W.cell? ⟨pb, 0, none⟩ = some (.slice ap p.length cp) := by rw [cell_at hpb]; rfl
              have hkp : Kept w W := ⟨by have := hs2.right.lt; have := Hpb.out; omega, hs2.right.right.left.kept⟩
              have HMT := Lib.hid (match_calls p x ap cp W (h.keep hkp) hxs')
              unfold AOut at hs2
              obtain ⟨⟨q, cap⟩, hs3⟩ := hs2.ex_out
              simp only at hs3
              have Hs3 := Lib.hid hs3
              clear hs hs2 hpb hkp hs3 hxs hxs'
              have hob := (Hs3.out.perm (sep_assoc _ _ _)).get
              have hobl : ob < W.heap.size := (Array.getElem?_eq_some_iff.1 hob).1
              obtain ⟨nl, hnl⟩ : ∃ n, n = (outF p pre).length := ⟨_, rfl⟩
              have cob : W.cell? ⟨ob, 0, none⟩ = some (.slice q nl cap) := by rw [cell_at hob, hnl]; rfl
              have hnl9 : nl ≤ 1000000000 := by
                have h1 : (outF p pre).length ≤ pre.length := List.length_filter_le _ _
                have h2 := congrArg List.length hx
                rw [List.length_append] at h2
                have := Htx.out
                omega
              have Hnl := Lib.hid hnl
              have hout : outF p (pre ++ [x]) = outF p pre ++ (if matchB p (bs x) = true then [x] else []) := by
                unfold outF
                rw [List.filter_append]
                congr 1
                cases hmb : matchB p (bs x) <;> simp [hmb]
              obtain ⟨v, hv⟩ : ∃ v, v = matchB p (bs x) := ⟨_, rfl⟩
              rw [← hv] at hout HMT
              have Hout := Lib.hid hout
              clear hob hnl hout hv hx
              cases v
              · gi_wp2
                refine ⟨trivial, (CallsIn.inRound l (callsIn_wide.2 HMT.out)).mono ?_⟩
                rintro e w4 ⟨rfl, b4⟩
                have Hs4 := Lib.hid (Hs3.out.below b4)
                gi_wp2
                refine ⟨?_, b4.mono (Nat.zero_le _)⟩
                have := Hs4.out
                unfold AInv AOut
                rw [Hout.out]
                simp only [Bool.false_eq_true, if_false, List.append_nil]
                rw [sep_assoc, sep_assoc]
                exact Sat.ex_in (q, cap) this
              · gi_wp2
                refine ⟨trivial, (CallsIn.inRound l (callsIn_wide.2 HMT.out)).mono ?_⟩
                rintro e w4 ⟨rfl, b4⟩
                have Hs4 := Lib.hid (Hs3.out.below b4)
                have cob4 : w4.cell? ⟨ob, 0, none⟩ = some (.slice q nl cap) := ((Kept.below b4).cell hobl 0).trans cob
                have cpb4 : (0 : Nat) = 0 := rfl
                have HSB := (Hs4.out.perm (show _ = strs q cap (outF p pre) * (pts ob (.cells #[.slice q (outF p pre).length cap] 47 (0, 0)) * (pts pb (.cells #[.slice ap p.length cp] 24 (0, 0)) * (keep w * S))) by ac_rfl)).old (.cells #[.string x] 9 (0, 0))
                unfold strs at HSB
                rw [← Hnl.out] at HSB
                have RB : Ran W (w4.alloc (.cells #[.string x] 9 (0, 0))) := Ran.new (b4.mono (Nat.zero_le _)) _
                clear cob hobl cpb b4
                gi_wp2_with (gi_at_builtin; refine appStrIn rfl _ _ rfl q nl cap _ rfl _ rfl HSB (.string x) (blk_new rfl) rfl hnl9 ?_; intro p' cap' w6 HS7 HR7; clear HSB; have hob6 := (HS7.perm (show _ = pts ob (.cells #[.slice q nl cap] 47 (0, 0)) * (arr 9 1 p' (nl + 1) cap' (strCells (outF p pre) ++ [.string x]) * (pts pb (.cells #[.slice ap p.length cp] 24 (0, 0)) * (keep w * S))) by ac_rfl)); have c6 : w6.cell? ⟨ob, 0, none⟩ = some (.slice q nl cap) := (by rw [cell_at hob6.get]; rfl); have f6 : ∀ i, w6.frozen? ⟨ob, i, none⟩ = false := free_at hob6.get)
                refine ⟨?_, Ran.set (Below.trans RB HR7) _ _⟩
                have h8 := hob6.set (i := 0) (.slice p' (nl + 1) cap')
                unfold AInv AOut
                rw [Hout.out, sep_assoc, sep_assoc]
                refine Sat.ex_in (p', cap') ?_
                have e1 : (outF p pre ++ [x]).length = nl + 1 := by rw [List.length_append, Hnl.out]; rfl
                simp only [if_true]
                unfold strs
                rw [e1, strCells_append]
                exact h8.perm (by show pts ob (.cells #[.slice p' (nl + 1) cap'] 47 (0, 0)) * _ = _; show _ * (arr 9 1 p' (nl + 1) cap' (strCells (outF p pre) ++ [.string x]) * _) = _; rw [sep_assoc]; rfl)
            case done =>
              rintro D W hs hr
              have hs1 := hs.perm (show _ = pts D (.deferred (some [])) * (AOut p ob (txtL al (m + 1)) * (pts pb (.cells #[.slice ap p.length cp] 24 (0, 0)) * (keep w * (boxes (ob + 2) (ob + 1) m al * emp)))) by unfold AInv; ac_rfl)
              have hK := hs1.get
              have hs2 := hs1
              have hs2 := hs2.perm (show _ = AOut p ob (txtL al (m + 1)) * (pts D (.deferred (some [])) * (pts pb (.cells #[.slice ap p.length cp] 24 (0, 0)) * (keep w * (boxes (ob + 2) (ob + 1) m al * emp)))) by ac_rfl)
              unfold AOut at hs2
              obtain ⟨⟨q, cap⟩, hs3⟩ := hs2.ex_out
              simp only at hs3
              have hob := (hs3.perm (sep_assoc _ _ _)).get
              have hs6 := (hs3.perm (show _ = pts D (.deferred (some [])) * (strs q cap (outF p (txtL al (m + 1))) * (pts ob (.cells #[.slice q (outF p (txtL al (m + 1))).length cap] 47 (0, 0)) * (pts pb (.cells #[.slice ap p.length cp] 24 (0, 0)) * (keep w * (boxes (ob + 2) (ob + 1) m al * emp))))) by ac_rfl)).putObj (.deferred none)
              have Hs6 := Lib.hid hs6.right
              have cob : W.cell? ⟨ob, 0, none⟩ = some (.slice q (outF p (txtL al (m + 1))).length cap) := by rw [cell_at hob]; rfl
              have hE := allE_ok (al := al) (most := most) Hnd.out (by have := Hpos.out; omega) (by rw [← Hm.out]; have := Htx.out; omega)
              have hL := allL_ok (p := p) hE
              rw [← Hm.out] at hL
              have hL2 : allL p al most = outF p (txtL al (m + 1)) := hL
              have HE := Lib.hid hE
              have HL := Lib.hid hL2
              obtain ⟨nl, hnl⟩ : ∃ n, n = (outF p (txtL al (m + 1))).length := ⟨_, rfl⟩
              rw [← hnl] at cob
              have Hnl := Lib.hid hnl
              have Hr := Lib.hid hr
              clear hs hs1 hs2 hs3 hs6 hob hE hL hL2 hnl hr
              go_wp2_with fail
              (try simp only [Exit.inBlock, Exit.then])
              refine marks_out rfl hK (results_tmp2 rfl _ _ _) ?_
              have hsD : Sat (W.putObj D (.deferred none)) (strs q cap (outF p (txtL al (m + 1))) * (pts ob (.cells #[.slice q (outF p (txtL al (m + 1))).length cap] 47 (0, 0)) * (pts pb (.cells #[.slice ap p.length cp] 24 (0, 0)) * (keep w * (boxes (ob + 2) (ob + 1) m al * emp))))) := Hs6.out
              refine ⟨q, cap, by rw [HE.out, HL.out, Hnl.out]; rfl, by rw [HL.out]; exact strsAt_arr hsD, ?_⟩
              exact Ran.whole (P := strs q cap (outF p (txtL al (m + 1))) * (pts ob (.cells #[.slice q (outF p (txtL al (m + 1))).length cap] 47 (0, 0)) * (pts pb (.cells #[.slice ap p.length cp] 24 (0, 0)) * (boxes (ob + 2) (ob + 1) m al * emp)))) (Ran.putObj (Below.trans R3 Hr.out) _ _) (hsD.perm (by ac_rfl))
end Go.Proofs.Ytjbdpahdhlmanaa.Globs
