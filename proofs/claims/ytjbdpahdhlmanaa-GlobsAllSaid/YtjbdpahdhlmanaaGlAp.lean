/- The document's 'All', walked. -/
import Derived.Test.YtjbdpahdhlmanaaOld
import Derived.Test.YtjbdpahdhlmanaaGlAo
namespace Go.Proofs.Ytjbdpahdhlmanaa.Globs
open Go.RowKit Go.Proofs.Ytjbdpahdhlmanaa Go.Proofs.Ytjbdpahdhlmanaa.Hp
set_option linter.unusedVariables false

theorem stepStr {w : World} {H : Hp} {ops : Array Oper} {o : Oper} {a : Act} {K : Act → World → Prop} {Q : Exit → Act → World → Prop} {E : Prop} (hgd : o.guard = none) (s x : Operand)
    (ho : o.op = .call { callee := .builtin .append, args := #[s, x], argTypes := #[47, 47] })
    (p : Option Addr) (n cap : Nat) (xs : List Value) (hp : a.eval s = .slice p n cap) (b : Nat) (hvx : a.eval x = .slice (some ⟨b, 0, none⟩) 1 1) (h : Sat w (arr 9 1 p n cap xs * H)) (v : Value) (hb : w.heap[b]? = some (.cells #[v] 9 (0, 0))) (h0 : v.oneCell' = true) (hn : n ≤ 1000000000)
    (hk : ∀ p' cap' w', Sat w' (arr 9 1 p' (n + 1) cap' (xs ++ [v]) * H) → Ran w w' → (∀ b o, p = some ⟨b, o, none⟩ → ∀ j (hj : j < xs.length), w'.cell? ⟨b, o + j, none⟩ = some xs[j]) → K (a.put o.dst (.slice p' (n + 1) cap')) w') :
    if Region.wanted o (yielded ops a.tmps) = true then Oper.wp Try.prog o a w K Q else E := by
  obtain ⟨i0, hi, hz0, hz1, hz2⟩ := info_parts infoStr
  rw [if_pos (by simp [Region.wanted, hgd])]
  have hsrc : Src Try.prog i0.size 47 (.slice (some ⟨b, 0, none⟩) 1 1) 1 [v] w := Src.ofSlice w Try.underlying47 ⟨b, 0, none⟩ 1 1 [v] (by rw [hz1]; rfl) (by
    intro j u hj
    rw [Addr.add_lit, Nat.zero_add, cell_at hb, ← hj]
    simp) (by simp [h0])
  obtain ⟨p', cap', w', hr, h1, h2, _⟩ := run_append_arr (P := Try.prog) 47 47 o.type 9 i0 _ 1 16 Try.underlying47 hi hz0 hz1 hz2 rfl p n cap xs h (.slice (some ⟨b, 0, none⟩) 1 1) 1 [v] hsrc (by omega) (by unfold maxLen; omega)
  have h3 := run_append_old (P := Try.prog) 47 47 o.type 9 i0 _ 1 16 Try.underlying47 hi hz0 hz1 hz2 rfl p p' n cap cap' xs h (.slice (some ⟨b, 0, none⟩) 1 1) 1 [v] hsrc (by omega) (by unfold maxLen; omega) hr h1
  unfold Oper.wp execOp
  simp only [ho, resolve, invoke, builtin, Sem.run_bind, Sem.run_pure, Result.andThen_ok, List.map_toArray, List.map_cons, List.map_nil, hp, hvx, hr]
  exact hk p' cap' w' h1 h2 h3
theorem dup_no (al : ByteArray) (i : Nat) (hi : i < al.size) (h : ∀ j, j < i → (bs al).getD j 0 ≠ (bs al).getD i 0) : dupAt al i = false := by
  rw [← Bool.not_eq_true]
  intro hc
  unfold dupAt at hc
  rw [List.contains_iff_mem] at hc
  obtain ⟨j, hj, e⟩ := List.mem_iff_getElem.1 hc
  rw [List.length_take] at hj
  rw [List.getElem_take] at e
  refine h j (by omega) ?_
  rw [← e, List.getD_eq_getElem?_getD, List.getElem?_eq_getElem (by omega)]; rfl
theorem dup_yes (al : ByteArray) (i j : Nat) (hi : i < al.size) (hj : j < i) (h : (bs al).getD j 0 = (bs al).getD i 0) : dupAt al i = true := by
  unfold dupAt
  rw [List.contains_iff_mem, ← h]
  have hl : j < ((bs al).take i).length := by rw [List.length_take, bs_length]; omega
  have e : ((bs al).take i)[j] = (bs al).getD j 0 := by rw [List.getElem_take, List.getD_eq_getElem?_getD, List.getElem?_eq_getElem (by rw [bs_length]; omega)]; rfl
  rw [← e]; exact List.getElem_mem hl
theorem getD_at (al : ByteArray) (i : Nat) (h : i < al.size) : (bs al).getD i 0 = al[i] := by rw [List.getD_eq_getElem?_getD, bs_get al i h]; rfl
def B1Rel (al : ByteArray) (w : World) (g : Nat) (iv kv : Value) (wr : World) : Prop := ∃ i m : Nat, i + g = al.size ∧ iv = .int .i64 (i : Int) ∧ (∀ j, j < i → dupAt al j = false) ∧ wr = w.drewN m
def B2Rel (al : ByteArray) (i : Nat) (w : World) (g : Nat) (kv : Value) (wr : World) : Prop := ∃ k m : Nat, k + g = i ∧ kv = .int .i64 (k : Int) ∧ (∀ j, j < k → (bs al).getD j 0 ≠ (bs al).getD i 0) ∧ wr = w.drewN m
/-- All that is known of the list at a level's head: it is whole, or too long. -/
def Lev (al : ByteArray) (most : Int) (n fr : Nat) (all : List ByteArray) : Prop := (all = txtL al (n + 1) ∧ fr = (txtL al n).length) ∨ (4096 < all.length ∧ 4096 < (txtL al (longest al most + 1)).length)
def B3Rel (al : ByteArray) (most : Int) (w : World) (g : Nat) (av fv nv : Value) (wr : World) : Prop := ∃ (n fr : Nat) (q : Option Addr) (cap : Nat) (all : List ByteArray), (n : Int) + g = most ∧ av = .slice q all.length cap ∧ fv = .int .i64 (fr : Int) ∧ nv = .int .i64 (n : Int) ∧
  Lev al most n fr all ∧ Sat wr (strs q cap all * keep w) ∧ Ran w wr
def B4Rel (al : ByteArray) (n : Nat) (w : World) (g : Nat) (av iv : Value) (wr : World) : Prop := ∃ (k : Nat) (q : Option Addr) (cap : Nat) (all : List ByteArray), k + g = (levL al n).length ∧ av = .slice q all.length cap ∧ iv = .int .i64 (((txtL al n).length + k : Nat) : Int) ∧
  all = txtL al (n + 1) ++ ((levL al n).take k).flatMap (nxtL al) ∧ Sat wr (strs q cap all * keep w) ∧ Ran w wr
def B5Rel (al x : ByteArray) (X : List ByteArray) (w : World) (g : Nat) (av kv : Value) (wr : World) : Prop := ∃ (k : Nat) (q : Option Addr) (cap : Nat) (all : List ByteArray), k + g = al.size ∧ av = .slice q all.length cap ∧ kv = .int .i64 (k : Int) ∧
  all = X ++ (List.range k).map (extS al x) ∧ Sat wr (strs q cap all * keep w) ∧ Ran w wr
def B6Rel (p : List Itm) (all : List ByteArray) (q : Option Addr) (cap : Nat) (w : World) (g : Nat) (ov iv : Value) (wr : World) : Prop := ∃ (i : Nat) (q2 : Option Addr) (c2 : Nat), i + g = all.length ∧ ov = .slice q2 (outF p (all.take i)).length c2 ∧ iv = .int .i64 (i : Int) ∧
  Sat wr (strs q2 c2 (outF p (all.take i)) * (strs q cap all * keep w)) ∧ Ran w wr
theorem lev_over {al : ByteArray} {most : Int} {T n k : Nat} {al4 : List ByteArray} (hT : T = longest al most) (hTn : 0 < al.size → (T : Int) = most) (c1 : (n : Int) < most)
    (hal4 : al4 = txtL al (n + 1) ++ ((levL al n).take k).flatMap (nxtL al)) (h : 4096 < al4.length) (hle : (txtL al (n + 1)).length ≤ 4096) : 4096 < (txtL al (longest al most + 1)).length := by
  have hl := congrArg List.length hal4
  rw [List.length_append, flat_len, List.length_take] at hl
  have hk : min k (levL al n).length * al.size ≤ (levL al n).length * al.size := Nat.mul_le_mul_right _ (by omega)
  have hs := lev_succ_len al n
  have ht := txt_succ_len al (n + 1)
  have hsz : 0 < al.size := by
    rcases Nat.eq_zero_or_pos al.size with e | e
    · rw [e, Nat.mul_zero] at hl; omega
    · exact e
  have hm := hTn hsz
  have := txt_mono al (show n + 1 + 1 ≤ T + 1 by omega)
  rw [← hT]
  omega
theorem lev_exit {al : ByteArray} {most : Int} {T n fr : Nat} {all : List ByteArray} (hT : T = longest al most) (hTz : al.size = 0 → T = 0) (hTn : 0 < al.size → (T : Int) = most) (h : Lev al most n fr all) (hn : (n : Int) ≤ most)
    (hr : ¬ (n : Int) < most ∨ ¬ all.length ≤ 4096 ∨ ¬ fr < all.length) : (all.length ≤ 4096 → all = txtL al (T + 1)) ∧ (4096 < all.length → 4096 < (txtL al (T + 1)).length) := by
  rcases h with ⟨hA, hf⟩ | ⟨h1, h2⟩
  · rcases Nat.eq_zero_or_pos al.size with e | e
    · have h0 := hTz e
      rw [txt_zero al e n] at hA
      rw [txt_zero al e T, hA]
      exact ⟨fun _ => rfl, fun h => by simp at h⟩
    · have hm := hTn e
      have hp := lev_pos al e n
      have hs := txt_succ_len al n
      have hmo := txt_mono al (show n + 1 ≤ T + 1 by omega)
      have hl := congrArg List.length hA
      refine ⟨fun hle => ?_, fun hgt => by omega⟩
      have : n = T := by omega
      rw [← this]; exact hA
  · exact ⟨fun h => by omega, fun _ => by rw [hT]; exact h2⟩
set_option maxRecDepth 100000 in
set_option maxHeartbeats 4000000 in
theorem rall_calls (p : List Itm) (al : ByteArray) (most : Int) (ap : Option Addr) (cp : Nat) (w : World) (h : ItemsAt w ap p) (ha : al.size ≤ 300) (hmost : I64 most) :
    Calls Try.prog 31 #[.slice ap p.length cp, .string al, .int .i64 most] w (AllPost (allL p al most) (allE al most) w) := by
  have hal : (al.size : Int) ≤ 300 := by omega
  obtain ⟨hmo1, hmo2⟩ := hmost
  go_enter Try.func31, Try.ntmps31
  by_cases hneg : most < 0
  · have hE := allE_neg (al := al) hneg
    have hL := all_err (p := p) hE (by decide)
    have HE := Lib.hid hE
    have HL := Lib.hid hL
    clear hE hL h
    go_wp2_with fail
    go_ret2
    exact ⟨none, 0, by rw [HE.out, HL.out]; rfl, by rw [HL.out]; exact strsAt_nil _, Below.refl _ _⟩
  have hneg2 : 0 ≤ most := by omega
  go_wp2_with fail
  go_loopg [8, 9] (al.size) (B1Rel al w)
  case atStart => exact ⟨0, 0, by omega, rfl, fun j hj => absurd hj (Nat.not_lt_zero j), rfl⟩
  case round =>
    obtain ⟨i, m, hig, rfl, hno, rfl⟩ := hrel
    have hi0 : (0 : Int) ≤ i := by omega
    by_cases hi : i < al.size
    · have hi' : (i : Int) < al.size := by omega
      obtain ⟨f, rfl⟩ : ∃ f, gk = f + 1 := ⟨gk - 1, by omega⟩
      have Hig := Lib.hid hig
      have Hno := Lib.hid hno
      clear hig hno
      go_wp2_with fail
      go_loopg [9] i (B2Rel al i w)
      case atStart => exact ⟨0, m, by omega, rfl, fun j hj => absurd hj (Nat.not_lt_zero j), rfl⟩
      case round =>
        obtain ⟨k, m2, hkg, rfl, hne, rfl⟩ := hrel
        have hk0 : (0 : Int) ≤ k := by omega
        by_cases hk : k < i
        · have hk' : (k : Int) < i := by omega
          have hk'' : (k : Int) < al.size := by omega
          have hk3 : k < al.size := by omega
          have hgi := getD_at al i hi
          have hgk := getD_at al k hk3
          have ebq : ((al[i].toNat : Int) == (al[k].toNat : Int)) = (al[i] == al[k]) := u8_beq _ _
          have Hkg := Lib.hid hkg
          have Hne := Lib.hid hne
          by_cases he : al[k] = al[i]
          · have hE := allE_dup (al := al) (most := most) ⟨i, hi, dup_yes al i k hi hk (by rw [hgi, hgk, he])⟩
            have hL := all_err (p := p) hE (by decide)
            have eb2 : ((al[i].toNat : Int) == (al[k].toNat : Int)) = true := by rw [ebq, beq_iff_eq]; exact he.symm
            have HE := Lib.hid hE
            have HL := Lib.hid hL
            clear hE hL ebq he hgi hgk hkg hne
            go_wp2_with fail
            refine Go.Proofs.Ytjbdpahdhlmanaa.region_plan (S := (fun w' => True)) [(0, true), (1, true), (2, true), (3, true), (4, true), (5, true), (6, true)] (by kernel_rfl) (by kernel_rfl) (by kernel_rfl) ?_ ?_
            · ((try dsimp only); (first | done | (trivial)))
            simp only [Go.Proofs.Ytjbdpahdhlmanaa.planOps, List.map_cons, List.map_nil, List.getElem?_toArray, List.getElem?_cons_zero, List.getElem?_cons_succ]
            repeat (first
              | ((refine Go.Proofs.Ytjbdpahdhlmanaa.plan_yes (v := ?_) (by rfl) ?_ ?_); rotate_left; (focus (intro w hSw; (try dsimp only at hSw); go_simp; try (with_reducible rfl))); (try simp only [Act.put, List.setIfInBounds_toArray, List.set_cons_zero, List.set_cons_succ]))
              | ((refine Go.Proofs.Ytjbdpahdhlmanaa.plan_no (by rfl) ?_); (try simp only [Act.put, List.setIfInBounds_toArray, List.set_cons_zero, List.set_cons_succ]))
              | ((refine Go.Proofs.Ytjbdpahdhlmanaa.plan_step (fun K hK => ?_)); (first | (fail) | (go_simp; (fail); (try go_wp2_with fail)) | go_simp); (refine hK.out _ _ ?_ (fun hHeld => ?_)); (focus ((try dsimp only); (first | done | (trivial)))); clear hK K; (try simp only [Act.put, List.setIfInBounds_toArray, List.set_cons_zero, List.set_cons_succ])))
            refine Go.Proofs.Ytjbdpahdhlmanaa.plan_done ?_
            go_wp2_with fail
            go_ret2
            exact ⟨none, 0, by rw [HE.out, HL.out]; rfl, by rw [HL.out]; exact strsAt_nil _, Below.drew (below_drewN (Below.refl _ _) _)⟩
          · have eb2 : ((al[i].toNat : Int) == (al[k].toNat : Int)) = false := by rw [ebq, beq_eq_false_iff_ne]; exact fun e => he e.symm
            have Hd : Hid ((bs al).getD k 0 ≠ (bs al).getD i 0) := Lib.hid (by rw [hgi, hgk]; exact he)
            clear ebq he hgi hgk hkg hne
            go_wp2_with fail
            refine Go.Proofs.Ytjbdpahdhlmanaa.region_plan (S := (fun w' => True)) [(0, true), (1, true), (2, true), (3, true), (4, true), (5, true), (6, true)] (by kernel_rfl) (by kernel_rfl) (by kernel_rfl) ?_ ?_
            · ((try dsimp only); (first | done | (trivial)))
            simp only [Go.Proofs.Ytjbdpahdhlmanaa.planOps, List.map_cons, List.map_nil, List.getElem?_toArray, List.getElem?_cons_zero, List.getElem?_cons_succ]
            repeat (first
              | ((refine Go.Proofs.Ytjbdpahdhlmanaa.plan_yes (v := ?_) (by rfl) ?_ ?_); rotate_left; (focus (intro w hSw; (try dsimp only at hSw); go_simp; try (with_reducible rfl))); (try simp only [Act.put, List.setIfInBounds_toArray, List.set_cons_zero, List.set_cons_succ]))
              | ((refine Go.Proofs.Ytjbdpahdhlmanaa.plan_no (by rfl) ?_); (try simp only [Act.put, List.setIfInBounds_toArray, List.set_cons_zero, List.set_cons_succ]))
              | ((refine Go.Proofs.Ytjbdpahdhlmanaa.plan_step (fun K hK => ?_)); (first | (fail) | (go_simp; (fail); (try go_wp2_with fail)) | go_simp); (refine hK.out _ _ ?_ (fun hHeld => ?_)); (focus ((try dsimp only); (first | done | (trivial)))); clear hK K; (try simp only [Act.put, List.setIfInBounds_toArray, List.set_cons_zero, List.set_cons_succ])))
            refine Go.Proofs.Ytjbdpahdhlmanaa.plan_done ?_
            go_wp2_with fail
            go_roundg (gk - 1)
            case measure => have := Hkg.out; omega
            case rel => exact ⟨k + 1, m2 + 1, by have := Hkg.out; omega, by go_num, fun j hj => by
              rcases Nat.lt_or_ge j k with h4 | h4
              · exact Hne.out j h4
              · obtain rfl : j = k := by omega
                exact Hd.out, rfl⟩
        · have hge : ¬ ((k : Int) < i) := by omega
          have hdn := dup_no al i hi (fun j hj => hne j (by omega))
          have Hdn := Lib.hid hdn
          clear hdn hne hkg
          go_wp2_with fail
          go_roundg f
          case measure => omega
          case rel => exact ⟨i + 1, m2, by have := Hig.out; omega, by go_num, fun j hj => by
            rcases Nat.lt_or_ge j i with h4 | h4
            · exact Hno.out j h4
            · obtain rfl : j = i := by omega
              exact Hdn.out, rfl⟩
    · have hge : ¬ ((i : Int) < al.size) := by omega
      have hnd : ¬ hasDup al := by
        rintro ⟨j, hj, hd⟩
        rw [hno j (by omega)] at hd; cases hd
      have Hnd := Lib.hid hnd
      have S1 := ((Sat.start w).drewN m).alloc (.cells #[.string ⟨#[]⟩] 9 (0, 0))
      have R1 := Ran.new (Ran.drewN (Below.refl 0 w) m) (.cells #[.string ⟨#[]⟩] 9 (0, 0))
      have hz1 : (w.drewN m).heap.size = w.heap.size := rfl
      rw [hz1] at S1
      obtain ⟨w2, hw2⟩ : ∃ w2, w2 = w.drewN m := ⟨_, rfl⟩
      rw [← hw2] at S1 R1 ⊢
      have hz2 : w2.heap.size = w.heap.size := by rw [hw2]; rfl
      clear hnd hno hig hw2 hz1
      have S2 : Sat (w2.alloc (.cells #[.string ⟨#[]⟩] 9 (0, 0))) (strs (some ⟨w2.heap.size, 0, none⟩) 1 (txtL al 1) * keep w) :=
        Sat.arr_mk (cur := #[Value.string ⟨#[]⟩]) (by show 1 ≤ 1; omega) (by unfold maxLen; omega) (by simp) rfl (fun j hj => by
          have : j = 0 := by simpa [strCells, txtL, levL] using hj
          subst this; rfl) (by rw [hz2]; exact S1)
      clear S1 hz2
      obtain ⟨T, hT⟩ : ∃ T, T = longest al most := ⟨_, rfl⟩
      have HTz : Hid (al.size = 0 → T = 0) := Lib.hid fun e => by rw [hT]; unfold longest; rw [if_pos e]
      have HTn : Hid (0 < al.size → (T : Int) = most) := Lib.hid fun e => by rw [hT]; unfold longest; rw [if_neg (by omega)]; omega
      have HT := Lib.hid hT
      clear hT
      go_upto_block 4 with fail
      clear hge hi hi0
      go_cut [10] from 18 (fun s10 wx => ∃ (q : Option Addr) (cap : Nat) (all : List ByteArray), s10 = .slice q all.length cap ∧ (all.length ≤ 4096 → all = txtL al (T + 1)) ∧ (4096 < all.length → 4096 < (txtL al (T + 1)).length) ∧ Sat wx (strs q cap all * keep w) ∧ Ran w wx)
      case first =>
        as_aux_lemma =>
        go_wp2_with fail
        go_loopg [10, 11, 12] (most.toNat) (B3Rel al most w)
        case atStart => exact ⟨0, 0, _, 1, txtL al 1, by omega, rfl, rfl, rfl, .inl ⟨rfl, rfl⟩, S2, R1⟩
        case round =>
          clear S2 R1
          obtain ⟨n, fr, q, cap, all, hng, rfl, rfl, rfl, hlev, HS, HR⟩ := hrel
          have hn0 : (0 : Int) ≤ n := by omega
          have HS0 := Lib.hid HS
          have HR0 := Lib.hid HR
          have Hlev := Lib.hid hlev
          have Hng := Lib.hid hng
          by_cases c1 : (n : Int) < most
          · by_cases c2 : all.length ≤ 4096
            · have c2' : (all.length : Int) ≤ 4096 := by omega
              have hA : all = txtL al (n + 1) ∧ fr = (txtL al n).length := by
                rcases hlev with h | h
                · exact h
                · omega
              obtain ⟨hA1, rfl⟩ := hA
              by_cases c3 : (txtL al n).length < all.length
              · have c3' : ((txtL al n).length : Int) < all.length := by omega
                obtain ⟨f, rfl⟩ : ∃ f, gk = f + 1 := ⟨gk - 1, by omega⟩
                have hlen : all.length = (txtL al n).length + (levL al n).length := by rw [hA1, txt_succ_len]
                have hlp : 0 < (levL al n).length := by omega
                have hsz : n = 0 ∨ 0 < al.size := by
                  rcases Nat.eq_zero_or_pos al.size with e | e
                  · left
                    cases n with
                    | zero => rfl
                    | succ n => rw [lev_zero al e n] at hlp; simp at hlp
                  · exact .inr e
                have hn4 : n ≤ 4096 := by
                  rcases hsz with e | e
                  · omega
                  · have := txt_ge al e n; omega
                have hll : (levL al n).length ≤ 4096 := by omega
                obtain ⟨X, hX⟩ : ∃ X, X = all := ⟨_, rfl⟩
                have S4 : Sat wr (strs q cap (all ++ ((levL al n).take 0).flatMap (nxtL al)) * keep w) := by simpa using HS
                have HA1 := Lib.hid hA1
                have Hlen := Lib.hid hlen
                have h40 : (((txtL al n).length + 0 : Nat) : Int) = ((txtL al n).length : Int) := rfl
                clear HS HR hlev hA1 hng hlen hX X
                go_wp2_with fail
                go_loopg [10, 14] ((levL al n).length) (B4Rel al n w)
                case atStart => exact ⟨0, q, cap, all, by omega, rfl, rfl, by rw [HA1.out]; simp, by have := S4; simpa using this, HR0.out⟩
                case round =>
                  clear S4
                  obtain ⟨k, q4, cap4, al4, hkg, rfl, rfl, hal4, HS, HR⟩ := hrel
                  have hk0 : (0 : Int) ≤ (((txtL al n).length + k : Nat) : Int) := by omega
                  have HS1 := Lib.hid HS
                  have HR1 := Lib.hid HR
                  have Hal4 := Lib.hid hal4
                  have Hkg := Lib.hid hkg
                  by_cases d1 : k < (levL al n).length
                  · have d1' : (((txtL al n).length + k : Nat) : Int) < all.length := by have := Hlen.out; omega
                    by_cases d2 : al4.length ≤ 4096
                    · have d2' : (al4.length : Int) ≤ 4096 := by omega
                      obtain ⟨f4, rfl⟩ : ∃ f, gk = f + 1 := ⟨gk - 1, by omega⟩
                      obtain ⟨x, hx⟩ : ∃ x, x = (levL al n)[k] := ⟨_, rfl⟩
                      have hxs : x.size = n := levL_size al x (by rw [hx]; exact List.getElem_mem d1)
                      have htk : (levL al n).take (k + 1) = (levL al n).take k ++ [x] := by rw [List.take_succ_eq_append_getElem d1, hx]
                      have hpre : (txtL al n).length + k < al4.length ∧ al4[(txtL al n).length + k]? = some x := by
                        have e1 : al4[(txtL al n).length + k]? = some x := by
                          rw [hal4, List.getElem?_append_left (by rw [txt_succ_len]; omega)]
                          show (txtL al n ++ levL al n)[(txtL al n).length + k]? = some x
                          rw [List.getElem?_append_right (by omega), Nat.add_sub_cancel_left, List.getElem?_eq_getElem d1, hx]
                        exact ⟨(List.getElem?_eq_some_iff.1 e1).1, e1⟩
                      have hxs' : (x.size : Int) ≤ 4096 := by omega
                      have Hpre := Lib.hid hpre
                      have Htk := Lib.hid htk
                      obtain ⟨ii, hii⟩ : ∃ ii, ii = (txtL al n).length + k := ⟨_, rfl⟩
                      rw [← hii] at hk0 d1' ⊢
                      have Hii := Lib.hid hii
                      have S5 : Sat wr (strs q4 cap4 (al4 ++ (List.range 0).map (extS al x)) * keep w) := by simpa using HS
                      have h50 : ii < al4.length := by rw [hii]; exact hpre.1
                      clear HS HR hal4 hkg hx hxs htk hpre hii
                      go_wp2_with fail
                      go_loopg [10, 15] (al.size) (B5Rel al x al4 w)
                      case atStart => exact ⟨0, q4, cap4, al4, by omega, rfl, rfl, by simp, by simpa using S5, HR1.out⟩
                      case round =>
                        clear S5
                        obtain ⟨j, q5, cap5, al5, hjg, rfl, rfl, hal5, HS, HR⟩ := hrel
                        have hj0 : (0 : Int) ≤ j := by omega
                        have hl5 : al5.length = al4.length + j := by rw [hal5]; simp
                        by_cases hj : j < al.size
                        · have hj' : (j : Int) < al.size := by omega
                          have hj1 : (j : Int) + 1 ≤ al.size := by omega
                          have hj2 : (0 : Int) ≤ (j : Int) + 1 := by omega
                          have hj3 : (j : Int) ≤ (j : Int) + 1 := by omega
                          have hj4 : ((j : Int) + 1).toNat = j + 1 := by omega
                          have hes : ((al.extract j (j + 1)).size : Int) = 1 := by rw [ByteArray.size_extract]; omega
                          have hsum : (x.size : Int) + ((al.extract j (j + 1)).size : Int) ≤ 9223372036854775807 := by omega
                          have hsum2 : (x.size : Int) + 1 ≤ 9223372036854775807 := by omega
                          have hsum3 : ((x.size + (al.extract j (j + 1)).size : Nat) : Int) ≤ 9223372036854775807 := by omega
                          have hw1 : IntKind.i64.wrap ((j : Int) + 1) = (j : Int) + 1 := by rw [IntKind.wrap_i64]; omega
                          have hsum4 : (9223372036854775807 < x.size + (min (j + 1) al.size - j)) = False := propext ⟨fun h => (by omega), fun h => h.elim⟩
                          have hn9 : al5.length ≤ 1000000000 := by omega
                          have hi5 : ii < al5.length := by omega
                          have hi5' : (ii : Int) < al5.length := by omega
                          obtain ⟨ab, ao, rfl, cx⟩ := strs_cell HS ii hi5
                          have hx5 : al5[ii] = x := by
                            have e1 : al5[ii]? = some x := by rw [hal5, List.getElem?_append_left h50, Hii.out]; exact Hpre.out.2
                            rw [List.getElem?_eq_getElem hi5] at e1
                            exact Option.some.inj e1
                          rw [hx5] at cx
                          have hcs : (strCells al5)[ii]? = some (.string x) := by unfold strCells; rw [List.getElem?_map, List.getElem?_eq_getElem hi5, hx5]; rfl
                          have Hcs := Lib.hid hcs
                          have hal6 : al4 ++ (List.range (j + 1)).map (extS al x) = al5 ++ [extS al x j] := by rw [hal5, List.range_succ]; simp
                          have Hal6 := Lib.hid hal6
                          have Hjg := Lib.hid hjg
                          have HSB := HS.old (.cells #[.string (extS al x j)] 9 (0, 0))
                          have RB := Ran.new HR (.cells #[.string (extS al x j)] 9 (0, 0))
                          have cx2 : (wr.alloc (.cells #[.string (extS al x j)] 9 (0, 0))).cell? ⟨ab, ao + ii, none⟩ = some (.string x) := ((kept_alloc wr _).cell (World.block_lt_of_cell? wr _ cx) _).trans cx
                          clear hal5 hx5 hcs hal6 hjg HS HR hl5
                          go_wp2_with fail
                          refine Go.Proofs.Ytjbdpahdhlmanaa.region_plan (S := (fun w' => w'.cell? ⟨ab, ao + ii, none⟩ = some (.string x))) [(0, true), (1, true), (2, true), (3, true), (4, true), (5, true), (6, true), (7, true), (8, true), (9, true), (10, true), (11, false), (12, false), (13, true)] (by kernel_rfl) (by kernel_rfl) (by kernel_rfl) ?_ ?_
                          · ((try dsimp only); (first | done | (first | exact cx | exact cx2 | exact K6)))
                          simp only [Go.Proofs.Ytjbdpahdhlmanaa.planOps, List.map_cons, List.map_nil, List.getElem?_toArray, List.getElem?_cons_zero, List.getElem?_cons_succ]
                          repeat (first
                            | ((refine Go.Proofs.Ytjbdpahdhlmanaa.plan_yes (v := ?_) (by rfl) ?_ ?_); rotate_left; (focus (intro w hSw; (try dsimp only at hSw); go_simp; try (with_reducible rfl))); (try simp only [Act.put, List.setIfInBounds_toArray, List.set_cons_zero, List.set_cons_succ]))
                            | ((refine Go.Proofs.Ytjbdpahdhlmanaa.plan_no (by rfl) ?_); (try simp only [Act.put, List.setIfInBounds_toArray, List.set_cons_zero, List.set_cons_succ]))
                            | ((refine Go.Proofs.Ytjbdpahdhlmanaa.plan_step (fun K hK => ?_)); (first | (refine stepStr rfl _ _ rfl (some ⟨ab, ao, none⟩) al5.length cap5 _ rfl _ rfl HSB _ (blk_new rfl) rfl hn9 ?_; intro p' cap' w6 T6 R6 O6; have K6 : w6.cell? ⟨ab, ao + ii, none⟩ = some (.string x) := (by have hc := Hcs.out; have hlt := (List.getElem?_eq_some_iff.1 hc).1; rw [List.getElem?_eq_getElem hlt] at hc; rw [O6 ab ao rfl ii hlt]; exact hc)) | (go_simp; (refine stepStr rfl _ _ rfl (some ⟨ab, ao, none⟩) al5.length cap5 _ rfl _ rfl HSB _ (blk_new rfl) rfl hn9 ?_; intro p' cap' w6 T6 R6 O6; have K6 : w6.cell? ⟨ab, ao + ii, none⟩ = some (.string x) := (by have hc := Hcs.out; have hlt := (List.getElem?_eq_some_iff.1 hc).1; rw [List.getElem?_eq_getElem hlt] at hc; rw [O6 ab ao rfl ii hlt]; exact hc)); (try go_wp2_with fail)) | go_simp); (refine hK.out _ _ ?_ (fun hHeld => ?_)); (focus ((try dsimp only); (first | done | (first | exact cx | exact cx2 | exact K6)))); clear hK K; (try simp only [Act.put, List.setIfInBounds_toArray, List.set_cons_zero, List.set_cons_succ])))
                          refine Go.Proofs.Ytjbdpahdhlmanaa.plan_done ?_
                          go_wp2_with fail
                          go_roundg (gk - 1)
                          case measure => have := Hjg.out; omega
                          case rel => exact ⟨j + 1, p', cap', al5 ++ [extS al x j], by have := Hjg.out; omega, by simp, by go_num, Hal6.out.symm, by unfold strs; rw [List.length_append, strCells_append]; exact T6, Below.trans (Below.drew RB) R6⟩
                        · have hge : ¬ ((j : Int) < al.size) := by omega
                          have hje : j = al.size := by omega
                          have hfin : al5 = txtL al (n + 1) ++ ((levL al n).take (k + 1)).flatMap (nxtL al) := by rw [hal5, Htk.out, List.flatMap_append, ← List.append_assoc, ← Hal4.out, hje]; simp [nxtL]
                          have Hfin := Lib.hid hfin
                          have Hii2 : Hid ((ii : Int) + 1 = (((txtL al n).length + (k + 1) : Nat) : Int)) := Lib.hid (by rw [Hii.out]; omega)
                          clear hal5 hl5 hjg hje hfin
                          go_wp2_with fail
                          go_roundg f4
                          case measure => omega
                          case rel => exact ⟨k + 1, q5, cap5, al5, by have := Hkg.out; omega, rfl, by rw [Hii2.out], Hfin.out, HS, HR⟩
                    · have d2' : ¬ ((al4.length : Int) ≤ 4096) := by omega
                      have hov := lev_over HT.out HTn.out c1 hal4 (by omega) (by rw [← HA1.out]; exact c2)
                      have Hov := Lib.hid hov
                      have Hd2 := Lib.hid d2
                      clear hov hal4 hkg d2
                      go_wp2_with fail
                      go_roundg f
                      case measure => omega
                      case rel => exact ⟨n + 1, all.length, q4, cap4, al4, by have := Hng.out; omega, rfl, rfl, by go_num, .inr ⟨by have := Hd2.out; omega, Hov.out⟩, HS1.out, HR1.out⟩
                  · have d1' : ¬ ((((txtL al n).length + k : Nat) : Int) < all.length) := by have := Hlen.out; omega
                    have hke : k = (levL al n).length := by omega
                    have hfin : al4 = txtL al (n + 2) := by rw [hal4, hke, List.take_length]; rfl
                    have Hfin := Lib.hid hfin
                    have Hall : Hid (all.length = (txtL al (n + 1)).length) := Lib.hid (by rw [← HA1.out])
                    obtain ⟨ii, hii⟩ : ∃ ii, ii = (txtL al n).length + k := ⟨_, rfl⟩
                    rw [← hii] at hk0 d1' ⊢
                    clear hfin hal4 hkg hke d1 hii
                    go_wp2_with fail
                    go_roundg f
                    case measure => omega
                    case rel => exact ⟨n + 1, all.length, q4, cap4, al4, by have := Hng.out; omega, rfl, rfl, by go_num, .inl ⟨Hfin.out, Hall.out⟩, HS1.out, HR1.out⟩
              · have c3' : ¬ (((txtL al n).length : Int) < all.length) := by omega
                clear hA1
                have hne := lev_exit HT.out HTz.out HTn.out Hlev.out (by have := Hng.out; omega) (.inr (.inr c3))
                have Hne := Lib.hid hne
                clear hne hlev
                go_wp2_with fail
                go_meet
                exact ⟨q, cap, all, rfl, Hne.out.1, Hne.out.2, HS0.out, HR0.out⟩
            · have c2' : ¬ ((all.length : Int) ≤ 4096) := by omega
              have hne := lev_exit HT.out HTz.out HTn.out Hlev.out (by have := Hng.out; omega) (.inr (.inl c2))
              have Hne := Lib.hid hne
              clear hne hlev
              go_wp2_with fail
              go_meet
              exact ⟨q, cap, all, rfl, Hne.out.1, Hne.out.2, HS0.out, HR0.out⟩
          · skip
            have hne := lev_exit HT.out HTz.out HTn.out Hlev.out (by have := Hng.out; omega) (.inl c1)
            have Hne := Lib.hid hne
            clear hne hlev
            go_wp2_with fail
            go_meet
            exact ⟨q, cap, all, rfl, Hne.out.1, Hne.out.2, HS0.out, HR0.out⟩
      case rest =>
      obtain ⟨q, cap, all, rfl, hP1, hP2, HS, HR⟩ := hcut
      by_cases d : all.length ≤ 4096
      · have hA := hP1 d
        have d' : ¬ ((4096 : Int) < all.length) := by omega
        have hE := allE_ok (al := al) (most := most) Hnd.out (by omega) (by rw [← HT.out, ← hA]; omega)
        have hL := allL_ok (p := p) hE
        rw [← HT.out, ← hA] at hL
        have hL2 : allL p al most = outF p all := hL
        have HE := Lib.hid hE
        have HL := Lib.hid hL2
        have hT4 : T ≤ 4096 := by
          rcases Nat.eq_zero_or_pos al.size with e | e
          · have := HTz.out e; omega
          · have := txt_ge al e (T + 1); rw [← hA] at this; omega
        have hsz : ∀ x ∈ all, x.size ≤ 100000 := fun x hx => by rw [hA] at hx; have := txtL_size al x hx; omega
        have Hsz := Lib.hid hsz
        have S6 : Sat wc (strs none 0 (outF p (all.take 0)) * (strs q cap all * keep w)) := by
          have := HS.nil_arr 9 1
          simpa [strs, outF, strCells] using this
        clear hA hE hL hL2 hP1 hP2 hsz HS
        go_wp2_with fail
        go_loopg [16, 17] (all.length) (B6Rel p all q cap w)
        case atStart => exact ⟨0, none, 0, by omega, by simp [outF], rfl, S6, HR⟩
        case round =>
          clear S6 HR
          obtain ⟨i, q2, c2, hig, rfl, rfl, HS, HR⟩ := hrel
          have hi0 : (0 : Int) ≤ i := by omega
          by_cases hi : i < all.length
          · have hi' : (i : Int) < all.length := by omega
            have HS' := HS.perm (show _ = strs q cap all * (strs q2 c2 (outF p (all.take i)) * keep w) by ac_rfl)
            obtain ⟨ab, ao, rfl, cx⟩ := strs_cell HS' i hi
            obtain ⟨x, hx⟩ : ∃ x, x = all[i] := ⟨_, rfl⟩
            have hxs := Hsz.out x (by rw [hx]; exact List.getElem_mem hi)
            rw [← hx] at cx
            have hkp : Kept w wr := ⟨HR.size, HS.right.right.kept⟩
            have HM := Lib.hid (rmatch_calls p x ap cp wr (h.keep hkp) hxs)
            have hout : outF p (all.take (i + 1)) = outF p (all.take i) ++ (if matchB p (bs x) = true then [x] else []) := by
              rw [List.take_succ_eq_append_getElem hi, ← hx]
              unfold outF
              rw [List.filter_append]
              congr 1
              cases hmb : matchB p (bs x) <;> simp [hmb]
            have hol : (outF p (all.take i)).length ≤ 1000000000 := by
              have h1 : (outF p (all.take i)).length ≤ (all.take i).length := List.length_filter_le _ _
              rw [List.length_take] at h1
              omega
            obtain ⟨v, hv⟩ : ∃ v, v = matchB p (bs x) := ⟨_, rfl⟩
            rw [← hv] at hout HM
            obtain ⟨lo, hlo⟩ : ∃ lo, lo = outF p (all.take i) := ⟨_, rfl⟩
            rw [← hlo] at hout HS HS' hol ⊢
            have Hout := Lib.hid hout
            have Hig := Lib.hid hig
            have HS0 := Lib.hid HS
            clear hout hx hxs hkp hv hlo hig HS HS'
            have hal9 := World.block_lt_of_cell? wr _ cx
            cases v
            · go_wp2_with fail
              refine HM.out.mono ?_
              rintro e w4 ⟨rfl, b4⟩
              have HS4 := HS0.out.below b4
              have R4 := Below.trans HR (b4.mono (Nat.zero_le _))
              clear b4
              go_wp2_with fail
              go_roundg (gk - 1)
              case measure => have := Hig.out; omega
              case rel => exact ⟨i + 1, q2, c2, by have := Hig.out; omega, by rw [Hout.out]; simp, by go_num, by rw [Hout.out]; simpa using HS4, R4⟩
            · go_wp2_with fail
              refine HM.out.mono ?_
              rintro e w4 ⟨rfl, b4⟩
              have HS4 := HS0.out.below b4
              have R4 := Below.trans HR (b4.mono (Nat.zero_le _))
              have cx4 : w4.cell? ⟨ab, ao + i, none⟩ = some (.string x) := ((Kept.below b4).cell hal9 _).trans cx
              have HSB := HS4.old (.cells #[.string x] 9 (0, 0))
              have RB := Ran.new R4 (.cells #[.string x] 9 (0, 0))
              clear b4 cx HS4 hal9 HR R4
              go_wp2_with (at_builtin; go_loud (refine appStr rfl _ _ rfl q2 lo.length c2 _ rfl _ rfl HSB _ (blk_new rfl) rfl hol ?_; intro p' cap' w6 HS7 HR7; clear HSB))
              go_roundg (gk - 1)
              case measure => have := Hig.out; omega
              case rel => exact ⟨i + 1, p', cap', by have := Hig.out; omega, by rw [Hout.out]; simp, by go_num, by rw [Hout.out]; simp only [if_true]; unfold strs; rw [List.length_append, strCells_append]; exact HS7, Below.trans RB HR7⟩
          · have hge : ¬ ((i : Int) < all.length) := by omega
            rw [List.take_of_length_le (by omega)] at HS ⊢
            have hst := strsAt_arr HS
            obtain ⟨lo, hlo⟩ : ∃ lo, lo = outF p all := ⟨_, rfl⟩
            rw [← hlo] at HS hst HL ⊢
            have hfin := HR.whole (HS.perm (show _ = (strs q2 c2 lo * strs q cap all) * keep w by ac_rfl))
            clear hig hlo HS HR h
            go_wp2_with fail
            go_ret2
            exact ⟨q2, c2, by rw [HE.out, HL.out]; rfl, by rw [HL.out]; exact hst, hfin⟩
      · have d' : (4096 : Int) < all.length := by omega
        have hE := allE_many (al := al) (most := most) Hnd.out (by omega) (by rw [← HT.out]; exact hP2 (by omega))
        have hL := all_err (p := p) hE (by decide)
        have HE := Lib.hid hE
        have HL := Lib.hid hL
        have hfin := HR.whole HS
        clear hE hL hP1 hP2 d HS HR h
        go_wp2_with fail
        go_ret2
        exact ⟨none, 0, by rw [HE.out, HL.out]; rfl, by rw [HL.out]; exact strsAt_nil _, hfin⟩
end Go.Proofs.Ytjbdpahdhlmanaa.Globs
