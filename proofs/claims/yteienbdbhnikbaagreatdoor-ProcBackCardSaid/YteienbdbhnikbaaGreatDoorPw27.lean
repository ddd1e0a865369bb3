/- HandlesPlays, part 27 of 31: the texts PrTo, joined by a program. -/
import Derived.Test.YteienbdbhnikbaaGreatDoorPw26
namespace Go.Proofs.YteienbdbhnikbaaGreatDoor.Pr
open Go.RowKit Go.Maps Go.Proofs.YteienbdbhnikbaaGreatDoor Go.Proofs.YteienbdbhnikbaaGreatDoor.Hp Go.Proofs.YteienbdbhnikbaaGreatDoor.Hd
set_option linter.unusedVariables false
attribute [local go_sem] Oper.semAt_some

/-- The numbers of those that are there, rising. -/
def KsF (f : Int → Int) (ks : List Int) : Prop := ks.Pairwise (· < ·) ∧ ∀ k, k ∈ ks ↔ 1 ≤ f k
theorem rising_eq : ∀ (a b : List Int), a.Pairwise (· < ·) → b.Pairwise (· < ·) → (∀ x, x ∈ a ↔ x ∈ b) → a = b
  | [], [], _, _, _ => rfl
  | [], y :: b, _, _, h => by have := (h y).2 List.mem_cons_self; simp at this
  | x :: a, [], _, _, h => by have := (h x).1 List.mem_cons_self; simp at this
  | x :: a, y :: b, h1, h2, h => by
    obtain ⟨p1, q1⟩ := List.pairwise_cons.1 h1
    obtain ⟨p2, q2⟩ := List.pairwise_cons.1 h2
    have e : x = y := by
      have a1 := List.mem_cons.1 ((h x).1 List.mem_cons_self)
      have a2 := List.mem_cons.1 ((h y).2 List.mem_cons_self)
      rcases a1 with e | e
      · exact e
      · rcases a2 with e2 | e2
        · exact e2.symm
        · have := p2 x e; have := p1 y e2; omega
    subst e
    rw [rising_eq a b q1 q2 fun z => ⟨fun hz => by
      rcases List.mem_cons.1 ((h z).1 (List.mem_cons_of_mem _ hz)) with e | e
      · have := p1 z hz; omega
      · exact e, fun hz => by
      rcases List.mem_cons.1 ((h z).2 (List.mem_cons_of_mem _ hz)) with e | e
      · have := p2 z hz; omega
      · exact e⟩]
theorem ksF_unique {f : Int → Int} {a b : List Int} (ha : KsF f a) (hb : KsF f b) : a = b :=
  rising_eq a b ha.1 hb.1 fun x => (ha.2 x).trans (hb.2 x).symm
theorem rising_len : ∀ (l : List Int) (a M : Int), a ≤ M → l.Pairwise (· < ·) → (∀ k ∈ l, a < k ∧ k ≤ M) → (l.length : Int) ≤ M - a
  | [], a, M, h, _, _ => by show (0 : Int) ≤ _; omega
  | x :: l, a, M, h, h1, h2 => by
    obtain ⟨p1, q1⟩ := List.pairwise_cons.1 h1
    have hx := h2 x List.mem_cons_self
    have h9 := rising_len l x M hx.2 q1 fun k hk => ⟨p1 k hk, (h2 k (List.mem_cons_of_mem _ hk)).2⟩
    have h8 : (x :: l).length = l.length + 1 := rfl
    have h10 := hx.1
    have h11 := hx.2
    rw [h8]
    omega
/-- Of a handle: its number and its refs. -/
def tf (f : Int → Int) (k : Int) : List Int := [k, f k]
def preL (p : Pc) (nl : List Nt) (ms : List Nat) : List Int := [p.dir.has, p.mask.has, (ms.length : Int), (nl.length : Int)]
def hasL (p : Pc) : List Int := p.fds.map fun s => s.has
/-- What told tells. -/
def toldL (f : Int → Int) (p : Pc) (nl : List Nt) (ms : List Nat) (ks : List Int) : List Int := preL p nl ms ++ hasL p ++ ks.flatMap (tf f)
theorem flat_take (f : Int → Int) (ks : List Int) (i : Nat) (hi : i < ks.length) : (ks.take (i + 1)).flatMap (tf f) = (ks.take i).flatMap (tf f) ++ [ks[i], f ks[i]] := by
  rw [List.take_succ_eq_append_getElem hi, List.flatMap_append]
  rfl
theorem flat_len2 (f : Int → Int) : ∀ (ks : List Int), (ks.flatMap (tf f)).length = 2 * ks.length
  | [] => rfl
  | x :: l => by
    have := flat_len2 f l
    show ([x, f x] ++ l.flatMap (tf f)).length = _
    rw [List.length_append, this, List.length_cons]
    show 2 + 2 * l.length = 2 * (l.length + 1)
    omega
theorem hasL_at (p : Pc) (h16 : p.fds.length = 16) (i : Nat) (hi : i < 16) : (hasL p).take (i + 1) = (hasL p).take i ++ [hasP p i] := by
  have hl : i < (hasL p).length := by unfold hasL; rw [List.length_map]; omega
  rw [List.take_succ_eq_append_getElem hl]
  have : (hasL p)[i] = hasP p i := by
    unfold hasP
    rw [if_pos (by omega), show (hasL p)[i] = (p.fds[i]'(by omega)).has from List.getElem_map ..,  Int.toNat_natCast, List.getD_eq_getElem?_getD, List.getElem?_eq_getElem (by omega), Option.getD_some]
  rw [this]
theorem four_arr {w : World} {R : Hp} {b : Nat} {x y z u : Int} (h : Sat w (pts b (.cells #[.int .i64 x, .int .i64 y, .int .i64 z, .int .i64 u] 3 (0, 0)) * R)) : Sat w (arr 3 1 (some ⟨b, 0, none⟩) 4 4 ([x, y, z, u].map iv) * R) :=
  Sat.arr_mk (Nat.le_refl _) (by unfold maxLen; decide) (Nat.le_refl _) rfl (fun j hj => by
    match j, hj with
    | 0, _ => rfl
    | 1, _ => rfl
    | 2, _ => rfl
    | 3, _ => rfl
    | j + 4, hj => exact absurd hj (by show ¬ (j + 4 < 4); omega)) h
theorem arr_int {w : World} {R : Hp} {n cap b o : Nat} {xs : List Int} (h : Sat w (arr 3 1 (some ⟨b, o, none⟩) n cap (xs.map iv) * R)) (i : Nat) (hi : i < xs.length) : w.cell? ⟨b, o + i, none⟩ = some (.int .i64 xs[i]) := by
  have := h.arr_cell i (by rw [List.length_map]; exact hi)
  rw [this, List.getElem_map]
theorem blk_newd {w : World} {o : Obj} {b : Nat} (h : w.heap.size = b) : (w.alloc o).drew.heap[b]? = some o := by subst h; exact heap_alloc_new w o
/-- Two numbers are appended, in a region that draws. -/
theorem stepI2 {w : World} {R : Hp} {ops : Array Oper} {o : Oper} {a : Act} {J : Act → World → Prop} {Q : Exit → Act → World → Prop} {E : Prop} (hgd : o.guard = none) (s x : Operand)
    (ho : o.op = .call { callee := .builtin .append, args := #[s, x], argTypes := #[44, 44] })
    (p : Option Addr) (cap : Nat) (xs : List Int) (hp : a.eval s = .slice p xs.length cap) (b : Nat) (u v : Int) (hvx : a.eval x = .slice (some ⟨b, 0, none⟩) 2 2) (hb : w.heap[b]? = some (.cells #[.int .i64 u, .int .i64 v] 3 (0, 0))) (h : Sat w (arr 3 1 p xs.length cap (xs.map iv) * R)) (hn : xs.length ≤ 1000000000)
    (hk : ∀ p' cap' w', Sat w' (arr 3 1 p' (xs ++ [u, v]).length cap' ((xs ++ [u, v]).map iv) * R) → Ran w w' → J (a.put o.dst (.slice p' (xs ++ [u, v]).length cap')) w') :
    if Region.wanted o (yielded ops a.tmps) = true then Oper.wp Tryz.prog o a w J Q else E := by
  obtain ⟨i0, hi, hz0, hz1, hz2⟩ := info_parts Undo.infoInt
  have e : (xs ++ [u, v]).length = xs.length + 2 := by rw [List.length_append]; rfl
  refine step_append_arr hgd s x _ _ ho 3 i0 _ 1 8 Tryz.underlying44 hi hz0 hz1 hz2 rfl p xs.length cap (xs.map iv) hp h _ hvx 2 [.int .i64 u, .int .i64 v] (Src.ofSlice _ Tryz.underlying44 ⟨b, 0, none⟩ 2 2 [.int .i64 u, .int .i64 v] (by simp [hz1]) ?_ (by intro y hy; simp at hy; rcases hy with rfl | rfl <;> rfl)) (by omega) (by unfold maxLen; omega) fun p' cap' w' h1 h2 _ => ?_
  · intro j y hj
    match j with
    | 0 =>
      rw [List.getElem?_cons_zero, Option.some.injEq] at hj
      subst hj
      rw [show (⟨b, 0, none⟩ : Addr).add 0 = ⟨b, 0, none⟩ from rfl, cell_at hb]
      rfl
    | 1 =>
      rw [List.getElem?_cons_succ, List.getElem?_cons_zero, Option.some.injEq] at hj
      subst hj
      rw [show (⟨b, 0, none⟩ : Addr).add 1 = ⟨b, 1, none⟩ from rfl, cell_at hb]
      rfl
    | j + 2 => simp at hj
  · have := hk p' cap' w' (by rw [e, List.map_append]; exact h1) h2
    rw [e] at this
    exact this
/-- Behind a Stat whose info lies in a block. -/
def CutI (rf : Int) (X : Hp) (W : World) (sx se : Value) (wx : World) : Prop :=
  ∃ (ib : Nat) (k a d er : Int) (m : Md), sx = .pointer (some ⟨ib, 0, none⟩) ∧ se = .int .i64 er ∧ Sat wx (pts ib (inO k rf a d m) * X) ∧ Ran W wx
section
variable {c : Pls} {N : Nat} {most : Int} {p : Pc} {nl : List Nt} {ms : List Nat} {w : World} {R : Hp} {b : Int → Int}
theorem l_All (hN : N ≤ 700000) (h : Sat w (PH c N b most p nl ms * R)) :
    Calls Tryz.prog 20 #[pp c.tb] w fun e w' => (∃ q cap ks, e = .returned (.slice q (List.length ks) cap) ∧ KsF (fOf b p nl) ks ∧ Sat w' (PH c N b most p nl ms * (arr 3 1 q ks.length cap (ks.map iv) * R))) ∧ Ran w w' := by
  obtain ⟨s, hI, hf, hg, hS⟩ := ph_open h
  refine (m_All (by omega) hI hS).mono ?_
  rintro e w' ⟨⟨q, cap, ks, he, hk, S⟩, hR⟩
  refine ⟨⟨q, cap, ks, he, ⟨hk.1, fun k => ?_⟩, ph_in hI hf hg trivial (S.perm (show _ = SgHp c s * (LG p most nl ms * (notesHp p nl * pcHp p) * (arr 3 1 q ks.length cap (ks.map iv) * R)) by ac_rfl))⟩, hR⟩
  rw [hk.2 k, ← hf]
  unfold hblk rf
  constructor
  · intro h1
    cases hz : findA s.L k with
    | none => rw [hz] at h1; exact absurd h1 (by decide)
    | some z => exact (hI.refs k z hz).1
  · intro h1
    cases hz : findA s.L k with
    | none => rw [hz] at h1; exact absurd h1 (by decide)
    | some z => rfl
theorem ks_len (hN : N ≤ 700000) {ks : List Int} (hk : KsF (fOf b p nl) ks) (h : Sat w (PH c N b most p nl ms * R)) : (ks.length : Int) ≤ 1000000 ∧ ∀ k ∈ ks, 1 ≤ k ∧ k ≤ 1000000 := by
  have h1 : ∀ k ∈ ks, 1 ≤ k ∧ k ≤ 1000000 := fun k hk' => ph_id hN h ((hk.2 k).1 hk')
  have := rising_len ks 0 1000000 (by omega) hk.1 fun k hk' => by have := h1 k hk'; omega
  exact ⟨by omega, h1⟩
theorem t_len (W : World) (h : Sat W (PH c N b most p nl ms * R)) :
    Calls Tryz.prog 25 #[pp p.lb] W fun e w' => e = .returned (.int .i64 (nl.length : Int)) ∧ W = w' := by
  have := Undo.len_calls p.lb most 4 (backs nl) ms W (St0 c N (fOf b p nl) (gOf p nl) * (notesHp p nl * pcHp p) * R) (Undo.log_out (h.perm (show _ = Undo.logHp p.lb most 4 (backs nl) ms * (St0 c N (fOf b p nl) (gOf p nl) * (notesHp p nl * pcHp p) * R) by unfold PH LG; ac_rfl)))
  rw [show (backs nl).length = nl.length from List.length_map ..] at this
  exact this
theorem t_mk (W : World) (h : Sat W (PH c N b most p nl ms * R)) :
    Calls Tryz.prog 17 #[pp p.lb] W fun e w' => e = .returned (.int .i64 (ms.length : Int)) ∧ W = w' :=
  Undo.marks_calls p.lb most 4 (backs nl) ms W (St0 c N (fOf b p nl) (gOf p nl) * (notesHp p nl * pcHp p) * R) (Undo.log_out (h.perm (show _ = Undo.logHp p.lb most 4 (backs nl) ms * (St0 c N (fOf b p nl) (gOf p nl) * (notesHp p nl * pcHp p) * R) by unfold PH LG; ac_rfl)))
abbrev WO5 (c : Pls) (p : Pc) : Obj := woP (pp c.fb) (pp c.bp) (pp c.tb) (pp p.lb) (pp p.pb)
def ToldQ (c : Pls) (N : Nat) (most : Int) (p : Pc) (nl : List Nt) (ms : List Nat) (w : World) (R : Hp) (e : Ending) (w' : World) : Prop :=
  ∃ ks T q cap, KsF (fOf b0 p nl) ks ∧ T = toldL (fOf b0 p nl) p nl ms ks ∧ T.length ≤ 3000000 ∧ e = .returned (.slice q (List.length T) cap) ∧ Sat w' (PH c N b0 most p nl ms * (arr 3 1 q T.length cap (T.map iv) * R)) ∧ Ran w w'
/-- The loops of told. -/
def To1 (c : Pls) (N : Nat) (most : Int) (p : Pc) (nl : List Nt) (ms : List Nat) (pre : List Int) (wb : Nat) (w : World) (R : Hp) (g : Nat) (v3 v4 : Value) (wr : World) : Prop :=
  ∃ (i : Nat) (xs : List Int) (pa : Option Addr) (cap : Nat), v4 = .int .i64 (i : Int) ∧ i + g = 16 ∧ xs = pre ++ (hasL p).take i ∧ v3 = .slice pa xs.length cap ∧ Sat wr (arr 3 1 pa xs.length cap (xs.map iv) * (PH c N b0 most p nl ms * (pts wb (WO5 c p) * R))) ∧ Ran w wr
def To2 (c : Pls) (N : Nat) (most : Int) (p : Pc) (nl : List Nt) (ms : List Nat) (xs ks : List Int) (q : Option Addr) (qc wb : Nat) (w : World) (R : Hp) (g : Nat) (v3 v8 : Value) (wr : World) : Prop :=
  ∃ (i : Nat) (ys : List Int) (pa : Option Addr) (cap : Nat), v8 = .int .i64 (i : Int) ∧ i + g = ks.length ∧ ys = xs ++ (ks.take i).flatMap (tf (fOf b0 p nl)) ∧ v3 = .slice pa ys.length cap ∧ Sat wr (arr 3 1 pa ys.length cap (ys.map iv) * (PH c N b0 most p nl ms * (arr 3 1 q ks.length qc (ks.map iv) * (pts wb (WO5 c p) * R)))) ∧ Ran w wr
set_option maxRecDepth 100000 in
set_option maxHeartbeats 1000000 in
theorem told_calls (h16 : p.fds.length = 16) (hN : N ≤ 600000) (h : Sat w (PH c N b0 most p nl ms * R)) :
    Calls Tryz.prog 23 #[worldV (pp c.fb) (pp c.bp) (pp c.tb) (pp p.lb) (pp p.pb)] w (ToldQ c N most p nl ms w R) := by
  have S1 := (h.alloc (WO5 c p)).perm (show _ = PH c N b0 most p nl ms * (pts w.heap.size (WO5 c p) * R) by ac_rfl)
  have R1 := Ran.new (Below.refl 0 w) (WO5 c p)
  obtain ⟨wb, hwb⟩ : ∃ b, b = w.heap.size := ⟨_, rfl⟩
  obtain ⟨w1, hw1⟩ : ∃ w1, w1 = w.alloc (WO5 c p) := ⟨_, rfl⟩
  rw [← hwb, ← hw1] at S1
  rw [← hw1] at R1
  have S1u := Lib.hid S1
  have R1u := Lib.hid R1
  replace S1 := S1.drew
  clear R1
  have HDi := Lib.hid (Dir_calls p h16 _ _ (ph_pc S1))
  have HMa := Lib.hid (Mask_calls p h16 _ _ (ph_pc S1))
  have HMk := Lib.hid (t_mk _ S1)
  have HLn := Lib.hid (t_len _ S1)
  have HHn := Lib.hid (fun (i : Nat) (W : World) (S : Hp) (hW : Sat W (PH c N b0 most p nl ms * S)) => Handle_calls p (i : Int) h16 W _ (ph_pc hW))
  have HSt := Lib.hid (fun (i : Nat) (hi : i < 16) => hasL_at p h16 i hi)
  have Hll : Hid ((hasL p).length = 16) := Lib.hid (by unfold hasL; rw [List.length_map, h16])
  have HAl := Lib.hid (fun (W : World) (S : Hp) (hW : Sat W (PH c N b0 most p nl ms * S)) => l_All (by omega) hW)
  have HBx := Lib.hid (fun (W : World) (S : Hp) (hW : Sat W (pts wb (WO5 c p) * S)) => woP_cells hW)
  have HST := Lib.hid (fun (id : Int) (hid : I64 id) (W : World) (S : Hp) (hW : Sat W (PH c N b0 most p nl ms * S)) => l_Stat (by omega) hid hW)
  obtain ⟨pre, hpre⟩ : ∃ l, l = preL p nl ms := ⟨_, rfl⟩
  have Hpre := Lib.hid hpre
  obtain ⟨tb, htb⟩ : ∃ x, x = c.tb := ⟨_, rfl⟩
  rw [← htb] at HAl HST
  have HBx := Lib.hid (fun (W : World) (S : Hp) (hW : Sat W (pts wb (WO5 c p) * S)) => (by rw [htb]; exact HBx.out W S hW : W.cell? ⟨wb, 0, none⟩ = some (pp c.fb) ∧ W.cell? ⟨wb, 1, none⟩ = some (pp c.bp) ∧ W.cell? ⟨wb, 2, none⟩ = some (pp tb) ∧ W.cell? ⟨wb, 3, none⟩ = some (pp p.lb) ∧ W.cell? ⟨wb, 4, none⟩ = some (pp p.pb)))
  obtain ⟨lb, hlb⟩ : ∃ x, x = p.lb := ⟨_, rfl⟩
  obtain ⟨pb, hpb⟩ : ∃ x, x = p.pb := ⟨_, rfl⟩
  rw [← hlb] at HMk HLn HBx
  rw [← hpb] at HDi HMa HHn HBx
  obtain ⟨dh, hdh⟩ : ∃ x, x = p.dir.has := ⟨_, rfl⟩
  obtain ⟨mh, hmh⟩ : ∃ x, x = p.mask.has := ⟨_, rfl⟩
  obtain ⟨ml, hml⟩ : ∃ x, x = (ms.length : Int) := ⟨_, rfl⟩
  obtain ⟨nn, hnn⟩ : ∃ x, x = (nl.length : Int) := ⟨_, rfl⟩
  rw [← hdh] at HDi
  rw [← hmh] at HMa
  rw [← hml] at HMk
  rw [← hnn] at HLn
  have hp4 : pre = [dh, mh, ml, nn] := by rw [hpre, hdh, hmh, hml, hnn]; rfl
  have Hp4 := Lib.hid hp4
  obtain ⟨-, -, -, c3, c4⟩ := HBx.out _ _ (S1.perm (show _ = pts wb (WO5 c p) * (PH c N b0 most p nl ms * R) by ac_rfl))
  have S2 := four_arr (S1u.out.alloc (.cells #[.int .i64 dh, .int .i64 mh, .int .i64 ml, .int .i64 nn] 3 (0, 0)))
  replace S2 := S2.drew
  have R2 : Hid (Ran w (w1.alloc (.cells #[.int .i64 dh, .int .i64 mh, .int .i64 ml, .int .i64 nn] 3 (0, 0))).drew) := Lib.hid (Ran.drewN (Ran.new R1u.out (.cells #[.int .i64 dh, .int .i64 mh, .int .i64 ml, .int .i64 nn] 3 (0, 0))) 1)
  obtain ⟨-, -, -, d3, d4⟩ := HBx.out _ _ (S2.perm (show _ = pts wb (WO5 c p) * (arr 3 1 (some ⟨w1.heap.size, 0, none⟩) 4 4 ([dh, mh, ml, nn].map iv) * (PH c N b0 most p nl ms * R)) by ac_rfl))
  replace S2 := Lib.hid S2
  obtain ⟨w2, hw2⟩ : ∃ w2, w2 = (w1.alloc (.cells #[.int .i64 dh, .int .i64 mh, .int .i64 ml, .int .i64 nn] 3 (0, 0))).drew := ⟨_, rfl⟩
  obtain ⟨ob, hob⟩ : ∃ b, b = w1.heap.size := ⟨_, rfl⟩
  rw [← hw2, ← hob] at S2
  rw [← hw2] at R2
  rw [← hlb, ← hpb, ← htb]
  replace hw1 : w1 = w.alloc (woP (pp c.fb) (pp c.bp) (pp tb) (pp lb) (pp pb)) := by rw [htb, hlb, hpb]; exact hw1
  clear h h16 hpre htb hlb hpb hdh hmh hml hnn hp4 S1 S1u R1u
  go_enter Tryz.func23, Tryz.ntmps23
  go_upto_region 1 with fail
  rw [← hwb, ← hw1]
  replace hw2 := Lib.hid hw2
  replace hob := Lib.hid hob
  clear hw1 hwb
  refine region_plan (S := (fun w' => w'.cell? ⟨wb, 3, none⟩ = some (pp lb) ∧ w'.cell? ⟨wb, 4, none⟩ = some (pp pb))) [(0, true), (1, true), (3, true), (4, true), (6, true), (7, true), (9, true), (10, true), (2, false), (5, false), (8, false), (11, false), (12, false), (13, true)] (by kernel_rfl) (by kernel_rfl) (by kernel_rfl) ?_ ?_
  · ((try dsimp only); (first | done | (first | exact ⟨c3, c4⟩ | exact ⟨d3, d4⟩)))
  simp only [planOps, List.map_cons, List.map_nil, List.getElem?_toArray, List.getElem?_cons_zero, List.getElem?_cons_succ]
  repeat (first
    | ((refine plan_yes (v := ?_) (by rfl) ?_ ?_); rotate_left; (focus (intro w hSw; (try dsimp only at hSw); go_simp; try (with_reducible rfl))); (try simp only [Act.put, List.setIfInBounds_toArray, List.set_cons_zero, List.set_cons_succ]))
    | ((refine plan_no (by rfl) ?_); (try simp only [Act.put, List.setIfInBounds_toArray, List.set_cons_zero, List.set_cons_succ]))
    | ((refine plan_step (fun K hK => ?_)); (first | (go_simp; (first | (go_at_call 15; refine HDi.out.mono ?_; rintro e w5 ⟨rfl, rfl⟩) | (go_at_call 16; refine HMa.out.mono ?_; rintro e w5 ⟨rfl, rfl⟩) | (go_at_call 17; refine HMk.out.mono ?_; rintro e w5 ⟨rfl, rfl⟩) | (go_at_call 25; refine HLn.out.mono ?_; rintro e w5 ⟨rfl, rfl⟩)); (try go_wp2_with fail)) | go_simp); (refine hK.out _ _ ?_ (fun hHeld => ?_)); (focus ((try dsimp only); (first | done | (first | exact ⟨c3, c4⟩ | exact ⟨d3, d4⟩)))); clear hK K; (try simp only [Act.put, List.setIfInBounds_toArray, List.set_cons_zero, List.set_cons_succ])))
  refine plan_done ?_
  rw [← hw2.out, ← hob.out]
  have S2 : Hid (Sat w2 (arr 3 1 (some ⟨ob, 0, none⟩) pre.length 4 (pre.map iv) * (PH c N b0 most p nl ms * (pts wb (WO5 c p) * R)))) := Lib.hid (by rw [Hp4.out]; exact S2.out)
  have hpl : pre.length = 4 := by rw [Hp4.out]; rfl
  have Hpl := Lib.hid hpl
  clear HDi HMa HMk HLn Hp4 c3 c4 d3 d4 hw2 hob hpl
  go_wp2_with fail
  go_loopg [3, 4, 5, 6] (16) (fun (g : Nat) (v3 v4 v5 v6 : Value) (wr : World) => To1 c N most p nl ms pre wb w R g v3 v4 wr)
  case atStart => exact ⟨0, pre, _, 4, rfl, rfl, by simp, by rw [Hpl.out], S2.out, R2.out⟩
  case round =>
    clear S2 R2
    obtain ⟨i, xs, pa, cap, rfl, hgk, hxs, rfl, HSi, HRi⟩ := hrel
    have hxl : xs.length = 4 + min i 16 := by
      rw [hxs, List.length_append, List.length_take, Hpl.out, Hll.out]
    have HSi := HSi.perm (show _ = PH c N b0 most p nl ms * (arr 3 1 pa xs.length cap (xs.map iv) * (pts wb (WO5 c p) * R)) by ac_rfl)
    have hi0 : (0 : Int) ≤ i := by omega
    by_cases hlt : i < 16
    · have hltI : (i : Int) < 16 := by omega
      have HH := Lib.hid (HHn.out i wr _ HSi)
      obtain ⟨hv, hhv⟩ : ∃ x, x = hasP p (i : Int) := ⟨_, rfl⟩
      rw [← hhv] at HH
      obtain ⟨-, -, -, -, c4⟩ := HBx.out _ _ (HSi.perm (show _ = pts wb (WO5 c p) * (PH c N b0 most p nl ms * (arr 3 1 pa xs.length cap (xs.map iv) * R)) by ac_rfl))
      have SB := (HSi.perm (show _ = arr 3 1 pa xs.length cap (xs.map iv) * (PH c N b0 most p nl ms * (pts wb (WO5 c p) * R)) by ac_rfl)).old (.cells #[.int .i64 hv] 3 (0, 0))
      have RB := Lib.hid (Ran.new HRi (.cells #[.int .i64 hv] 3 (0, 0)))
      have hx2 : xs ++ [hv] = pre ++ (hasL p).take (i + 1) := by rw [HSt.out i hlt, hxs, hhv, List.append_assoc]
      have Hx2 := Lib.hid hx2
      have hxn : xs.length ≤ 1000000000 := by omega
      clear hxs HSi HRi hhv hx2 hxl
      go_wp2_with fail
      refine HH.out.mono ?_
      rintro e w5 ⟨rfl, rfl⟩
      clear HH c4
      go_wp2_with (at_builtin; go_loud (refine appInt rfl _ _ rfl pa xs.length cap (xs.map iv) rfl _ rfl SB _ (Undo.blk_new rfl) rfl hxn ?_; intro p' cap' w6 T6 R6; clear SB))
      have T6 := Lib.hid T6
      have R6 := Lib.hid (Below.trans RB.out R6)
      go_roundg (gk - 1)
      case measure => omega
      case rel =>
        refine ⟨i + 1, xs ++ [hv], p', cap', by simp, by omega, Hx2.out, by rw [List.length_append]; rfl, ?_, R6.out⟩
        rw [List.length_append, List.map_append]
        exact T6.out
    · have h16 : i = 16 := by omega
      subst h16
      have hxe : xs = pre ++ hasL p := by rw [hxs, List.take_of_length_le (by rw [Hll.out]; exact Nat.le_refl _)]
      have Hxe := Lib.hid hxe
      have HA := Lib.hid (HAl.out wr _ HSi)
      obtain ⟨-, -, c2, -, -⟩ := HBx.out _ _ (HSi.perm (show _ = pts wb (WO5 c p) * (PH c N b0 most p nl ms * (arr 3 1 pa xs.length cap (xs.map iv) * R)) by ac_rfl))
      have HRi := Lib.hid HRi
      clear hxs hxe HSi HAl HHn HSt
      go_wp2_with fail
      refine HA.out.mono ?_
      rintro e w3 ⟨⟨q, qc, ks, rfl, hks, S3⟩, R3⟩
      have hkl := ks_len (by omega) hks S3
      have S3 := Lib.hid S3
      have R3 := Lib.hid (Below.trans HRi.out R3)
      have Hks := Lib.hid hks
      have Hki := Lib.hid hkl.2
      have hkl := hkl.1
      have Hxl : Hid (xs.length = 20) := Lib.hid (by omega)
      clear hxl
      clear HA c2 HRi hks
      go_wp2_with fail
      go_loopg [3, 8, 9, 10] (ks.length) (fun (g : Nat) (v3 v8 v9 v10 : Value) (wr : World) => To2 c N most p nl ms xs ks q qc wb w R g v3 v8 wr)
      case atStart => exact ⟨0, xs, pa, cap, rfl, by omega, by simp, rfl, S3.out.perm (by ac_rfl), R3.out⟩
      case round =>
        clear S3 R3
        obtain ⟨i, ys, pa, cap, rfl, hgk, hys, rfl, HSi, HRi⟩ := hrel
        have HSi := HSi.perm (show _ = PH c N b0 most p nl ms * (arr 3 1 pa ys.length cap (ys.map iv) * (arr 3 1 q ks.length qc (ks.map iv) * (pts wb (WO5 c p) * R))) by ac_rfl)
        have hi0 : (0 : Int) ≤ i := by omega
        have hyl : ys.length ≤ 20 + 2 * ks.length := by
          rw [hys, List.length_append, flat_len2, List.length_take, Hxl.out]
          omega
        by_cases hlt : i < ks.length
        · have hltI : (i : Int) < ks.length := by omega
          obtain ⟨qb, qo, rfl⟩ := (HSi.perm (show _ = arr 3 1 q ks.length qc (ks.map iv) * (PH c N b0 most p nl ms * (arr 3 1 pa ys.length cap (ys.map iv) * (pts wb (WO5 c p) * R))) by ac_rfl)).arr_addr (by have := (HSi.perm (show _ = arr 3 1 q ks.length qc (ks.map iv) * (PH c N b0 most p nl ms * (arr 3 1 pa ys.length cap (ys.map iv) * (pts wb (WO5 c p) * R))) by ac_rfl)).arr_len.2.1; omega)
          obtain ⟨id, hide⟩ : ∃ x, x = ks[i] := ⟨_, rfl⟩
          have hidI : I64 id := by
            have := Hki.out id (by rw [hide]; exact List.getElem_mem hlt)
            unfold I64; omega
          have Hide := Lib.hid hide
          have Hys := Lib.hid hys
          have HSi := Lib.hid HSi
          have HRi := Lib.hid HRi
          clear hys hide
          have HSA := Lib.hid (HST.out id hidI _ _ HSi.out.drew)
          have HSB := Lib.hid (HST.out id hidI _ _ (((HSi.out.alloc (inO 0 0 0 0 ⟨false, false, false⟩)).perm (show _ = PH c N b0 most p nl ms * (pts wr.heap.size (inO 0 0 0 0 ⟨false, false, false⟩) * (arr 3 1 pa ys.length cap (ys.map iv) * (arr 3 1 (some ⟨qb, qo, none⟩) ks.length qc (ks.map iv) * (pts wb (WO5 c p) * R)))) by ac_rfl)).drew))
          obtain ⟨rf, hrf⟩ : ∃ rf, rf = fOf b0 p nl id := ⟨_, rfl⟩
          rw [← hrf] at HSA HSB
          have Hrf := Lib.hid hrf
          have HC := Lib.hid (fun (W' : World) (h : Sat W' (PH c N b0 most p nl ms * (arr 3 1 pa ys.length cap (ys.map iv) * (arr 3 1 (some ⟨qb, qo, none⟩) ks.length qc (ks.map iv) * (pts wb (WO5 c p) * R))))) => (And.intro ((HBx.out _ _ h.right.right.right).2.2.1) (by rw [Hide.out]; exact arr_int h.right.right i hlt) : W'.cell? ⟨wb, 2, none⟩ = some (pp tb) ∧ W'.cell? ⟨qb, qo + i, none⟩ = some (.int .i64 id)))
          have k0 := HC.out _ HSi.out.drew
          have k0b := HC.out _ (HSi.out.old (inO 0 0 0 0 ⟨false, false, false⟩)).drew
          clear hrf
          go_upto_region 11 with fail
          go_cut [9, 10] from 42 to 66 (fun sx se wx => CutI rf (PH c N b0 most p nl ms * (arr 3 1 pa ys.length cap (ys.map iv) * (arr 3 1 (some ⟨qb, qo, none⟩) ks.length qc (ks.map iv) * (pts wb (WO5 c p) * R)))) w sx se wx)
          case first =>
            refine region_tree (S := (fun w' => w'.cell? ⟨wb, 2, none⟩ = some (pp tb) ∧ w'.cell? ⟨qb, qo + i, none⟩ = some (.int .i64 id))) (.take 0 (.take 1 (.take 2 (.take 3 (.take 4 (.take 5 (.fork 6 (.take 7 (.take 8 (.take 9 (.step 10 (.step 11 (.take 12 (.nil))))))) 10 (.step 6 (.take 7 (.take 8 (.take 9 (.step 11 (.take 12 (.nil)))))))))))))) (by kernel_rfl) (by kernel_rfl) (by kernel_rfl) ?_ ?_
            · ((try dsimp only); (first | done | (first | with_reducible exact k0 | with_reducible exact k0b | with_reducible exact k4 | with_reducible exact k4a _ | with_reducible exact k4b | with_reducible exact Kset.out)))
            simp only [Plan.ops, List.getElem?_toArray, List.getElem?_cons_zero, List.getElem?_cons_succ]
            ((first | ((refine tree_yes (v := ?_) (by rfl) ?_ ?_); rotate_left; (focus (intro w hSw; (try dsimp only at hSw); go_simp; try (with_reducible rfl)))) | (refine tree_no (by rfl) ?_)); (try simp only [Act.put, List.setIfInBounds_toArray, List.set_cons_zero, List.set_cons_succ]))
            ((first | ((refine tree_yes (v := ?_) (by rfl) ?_ ?_); rotate_left; (focus (intro w hSw; (try dsimp only at hSw); go_simp; try (with_reducible rfl)))) | (refine tree_no (by rfl) ?_)); (try simp only [Act.put, List.setIfInBounds_toArray, List.set_cons_zero, List.set_cons_succ]))
            ((first | ((refine tree_yes (v := ?_) (by rfl) ?_ ?_); rotate_left; (focus (intro w hSw; (try dsimp only at hSw); go_simp; try (with_reducible rfl)))) | (refine tree_no (by rfl) ?_)); (try simp only [Act.put, List.setIfInBounds_toArray, List.set_cons_zero, List.set_cons_succ]))
            ((first | ((refine tree_yes (v := ?_) (by rfl) ?_ ?_); rotate_left; (focus (intro w hSw; (try dsimp only at hSw); go_simp; try (with_reducible rfl)))) | (refine tree_no (by rfl) ?_)); (try simp only [Act.put, List.setIfInBounds_toArray, List.set_cons_zero, List.set_cons_succ]))
            ((first | ((refine tree_yes (v := ?_) (by rfl) ?_ ?_); rotate_left; (focus (intro w hSw; (try dsimp only at hSw); go_simp; try (with_reducible rfl)))) | (refine tree_no (by rfl) ?_)); (try simp only [Act.put, List.setIfInBounds_toArray, List.set_cons_zero, List.set_cons_succ]))
            ((first | ((refine tree_yes (v := ?_) (by rfl) ?_ ?_); rotate_left; (focus (intro w hSw; (try dsimp only at hSw); go_simp; try (with_reducible rfl)))) | (refine tree_no (by rfl) ?_)); (try simp only [Act.put, List.setIfInBounds_toArray, List.set_cons_zero, List.set_cons_succ]))
            refine tree_fork (fun K hK => ?_) (fun K hK => ?_)
            focus
              ((first | (go_simp; (first | (go_at_call 21; with_reducible refine HSA.out.mono ?_; rintro e w8 ⟨⟨k, a, d, m, er, rfl, -⟩, S8, R8⟩; have k4 := HC.out _ S8; have k4a := (fun o => HC.out _ (S8.old o)); have S8 := Lib.hid S8; have R8 := Lib.hid R8) | (go_at_call 21; with_reducible refine HSB.out.mono ?_; rintro e w8 ⟨⟨k, a, d, m, er, rfl, -⟩, S8, R8⟩; have S8b := S8.perm (show _ = pts wr.heap.size (inO 0 0 0 0 ⟨false, false, false⟩) * (PH c N b0 most p nl ms * (arr 3 1 pa ys.length cap (ys.map iv) * (arr 3 1 (some ⟨qb, qo, none⟩) ks.length qc (ks.map iv) * (pts wb (WO5 c p) * R)))) by ac_rfl); clear S8; have k4b := HC.out _ S8b.right; obtain ⟨z0, z1, z2, z3, z4, z5, z6⟩ := in_cells S8b; have f0b : ∀ i, w8.frozen? ⟨wr.heap.size, i, none⟩ = false := (fun i => free_at S8b.get i); have S8c := (((((((S8b.set (i := 0) (.int .i64 k)).set (i := 1) (.int .i64 rf)).set (i := 2) (.int .i64 a)).set (i := 3) (.int .i64 d)).set (i := 4) (.bool m.r)).set (i := 5) (.bool m.w)).set (i := 6) (.bool m.m)); have Kset := Lib.hid (HC.out _ S8c.right); have S8b := Lib.hid S8b; have R8 := Lib.hid R8; clear S8c)); (try go_wp2_with fail)) | go_simp); (refine hK.out _ _ ?_ (fun hHeld => ?_)); (focus ((try dsimp only); (first | done | (first | with_reducible exact k0 | with_reducible exact k0b | with_reducible exact k4 | with_reducible exact k4a _ | with_reducible exact k4b | with_reducible exact Kset.out)))); clear hK K; (try simp only [Act.put, List.setIfInBounds_toArray, List.set_cons_zero, List.set_cons_succ]))
              ((first | ((refine tree_yes (v := ?_) (by rfl) ?_ ?_); rotate_left; (focus (intro w hSw; (try dsimp only at hSw); go_simp; try (with_reducible rfl)))) | (refine tree_no (by rfl) ?_)); (try simp only [Act.put, List.setIfInBounds_toArray, List.set_cons_zero, List.set_cons_succ]))
              ((first | ((refine tree_yes (v := ?_) (by rfl) ?_ ?_); rotate_left; (focus (intro w hSw; (try dsimp only at hSw); go_simp; try (with_reducible rfl)))) | (refine tree_no (by rfl) ?_)); (try simp only [Act.put, List.setIfInBounds_toArray, List.set_cons_zero, List.set_cons_succ]))
              ((first | ((refine tree_yes (v := ?_) (by rfl) ?_ ?_); rotate_left; (focus (intro w hSw; (try dsimp only at hSw); go_simp; try (with_reducible rfl)))) | (refine tree_no (by rfl) ?_)); (try simp only [Act.put, List.setIfInBounds_toArray, List.set_cons_zero, List.set_cons_succ]))
              ((refine tree_step (fun K hK => ?_)); (first | (go_simp; (first | (go_at_call 21; with_reducible refine HSA.out.mono ?_; rintro e w8 ⟨⟨k, a, d, m, er, rfl, -⟩, S8, R8⟩; have k4 := HC.out _ S8; have k4a := (fun o => HC.out _ (S8.old o)); have S8 := Lib.hid S8; have R8 := Lib.hid R8) | (go_at_call 21; with_reducible refine HSB.out.mono ?_; rintro e w8 ⟨⟨k, a, d, m, er, rfl, -⟩, S8, R8⟩; have S8b := S8.perm (show _ = pts wr.heap.size (inO 0 0 0 0 ⟨false, false, false⟩) * (PH c N b0 most p nl ms * (arr 3 1 pa ys.length cap (ys.map iv) * (arr 3 1 (some ⟨qb, qo, none⟩) ks.length qc (ks.map iv) * (pts wb (WO5 c p) * R)))) by ac_rfl); clear S8; have k4b := HC.out _ S8b.right; obtain ⟨z0, z1, z2, z3, z4, z5, z6⟩ := in_cells S8b; have f0b : ∀ i, w8.frozen? ⟨wr.heap.size, i, none⟩ = false := (fun i => free_at S8b.get i); have S8c := (((((((S8b.set (i := 0) (.int .i64 k)).set (i := 1) (.int .i64 rf)).set (i := 2) (.int .i64 a)).set (i := 3) (.int .i64 d)).set (i := 4) (.bool m.r)).set (i := 5) (.bool m.w)).set (i := 6) (.bool m.m)); have Kset := Lib.hid (HC.out _ S8c.right); have S8b := Lib.hid S8b; have R8 := Lib.hid R8; clear S8c)); (try go_wp2_with fail)) | go_simp); (refine hK.out _ _ ?_ (fun hHeld => ?_)); (focus ((try dsimp only); (first | done | (first | with_reducible exact k0 | with_reducible exact k0b | with_reducible exact k4 | with_reducible exact k4a _ | with_reducible exact k4b | with_reducible exact Kset.out)))); clear hK K; (try simp only [Act.put, List.setIfInBounds_toArray, List.set_cons_zero, List.set_cons_succ]))
              ((refine tree_step (fun K hK => ?_)); (first | (go_simp; (first | (go_at_call 21; with_reducible refine HSA.out.mono ?_; rintro e w8 ⟨⟨k, a, d, m, er, rfl, -⟩, S8, R8⟩; have k4 := HC.out _ S8; have k4a := (fun o => HC.out _ (S8.old o)); have S8 := Lib.hid S8; have R8 := Lib.hid R8) | (go_at_call 21; with_reducible refine HSB.out.mono ?_; rintro e w8 ⟨⟨k, a, d, m, er, rfl, -⟩, S8, R8⟩; have S8b := S8.perm (show _ = pts wr.heap.size (inO 0 0 0 0 ⟨false, false, false⟩) * (PH c N b0 most p nl ms * (arr 3 1 pa ys.length cap (ys.map iv) * (arr 3 1 (some ⟨qb, qo, none⟩) ks.length qc (ks.map iv) * (pts wb (WO5 c p) * R)))) by ac_rfl); clear S8; have k4b := HC.out _ S8b.right; obtain ⟨z0, z1, z2, z3, z4, z5, z6⟩ := in_cells S8b; have f0b : ∀ i, w8.frozen? ⟨wr.heap.size, i, none⟩ = false := (fun i => free_at S8b.get i); have S8c := (((((((S8b.set (i := 0) (.int .i64 k)).set (i := 1) (.int .i64 rf)).set (i := 2) (.int .i64 a)).set (i := 3) (.int .i64 d)).set (i := 4) (.bool m.r)).set (i := 5) (.bool m.w)).set (i := 6) (.bool m.m)); have Kset := Lib.hid (HC.out _ S8c.right); have S8b := Lib.hid S8b; have R8 := Lib.hid R8; clear S8c)); (try go_wp2_with fail)) | go_simp); (refine hK.out _ _ ?_ (fun hHeld => ?_)); (focus ((try dsimp only); (first | done | (first | with_reducible exact k0 | with_reducible exact k0b | with_reducible exact k4 | with_reducible exact k4a _ | with_reducible exact k4b | with_reducible exact Kset.out)))); clear hK K; (try simp only [Act.put, List.setIfInBounds_toArray, List.set_cons_zero, List.set_cons_succ]))
              ((first | ((refine tree_yes (v := ?_) (by rfl) ?_ ?_); rotate_left; (focus (intro w hSw; (try dsimp only at hSw); go_simp; try (with_reducible rfl)))) | (refine tree_no (by rfl) ?_)); (try simp only [Act.put, List.setIfInBounds_toArray, List.set_cons_zero, List.set_cons_succ]))
              refine tree_done ?_
            rotate_left 1
            focus
              ((first | (go_simp; (first | (go_at_call 21; with_reducible refine HSA.out.mono ?_; rintro e w8 ⟨⟨k, a, d, m, er, rfl, -⟩, S8, R8⟩; have k4 := HC.out _ S8; have k4a := (fun o => HC.out _ (S8.old o)); have S8 := Lib.hid S8; have R8 := Lib.hid R8) | (go_at_call 21; with_reducible refine HSB.out.mono ?_; rintro e w8 ⟨⟨k, a, d, m, er, rfl, -⟩, S8, R8⟩; have S8b := S8.perm (show _ = pts wr.heap.size (inO 0 0 0 0 ⟨false, false, false⟩) * (PH c N b0 most p nl ms * (arr 3 1 pa ys.length cap (ys.map iv) * (arr 3 1 (some ⟨qb, qo, none⟩) ks.length qc (ks.map iv) * (pts wb (WO5 c p) * R)))) by ac_rfl); clear S8; have k4b := HC.out _ S8b.right; obtain ⟨z0, z1, z2, z3, z4, z5, z6⟩ := in_cells S8b; have f0b : ∀ i, w8.frozen? ⟨wr.heap.size, i, none⟩ = false := (fun i => free_at S8b.get i); have S8c := (((((((S8b.set (i := 0) (.int .i64 k)).set (i := 1) (.int .i64 rf)).set (i := 2) (.int .i64 a)).set (i := 3) (.int .i64 d)).set (i := 4) (.bool m.r)).set (i := 5) (.bool m.w)).set (i := 6) (.bool m.m)); have Kset := Lib.hid (HC.out _ S8c.right); have S8b := Lib.hid S8b; have R8 := Lib.hid R8; clear S8c)); (try go_wp2_with fail)) | go_simp); (refine hK.out _ _ ?_ (fun hHeld => ?_)); (focus ((try dsimp only); (first | done | (first | with_reducible exact k0 | with_reducible exact k0b | with_reducible exact k4 | with_reducible exact k4a _ | with_reducible exact k4b | with_reducible exact Kset.out)))); clear hK K; (try simp only [Act.put, List.setIfInBounds_toArray, List.set_cons_zero, List.set_cons_succ]))
              ((refine tree_step (fun K hK => ?_)); (first | (go_simp; (first | (go_at_call 21; with_reducible refine HSA.out.mono ?_; rintro e w8 ⟨⟨k, a, d, m, er, rfl, -⟩, S8, R8⟩; have k4 := HC.out _ S8; have k4a := (fun o => HC.out _ (S8.old o)); have S8 := Lib.hid S8; have R8 := Lib.hid R8) | (go_at_call 21; with_reducible refine HSB.out.mono ?_; rintro e w8 ⟨⟨k, a, d, m, er, rfl, -⟩, S8, R8⟩; have S8b := S8.perm (show _ = pts wr.heap.size (inO 0 0 0 0 ⟨false, false, false⟩) * (PH c N b0 most p nl ms * (arr 3 1 pa ys.length cap (ys.map iv) * (arr 3 1 (some ⟨qb, qo, none⟩) ks.length qc (ks.map iv) * (pts wb (WO5 c p) * R)))) by ac_rfl); clear S8; have k4b := HC.out _ S8b.right; obtain ⟨z0, z1, z2, z3, z4, z5, z6⟩ := in_cells S8b; have f0b : ∀ i, w8.frozen? ⟨wr.heap.size, i, none⟩ = false := (fun i => free_at S8b.get i); have S8c := (((((((S8b.set (i := 0) (.int .i64 k)).set (i := 1) (.int .i64 rf)).set (i := 2) (.int .i64 a)).set (i := 3) (.int .i64 d)).set (i := 4) (.bool m.r)).set (i := 5) (.bool m.w)).set (i := 6) (.bool m.m)); have Kset := Lib.hid (HC.out _ S8c.right); have S8b := Lib.hid S8b; have R8 := Lib.hid R8; clear S8c)); (try go_wp2_with fail)) | go_simp); (refine hK.out _ _ ?_ (fun hHeld => ?_)); (focus ((try dsimp only); (first | done | (first | with_reducible exact k0 | with_reducible exact k0b | with_reducible exact k4 | with_reducible exact k4a _ | with_reducible exact k4b | with_reducible exact Kset.out)))); clear hK K; (try simp only [Act.put, List.setIfInBounds_toArray, List.set_cons_zero, List.set_cons_succ]))
              ((first | ((refine tree_yes (v := ?_) (by rfl) ?_ ?_); rotate_left; (focus (intro w hSw; (try dsimp only at hSw); go_simp; try (with_reducible rfl)))) | (refine tree_no (by rfl) ?_)); (try simp only [Act.put, List.setIfInBounds_toArray, List.set_cons_zero, List.set_cons_succ]))
              ((first | ((refine tree_yes (v := ?_) (by rfl) ?_ ?_); rotate_left; (focus (intro w hSw; (try dsimp only at hSw); go_simp; try (with_reducible rfl)))) | (refine tree_no (by rfl) ?_)); (try simp only [Act.put, List.setIfInBounds_toArray, List.set_cons_zero, List.set_cons_succ]))
              ((first | ((refine tree_yes (v := ?_) (by rfl) ?_ ?_); rotate_left; (focus (intro w hSw; (try dsimp only at hSw); go_simp; try (with_reducible rfl)))) | (refine tree_no (by rfl) ?_)); (try simp only [Act.put, List.setIfInBounds_toArray, List.set_cons_zero, List.set_cons_succ]))
              ((refine tree_step (fun K hK => ?_)); (first | (go_simp; (first | (go_at_call 21; with_reducible refine HSA.out.mono ?_; rintro e w8 ⟨⟨k, a, d, m, er, rfl, -⟩, S8, R8⟩; have k4 := HC.out _ S8; have k4a := (fun o => HC.out _ (S8.old o)); have S8 := Lib.hid S8; have R8 := Lib.hid R8) | (go_at_call 21; with_reducible refine HSB.out.mono ?_; rintro e w8 ⟨⟨k, a, d, m, er, rfl, -⟩, S8, R8⟩; have S8b := S8.perm (show _ = pts wr.heap.size (inO 0 0 0 0 ⟨false, false, false⟩) * (PH c N b0 most p nl ms * (arr 3 1 pa ys.length cap (ys.map iv) * (arr 3 1 (some ⟨qb, qo, none⟩) ks.length qc (ks.map iv) * (pts wb (WO5 c p) * R)))) by ac_rfl); clear S8; have k4b := HC.out _ S8b.right; obtain ⟨z0, z1, z2, z3, z4, z5, z6⟩ := in_cells S8b; have f0b : ∀ i, w8.frozen? ⟨wr.heap.size, i, none⟩ = false := (fun i => free_at S8b.get i); have S8c := (((((((S8b.set (i := 0) (.int .i64 k)).set (i := 1) (.int .i64 rf)).set (i := 2) (.int .i64 a)).set (i := 3) (.int .i64 d)).set (i := 4) (.bool m.r)).set (i := 5) (.bool m.w)).set (i := 6) (.bool m.m)); have Kset := Lib.hid (HC.out _ S8c.right); have S8b := Lib.hid S8b; have R8 := Lib.hid R8; clear S8c)); (try go_wp2_with fail)) | go_simp); (refine hK.out _ _ ?_ (fun hHeld => ?_)); (focus ((try dsimp only); (first | done | (first | with_reducible exact k0 | with_reducible exact k0b | with_reducible exact k4 | with_reducible exact k4a _ | with_reducible exact k4b | with_reducible exact Kset.out)))); clear hK K; (try simp only [Act.put, List.setIfInBounds_toArray, List.set_cons_zero, List.set_cons_succ]))
              ((first | ((refine tree_yes (v := ?_) (by rfl) ?_ ?_); rotate_left; (focus (intro w hSw; (try dsimp only at hSw); go_simp; try (with_reducible rfl)))) | (refine tree_no (by rfl) ?_)); (try simp only [Act.put, List.setIfInBounds_toArray, List.set_cons_zero, List.set_cons_succ]))
              refine tree_done ?_
            all_goals
              first
              | (have R9 := Ran.new (Below.trans (Ran.drewN HRi.out 1) R8.out) (inO k rf a d m); have S9 := S8.out.alloc (inO k rf a d m); obtain ⟨w6, hw6⟩ : ∃ w6, w6 = w8.alloc (inO k rf a d m) := ⟨_, rfl⟩; obtain ⟨ib, hib⟩ : ∃ ib, ib = w8.heap.size := ⟨_, rfl⟩; rw [← hw6] at R9 S9 ⊢; rw [← hib] at S9 ⊢)
              | (have R9 := (Ran.set (Ran.set (Ran.set (Ran.set (Ran.set (Ran.set (Ran.set (Below.trans (Ran.drewN (Ran.new HRi.out (inO 0 0 0 0 ⟨false, false, false⟩)) 1) R8.out) ⟨wr.heap.size, 0, none⟩ (.int .i64 k)) ⟨wr.heap.size, 1, none⟩ (.int .i64 rf)) ⟨wr.heap.size, 2, none⟩ (.int .i64 a)) ⟨wr.heap.size, 3, none⟩ (.int .i64 d)) ⟨wr.heap.size, 4, none⟩ (.bool m.r)) ⟨wr.heap.size, 5, none⟩ (.bool m.w)) ⟨wr.heap.size, 6, none⟩ (.bool m.m)); have S9 := (((((((S8b.out.set (i := 0) (.int .i64 k)).set (i := 1) (.int .i64 rf)).set (i := 2) (.int .i64 a)).set (i := 3) (.int .i64 d)).set (i := 4) (.bool m.r)).set (i := 5) (.bool m.w)).set (i := 6) (.bool m.m)); obtain ⟨w6, hw6⟩ : ∃ w6, w6 = (((((((w8.setCell ⟨wr.heap.size, 0, none⟩ (.int .i64 k)).setCell ⟨wr.heap.size, 1, none⟩ (.int .i64 rf)).setCell ⟨wr.heap.size, 2, none⟩ (.int .i64 a)).setCell ⟨wr.heap.size, 3, none⟩ (.int .i64 d)).setCell ⟨wr.heap.size, 4, none⟩ (.bool m.r)).setCell ⟨wr.heap.size, 5, none⟩ (.bool m.w)).setCell ⟨wr.heap.size, 6, none⟩ (.bool m.m)) := ⟨_, rfl⟩; obtain ⟨ib, hib⟩ : ∃ ib, ib = wr.heap.size := ⟨_, rfl⟩; rw [← hw6] at R9 S9 ⊢; rw [← hib] at S9 ⊢)
            all_goals
              have S9 : Sat w6 (pts ib (inO k rf a d m) * (PH c N b0 most p nl ms * (arr 3 1 pa ys.length cap (ys.map iv) * (arr 3 1 (some ⟨qb, qo, none⟩) ks.length qc (ks.map iv) * (pts wb (WO5 c p) * R))))) := S9
              have S9 := Lib.hid S9
              have R9 := Lib.hid R9
              clear hw6 hib
              go_wp2_with fail
              go_meet
              case rel => exact ⟨ib, k, a, d, er, m, rfl, rfl, S9.out, R9.out⟩
          case rest =>
            obtain ⟨ib, k, a, d, er, m, rfl, rfl, S9, R9⟩ := hcut
            have S9d := Lib.hid ((S9.perm (show _ = arr 3 1 pa ys.length cap (ys.map iv) * (PH c N b0 most p nl ms * (arr 3 1 (some ⟨qb, qo, none⟩) ks.length qc (ks.map iv) * (pts ib (inO k rf a d m) * (pts wb (WO5 c p) * R)))) by ac_rfl)))
            have Hc : Hid (∀ (W : World) (A : Hp), Sat W (A * (PH c N b0 most p nl ms * (arr 3 1 (some ⟨qb, qo, none⟩) ks.length qc (ks.map iv) * (pts ib (inO k rf a d m) * (pts wb (WO5 c p) * R))))) → W.cell? ⟨qb, qo + i, none⟩ = some (.int .i64 id) ∧ W.cell? ⟨ib, 1, none⟩ = some (.int .i64 rf)) := Lib.hid fun W A hW => ⟨by rw [Hide.out]; exact arr_int hW.right.right i hlt, (in_cells hW.right.right.right).2.1⟩
            have c5 := Hc.out _ _ S9d.out.drew
            have a5 := fun o => Hc.out _ _ (S9d.out.old o).drew
            have R9 := Lib.hid R9
            have hn5 : ys.length ≤ 1000000000 := by omega
            clear HC HSA HSB S9 k0 k0b
            go_upto_region 12 with fail
            refine region_plan (S := (fun w' => w'.cell? ⟨qb, qo + i, none⟩ = some (.int .i64 id) ∧ w'.cell? ⟨ib, 1, none⟩ = some (.int .i64 rf))) [(0, true), (1, true), (2, true), (3, true), (4, true), (5, true), (6, true), (7, false), (8, false), (9, true)] (by kernel_rfl) (by kernel_rfl) (by kernel_rfl) ?_ ?_
            · ((try dsimp only); (first | done | (first | with_reducible exact c5 | with_reducible exact a5 _ | with_reducible exact k6)))
            simp only [planOps, List.map_cons, List.map_nil, List.getElem?_toArray, List.getElem?_cons_zero, List.getElem?_cons_succ]
            repeat (first
              | ((refine plan_yes (v := ?_) (by rfl) ?_ ?_); rotate_left; (focus (intro w hSw; (try dsimp only at hSw); go_simp; try (with_reducible rfl))); (try simp only [Act.put, List.setIfInBounds_toArray, List.set_cons_zero, List.set_cons_succ]))
              | ((refine plan_no (by rfl) ?_); (try simp only [Act.put, List.setIfInBounds_toArray, List.set_cons_zero, List.set_cons_succ]))
              | ((refine plan_step (fun K hK => ?_)); (first | ((refine stepI2 rfl _ _ rfl pa cap ys rfl _ id rf rfl (blk_newd rfl) (S9d.out.old _).drew hn5 ?_; intro p6 c6 w6 S6 R6; generalize hz6 : ys ++ [id, rf] = zs6 at S6 ⊢; have k6 := Hc.out _ _ S6)) | (go_simp; ((refine stepI2 rfl _ _ rfl pa cap ys rfl _ id rf rfl (blk_newd rfl) (S9d.out.old _).drew hn5 ?_; intro p6 c6 w6 S6 R6; generalize hz6 : ys ++ [id, rf] = zs6 at S6 ⊢; have k6 := Hc.out _ _ S6)); (try go_wp2_with fail)) | go_simp); (refine hK.out _ _ ?_ (fun hHeld => ?_)); (focus ((try dsimp only); (first | done | (first | with_reducible exact c5 | with_reducible exact a5 _ | with_reducible exact k6)))); clear hK K; (try simp only [Act.put, List.setIfInBounds_toArray, List.set_cons_zero, List.set_cons_succ])))
            refine plan_done ?_
            have Hz6 := Lib.hid hz6
            have S6 := Lib.hid (S6.perm (show _ = pts ib (inO k rf a d m) * (arr 3 1 p6 zs6.length c6 (zs6.map iv) * (PH c N b0 most p nl ms * (arr 3 1 (some ⟨qb, qo, none⟩) ks.length qc (ks.map iv) * (pts wb (WO5 c p) * R)))) by ac_rfl)).right
            have R6 := Lib.hid (Below.trans (Ran.drewN (Ran.new R9.out _) 1) R6)
            clear R9 hz6 c5 k6 S9d Hc
            go_wp2_with fail
            go_roundg (gk - 1)
            case measure => omega
            case rel =>
              refine ⟨i + 1, zs6, p6, c6, by simp, by omega, ?_, rfl, S6.out, R6.out⟩
              rw [← Hz6.out, Hys.out, flat_take _ _ _ hlt, Hrf.out, Hide.out, List.append_assoc]
        · have hq : ys = toldL (fOf b0 p nl) p nl ms ks := by
            rw [hys, List.take_of_length_le (by omega), Hxe.out, Hpre.out]
            rfl
          have Hq := Lib.hid hq
          have S9 := Lib.hid (HSi.perm (show _ = pts wb (WO5 c p) * (arr 3 1 q ks.length qc (ks.map iv) * (PH c N b0 most p nl ms * (arr 3 1 pa ys.length cap (ys.map iv) * R))) by ac_rfl)).right.right
          have HRi := Lib.hid HRi
          clear hys hq HSi
          go_wp2_with fail
          go_ret
          exact ⟨ks, ys, pa, cap, Hks.out, Hq.out, by omega, rfl, S9.out, HRi.out⟩
end
end Go.Proofs.YteienbdbhnikbaaGreatDoor.Pr

