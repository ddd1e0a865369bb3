/- HandlesPlays, part 7 of 26: the texts GlJ, joined by a program. -/
import Derived.Test.YtndjgeohkfenfaaGreatDoorPq6
import Derived.Test.YtndjgeohkfenfaaGreatDoorPq2
namespace Go.Proofs.YtndjgeohkfenfaaGreatDoor.Globs
open Go.RowKit Go.Proofs.YtndjgeohkfenfaaGreatDoor Go.Proofs.YtndjgeohkfenfaaGreatDoor.Hp
set_option linter.unusedVariables false

/-- The cells of ranges. -/
def rgCells (l : List Rg) : List Value := l.flatMap fun c => [.int .u8 c.1.toNat, .int .u8 c.2.toNat]
theorem rgCells_length (l : List Rg) : (rgCells l).length = l.length * 2 := by
  unfold rgCells
  induction l with
  | nil => rfl
  | cons c l ih => simp only [List.flatMap_cons, List.length_append, List.length_cons, List.length_nil, ih]; omega
theorem rgCells_append (l m : List Rg) : rgCells (l ++ m) = rgCells l ++ rgCells m := List.flatMap_append
theorem rgCells_get (l : List Rg) (i : Nat) (h : i < l.length) : (rgCells l)[i * 2]? = some (.int .u8 l[i].1.toNat) ∧ (rgCells l)[i * 2 + 1]? = some (.int .u8 l[i].2.toNat) := by
  induction l generalizing i with
  | nil => simp at h
  | cons c l ih =>
    cases i with
    | zero => exact ⟨rfl, rfl⟩
    | succ i =>
      have := ih i (by simpa using h)
      rw [show (i + 1) * 2 = i * 2 + 2 by omega]
      exact this
theorem rgCells_one (l : List Rg) : ∀ u ∈ rgCells l, u.oneCell' = true := by
  intro u hu
  unfold rgCells at hu
  obtain ⟨c, _, h⟩ := List.mem_flatMap.1 hu
  simp at h
  rcases h with rfl | rfl <;> rfl
theorem infoRg : (Tryz.prog.info? 205).map (fun i => (i.zero, i.size, i.bytes)) = some (some (.agg #[.int .u8 0, .int .u8 0]), 2, 2) := by kernel_rfl
/-- Ranges in memory, as what is appended. -/
theorem rg_src {w : World} {ra : Option Addr} {rs : List Rg} {rc : Nat} (h : RgAt w ra rs) : Src Tryz.prog 2 116 (.slice ra rs.length rc) rs.length (rgCells rs) w := by
  cases ra with
  | none =>
    have : rs = [] := by
      cases rs with
      | nil => rfl
      | cons x l => obtain ⟨b, o, e, _⟩ := h.2 0 (by simp); cases e
    subst this
    exact Src.ofNil w Tryz.underlying116 rc
  | some a =>
    refine Src.ofSlice w Tryz.underlying116 a rs.length rc (rgCells rs) (rgCells_length rs) (fun j u hj => ?_) (rgCells_one rs)
    have hjl := (List.getElem?_eq_some_iff.1 hj).1
    rw [rgCells_length] at hjl
    obtain ⟨b, o, e, hb, c0, c1⟩ := h.2 (j / 2) (by omega)
    obtain ⟨g0, g1⟩ := rgCells_get rs (j / 2) (by omega)
    simp only [Option.some.injEq] at e
    subst e
    rw [Addr.add_lit]
    rcases Nat.mod_two_eq_zero_or_one j with hm | hm
    · have e : j / 2 * 2 = j := by omega
      rw [e] at c0 g0
      rw [c0, ← hj, g0]
    · have e : j / 2 * 2 + 1 = j := by omega
      rw [e] at g1
      rw [show o + j = o + j / 2 * 2 + 1 by omega, c1, ← hj, g1]
theorem rgAt_arr {w : World} {R : Hp} {p : Option Addr} {cap : Nat} {rs : List Rg} (h : Sat w (arr 205 2 p rs.length cap (rgCells rs) * R)) : RgAt w p rs := by
  obtain ⟨h1, h2, h3⟩ := h.arr_len
  refine ⟨by unfold maxLen at h3; omega, fun j hj => ?_⟩
  obtain ⟨b, o, rfl⟩ := h.arr_addr (by omega)
  obtain ⟨g0, g1⟩ := rgCells_get rs j hj
  have hl := rgCells_length rs
  refine ⟨b, o, rfl, ?_, ?_, ?_⟩
  · obtain ⟨cur, _, _, _, _, _, _, h'⟩ := h.arr_some; exact h'.lt
  · rw [h.arr_cell (j * 2) (by omega)]; rw [List.getElem?_eq_getElem (by omega)] at g0; exact g0
  · rw [Nat.add_assoc, h.arr_cell (j * 2 + 1) (by omega)]; rw [List.getElem?_eq_getElem (by omega)] at g1; exact g1
/-- An item's block. -/
abbrev itemO (k : Int) (b : UInt8) (n : Bool) (v : Value) : Obj := .cells #[.int .i64 k, .int .u8 b.toNat, .bool n, v] 118 (0, 0)
theorem item_cells {w : World} {ib : Nat} {k : Int} {b : UInt8} {n : Bool} {v : Value} (h : w.heap[ib]? = some (itemO k b n v)) :
    w.cell? ⟨ib, 0, none⟩ = some (.int .i64 k) ∧ w.cell? ⟨ib, 1, none⟩ = some (.int .u8 b.toNat) ∧ w.cell? ⟨ib, 2, none⟩ = some (.bool n) ∧ w.cell? ⟨ib, 3, none⟩ = some v ∧ ∀ i, w.frozen? ⟨ib, i, none⟩ = false :=
  ⟨by rw [cell_at h]; rfl, by rw [cell_at h]; rfl, by rw [cell_at h]; rfl, by rw [cell_at h]; rfl, fun i => free_at h i⟩
def zeroItem : Value := .agg #[.int .i64 0, .int .u8 0, .bool false, .slice none 0 0]
def GroupPost (t : List Ch) (path : Bool) (w : World) (e : Ending) (w' : World) : Prop :=
  ((∃ (g : Itm) (k : Nat) (ra : Option Addr) (rc : Nat), groupL t path = some (g, k) ∧ e = .returned (.tuple #[.agg #[.int .i64 g.kind, .int .u8 g.b.toNat, .bool g.neg, .slice ra g.rs.length rc], .int .i64 k]) ∧ RgAt w' ra g.rs ∧ ∀ a, ra = some a → w.heap.size ≤ a.block) ∨
    (groupL t path = none ∧ e = .returned (.tuple #[zeroItem, .int .i64 0]))) ∧ Below w.heap.size w w'
/-- At a round's head. -/
def GRel (t : List Ch) (path : Bool) (w : World) (rb ib : Nat) (g : Nat) (nv fv : Value) (wr : World) : Prop :=
  ∃ (n : Nat) (first : Bool) (acc : List Rg) (p : Option Addr) (cap : Nat), nv = .int .i64 (n : Int) ∧ fv = .bool first ∧ t.length < n + g ∧ n ≤ t.length ∧ acc.length + 4 * g ≤ 4 * (t.length + 1) ∧ groupR t path = groupF path t g n first acc ∧
    Sat wr (pts ib (itemO 4 0 (bareL t [33]) (.slice p acc.length cap)) * (pts rb (itemO 0 0 false (.slice none 0 0)) * (arr 205 2 p acc.length cap (rgCells acc) * keep w))) ∧ Ran w wr
theorem appRg {w : World} {R : Hp} {ops : Array Oper} {rest : List Oper} {o : Oper} {a : Act} {Q : Exit → Act → World → Prop} (hgd : o.guard = none) (s x : Operand)
    (ho : o.op = .call { callee := .builtin .append, args := #[s, x], argTypes := #[116, 116] })
    (p : Option Addr) (n cap : Nat) (xs : List Value) (hp : a.eval s = .slice p n cap) (vx : Value) (hvx : a.eval x = vx) (h : Sat w (arr 205 2 p n cap xs * R)) (m : Nat) (news : List Value) (hs : Src Tryz.prog 2 116 vx m news w) (hn : n + m ≤ 1000000000)
    (hk : ∀ p' cap' w', Sat w' (arr 205 2 p' (n + m) cap' (xs ++ news) * R) → Ran w w' → wpList Tryz.prog ops Q rest (a.put o.dst (.slice p' (n + m) cap')) w') : wpList Tryz.prog ops Q (o :: rest) a w := by
  obtain ⟨i0, hi, hz0, hz1, hz2⟩ := info_parts infoRg
  exact wpList_append_arr hgd s x _ _ ho 205 i0 _ 2 2 Tryz.underlying116 hi hz0 hz1 hz2 rfl p n cap xs hp h vx hvx m news (by rw [hz1]; exact hs) (by omega) (by unfold maxLen; omega) fun p' cap' w' h1 h2 _ => hk p' cap' w' h1 h2
theorem thing_at (t : List Ch) (path : Bool) (ao : Option Addr) (cap n : Nat) (w : World) (h : CharsAt w ao cap t) (hn : n < t.length) (hm : t.length ≤ 100000) :
    Calls Tryz.prog 97 #[.slice (tailA ao n cap 2) (t.length - n) (cap - n), .bool path] w (ThingPost (t.drop n) path w) := by
  have := thing_calls (t.drop n) path (tailA ao n cap 2) (cap - n) w (h.tail n (by omega)) (by rw [List.length_drop]; omega) (by rw [List.length_drop]; omega)
  rwa [List.length_drop] at this
set_option maxRecDepth 100000 in
set_option maxHeartbeats 16000000 in
theorem group_calls (t : List Ch) (path : Bool) (ao : Option Addr) (cap : Nat) (w : World) (h : CharsAt w ao cap t) (hm : t.length ≤ 100000) :
    Calls Tryz.prog 58 #[.slice ao t.length cap, .bool path] w (GroupPost t path w) := by
  have hcap := h.1
  have htl : (t.length : Int) ≤ 100000 := by omega
  have H0 := ((Sat.start w).alloc (itemO 0 0 false (.slice none 0 0))).alloc (itemO 4 0 false (.slice none 0 0))
  simp only [World.size_alloc] at H0
  have R0 : Ran w ((w.alloc (itemO 0 0 false (.slice none 0 0))).alloc (itemO 4 0 false (.slice none 0 0))) := Ran.new (Ran.new (Below.refl _ _) _) _
  have hk0 : Kept w ((w.alloc (itemO 0 0 false (.slice none 0 0))).alloc (itemO 4 0 false (.slice none 0 0))) := (kept_alloc _ _).trans (kept_alloc _ _)
  have HB := Lib.hid (bare_calls t ⟨#[33]⟩ ao cap _ (h.keep hk0) (by decide))
  obtain ⟨rb, hrb⟩ : ∃ rb, rb = w.heap.size := ⟨_, rfl⟩
  obtain ⟨ib, hib⟩ : ∃ ib, ib = w.heap.size + 1 := ⟨_, rfl⟩
  rw [← hib, ← hrb] at H0
  cases hneg : bareL t (bs ⟨#[33]⟩) with
  | false =>
    have hneg' : bareL t [33] = false := hneg
    rw [hneg] at HB
    have hbeg : grpBeg t = 0 := by unfold grpBeg; rw [hneg']; rfl
    have Hbeg := Lib.hid hbeg
    have Hneg := Lib.hid hneg'
    have Hrb := Lib.hid hrb
    have Hib := Lib.hid hib
    clear hk0 hneg hneg' hbeg hrb hib
    go_enter Tryz.func58, Tryz.ntmps58
    go_wp2_with fail
    refine HB.out.mono ?_
    rintro e w1 ⟨rfl, m1, hw1⟩
    have HS1 : Sat w1 (pts ib (itemO 4 0 (bareL t [33]) (.slice none 0 0)) * (pts rb (itemO 0 0 false (.slice none 0 0)) * (arr 205 2 none 0 0 (rgCells []) * keep w))) := by
      rw [hw1, Hneg.out]; exact (H0.drewN m1).perm (by show _ = _ * (_ * (arr 205 2 none 0 0 [] * _)); rw [arr_nil, emp_sep])
    have HR1 : Ran w w1 := by rw [hw1]; exact Ran.drewN R0 _
    clear hw1 HB H0 R0
    go_wp2_with fail
    rw [← Hib.out, ← Hrb.out]
    go_loopg [7, 8] (t.length + 1) (GRel t path w rb ib)
    case atStart => exact ⟨0, true, [], none, 0, rfl, rfl, by omega, by omega, by rw [List.length_nil]; omega, by unfold groupR; rw [Hbeg.out], HS1, HR1⟩
    case round =>
      clear HS1 HR1
      obtain ⟨n, first, acc, p, cap2, rfl, rfl, hng, hnl, hacc, hG, HS, HR⟩ := hrel
      have hK : Kept w wr := ⟨HR.size, HS.right.right.right.kept⟩
      have hW := h.keep hK
      have hn0 : (0 : Int) ≤ n := by omega
      have hnl' : (n : Int) ≤ t.length := by omega
      by_cases hlt : n < t.length
      · have hlt' : (n : Int) < t.length := by omega
        obtain ⟨f, rfl⟩ : ∃ f, gk = f + 1 := ⟨gk - 1, by omega⟩
        unfold groupF at hG
        rw [if_pos hlt] at hG
        have hsl := fun W => slice_from ao t.length cap n hnl W
        have HTH := fun W (hc : CharsAt W ao cap t) => thing_at t path ao cap n W hc hlt hm
        have HTh := Lib.hid HTH
        clear HTH
        cases first with
        | true =>
          have HG2 : Hid (groupR t path = if (thingL (t.drop n) path).2 = 0 then none else groupF path t f (n + (thingL (t.drop n) path).2) false (acc ++ (thingL (t.drop n) path).1)) := Lib.hid (by rw [hG]; rfl)
          have HSW := HS
          have HRW := HR
          clear hG HS HR
          go_wp2_with fail
          refine (HTh.out _ (by exact hW)).mono ?_
          rintro e w3 ⟨ra, rc, rfl, hrg, hb3⟩
          have HS3 := HSW.below hb3
          have HR3 := HRW.below hb3
          clear hb3 HSW HRW
          obtain ⟨i0, i1, i2, i3, ifz⟩ := item_cells HS3.get
          obtain ⟨r0, r1, r2, r3, rfz⟩ := item_cells HS3.right.get
          by_cases hk : (thingL (t.drop n) path).2 = 0
          · have hkb : (((thingL (t.drop n) path).2 : Int) == 0) = true := by rw [hk]; rfl
            have hkb2 : ((thingL (t.drop n) path).2 == 0) = true := by rw [hk]; rfl
            have hnone : groupL t path = none := by unfold groupL; rw [HG2.out, if_pos hk]; rfl
            have Hnone := Lib.hid hnone
            have Hk := Lib.hid hk
            clear hk hnone hsl
            generalize (thingL (t.drop n) path).2 = kk at *
            go_wp2_with fail
            refine bodyPost_ret (v := .tuple #[zeroItem, .int .i64 0]) (by simp [results, Tryz.results58, go_sem, zeroItem, r0, r1, r2, r3]) rfl ⟨.inr ⟨Hnone.out, rfl⟩, ?_⟩
            exact Ran.whole' (Ran.set (Ran.set (Ran.set (Ran.set HR3 _ _) _ _) _ _) _ _) ((((HS3.right.set (i := 0) _).set (i := 1) _).set (i := 2) _).set (i := 3) _).right.right
          · have hkb : (((thingL (t.drop n) path).2 : Int) == 0) = false := by rw [beq_eq_false_iff_ne]; omega
            have hkb2 : ((thingL (t.drop n) path).2 == 0) = false := by rw [beq_eq_false_iff_ne]; exact hk
            have hle := thingL_le path (t := t.drop n) (by rw [List.length_drop]; omega)
            rw [List.length_drop] at hle
            have hrs := thingL_rs (t.drop n) path
            have hG3 := HG2.out
            rw [if_neg hk] at hG3
            have HG3 := Lib.hid hG3
            have hk1 : 0 < (thingL (t.drop n) path).2 := by omega
            clear hk hG3 hsl HG2
            generalize (thingL (t.drop n) path).2 = kk at *
            generalize (thingL (t.drop n) path).1 = ll at *
            have HS4 : Sat w3 (arr 205 2 p acc.length cap2 (rgCells acc) * (pts ib (itemO 4 0 (bareL t [33]) (.slice p acc.length cap2)) * (pts rb (itemO 0 0 false (.slice none 0 0)) * keep w))) := HS3.perm (by ac_rfl)
            have Hsrc := Lib.hid (rg_src (rc := rc) hrg)
            clear HS3 r0 r1 r2 r3 rfz
            go_wp2_with (at_builtin; refine appRg rfl _ _ rfl p acc.length cap2 _ rfl _ rfl HS4 _ _ Hsrc.out (by omega) ?_; intro p' cap' w4 HS5 HR5; clear HS4 i0 i1 i2 i3 ifz; have HS6 := HS5.perm (show _ = pts ib (itemO 4 0 (bareL t [33]) (.slice p acc.length cap2)) * (pts rb (itemO 0 0 false (.slice none 0 0)) * (arr 205 2 p' (acc.length + ll.length) cap' (rgCells acc ++ rgCells ll) * keep w)) by ac_rfl); obtain ⟨i0, i1, i2, i3, ifz⟩ := item_cells HS6.get)
            go_roundg f
            case measure => omega
            case rel => exact ⟨n + kk, false, acc ++ ll, p', cap', by go_num, rfl, by omega, by omega, by rw [List.length_append]; omega, HG3.out, by rw [List.length_append, rgCells_append]; exact HS6.set (i := 3) _, Ran.set (HR3.trans HR5) _ _⟩
        | false =>
          have HBr := bare_at t ⟨#[93]⟩ ao cap n wr hW hnl (by decide)
          cases hbr : bareL (t.drop n) [93] with
          | true =>
            rw [show bareL (t.drop n) (bs ⟨#[93]⟩) = true from hbr] at HBr
            have HBR := Lib.hid HBr
            have hsome : groupL t path = some (⟨4, 0, bareL t [33], acc⟩, n + 1) := by unfold groupL; rw [hG, hbr]; rfl
            have Hsome := Lib.hid hsome
            obtain ⟨i0, i1, i2, i3, ifz⟩ := item_cells HS.get
            obtain ⟨r0, r1, r2, r3, rfz⟩ := item_cells HS.right.get
            have hrg := rgAt_arr (HS.perm (show _ = arr 205 2 p acc.length cap2 (rgCells acc) * (pts ib (itemO 4 0 (bareL t [33]) (.slice p acc.length cap2)) * (pts rb (itemO 0 0 false (.slice none 0 0)) * keep w)) by ac_rfl))
            have hne := HS.ne
            clear hG hbr HBr hsome HTh
            go_wp2_with fail
            refine HBR.out.mono ?_
            rintro e w' ⟨rfl, m, rfl⟩
            go_wp2_with fail
            have HSf := (((((HS.drewN m).right.set (i := 0) (.int .i64 4)).set (i := 1) (.int .u8 ((0 : UInt8).toNat : Nat))).set (i := 2) (.bool (bareL t [33]))).set (i := 3) (.slice p acc.length cap2)).right
            refine bodyPost_ret (v := .tuple #[.agg #[.int .i64 4, .int .u8 0, .bool (bareL t [33]), .slice p acc.length cap2], .int .i64 ((n : Int) + 1)]) (by simp [results, Tryz.results58, go_sem, r0, r1, r2, r3]) rfl ⟨.inl ⟨_, _, p, cap2, Hsome.out, by simp, ?_, ?_⟩, ?_⟩
            · exact rgAt_arr HSf
            · rintro a rfl; exact Sat.keep_fresh HSf
            · exact Ran.whole' (Ran.set (Ran.set (Ran.set (Ran.set (Ran.drewN HR m) _ _) _ _) _ _) _ _) HSf.right
          | false =>
            rw [show bareL (t.drop n) (bs ⟨#[93]⟩) = false from hbr] at HBr
            have HBR := Lib.hid HBr
            have HG2 : Hid (groupR t path = if (thingL (t.drop n) path).2 = 0 then none else groupF path t f (n + (thingL (t.drop n) path).2) false (acc ++ (thingL (t.drop n) path).1)) := Lib.hid (by rw [hG, hbr]; rfl)
            clear hG hbr HBr
            go_wp2_with fail
            refine HBR.out.mono ?_
            rintro e w' ⟨rfl, m, rfl⟩
            have HSW := HS.drewN m
            have HRW := Ran.drewN HR m
            clear HS HR
            go_wp2_with fail
            refine (HTh.out _ (by exact hW)).mono ?_
            rintro e w3 ⟨ra, rc, rfl, hrg, hb3⟩
            have HS3 := HSW.below hb3
            have HR3 := HRW.below hb3
            clear hb3 HSW HRW
            obtain ⟨i0, i1, i2, i3, ifz⟩ := item_cells HS3.get
            obtain ⟨r0, r1, r2, r3, rfz⟩ := item_cells HS3.right.get
            by_cases hk : (thingL (t.drop n) path).2 = 0
            · have hkb : (((thingL (t.drop n) path).2 : Int) == 0) = true := by rw [hk]; rfl
              have hkb2 : ((thingL (t.drop n) path).2 == 0) = true := by rw [hk]; rfl
              have hnone : groupL t path = none := by unfold groupL; rw [HG2.out, if_pos hk]; rfl
              have Hnone := Lib.hid hnone
              have Hk := Lib.hid hk
              clear hk hnone hsl
              generalize (thingL (t.drop n) path).2 = kk at *
              go_wp2_with fail
              refine bodyPost_ret (v := .tuple #[zeroItem, .int .i64 0]) (by simp [results, Tryz.results58, go_sem, zeroItem, r0, r1, r2, r3]) rfl ⟨.inr ⟨Hnone.out, rfl⟩, ?_⟩
              exact Ran.whole' (Ran.set (Ran.set (Ran.set (Ran.set HR3 _ _) _ _) _ _) _ _) ((((HS3.right.set (i := 0) _).set (i := 1) _).set (i := 2) _).set (i := 3) _).right.right
            · have hkb : (((thingL (t.drop n) path).2 : Int) == 0) = false := by rw [beq_eq_false_iff_ne]; omega
              have hkb2 : ((thingL (t.drop n) path).2 == 0) = false := by rw [beq_eq_false_iff_ne]; exact hk
              have hle := thingL_le path (t := t.drop n) (by rw [List.length_drop]; omega)
              rw [List.length_drop] at hle
              have hrs := thingL_rs (t.drop n) path
              have hG3 := HG2.out
              rw [if_neg hk] at hG3
              have HG3 := Lib.hid hG3
              have hk1 : 0 < (thingL (t.drop n) path).2 := by omega
              clear hk hG3 hsl HG2
              generalize (thingL (t.drop n) path).2 = kk at *
              generalize (thingL (t.drop n) path).1 = ll at *
              have HS4 : Sat w3 (arr 205 2 p acc.length cap2 (rgCells acc) * (pts ib (itemO 4 0 (bareL t [33]) (.slice p acc.length cap2)) * (pts rb (itemO 0 0 false (.slice none 0 0)) * keep w))) := HS3.perm (by ac_rfl)
              have Hsrc := Lib.hid (rg_src (rc := rc) hrg)
              clear HS3 r0 r1 r2 r3 rfz
              go_wp2_with (at_builtin; refine appRg rfl _ _ rfl p acc.length cap2 _ rfl _ rfl HS4 _ _ Hsrc.out (by omega) ?_; intro p' cap' w4 HS5 HR5; clear HS4 i0 i1 i2 i3 ifz; have HS6 := HS5.perm (show _ = pts ib (itemO 4 0 (bareL t [33]) (.slice p acc.length cap2)) * (pts rb (itemO 0 0 false (.slice none 0 0)) * (arr 205 2 p' (acc.length + ll.length) cap' (rgCells acc ++ rgCells ll) * keep w)) by ac_rfl); obtain ⟨i0, i1, i2, i3, ifz⟩ := item_cells HS6.get)
              go_roundg f
              case measure => omega
              case rel => exact ⟨n + kk, false, acc ++ ll, p', cap', by go_num, rfl, by omega, by omega, by rw [List.length_append]; omega, HG3.out, by rw [List.length_append, rgCells_append]; exact HS6.set (i := 3) _, Ran.set (HR3.trans HR5) _ _⟩
      · have hge : ¬ ((n : Int) < t.length) := by omega
        have hnone : groupL t path = none := by
          unfold groupL; rw [hG]
          cases gk with
          | zero => rfl
          | succ f => unfold groupF; rw [if_neg hlt]; rfl
        have Hnone := Lib.hid hnone
        obtain ⟨r0, r1, r2, r3, rfz⟩ := item_cells HS.right.get
        clear hnone hG
        go_wp2_with fail
        refine bodyPost_ret (v := .tuple #[zeroItem, .int .i64 0]) (by simp [results, Tryz.results58, go_sem, zeroItem, r0, r1, r2, r3]) rfl ⟨.inr ⟨Hnone.out, rfl⟩, ?_⟩
        exact Ran.whole' (Ran.set (Ran.set (Ran.set (Ran.set HR _ _) _ _) _ _) _ _) ((((HS.right.set (i := 0) _).set (i := 1) _).set (i := 2) _).set (i := 3) _).right.right
  | true =>
    have hneg' : bareL t [33] = true := hneg
    rw [hneg] at HB
    have hbeg : grpBeg t = 1 := by unfold grpBeg; rw [hneg']; rfl
    have hl1 : 1 ≤ t.length := by have := bareL_len hneg'; simpa using this
    have Hbeg := Lib.hid hbeg
    have Hneg := Lib.hid hneg'
    have Hrb := Lib.hid hrb
    have Hib := Lib.hid hib
    clear hk0 hneg hneg' hbeg hrb hib
    go_enter Tryz.func58, Tryz.ntmps58
    go_wp2_with fail
    refine HB.out.mono ?_
    rintro e w1 ⟨rfl, m1, hw1⟩
    have HS0 : Sat w1 (pts ib (itemO 4 0 false (.slice none 0 0)) * (pts rb (itemO 0 0 false (.slice none 0 0)) * keep w)) := by rw [hw1]; exact H0.drewN m1
    have HS1 : Sat (w1.setCell ⟨ib, 2, none⟩ (.bool true)) (pts ib (itemO 4 0 (bareL t [33]) (.slice none 0 0)) * (pts rb (itemO 0 0 false (.slice none 0 0)) * (arr 205 2 none 0 0 (rgCells []) * keep w))) := by
      rw [Hneg.out]; exact (HS0.set (i := 2) (.bool true)).perm (by show _ = _ * (_ * (arr 205 2 none 0 0 [] * _)); rw [arr_nil, emp_sep]; rfl)
    have HR1 : Ran w (w1.setCell ⟨ib, 2, none⟩ (.bool true)) := by rw [hw1]; exact Ran.set (Ran.drewN R0 _) _ _
    obtain ⟨i0, i1, i2, i3, ifz⟩ := item_cells HS0.get
    clear hw1 HB H0 R0 HS0
    rw [← Hib.out, ← Hrb.out]
    go_wp2_with fail
    clear i0 i1 i2 i3 ifz
    go_loopg [7, 8] (t.length + 1) (GRel t path w rb ib)
    case atStart => exact ⟨1, true, [], none, 0, rfl, rfl, by omega, by omega, by rw [List.length_nil]; omega, by unfold groupR; rw [Hbeg.out], HS1, HR1⟩
    case round =>
      clear HS1 HR1
      obtain ⟨n, first, acc, p, cap2, rfl, rfl, hng, hnl, hacc, hG, HS, HR⟩ := hrel
      have hK : Kept w wr := ⟨HR.size, HS.right.right.right.kept⟩
      have hW := h.keep hK
      have hn0 : (0 : Int) ≤ n := by omega
      have hnl' : (n : Int) ≤ t.length := by omega
      by_cases hlt : n < t.length
      · have hlt' : (n : Int) < t.length := by omega
        obtain ⟨f, rfl⟩ : ∃ f, gk = f + 1 := ⟨gk - 1, by omega⟩
        unfold groupF at hG
        rw [if_pos hlt] at hG
        have hsl := fun W => slice_from ao t.length cap n hnl W
        have HTH := fun W (hc : CharsAt W ao cap t) => thing_at t path ao cap n W hc hlt hm
        have HTh := Lib.hid HTH
        clear HTH
        cases first with
        | true =>
          have HG2 : Hid (groupR t path = if (thingL (t.drop n) path).2 = 0 then none else groupF path t f (n + (thingL (t.drop n) path).2) false (acc ++ (thingL (t.drop n) path).1)) := Lib.hid (by rw [hG]; rfl)
          have HSW := HS
          have HRW := HR
          clear hG HS HR
          go_wp2_with fail
          refine (HTh.out _ (by exact hW)).mono ?_
          rintro e w3 ⟨ra, rc, rfl, hrg, hb3⟩
          have HS3 := HSW.below hb3
          have HR3 := HRW.below hb3
          clear hb3 HSW HRW
          obtain ⟨i0, i1, i2, i3, ifz⟩ := item_cells HS3.get
          obtain ⟨r0, r1, r2, r3, rfz⟩ := item_cells HS3.right.get
          by_cases hk : (thingL (t.drop n) path).2 = 0
          · have hkb : (((thingL (t.drop n) path).2 : Int) == 0) = true := by rw [hk]; rfl
            have hkb2 : ((thingL (t.drop n) path).2 == 0) = true := by rw [hk]; rfl
            have hnone : groupL t path = none := by unfold groupL; rw [HG2.out, if_pos hk]; rfl
            have Hnone := Lib.hid hnone
            have Hk := Lib.hid hk
            clear hk hnone hsl
            generalize (thingL (t.drop n) path).2 = kk at *
            go_wp2_with fail
            refine bodyPost_ret (v := .tuple #[zeroItem, .int .i64 0]) (by simp [results, Tryz.results58, go_sem, zeroItem, r0, r1, r2, r3]) rfl ⟨.inr ⟨Hnone.out, rfl⟩, ?_⟩
            exact Ran.whole' (Ran.set (Ran.set (Ran.set (Ran.set HR3 _ _) _ _) _ _) _ _) ((((HS3.right.set (i := 0) _).set (i := 1) _).set (i := 2) _).set (i := 3) _).right.right
          · have hkb : (((thingL (t.drop n) path).2 : Int) == 0) = false := by rw [beq_eq_false_iff_ne]; omega
            have hkb2 : ((thingL (t.drop n) path).2 == 0) = false := by rw [beq_eq_false_iff_ne]; exact hk
            have hle := thingL_le path (t := t.drop n) (by rw [List.length_drop]; omega)
            rw [List.length_drop] at hle
            have hrs := thingL_rs (t.drop n) path
            have hG3 := HG2.out
            rw [if_neg hk] at hG3
            have HG3 := Lib.hid hG3
            have hk1 : 0 < (thingL (t.drop n) path).2 := by omega
            clear hk hG3 hsl HG2
            generalize (thingL (t.drop n) path).2 = kk at *
            generalize (thingL (t.drop n) path).1 = ll at *
            have HS4 : Sat w3 (arr 205 2 p acc.length cap2 (rgCells acc) * (pts ib (itemO 4 0 (bareL t [33]) (.slice p acc.length cap2)) * (pts rb (itemO 0 0 false (.slice none 0 0)) * keep w))) := HS3.perm (by ac_rfl)
            have Hsrc := Lib.hid (rg_src (rc := rc) hrg)
            clear HS3 r0 r1 r2 r3 rfz
            go_wp2_with (at_builtin; refine appRg rfl _ _ rfl p acc.length cap2 _ rfl _ rfl HS4 _ _ Hsrc.out (by omega) ?_; intro p' cap' w4 HS5 HR5; clear HS4 i0 i1 i2 i3 ifz; have HS6 := HS5.perm (show _ = pts ib (itemO 4 0 (bareL t [33]) (.slice p acc.length cap2)) * (pts rb (itemO 0 0 false (.slice none 0 0)) * (arr 205 2 p' (acc.length + ll.length) cap' (rgCells acc ++ rgCells ll) * keep w)) by ac_rfl); obtain ⟨i0, i1, i2, i3, ifz⟩ := item_cells HS6.get)
            go_roundg f
            case measure => omega
            case rel => exact ⟨n + kk, false, acc ++ ll, p', cap', by go_num, rfl, by omega, by omega, by rw [List.length_append]; omega, HG3.out, by rw [List.length_append, rgCells_append]; exact HS6.set (i := 3) _, Ran.set (HR3.trans HR5) _ _⟩
        | false =>
          have HBr := bare_at t ⟨#[93]⟩ ao cap n wr hW hnl (by decide)
          cases hbr : bareL (t.drop n) [93] with
          | true =>
            rw [show bareL (t.drop n) (bs ⟨#[93]⟩) = true from hbr] at HBr
            have HBR := Lib.hid HBr
            have hsome : groupL t path = some (⟨4, 0, bareL t [33], acc⟩, n + 1) := by unfold groupL; rw [hG, hbr]; rfl
            have Hsome := Lib.hid hsome
            obtain ⟨i0, i1, i2, i3, ifz⟩ := item_cells HS.get
            obtain ⟨r0, r1, r2, r3, rfz⟩ := item_cells HS.right.get
            have hrg := rgAt_arr (HS.perm (show _ = arr 205 2 p acc.length cap2 (rgCells acc) * (pts ib (itemO 4 0 (bareL t [33]) (.slice p acc.length cap2)) * (pts rb (itemO 0 0 false (.slice none 0 0)) * keep w)) by ac_rfl))
            have hne := HS.ne
            clear hG hbr HBr hsome HTh
            go_wp2_with fail
            refine HBR.out.mono ?_
            rintro e w' ⟨rfl, m, rfl⟩
            go_wp2_with fail
            have HSf := (((((HS.drewN m).right.set (i := 0) (.int .i64 4)).set (i := 1) (.int .u8 ((0 : UInt8).toNat : Nat))).set (i := 2) (.bool (bareL t [33]))).set (i := 3) (.slice p acc.length cap2)).right
            refine bodyPost_ret (v := .tuple #[.agg #[.int .i64 4, .int .u8 0, .bool (bareL t [33]), .slice p acc.length cap2], .int .i64 ((n : Int) + 1)]) (by simp [results, Tryz.results58, go_sem, r0, r1, r2, r3]) rfl ⟨.inl ⟨_, _, p, cap2, Hsome.out, by simp, ?_, ?_⟩, ?_⟩
            · exact rgAt_arr HSf
            · rintro a rfl; exact Sat.keep_fresh HSf
            · exact Ran.whole' (Ran.set (Ran.set (Ran.set (Ran.set (Ran.drewN HR m) _ _) _ _) _ _) _ _) HSf.right
          | false =>
            rw [show bareL (t.drop n) (bs ⟨#[93]⟩) = false from hbr] at HBr
            have HBR := Lib.hid HBr
            have HG2 : Hid (groupR t path = if (thingL (t.drop n) path).2 = 0 then none else groupF path t f (n + (thingL (t.drop n) path).2) false (acc ++ (thingL (t.drop n) path).1)) := Lib.hid (by rw [hG, hbr]; rfl)
            clear hG hbr HBr
            go_wp2_with fail
            refine HBR.out.mono ?_
            rintro e w' ⟨rfl, m, rfl⟩
            have HSW := HS.drewN m
            have HRW := Ran.drewN HR m
            clear HS HR
            go_wp2_with fail
            refine (HTh.out _ (by exact hW)).mono ?_
            rintro e w3 ⟨ra, rc, rfl, hrg, hb3⟩
            have HS3 := HSW.below hb3
            have HR3 := HRW.below hb3
            clear hb3 HSW HRW
            obtain ⟨i0, i1, i2, i3, ifz⟩ := item_cells HS3.get
            obtain ⟨r0, r1, r2, r3, rfz⟩ := item_cells HS3.right.get
            by_cases hk : (thingL (t.drop n) path).2 = 0
            · have hkb : (((thingL (t.drop n) path).2 : Int) == 0) = true := by rw [hk]; rfl
              have hkb2 : ((thingL (t.drop n) path).2 == 0) = true := by rw [hk]; rfl
              have hnone : groupL t path = none := by unfold groupL; rw [HG2.out, if_pos hk]; rfl
              have Hnone := Lib.hid hnone
              have Hk := Lib.hid hk
              clear hk hnone hsl
              generalize (thingL (t.drop n) path).2 = kk at *
              go_wp2_with fail
              refine bodyPost_ret (v := .tuple #[zeroItem, .int .i64 0]) (by simp [results, Tryz.results58, go_sem, zeroItem, r0, r1, r2, r3]) rfl ⟨.inr ⟨Hnone.out, rfl⟩, ?_⟩
              exact Ran.whole' (Ran.set (Ran.set (Ran.set (Ran.set HR3 _ _) _ _) _ _) _ _) ((((HS3.right.set (i := 0) _).set (i := 1) _).set (i := 2) _).set (i := 3) _).right.right
            · have hkb : (((thingL (t.drop n) path).2 : Int) == 0) = false := by rw [beq_eq_false_iff_ne]; omega
              have hkb2 : ((thingL (t.drop n) path).2 == 0) = false := by rw [beq_eq_false_iff_ne]; exact hk
              have hle := thingL_le path (t := t.drop n) (by rw [List.length_drop]; omega)
              rw [List.length_drop] at hle
              have hrs := thingL_rs (t.drop n) path
              have hG3 := HG2.out
              rw [if_neg hk] at hG3
              have HG3 := Lib.hid hG3
              have hk1 : 0 < (thingL (t.drop n) path).2 := by omega
              clear hk hG3 hsl HG2
              generalize (thingL (t.drop n) path).2 = kk at *
              generalize (thingL (t.drop n) path).1 = ll at *
              have HS4 : Sat w3 (arr 205 2 p acc.length cap2 (rgCells acc) * (pts ib (itemO 4 0 (bareL t [33]) (.slice p acc.length cap2)) * (pts rb (itemO 0 0 false (.slice none 0 0)) * keep w))) := HS3.perm (by ac_rfl)
              have Hsrc := Lib.hid (rg_src (rc := rc) hrg)
              clear HS3 r0 r1 r2 r3 rfz
              go_wp2_with (at_builtin; refine appRg rfl _ _ rfl p acc.length cap2 _ rfl _ rfl HS4 _ _ Hsrc.out (by omega) ?_; intro p' cap' w4 HS5 HR5; clear HS4 i0 i1 i2 i3 ifz; have HS6 := HS5.perm (show _ = pts ib (itemO 4 0 (bareL t [33]) (.slice p acc.length cap2)) * (pts rb (itemO 0 0 false (.slice none 0 0)) * (arr 205 2 p' (acc.length + ll.length) cap' (rgCells acc ++ rgCells ll) * keep w)) by ac_rfl); obtain ⟨i0, i1, i2, i3, ifz⟩ := item_cells HS6.get)
              go_roundg f
              case measure => omega
              case rel => exact ⟨n + kk, false, acc ++ ll, p', cap', by go_num, rfl, by omega, by omega, by rw [List.length_append]; omega, HG3.out, by rw [List.length_append, rgCells_append]; exact HS6.set (i := 3) _, Ran.set (HR3.trans HR5) _ _⟩
      · have hge : ¬ ((n : Int) < t.length) := by omega
        have hnone : groupL t path = none := by
          unfold groupL; rw [hG]
          cases gk with
          | zero => rfl
          | succ f => unfold groupF; rw [if_neg hlt]; rfl
        have Hnone := Lib.hid hnone
        obtain ⟨r0, r1, r2, r3, rfz⟩ := item_cells HS.right.get
        clear hnone hG
        go_wp2_with fail
        refine bodyPost_ret (v := .tuple #[zeroItem, .int .i64 0]) (by simp [results, Tryz.results58, go_sem, zeroItem, r0, r1, r2, r3]) rfl ⟨.inr ⟨Hnone.out, rfl⟩, ?_⟩
        exact Ran.whole' (Ran.set (Ran.set (Ran.set (Ran.set HR _ _) _ _) _ _) _ _) ((((HS.right.set (i := 0) _).set (i := 1) _).set (i := 2) _).set (i := 3) _).right.right
end Go.Proofs.YtndjgeohkfenfaaGreatDoor.Globs

