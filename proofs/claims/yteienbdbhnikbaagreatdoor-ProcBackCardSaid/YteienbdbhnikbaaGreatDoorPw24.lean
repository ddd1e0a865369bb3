/- HandlesPlays, part 24 of 31: the texts PrY PrZ PrAw, joined by a program. -/
import Derived.Test.YteienbdbhnikbaaGreatDoorPw23
import Derived.Deep.MidRow
namespace Go.Proofs.YteienbdbhnikbaaGreatDoor.Pr
open Go.RowKit Go.Maps Go.Proofs.YteienbdbhnikbaaGreatDoor Go.Proofs.YteienbdbhnikbaaGreatDoor.Hp Go.Proofs.YteienbdbhnikbaaGreatDoor.Hd
set_option linter.unusedVariables false
attribute [local go_sem] Oper.semAt_some
attribute [local go_sem] run_store_func

theorem appInt {w : World} {H : Hp} {ops : Array Oper} {rest : List Oper} {o : Oper} {a : Act} {Q : Exit → Act → World → Prop} (hgd : o.guard = none) (s x : Operand)
    (ho : o.op = .call { callee := .builtin .append, args := #[s, x], argTypes := #[44, 44] })
    (p : Option Addr) (n cap : Nat) (xs : List Value) (hp : a.eval s = .slice p n cap) (b : Nat) (hvx : a.eval x = .slice (some ⟨b, 0, none⟩) 1 1) (h : Sat w (arr 3 1 p n cap xs * H)) (v : Value) (hb : w.heap[b]? = some (.cells #[v] 3 (0, 0))) (h0 : v.oneCell' = true) (hn : n ≤ 1000000000)
    (hk : ∀ p' cap' w', Sat w' (arr 3 1 p' (n + 1) cap' (xs ++ [v]) * H) → Ran w w' → wpList Tryz.prog ops Q rest (a.put o.dst (.slice p' (n + 1) cap')) w') : wpList Tryz.prog ops Q (o :: rest) a w := by
  obtain ⟨i0, hi, hz0, hz1, hz2⟩ := info_parts Undo.infoInt
  refine wpList_append_arr hgd s x _ _ ho 3 i0 _ 1 8 Tryz.underlying44 hi hz0 hz1 hz2 rfl p n cap xs hp h _ hvx 1 [v] (Src.ofSlice w Tryz.underlying44 ⟨b, 0, none⟩ 1 1 [v] (by rw [hz1]; rfl) ?_ (by simp [h0])) (by omega) (by unfold maxLen; omega) (fun p' cap' w' h1 h2 _ => hk p' cap' w' h1 h2)
  intro j u hj
  match j with
  | 0 =>
    rw [List.getElem?_cons_zero, Option.some.injEq] at hj
    subst hj
    rw [show (⟨b, 0, none⟩ : Addr).add 0 = ⟨b, 0, none⟩ from rfl, cell_at hb]
    rfl
  | j + 1 => simp at hj
def nOpen : List Sl → Nat
  | [] => 0
  | s :: l => (if s.has = 0 then 0 else 1) + nOpen l
theorem nOpen_snoc : ∀ (l : List Sl) (s : Sl), nOpen (l ++ [s]) = nOpen l + if s.has = 0 then 0 else 1
  | [], s => by show (if s.has = 0 then 0 else 1) + 0 = 0 + _; omega
  | x :: l, s => by
    have := nOpen_snoc l s
    show _ + nOpen (l ++ [s]) = _ + nOpen l + _
    omega
theorem nOpen_le : ∀ l : List Sl, nOpen l ≤ l.length
  | [] => Nat.le_refl _
  | x :: l => by
    have := nOpen_le l
    show (if x.has = 0 then 0 else 1) + nOpen l ≤ l.length + 1
    split <;> omega
theorem infoSlots : (Tryz.prog.info? 87).map (·.size) = some 64 := by kernel_rfl
theorem infoSlot : (Tryz.prog.info? 86).map (·.size) = some 4 := by kernel_rfl
/-- An element of the slots' array. -/
theorem run_slot (l : List Sl) (h16 : l.length = 16) (a b : Value) (i : Nat) (hi : i < 16) (w : World) :
    (Instr.index 87 (.agg (l.flatMap (slC a b)).toArray) (.int .i64 (i : Int))).run Tryz.prog w = .ok (.agg #[.int .i64 (l[i]'(by omega)).has, .int .i64 (l[i]'(by omega)).mark, a, b]) w := by
  have h0 : (0 : Int) ≤ (i : Int) ∧ (i : Int) < ((16 : Nat) : Int) := by omega
  obtain ⟨i0, hq, hs⟩ : ∃ i0, Tryz.prog.info? 86 = some i0 ∧ i0.size = 4 := by
    have := infoSlot
    cases hq : Tryz.prog.info? 86 with
    | none => rw [hq] at this; cases this
    | some i0 => rw [hq] at this; exact ⟨i0, rfl, by injection this⟩
  have hagg : (isAgg 86).run Tryz.prog w = .ok true w := by kernel_rfl
  have hsz : (sizeOf 86).run Tryz.prog w = .ok 4 w := by simp [sizeOf, typeInfo, hq, hs]
  have hex : (l.flatMap (slC a b)).toArray.extract (i * 4) (i * 4 + 4) = #[.int .i64 (l[i]'(by omega)).has, .int .i64 (l[i]'(by omega)).mark, a, b] := by
    have hil : i < l.length := by omega
    apply Array.ext'
    rw [Array.toList_extract]
    show (List.extract (l.flatMap (slC a b)) (i * 4) (i * 4 + 4)) = slC a b l[i]
    rw [List.extract_eq_take_drop]
    apply List.ext_getElem?
    intro j
    by_cases hj : j < 4
    · rw [List.getElem?_take_of_lt (by omega), List.getElem?_drop, sl_get a b l i j hil hj]
    · rw [List.getElem?_eq_none (by rw [List.length_take]; omega), List.getElem?_eq_none (by show 4 ≤ j; omega)]
  have hpart : (part 86 (l.flatMap (slC a b)).toArray (i * 4)).run Tryz.prog w = .ok (.agg #[.int .i64 (l[i]'(by omega)).has, .int .i64 (l[i]'(by omega)).mark, a, b]) w := by
    unfold part
    rw [Sem.run_bind, hagg]
    simp only [Result.andThen_ok, if_true]
    rw [Sem.run_bind, hsz]
    simp only [Result.andThen_ok, hex]
    rfl
  unfold Instr.index
  simp only [asIntOf, Sem.run_bind, Sem.run_pure, Result.andThen_ok, run_underlying Tryz.underlying87]
  rw [if_pos h0]
  simp only [Sem.run_bind, hsz, Result.andThen_ok, Int.toNat_natCast, hpart]
set_option maxRecDepth 100000 in
set_option maxHeartbeats 2000000 in
theorem Fds_calls (p : Pc) (h16 : p.fds.length = 16) (w : World) (S : Hp) (h : Sat w (pcHp p * S)) :
    Calls Tryz.prog 14 #[pp p.pb] w fun e w' => (∃ pa cap n, e = .returned (.slice pa n cap) ∧ n = nOpen p.fds) ∧ Sat w' (pcHp p * S) ∧ Ran w w' := by
  obtain ⟨cl, hcl⟩ : ∃ cl, cl = p.fds.flatMap (slC (fRef p.tx) (fUnref p.tx)) := ⟨_, rfl⟩
  have hll : cl.length = 64 := by rw [hcl, sl_flat, h16]
  have hrg : w.rangeAt p.pb 3 cl := fun j v hj => by
    rw [hcl] at hj
    rw [pc_at h]
    unfold pcL
    have hjl : j < (p.fds.flatMap (slC (fRef p.tx) (fUnref p.tx))).length := by
      obtain ⟨hk, -⟩ := List.getElem?_eq_some_iff.1 hj
      exact hk
    rw [List.getElem?_append_right (by show 3 ≤ _; omega), show 3 + j - [pp p.fb, pp p.tb, pp p.lb].length = j by show 3 + j - 3 = j; omega, List.getElem?_append_left hjl]
    exact hj
  have hsz : (Tryz.prog.info? 87).map (·.size) = some cl.length := by rw [hll, infoSlots]
  have hrg := Lib.hid hrg
  have hsz := Lib.hid hsz
  have hix := Lib.hid (fun (i : Nat) (hi : i < 16) (W : World) => (by rw [hcl]; exact run_slot p.fds h16 (fRef p.tx) (fUnref p.tx) i hi W : (Instr.index 87 (.agg cl.toArray) (.int .i64 (i : Int))).run Tryz.prog W = .ok (.agg #[.int .i64 (p.fds[i]'(by omega)).has, .int .i64 (p.fds[i]'(by omega)).mark, .func (.func 49) #[] #[pp p.tx], .func (.func 51) #[] #[pp p.tx]]) W))
  have H0 := Lib.hid ((h.nil_arr 3 1).perm (show _ = arr 3 1 none 0 0 ([] : List Value) * (pcHp p * S) from rfl))
  have H16 := Lib.hid h16
  clear h hcl hll
  go_enter Tryz.func14, Tryz.ntmps14
  go_wp2_with (refine wpList_load_mid rfl 87 _ rfl p.pb 3 rfl cl _ hrg.out Tryz.underlying87 rfl hsz.out ?_)
  clear hrg hsz
  go_loopg [3, 12] (16) (fun (g : Nat) (v3 v12 : Value) (wr : World) => ∃ (i : Nat) (xs : List Value) (pa : Option Addr) (cap : Nat), i + g = 16 ∧ v12 = .int .i64 (i : Int) ∧ v3 = .slice pa xs.length cap ∧ xs.length = nOpen (p.fds.take i) ∧ Sat wr (arr 3 1 pa xs.length cap xs * (pcHp p * S)) ∧ Ran w wr)
  case atStart => exact ⟨0, [], none, 0, rfl, rfl, rfl, rfl, H0.out, Below.refl 0 _⟩
  case round =>
    obtain ⟨i, xs, pa, cap, hig, rfl, rfl, hxs, HS, HR⟩ := hrel
    have hi0 : (0 : Int) ≤ (i : Int) := by omega
    by_cases hi : i < 16
    · have hlt : (i : Int) < 16 := by omega
      have hil : i < p.fds.length := by have := H16.out; omega
      have hxl : xs.length ≤ 16 := by
        have := nOpen_le (p.fds.take i)
        rw [List.length_take] at this
        omega
      have ht : nOpen (p.fds.take (i + 1)) = nOpen (p.fds.take i) + if p.fds[i].has = 0 then 0 else 1 := by
        rw [List.take_succ_eq_append_getElem hil, nOpen_snoc]
      have hx := hix.out i hi wr
      obtain ⟨s, hsl⟩ : ∃ s, s = p.fds[i] := ⟨_, rfl⟩
      rw [← hsl] at hx ht
      obtain ⟨sh, sm⟩ := s
      dsimp only at hx ht
      have SA := HS.alloc (wasO ⟨sh, sm⟩ p.tx)
      have z0 : (wr.alloc (wasO ⟨sh, sm⟩ p.tx)).cell? ⟨wr.heap.size, 0, none⟩ = some (.int .i64 sh) := by rw [cell_at SA.get]; rfl
      have SR := SA.right
      have RA := Lib.hid (Ran.new HR (wasO ⟨sh, sm⟩ p.tx))
      have Hxs := Lib.hid hxs
      have Ht := Lib.hid ht
      have Hig := Lib.hid hig
      clear SA HS HR hxs ht hig hsl hix
      by_cases hz : sh = 0
      · subst hz
        have SR := Lib.hid SR
        go_wp2_with fail
        go_roundg (gk - 1)
        case measure => have := Hig.out; omega
        case rel => exact ⟨i + 1, xs, pa, cap, by have := Hig.out; omega, rfl, rfl, by rw [Ht.out]; simp [Hxs.out], SR.out, RA.out⟩
      · have hzb : (sh == 0) = false := by simpa using hz
        have SB := SR.old (.cells #[.int .i64 (i : Int)] 3 (0, 0))
        have RB := Lib.hid (Ran.new RA.out (.cells #[.int .i64 (i : Int)] 3 (0, 0)))
        have Hz := Lib.hid hz
        have hxn : xs.length ≤ 1000000000 := by omega
        clear SR RA
        go_wp2_with (at_builtin; go_loud (refine appInt rfl _ _ rfl pa xs.length cap xs rfl _ rfl SB _ (Undo.blk_new (by rw [World.size_alloc])) rfl hxn ?_; intro p' cap' w6 T6 R6; clear SB))
        have T6 := Lib.hid T6
        have R6 := Lib.hid (Below.trans RB.out R6)
        go_roundg (gk - 1)
        case measure => have := Hig.out; omega
        case rel => exact ⟨i + 1, xs ++ [.int .i64 (i : Int)], p', cap', by have := Hig.out; omega, rfl, by rw [List.length_append]; rfl, by rw [Ht.out, if_neg Hz.out, List.length_append, Hxs.out]; rfl, by rw [List.length_append]; exact T6.out, R6.out⟩
    · have h16 : i = 16 := by omega
      subst h16
      have hq : xs.length = nOpen p.fds := by rw [hxs, List.take_of_length_le (by have := H16.out; omega)]
      have HS := Lib.hid HS.right
      have HR := Lib.hid HR
      have Hq := Lib.hid hq
      clear hxs hix hq
      go_wp2_with fail
      go_ret
      exact ⟨⟨_, _, _, rfl, Hq.out⟩, HS.out, HR.out⟩
end Go.Proofs.YteienbdbhnikbaaGreatDoor.Pr

namespace Go.Proofs.YteienbdbhnikbaaGreatDoor.Pr
open Go.RowKit Go.Maps Go.Proofs.YteienbdbhnikbaaGreatDoor Go.Proofs.YteienbdbhnikbaaGreatDoor.Hp Go.Proofs.YteienbdbhnikbaaGreatDoor.Hd
set_option linter.unusedVariables false
attribute [local go_sem] Oper.semAt_some

set_option maxRecDepth 100000 in
set_option maxHeartbeats 1000000 in
theorem write_go (pb tb i : Nat) (id : Int) (h0 : id ≠ 0) (d : ByteArray) (w : World) (Q : World → Prop) (Z : World → Prop) (hZ : ∀ W, Z W → W.cell? ⟨pb, 1, none⟩ = some (pp tb) ∧ W.cell? ⟨pb, 3 + i * 4, none⟩ = some (.int .i64 id)) (hz : Z w.drew)
    (HO : Calls Tryz.prog 53 #[pp pb, .int .i64 (i : Int)] w fun e w' => e = .returned (.tuple #[.pointer (some ⟨pb, 3 + i * 4, none⟩), .int .i64 0]) ∧ w = w')
    (HT : Calls Tryz.prog 63 #[pp tb, .int .i64 id, .string d] w.drew fun e w1 => e = .returned (.int .i64 0) ∧ Z w1 ∧ Q w1) :
    Calls Tryz.prog 27 #[pp pb, .int .i64 (i : Int), .string d] w fun e w' => e = .returned (.int .i64 0) ∧ Q w' := by
  obtain ⟨k1, k2⟩ := hZ _ hz
  have HO := Lib.hid HO
  have HT := Lib.hid HT
  have hZ := Lib.hid hZ
  clear hz
  go_enter Tryz.func27, Tryz.ntmps27
  go_wp2_with fail
  refine HO.out.mono ?_
  rintro e w1 ⟨rfl, rfl⟩
  go_upto_region 4 with fail
  refine region_plan (S := (fun w' => w'.cell? ⟨pb, 1, none⟩ = some (pp tb) ∧ w'.cell? ⟨pb, 3 + i * 4, none⟩ = some (.int .i64 id))) [(0, true), (1, true), (2, true), (3, true), (4, true), (5, true), (6, true), (7, true), (8, true), (9, false), (10, true)] (by kernel_rfl) (by kernel_rfl) (by kernel_rfl) ?_ ?_
  · ((try dsimp only); (first | done | (first | exact ⟨k1, k2⟩ | exact K5)))
  simp only [planOps, List.map_cons, List.map_nil, List.getElem?_toArray, List.getElem?_cons_zero, List.getElem?_cons_succ]
  repeat (first
    | ((refine plan_yes (v := ?_) (by rfl) ?_ ?_); rotate_left; (focus (intro w hSw; (try dsimp only at hSw); go_simp; try (with_reducible rfl))); (try simp only [Act.put, List.setIfInBounds_toArray, List.set_cons_zero, List.set_cons_succ]))
    | ((refine plan_no (by rfl) ?_); (try simp only [Act.put, List.setIfInBounds_toArray, List.set_cons_zero, List.set_cons_succ]))
    | ((refine plan_step (fun K hK => ?_)); (first | (go_simp; ((go_at_call 63; refine HT.out.mono ?_; rintro e w5 ⟨rfl, Z5, hQ⟩; have K5 := hZ.out _ Z5)); (try go_wp2_with fail)) | go_simp); (refine hK.out _ _ ?_ (fun hHeld => ?_)); (focus ((try dsimp only); (first | done | (first | exact ⟨k1, k2⟩ | exact K5)))); clear hK K; (try simp only [Act.put, List.setIfInBounds_toArray, List.set_cons_zero, List.set_cons_succ])))
  refine plan_done ?_
  have hQ := Lib.hid hQ
  clear Z5 K5
  go_wp2_with fail
  go_ret
  exact ⟨rfl, hQ.out⟩
set_option maxRecDepth 100000 in
theorem close_go (pb i : Nat) (hi : i < 16) (id : Int) (h0 : id ≠ 0) (w : World) (Q : World → Prop) (k2 : w.cell? ⟨pb, 3 + i * 4, none⟩ = some (.int .i64 id))
    (HS : Calls Tryz.prog 56 #[pp pb, slP pb i, .int .i64 0] w fun e w1 => e = .returned (.int .i64 0) ∧ Q w1) :
    Calls Tryz.prog 19 #[pp pb, .int .i64 (i : Int)] w fun e w' => e = .returned (.int .i64 0) ∧ Q w' := by
  have HA := Lib.hid (at_calls pb i hi w)
  have HS := Lib.hid HS
  have hzb : (id == 0) = false := by simpa using h0
  go_enter Tryz.func19, Tryz.ntmps19
  go_wp2_with fail
  refine HA.out.mono ?_
  rintro e w1 ⟨rfl, rfl⟩
  go_wp2_with fail
  refine HS.out.mono ?_
  rintro e w3 ⟨rfl, hQ⟩
  have hQ := Lib.hid hQ
  go_wp2_with fail
  go_ret
  exact ⟨rfl, hQ.out⟩
section
variable {c : Pls} {N : Nat} {b : Int → Int} {most : Int} {p : Pc} {nl : List Nt} {ms : List Nat} {w : World} {R : Hp} {P Q : Sg → Prop} {f g : Int → Int}
variable {A : List (UInt8 × Int × ByteArray)} {H : List (Int × Int × Nat)} {l u : Nat}
theorem x_Write (hN : N ≤ 900000) {d : UInt8} {k id : Int} {t : ByteArray} (hA : ∀ x ∈ A, x.2.1 ≠ k) (hH : ∀ x ∈ H, x.1 ≠ id) (dt : ByteArray) (hdt : 0 < dt.size) (hs : t.size + dt.size ≤ 50) (hu : u + dt.size ≤ 100) (h : Sat w (St c N f g (Aw ((d, k, t) :: A) ((id, k, t.size) :: H) l u) * R)) :
    Calls Tryz.prog 63 #[pp c.tb, .int .i64 id, .string dt] w fun e w' => e = .returned (.int .i64 0) ∧ Sat w' (St c (N + 1) f g (Aw ((d, k, wrB t t.size dt) :: A) ((id, k, t.size + dt.size) :: H) l (u + dt.size)) * R) ∧ Ran w w' := by
  obtain ⟨s, hI, hf, hg, hP, h⟩ := st_out h
  obtain ⟨y, hy, hyt⟩ := hP.hands _ List.mem_cons_self
  obtain ⟨h0, x, hx, hk2, hxt, hxn⟩ := hP.nodes _ List.mem_cons_self
  dsimp only at hy hyt h0 hx hk2 hxt hxn
  have hr := hI.refs _ y hy
  have hpp := hI.pipe
  have hkn : x.kids = none := by
    rcases hI.tree.kinds k x hx with ⟨e, -⟩ | ⟨-, e⟩
    · rw [hk2] at e; cases e
    · exact e
  have hN2 := aw_write hP hA hH hx hy dt hdt hs hu
  have hru := hP.used
  have hrr := hP.room
  have hW0 : (writeP s.F k x (atW x t.size mdW) dt).1 = 0 := by
    have e1 : atW x t.size mdW = t.size := rfl
    rw [e1]
    unfold writeP
    have hm : moreB x.text t.size dt = dt.size := by unfold moreB; rw [hxt]; omega
    rw [if_neg (by omega), if_neg (by omega), hm, if_neg (by omega)]
  obtain ⟨t1, t2, t3, t4, t5⟩ := tree_write hI.tree hx (atW x t.size mdW) dt
  refine (TWrite_file c.tb c.fb c.mb c.bp c.hm s.n s.F s.L id k y t.size mdW x dt (hI.id64 hN hy) hy hyt rfl (hI.tree.in_i64 hx) (by omega) (by omega) (hI.tree.ok (by omega)) hx hk2 hkn (fs_u hI) (fs_r hI) w _ (sg_open h)).mono ?_
  rintro e w' ⟨⟨rfl, S⟩, hR⟩
  have hh : 1 ≤ x.holds := by
    obtain ⟨z, hz, -, hz1⟩ := hI.node hy hyt
    rw [hx] at hz; injection hz with hz; subst hz
    exact hz1
  obtain ⟨hI', hx'⟩ := hI.upd hy (y' := { y with t := .file k (atN s.F k x t.size mdW dt) mdW }) (by dsimp only; omega) (fun j => by unfold cF; rw [hyt]) (by rw [hyt]; rfl) (writeP s.F k x (atW x t.size mdW) dt).2 s.p s.tot (by
    show (∃ z, Hd.find (writeP s.F k x (atW x t.size mdW) dt).2.L k = some z ∧ z.kind = 2) ∧ atN s.F k x t.size mdW dt ≤ 8192
    refine ⟨?_, ?_⟩
    · obtain ⟨z, hz⟩ : ∃ z, Hd.find (writeP s.F k x (atW x t.size mdW) dt).2.L k = some z := hf_some (by rw [t2, hf_of hx]; exact hh)
      exact ⟨z, hz, by rw [t3 k x z hx hz]; exact hk2⟩
    · have haw : atW x t.size mdW = t.size := rfl
      unfold atN
      rw [haw]
      split <;> omega) t1 t2 t3 rfl rfl ⟨hpp.1, hpp.2.1, by omega⟩
  refine ⟨by rw [hW0], st_in hI' (fun j => ?_) (fun j => (hx' j).trans (hg j)) hN2 (sg_shut ?_), hR⟩
  · show rf (updA s.L id _) j = f j
    rw [rf_upd hy, ← hf]
    by_cases e : j = id
    · rw [if_pos e, e, rf_some hy]
    · rw [if_neg e]
  · rw [snks_same (y' := { y with t := .file k (atN s.F k x t.size mdW dt) mdW }) hy (by rw [hyt]; rfl)]
    exact S
theorem o_write (hl : Link c p) (hN : N ≤ 700000) {i : Nat} (hi : i < 16) {d : UInt8} {k id mk : Int} {t : ByteArray} (hsl : p.sl i = ⟨id, mk⟩) (h5 : 5 ≤ id) (hA : ∀ x ∈ A, x.2.1 ≠ k) (hH : ∀ x ∈ H, x.1 ≠ id) (dt : ByteArray) (hdt : 0 < dt.size) (hs : t.size + dt.size ≤ 50) (hu : u + dt.size ≤ 100) (h : Sat w (PHP c N b most p nl ms (Aw ((d, k, t) :: A) ((id, k, t.size) :: H) l u) * R)) :
    Calls Tryz.prog 27 #[pp p.pb, .int .i64 (i : Int), .string dt] w fun e w' => e = .returned (.int .i64 0) ∧ Sat w' (PHP c (N + 1) b most p nl ms (Aw ((d, k, wrB t t.size dt) :: A) ((id, k, t.size + dt.size) :: H) l (u + dt.size)) * R) ∧ Ran w w' := by
  have h16 := hl.len
  have hil : i < p.fds.length := by omega
  rw [sl_fd hi hil] at hsl
  have hx : p.fds[i].has = id := by rw [hsl]
  have HO := open_calls p i hi h16 w _ (php_pc h)
  rw [hx, if_neg (by omega)] at HO
  refine write_go p.pb c.tb i id (by omega) dt w (fun w' => Sat w' (PHP c (N + 1) b most p nl ms (Aw ((d, k, wrB t t.size dt) :: A) ((id, k, t.size + dt.size) :: H) l (u + dt.size)) * R) ∧ Ran w w') (fun W => ∃ M P', Sat W (PHP c M b most p nl ms P' * R)) (fun W ⟨M, P', hW⟩ => ?_) ⟨N, _, h.drew⟩ HO ?_
  · have h1 := (pc_heads (php_pc hW)).2.1
    have h2 := (pc_fd (php_pc hW) i hil).1
    rw [hl.tb] at h1
    rw [hx] at h2
    exact ⟨h1, h2⟩
  · refine (x_Write (by omega) hA hH dt hdt hs hu (h.drew.perm (show _ = St c N (fOf b p nl) (gOf p nl) (Aw ((d, k, t) :: A) ((id, k, t.size) :: H) l u) * (Bes most p nl ms * R) by unfold PHP Bes; ac_rfl))).mono ?_
    rintro e w1 ⟨rfl, S1, R1⟩
    have S1 : Sat w1 (PHP c (N + 1) b most p nl ms (Aw ((d, k, wrB t t.size dt) :: A) ((id, k, t.size + dt.size) :: H) l (u + dt.size)) * R) := S1.perm (by unfold PHP Bes; ac_rfl)
    exact ⟨rfl, ⟨_, _, S1⟩, S1, Below.trans (Ran.drewN (Below.refl 0 w) 1) R1⟩
theorem o_close (hl : Link c p) (hN : N ≤ 700000) {i : Nat} (hi : i < 16) {id mk : Int} (hsl : p.sl i = ⟨id, mk⟩) (h5 : 5 ≤ id) (hm4 : ms.length ≤ 4) (hnl : (nl.length : Int) < most) (hm1 : most ≤ 1000) (hne : ms ≠ []) (hm : mk < (ms.length : Int)) (h : Sat w (PHP c N b most p nl ms P * R)) :
    Calls Tryz.prog 19 #[pp p.pb, .int .i64 (i : Int)] w fun e w' => e = .returned (.int .i64 0) ∧ (∃ sb wb, Sat w' (PHP c N b most (p.put i ⟨0, (ms.length : Int)⟩) (nl ++ [Nt.mk i ⟨id, mk⟩ sb wb]) ms P * R)) ∧ Ran w w' := by
  have hil : i < p.fds.length := by have := hl.len; omega
  have hx : p.fds[i].has = id := by rw [← sl_fd hi hil, hsl]
  have k2 := (pc_fd (php_pc h) i hil).1
  rw [hx] at k2
  refine close_go p.pb i hi id (by omega) w _ k2 ?_
  have := fd_closeP hl hN hi hm4 hnl hm1 hne (by rw [hsl]; exact hm) h
  rw [hsl] at this
  exact this
theorem aw_swap {x y : UInt8 × Int × ByteArray} {s : Sg} (h : Aw (x :: y :: A) H l u s) : Aw (y :: x :: A) H l u s := by
  have hm : ∀ z, z ∈ y :: x :: A ↔ z ∈ x :: y :: A := fun z => by simp only [List.mem_cons]; constructor <;> (rintro (e | e | e) <;> simp [e])
  exact { h with root := by
                   obtain ⟨r, kd, h1, h2, h3, h4, h5⟩ := h.root
                   exact ⟨r, kd, h1, h2, h3, fun z hz => h4 z ((hm z).1 hz), fun e he hz => h5 e he fun z hz2 => hz z ((hm z).2 hz2)⟩,
                 nodes := fun z hz => h.nodes z ((hm z).1 hz) }
end
end Go.Proofs.YteienbdbhnikbaaGreatDoor.Pr

namespace Go.Proofs.YteienbdbhnikbaaGreatDoor.Pr
open Go.RowKit Go.Maps Go.Proofs.YteienbdbhnikbaaGreatDoor Go.Proofs.YteienbdbhnikbaaGreatDoor.Hp Go.Proofs.YteienbdbhnikbaaGreatDoor.Hd
set_option linter.unusedVariables false
attribute [local go_sem] Oper.semAt_some

abbrev abB : ByteArray := ⟨#[97, 98]⟩
abbrev cB : ByteArray := ⟨#[99]⟩
abbrev abcB : ByteArray := ⟨#[97, 98, 99]⟩
section
variable {c : Pls} {N : Nat} {b : Int → Int} {most : Int} {p : Pc} {nl : List Nt} {ms : List Nat} {w : World} {R : Hp} {P Q : Sg → Prop}
variable {A : List (UInt8 × Int × ByteArray)} {H : List (Int × Int × Nat)} {l u : Nat}
theorem php_imp (hi : ∀ s, P s → Q s) (h : Sat w (PHP c N b most p nl ms P * R)) : Sat w (PHP c N b most p nl ms Q * R) := by
  obtain ⟨s, h1, h2, h3, h4, h5⟩ := php_bes h
  exact ph_in h1 h2 h3 (hi s h4) h5
theorem php_ph (h : Sat w (PHP c N b most p nl ms P * R)) : Sat w (PH c N b most p nl ms * R) := by
  have := php_imp (Q := fun _ => True) (fun _ _ => trivial) h
  exact this
theorem o_mark (hnl : nl.length ≤ 1000) (hms : ms.length < 4) (h : Sat w (PHP c N b most p nl ms P * R)) :
    Calls Tryz.prog 24 #[pp p.pb] w fun e w' => e = .returned (.tuple #[.int .i64 ((ms.length : Int) + 1), .int .i64 0]) ∧ Sat w' (PHP c N b most p nl (ms ++ [nl.length]) P * R) ∧ Ran w w' := by
  have hbl : (backs nl).length = nl.length := List.length_map ..
  refine p_mark_of _ (php_ph h) ((Undo.mark_calls p.lb most 4 (backs nl) ms w (St c N (fOf b p nl) (gOf p nl) P * (notesHp p nl * pcHp p) * R) (Undo.log_out (h.perm (by unfold PHP LG; ac_rfl))) (by omega) (by rw [hbl]; omega) (by omega)).mono ?_)
  rintro e w' ⟨rfl, hS, hR⟩
  rw [hbl] at hS
  exact ⟨_, _, rfl, rfl, (Undo.log_in hS).perm (by unfold PHP LG; ac_rfl), hR⟩
/-- A walk to a name, and what is read there. -/
theorem o_walk (hN : N ≤ 700000) {x : UInt8 × Int × ByteArray} (hx : x ∈ A) (hsm : Sm x.1) (hG : Glob R) (h : Sat w (PHP c N b most p nl ms (Aw A H l u) * R)) :
    Calls Tryz.prog 28 #[pp c.fb, .int .i64 1, .string (n1 x.1), .bool true] w fun e w' => e = .returned (.tuple #[.int .i64 x.2.1, .int .i64 0]) ∧ Sat w' (PHP c N b most p nl ms (Aw A H l u) * R) ∧ Ran w w' := by
  obtain ⟨s, hI, hf, hg, hP, hS⟩ := php_bes h
  obtain ⟨r, kd, hr, hrk, hkd, hkA, hkn⟩ := hP.root
  obtain ⟨h0, z, hz, hz2, -, -⟩ := hP.nodes x hx
  refine (Walk_calls c.fb c.mb s.F (hI.tree.ok (by omega)) hI.tree.nums 1 (n1 x.1) true w _ i64_1 (by show 1 ≤ 1000000; omega) hG.more.more.more.more.more (sg_open hS)).mono ?_
  rintro e w' ⟨⟨rfl, S1⟩, R1⟩
  have h3 : isK s.F x.2.1 3 = false := by
    unfold isK
    rw [hz]
    simp [hz2]
  have hpos := (hI.tree.rng _ z hz).1
  rw [walk_yes hsm hr hrk hkd (hkA x hx) (by omega) h3]
  exact ⟨rfl, ph_in hI hf hg hP (sg_shut S1), R1⟩
theorem o_read (hN : N ≤ 700000) {x : UInt8 × Int × ByteArray} (hx : x ∈ A) (h : Sat w (PHP c N b most p nl ms (Aw A H l u) * R)) :
    Calls Tryz.prog 29 #[pp c.fb, .int .i64 x.2.1, .int .i64 0, .int .i64 9] w fun e w' => e = .returned (.tuple #[.string (readB x.2.2 0 9), .int .i64 0]) ∧ Sat w' (PHP c N b most p nl ms (Aw A H l u) * R) ∧ Ran w w' := by
  obtain ⟨s, hI, hf, hg, hP, hS⟩ := php_bes h
  obtain ⟨h0, z, hz, hz2, hzt, -⟩ := hP.nodes x hx
  refine (Read_calls c.fb c.mb s.F x.2.1 0 9 z (hI.tree.in_i64 hz) (by omega) (by omega) (hI.tree.ok (by omega)) hz (by omega) w _ (sg_open hS)).mono ?_
  rintro e w' ⟨⟨rfl, S1⟩, R1⟩
  rw [hzt]
  exact ⟨rfl, ph_in hI hf hg hP (sg_shut S1), R1⟩
theorem o_stat (hN : N ≤ 700000) {n : Int} (hn : I64 n) (h : Sat w (PHP c N b most p nl ms P * R)) :
    Calls Tryz.prog 21 #[pp c.tb, .int .i64 n] w fun e w' => (∃ k a d m er, e = .returned (.tuple #[inV k (fOf b p nl n) a d m, .int .i64 er])) ∧ Sat w' (PHP c N b most p nl ms P * R) ∧ Ran w w' := by
  obtain ⟨s, hI, hf, hg, hP, hS⟩ := php_bes h
  refine (m_Stat (by omega) hI hn hS).mono ?_
  rintro e w' ⟨⟨k, a, d, m, er, rfl, -⟩, h2, h3⟩
  rw [hf]
  exact ⟨⟨k, a, d, m, er, rfl⟩, ph_in hI hf hg hP h2, h3⟩
end
theorem sl_put {p : Pc} {i : Nat} (hi : i < 16) (h16 : p.fds.length = 16) (s : Sl) : (p.put i s).sl i = s := by
  rw [put_fd hi]
  have hl : i < (p.slot i s).fds.length := by show i < (p.fds.set i s).length; rw [List.length_set]; omega
  rw [sl_fd hi hl]
  exact List.getElem_set_self ..
theorem put_put (p : Pc) {i : Nat} (hi : i < 16) (s t : Sl) : (p.put i s).put i t = p.put i t := by
  rw [put_fd hi, put_fd hi, put_fd hi]
  show ({ p with fds := (p.fds.set i s).set i t } : Pc) = { p with fds := p.fds.set i t }
  rw [List.set_set]
set_option maxRecDepth 100000 in
set_option maxHeartbeats 4000000 in
theorem awake_calls (w : World) (R : Hp) (hG : Glob R) (h : Sat w R) :
    Calls Tryz.prog 8 #[] w fun e w' => (e = .returned (.bool true) ∧ Sat w' R) ∧ Ran w w' := by
  have HB := Lib.hid (begun_calls 50 (by omega) (by omega) w R hG h)
  have hG := Lib.hid hG
  clear h
  go_enter Tryz.func8, Tryz.ntmps8
  go_wp2_with fail
  refine HB.out.mono ?_
  rintro e w1 ⟨⟨c, p0, rfl, hl0, hfds, hdir, hmask, S1⟩, R1⟩
  clear HB
  have S2 := S1.alloc (woP (pp c.fb) (pp c.bp) (pp c.tb) (pp p0.lb) (pp p0.pb))
  have R2 := Lib.hid (Ran.new R1 (woP (pp c.fb) (pp c.bp) (pp c.tb) (pp p0.lb) (pp p0.pb)))
  obtain ⟨wb, hwb⟩ : ∃ x, x = w1.heap.size := ⟨_, rfl⟩
  obtain ⟨w2, hw2⟩ : ∃ x, x = w1.alloc (woP (pp c.fb) (pp c.bp) (pp c.tb) (pp p0.lb) (pp p0.pb)) := ⟨_, rfl⟩
  rw [← hwb, ← hw2] at S2
  rw [← hw2] at R2
  obtain ⟨RF, hRF⟩ : ∃ X, X = pts wb (woP (pp c.fb) (pp c.bp) (pp c.tb) (pp p0.lb) (pp p0.pb)) * R := ⟨_, rfl⟩
  have hGF : Hid (Glob RF) := Lib.hid (by rw [hRF]; exact hG.out.more)
  have HC := Lib.hid (fun (W : World) (X : Hp) (hW : Sat W (X * RF)) => woP_cells (hW.perm (show _ = pts wb (woP (pp c.fb) (pp c.bp) (pp c.tb) (pp p0.lb) (pp p0.pb)) * (X * R) by rw [hRF]; ac_rfl)))
  have HE := Lib.hid (fun (W : World) (X : Hp) (hW : Sat W (X * RF)) => (hW.perm (show _ = (X * pts wb (woP (pp c.fb) (pp c.bp) (pp c.tb) (pp p0.lb) (pp p0.pb))) * R by rw [hRF]; ac_rfl)).right)
  have h16 := hl0.len
  have S3 : Sat w2 (PHP c 20 b0 50 p0 [] [] (Aw [] [] 4 6) * RF) := php_imp (fun s => aw_beg) (S2.perm (by rw [hRF]; ac_rfl))
  have hsl0 : p0.sl 1 = ⟨0, 0⟩ := by
    rw [sl_fd (by omega) (by omega)]
    simp [hfds]
  have HO1 := Lib.hid (o_open (ms := []) hl0 (by omega) base0 (i := 1) (by omega) (d := 102) (.inl rfl) (fun x hx => by cases hx) (by rw [hdir]) hsl0 (Int.le_refl 0) (by omega) (by omega) hGF.out S3)
  obtain ⟨y0, y1, y2, y3, y4⟩ := HC.out w2 _ S3
  have Hfds := Lib.hid hfds
  have Hdir := Lib.hid hdir
  have Hl0 := Lib.hid hl0
  have Hsl0 := Lib.hid hsl0
  have H16 := Lib.hid h16
  clear S1 S2 S3 R1 hfds hdir hmask hl0 hsl0 hRF h16
  go_upto_region 4 with fail
  rw [← hwb, ← hw2]
  clear hwb hw2
  go_wp2_with fail
  refine HO1.out.mono ?_
  rintro e w3 ⟨rfl, k5, id5, h5a, h5b, hf5, -, -, S3, r3'⟩
  have r3 := Lib.hid (Below.trans R2.out r3')
  clear y0 y1 y2 y3 y4
  obtain ⟨y0, y1, y2, y3, y4⟩ := HC.out w3 _ S3
  obtain ⟨p1, hp1⟩ : ∃ p1, p1 = p0.put 1 ⟨id5, 0⟩ := ⟨_, rfl⟩
  rw [← hp1] at S3
  have hpb1 : p1.pb = p0.pb := by rw [hp1]; exact (Pc.put_same p0 1 _).1
  have HMk := o_mark (by show 0 ≤ 1000; omega) (by show 0 < 4; omega) S3
  rw [hpb1] at HMk
  have HMk := Lib.hid HMk
  have Hl1 := Lib.hid (show Link c p1 by rw [hp1]; exact Hl0.out.put 1 _)
  have Hs1 := Lib.hid (show p1.sl 1 = ⟨id5, 0⟩ by rw [hp1]; exact sl_put (by omega) H16.out _)
  have Hp1 := Lib.hid hp1
  have Hpb1 := Lib.hid hpb1
  have H5 := Lib.hid (And.intro h5a h5b)
  have Hf5 := Lib.hid hf5
  clear S3 r3' R2 HO1 hp1 hpb1 h5a h5b hf5
  go_wp2_with fail
  refine HMk.out.mono ?_
  rintro e w4 ⟨rfl, S4, r4'⟩
  have r4 := Lib.hid (Below.trans r3.out r4')
  clear y0 y1 y2 y3 y4
  obtain ⟨y0, y1, y2, y3, y4⟩ := HC.out w4 _ S4
  have HWr := o_write Hl1.out (by omega) (i := 1) (by omega) (t := ⟨#[]⟩) Hs1.out H5.out.1 (fun x hx => by cases hx) (fun x hx => by cases hx) abB (by decide) (by decide) (by decide) S4
  rw [Hpb1.out] at HWr
  have HWr := Lib.hid HWr
  clear S4 r4' r3 HMk
  go_wp2_with fail
  refine HWr.out.mono ?_
  rintro e w5 ⟨rfl, S5, r5'⟩
  have r5 := Lib.hid (Below.trans r4.out r5')
  have S5 : Sat w5 (PHP c 25 b0 50 p1 [] [0] (Aw [(102, k5, abB)] [(id5, k5, 2)] 5 8) * RF) := S5
  clear y0 y1 y2 y3 y4
  obtain ⟨y0, y1, y2, y3, y4⟩ := HC.out w5 _ S5
  have HCl := o_close Hl1.out (by omega) (i := 1) (by omega) Hs1.out H5.out.1 (by show 1 ≤ 4; omega) (by show (0 : Int) < 50; omega) (by omega) (by simp) (by show (0 : Int) < 1; omega) S5
  rw [Hpb1.out] at HCl
  have HCl := Lib.hid HCl
  clear S5 r5' r4 HWr
  go_wp2_with fail
  refine HCl.out.mono ?_
  rintro e w6 ⟨rfl, ⟨sb, nb, S6⟩, r6'⟩
  have r6 := Lib.hid (Below.trans r5.out r6')
  obtain ⟨p2, hp2⟩ : ∃ p2, p2 = p1.put 1 ⟨0, 1⟩ := ⟨_, rfl⟩
  have S6 : Sat w6 (PHP c 25 b0 50 p2 [Nt.mk 1 ⟨id5, 0⟩ sb nb] [0] (Aw [(102, k5, abB)] [(id5, k5, 2)] 5 8) * RF) := by rw [hp2]; exact S6
  clear y0 y1 y2 y3 y4
  obtain ⟨y0, y1, y2, y3, y4⟩ := HC.out w6 _ S6
  have hpb2 : p2.pb = p0.pb := by rw [hp2]; exact (Pc.put_same p1 1 _).1.trans Hpb1.out
  have Hl2 := Lib.hid (show Link c p2 by rw [hp2]; exact Hl1.out.put 1 _)
  have Hs2 := Lib.hid (show p2.sl 1 = ⟨0, 1⟩ by rw [hp2]; exact sl_put (by omega) Hl1.out.len _)
  have hd2 : p2.dir.has = 1 := by
    rw [hp2, Hp1.out]
    show p0.dir.has = 1
    rw [Hdir.out]
  have HO2 := o_open Hl2.out (by omega) base0 (i := 1) (by omega) (d := 103) (.inr rfl) (fun x hx => by rw [List.mem_singleton] at hx; rw [hx]; show (102 : UInt8) ≠ 103; decide) hd2 Hs2.out (by show (1 : Int) ≤ 1; omega) (by omega) (by omega) hGF.out S6
  rw [hpb2] at HO2
  have HO2 := Lib.hid HO2
  have Hp2 := Lib.hid hp2
  have Hpb2 := Lib.hid hpb2
  clear S6 r6' r5 HCl hp2 hpb2 hd2
  go_wp2_with fail
  refine HO2.out.mono ?_
  rintro e w7 ⟨rfl, k6, id6, h6a, h6b, hf6, hk6, hid6, S7, r7'⟩
  have r7 := Lib.hid (Below.trans r6.out r7')
  obtain ⟨p3, hp3⟩ : ∃ p3, p3 = p2.put 1 ⟨id6, 1⟩ := ⟨_, rfl⟩
  have S7 : Sat w7 (PHP c 29 b0 50 p3 [Nt.mk 1 ⟨id5, 0⟩ sb nb] [0] (Aw [(103, k6, ⟨#[]⟩), (102, k5, abB)] [(id6, k6, 0), (id5, k5, 2)] 6 8) * RF) := by rw [hp3]; exact S7
  clear y0 y1 y2 y3 y4
  obtain ⟨y0, y1, y2, y3, y4⟩ := HC.out w7 _ S7
  have hpb3 : p3.pb = p0.pb := by rw [hp3]; exact (Pc.put_same p2 1 _).1.trans Hpb2.out
  have Hl3 := Lib.hid (show Link c p3 by rw [hp3]; exact Hl2.out.put 1 _)
  have hs3 : p3.sl 1 = ⟨id6, 1⟩ := by rw [hp3]; exact sl_put (by omega) Hl2.out.len _
  have hne : k5 ≠ k6 := hk6 (102, k5, abB) (by simp)
  have hie : id5 ≠ id6 := hid6 (id5, k5, 2) (by simp)
  have hU := undoP (Q := Aw [(103, k6, ⟨#[]⟩), (102, k5, abB)] [(id5, k5, 2)] 6 8) Hl3.out (by omega) (i := 1) (by omega) (by rw [hs3]; exact h6a) (by
    rw [hs3]
    dsimp only
    have hil : 1 < p2.fds.length := by have := Hl2.out.len; omega
    rw [hp3, put_fd (by omega), f_slot hil, hf6, dl_self (by show 1 ≤ id6; omega), ← sl_fd (by omega) hil, Hs2.out, dl_0]
    rfl) (fun s y k a m hI hP hy ht => by
    rw [hs3]
    exact aw_del (aw_drop hP hI.tree.nd k) hI.nd (fun x hx => by rw [List.mem_singleton] at hx; rw [hx]; exact hie)) S7
  have HUn := p_undo_of _ (php_ph S7) (hU.mono fun e w' h => ⟨0, h.1, h⟩)
  rw [hpb3] at HUn
  have HUn := Lib.hid HUn
  have Hp3 := Lib.hid hp3
  have H6 := Lib.hid (And.intro hne hie)
  clear S7 r7' r6 HO2 hp3 hpb3 hU hf6 hk6 hid6 hne hie hs3
  go_wp2_with fail
  refine HUn.out.mono ?_
  rintro e w8 ⟨rfl, S8, r8'⟩
  have r8 := Lib.hid (Below.trans r7.out r8')
  have e4 : p3.put 1 ⟨id5, 0⟩ = p1 := by rw [Hp3.out, put_put _ (by omega), Hp2.out, put_put _ (by omega), Hp1.out, put_put _ (by omega)]
  rw [e4] at S8
  have S8 : Sat w8 (PHP c 30 b0 50 p1 [] [] (Aw [(102, k5, abB), (103, k6, ⟨#[]⟩)] [(id5, k5, 2)] 6 8) * RF) := php_imp (fun s => aw_swap) S8
  clear y0 y1 y2 y3 y4
  obtain ⟨y0, y1, y2, y3, y4⟩ := HC.out w8 _ S8
  have HW2 := o_write Hl1.out (by omega) (i := 1) (by omega) (t := abB) Hs1.out H5.out.1 (fun x hx => by rw [List.mem_singleton] at hx; rw [hx]; exact fun e => H6.out.1 e.symm) (fun x hx => by cases hx) cB (by decide) (by decide) (by decide) S8
  rw [Hpb1.out] at HW2
  have HW2 := Lib.hid HW2
  clear S8 r8' r7 HUn e4
  go_wp2_with fail
  refine HW2.out.mono ?_
  rintro e w9 ⟨rfl, S9, r9'⟩
  have r9 := Lib.hid (Below.trans r8.out r9')
  have S9 : Sat w9 (PHP c 31 b0 50 p1 [] [] (Aw [(102, k5, wrB abB 2 cB), (103, k6, ⟨#[]⟩)] [(id5, k5, 3)] 6 9) * RF) := S9
  have ewr : wrB abB 2 cB = abcB := by decide
  rw [ewr] at S9
  clear y0 y1 y2 y3 y4
  obtain ⟨y0, y1, y2, y3, y4⟩ := HC.out w9 _ S9
  have HWa := Lib.hid (o_walk (x := (102, k5, abcB)) (by omega) (by simp) (.inr (.inr (.inr (.inl rfl)))) hGF.out S9)
  clear S9 r9' r8 HW2 ewr
  go_wp2_with fail
  refine HWa.out.mono ?_
  rintro e w10 ⟨rfl, S10, r10'⟩
  have r10 := Lib.hid (Below.trans r9.out r10')
  clear y0 y1 y2 y3 y4
  obtain ⟨y0, y1, y2, y3, y4⟩ := HC.out w10 _ S10
  have hRd := o_read (x := (102, k5, abcB)) (by omega) (by simp) S10
  rw [show readB (102, k5, abcB).2.2 0 9 = abcB from (by decide : readB abcB 0 9 = abcB)] at hRd
  have HRd := Lib.hid hRd
  clear S10 r10' r9 HWa hRd
  go_wp2_with fail
  refine HRd.out.mono ?_
  rintro e w11 ⟨rfl, S11, r11'⟩
  have r11 := Lib.hid (Below.trans r10.out r11')
  clear y0 y1 y2 y3 y4
  obtain ⟨y0, y1, y2, y3, y4⟩ := HC.out w11 _ S11
  have HWb := Lib.hid (o_walk (x := (103, k6, ⟨#[]⟩)) (by omega) (by simp) (.inr (.inr (.inr (.inr rfl)))) hGF.out S11)
  clear S11 r11' r10 HRd
  go_wp2_with fail
  refine HWb.out.mono ?_
  rintro e w12 ⟨rfl, S12, r12'⟩
  have r12 := Lib.hid (Below.trans r11.out r12')
  clear y0 y1 y2 y3 y4
  obtain ⟨y0, y1, y2, y3, y4⟩ := HC.out w12 _ S12
  have hRe := o_read (x := (103, k6, ⟨#[]⟩)) (by omega) (by simp) S12
  rw [show readB (103, k6, (⟨#[]⟩ : ByteArray)).2.2 0 9 = ⟨#[]⟩ from (by decide : readB ⟨#[]⟩ 0 9 = ⟨#[]⟩)] at hRe
  have HRe := Lib.hid hRe
  clear S12 r12' r11 HWb hRe
  go_wp2_with fail
  refine HRe.out.mono ?_
  rintro e w13 ⟨rfl, S13, r13'⟩
  have r13 := Lib.hid (Below.trans r12.out r13')
  clear y0 y1 y2 y3 y4
  obtain ⟨y0, y1, y2, y3, y4⟩ := HC.out w13 _ S13
  have hHd := Handle_calls p1 1 Hl1.out.len w13 _ (php_pc S13)
  have hhas : hasP p1 1 = id5 := by
    unfold hasP
    rw [if_pos (by decide)]
    have hil : 1 < p1.fds.length := by have := Hl1.out.len; omega
    have e1 := Hs1.out
    rw [sl_fd (by omega) hil] at e1
    show (p1.fds.getD 1 ⟨0, 0⟩).has = id5
    rw [List.getD_eq_getElem?_getD, List.getElem?_eq_getElem hil, Option.getD_some, e1]
  have hid0 : ¬ id5 = 0 := by have := H5.out.1; omega
  rw [hhas, decide_eq_false hid0, Hpb1.out] at hHd
  have HHd := Lib.hid hHd
  have hrf : fOf b0 p1 [] id5 = 1 := by
    have hil : 1 < p0.fds.length := by have := H16.out; omega
    have h1 := H5.out.1
    rw [Hp1.out, put_fd (by omega), f_slot hil, Hf5.out, dl_self (by show 1 ≤ id5; omega), ← sl_fd (by omega) hil, Hsl0.out, dl_0]
    rfl
  have hSt := o_stat (n := id5) (by omega) (has_i64 ⟨by have := H5.out.1; omega, H5.out.2⟩) S13
  rw [hrf] at hSt
  have HSt := Lib.hid hSt
  have hop : nOpen p1.fds = 1 := by
    have hq : p1.fds = (List.replicate 16 ⟨0, 0⟩).set 1 ⟨id5, 0⟩ := by
      rw [Hp1.out, put_fd (by omega)]
      show p0.fds.set 1 _ = _
      rw [Hfds.out]
    rw [hq]
    show nOpen [⟨0, 0⟩, ⟨id5, 0⟩, ⟨0, 0⟩, ⟨0, 0⟩, ⟨0, 0⟩, ⟨0, 0⟩, ⟨0, 0⟩, ⟨0, 0⟩, ⟨0, 0⟩, ⟨0, 0⟩, ⟨0, 0⟩, ⟨0, 0⟩, ⟨0, 0⟩, ⟨0, 0⟩, ⟨0, 0⟩, ⟨0, 0⟩] = 1
    simp [nOpen, hid0]
  have Hop := Lib.hid hop
  clear S13 r13' r12 HRe hHd hSt hrf hhas hid0 hop
  go_wp2_with fail
  refine HHd.out.mono ?_
  rintro e w14 ⟨rfl, rfl⟩
  go_wp2_with fail
  refine HSt.out.mono ?_
  rintro e w15 ⟨⟨kk, aa, dd, mm, er, rfl⟩, S15, r15'⟩
  have S16 := S15.alloc (inO kk 1 aa dd mm)
  have r16 := Lib.hid (Ran.new (Below.trans r13.out r15') (inO kk 1 aa dd mm))
  obtain ⟨q0, q1, q2, q3, q4, q5, q6⟩ := in_cells S16
  have S17 := S16.right
  clear y0 y1 y2 y3 y4
  obtain ⟨y0, y1, y2, y3, y4⟩ := HC.out _ _ S17
  have hFd := Fds_calls p1 Hl1.out.len _ _ (php_pc S17)
  rw [Hop.out, Hpb1.out] at hFd
  have HFd := Lib.hid hFd
  clear S15 S16 S17 r15' r13 HSt hFd
  go_wp2_with fail
  refine HFd.out.mono ?_
  rintro e w18 ⟨⟨pa, cap, n, rfl, rfl⟩, S18, r18'⟩
  have S19 := Lib.hid (HE.out w18 _ (S18.perm (sep_assoc _ _ _).symm))
  have r18 := Lib.hid (Below.trans r16.out r18')
  go_wp2_with fail
  go_ret
  exact ⟨⟨rfl, S19.out⟩, r18.out⟩
end Go.Proofs.YteienbdbhnikbaaGreatDoor.Pr

