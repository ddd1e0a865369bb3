/- HandlesPlays, part 32 of 34: the texts HdQj HdQo HdQp, joined by a program. -/
import Derived.Test.YtljlpkeddbfpaaaGreatDoorHm8
import Derived.Test.YtljlpkeddbfpaaaGreatDoorHm31
namespace Go.Proofs.YtljlpkeddbfpaaaGreatDoor.Hd
open Go.RowKit Go.Maps Go.Proofs.YtljlpkeddbfpaaaGreatDoor Go.Proofs.YtljlpkeddbfpaaaGreatDoor.Hp
set_option linter.unusedVariables false
attribute [local go_sem] Oper.semAt_some

abbrev bdO (sp q : Option Addr) (n cap : Nat) : Obj := .cells #[.pointer sp, .slice q n cap] 120 (0, 0)
theorem bd_cells {w : World} {b : Nat} {sp q : Option Addr} {n cap : Nat} {S : Hp} (h : Sat w (pts b (bdO sp q n cap) * S)) : w.cell? ⟨b, 0, none⟩ = some (.pointer sp) ∧ w.cell? ⟨b, 1, none⟩ = some (.slice q n cap) := by
  have hb := h.get
  refine ⟨?_, ?_⟩ <;> rw [cell_at hb] <;> rfl
set_option maxRecDepth 100000 in
set_option maxHeartbeats 2000000 in
theorem ccheck_calls (xb : Nat) (sp q : Option Addr) (n cap : Nat) (hsp : SpOk sp xb) (w : World) (S : Hp) (h : Sat w (pts xb (bdO sp q n cap) * S)) :
    Calls Tryz.prog 95 #[pp xb] w fun e w' => (e = .returned (.tuple #[]) ∧ Sat w' (pts xb (bdO (some ⟨xb, 0, none⟩) q n cap) * S)) ∧ Ran w w' := by
  obtain ⟨i0, hi, hsz⟩ := info_size infoBld
  obtain ⟨c0, c1⟩ := bd_cells h
  rcases hsp with rfl | rfl
  · have cz : ∀ i, w.frozen? ⟨xb, i, none⟩ = false := fun i => free_at h.get i
    have hsh : w.shape? xb = some (120, 2) := by simp [World.shape?, h.get]
    have H := Lib.hid h
    clear h c1
    go_enter Tryz.func95, Tryz.ntmps95
    go_wp2_with fail
    rw [Lib.run_to_unsafe w ⟨xb, 0, none⟩ Tryz.underlying117 Tryz.underlying213 hi (by rw [hsz]; decide) hsh (by show 0 < 2; decide)]
    simp only [Result.andThen]
    rw [Oper.upon_value]
    go_wp2_with fail
    rw [run_callFunc_extern Tryz.func113 (by kernel_rfl) (by kernel_rfl) (by kernel_rfl) (e := Extern.AbiNoEscape.same) (by kernel_rfl)]
    rw [Lib.run_noEscape]
    simp only [Result.andThen]
    rw [Oper.upon_value]
    go_wp2_with fail
    rw [Lib.run_from_unsafe w ⟨xb, 0, none⟩ Tryz.underlying213 Tryz.underlying117 hi hsh (by kernel_rfl)]
    simp only [Result.andThen]
    rw [Oper.upon_value]
    go_wp2_with fail
    go_end0
    exact ⟨⟨rfl, H.out.set (i := 0) (.pointer (some ⟨xb, 0, none⟩))⟩, Ran.set (Below.refl 0 w) _ _⟩
  · have H := Lib.hid h
    clear h c1
    have hq := fun W => Lib.run_neq_ptr_same (P := Tryz.prog) W ⟨xb, 0, none⟩ Tryz.underlying117 hi
    go_enter Tryz.func95, Tryz.ntmps95
    go_wp2_with fail
    go_end0
    exact ⟨⟨rfl, H.out⟩, Below.refl 0 w⟩
set_option maxRecDepth 100000 in
set_option maxHeartbeats 2000000 in
theorem owrite_calls (xb : Nat) (sp q : Option Addr) (cap : Nat) (l : List UInt8) (d : ByteArray) (hsp : SpOk sp xb) (hl : l.length + d.size ≤ 1000000000) (w : World) (S : Hp) (h : Sat w (pts xb (bdO sp q l.length cap) * (bufHp q cap l * S))) :
    Calls Tryz.prog 67 #[pp xb, .string d] w fun e w' => (e = .returned (.tuple #[.int .i64 (d.size : Int), .nilIface]) ∧ ∃ q' cap', Sat w' (pts xb (bdO (some ⟨xb, 0, none⟩) q' (l ++ bs d).length cap') * (bufHp q' cap' (l ++ bs d) * S))) ∧ Ran w w' := by
  have hcc := Lib.hid (ccheck_calls xb sp q l.length cap hsp w _ h)
  have Hl := Lib.hid hl
  clear h hl hsp
  go_enter Tryz.func67, Tryz.ntmps67
  go_wp2_with fail
  refine hcc.out.mono ?_
  rintro e w1 ⟨⟨rfl, H1⟩, R1⟩
  obtain ⟨c0, c1⟩ := bd_cells H1
  obtain ⟨nl, hnl⟩ : ∃ n, n = l.length := ⟨_, rfl⟩
  have HSB := H1.perm (show _ = bufHp q cap l * (pts xb (bdO (some ⟨xb, 0, none⟩) q nl cap) * S) by rw [hnl]; ac_rfl)
  rw [← hnl] at c1
  have Hnl := Lib.hid hnl
  clear H1 hcc hnl
  obtain ⟨m, hm⟩ : ∃ m, m = d.size := ⟨_, rfl⟩
  have Hm := Lib.hid hm
  clear hm
  go_wp2_with (at_builtin; go_loud (refine bapp rfl _ _ rfl q cap l d nl m Hnl.out.symm Hm.out.symm rfl rfl HSB Hl.out ?_; intro q' cap' w6 T6 R6; clear HSB c0 c1; have T7 := T6.perm (show _ = pts xb (bdO (some ⟨xb, 0, none⟩) q nl cap) * (bufHp q' cap' (l ++ bs d) * S) by ac_rfl); obtain ⟨c0, c1⟩ := bd_cells T7; have cz : ∀ i, w6.frozen? ⟨xb, i, none⟩ = false := fun i => free_at T7.get i))
  go_ret2
  refine ⟨⟨rfl, q', cap', ?_⟩, Ran.set (Below.trans R1 R6) _ _⟩
  have e1 : (l ++ bs d).length = nl + m := by rw [List.length_append, Hnl.out, Hm.out, bs_length]
  rw [e1]
  exact T7.set (i := 1) (.slice q' (nl + m) cap')
set_option maxRecDepth 100000 in
set_option maxHeartbeats 2000000 in
theorem ostring_calls (xb : Nat) (sp q : Option Addr) (cap : Nat) (l : List UInt8) (hl : l.length ≤ 1000000000) (w : World) (S : Hp) (h : Sat w (pts xb (bdO sp q l.length cap) * (bufHp q cap l * S))) :
    Calls Tryz.prog 69 #[pp xb] w fun e w' => (e = .returned (.string ⟨l.toArray⟩) ∧ Sat w' (pts xb (bdO sp q l.length cap) * (bufHp q cap l * S))) ∧ Ran w w' := by
  obtain ⟨c0, c1⟩ := bd_cells h.drew
  have HB := h.perm (show _ = bufHp q cap l * (pts xb (bdO sp q l.length cap) * S) by ac_rfl)
  cases q with
  | none =>
    obtain ⟨rfl, rfl, -⟩ := buf_none HB
    have hSD : ∀ W, (Builtin.unsafeSliceData_ #[118] 197 #[.slice none 0 0]).run Tryz.prog W = .ok (.pointer none) W := fun W => rfl
    have hUS : ∀ W, (Builtin.unsafeString_ #[197, 3] 9 #[.pointer none, .int .i64 0]).run Tryz.prog W = .ok (.string .empty) W := fun W => Lib.run_unsafeString_none W _ _ _ _
    have H := Lib.hid h
    clear h HB
    go_enter Tryz.func69, Tryz.ntmps69
    go_wp2_with fail
    refine region_plan (S := (fun w' => w'.cell? ⟨xb, 1, none⟩ = some (.slice none 0 0))) [(0, true), (1, true), (2, true), (3, true), (4, true), (5, true), (6, true), (7, true), (8, true), (9, true), (10, false), (11, true)] (by kernel_rfl) (by kernel_rfl) (by kernel_rfl) ?_ ?_
    · ((try dsimp only); (first | done | (exact c1)))
    simp only [planOps, List.map_cons, List.map_nil, List.getElem?_toArray, List.getElem?_cons_zero, List.getElem?_cons_succ]
    repeat (first
      | ((refine plan_yes (v := ?_) (by rfl) ?_ ?_); rotate_left; (focus (intro w hSw; (try dsimp only at hSw); go_simp; try (with_reducible rfl))); (try simp only [Act.put, List.setIfInBounds_toArray, List.set_cons_zero, List.set_cons_succ]))
      | ((refine plan_no (by rfl) ?_); (try simp only [Act.put, List.setIfInBounds_toArray, List.set_cons_zero, List.set_cons_succ]))
      | ((refine plan_step (fun K hK => ?_)); (first | (fail) | (go_simp; (fail); (try go_wp2_with fail)) | go_simp); (refine hK.out _ _ ?_ (fun hHeld => ?_)); (focus ((try dsimp only); (first | done | (exact c1)))); clear hK K; (try simp only [Act.put, List.setIfInBounds_toArray, List.set_cons_zero, List.set_cons_succ])))
    refine plan_done ?_
    go_wp2_with fail
    go_ret
    exact ⟨⟨rfl, H.out.drew⟩, Below.drew (Below.refl _ _)⟩
  | some a =>
    obtain ⟨g, cur, z, rfl, hne, hlc, hcm, hcs, hzl, hcell, hg⟩ := buf_some HB
    have hln : 0 < l.length := List.length_pos_iff.2 hne
    have hgd := hg.drew.get
    have hsh : w.drew.shape? g = some (5, cur.size) := by simp [World.shape?, hgd]
    have hSD : ∀ W, (Builtin.unsafeSliceData_ #[118] 197 #[.slice (some ⟨g, 0, none⟩) l.length cap]).run Tryz.prog W = .ok (.pointer (some ⟨g, 0, none⟩)) W := fun W => Lib.run_unsafeSliceData_row W _ _ _ _ _ (by omega)
    have hUS : (Builtin.unsafeString_ #[197, 3] 9 #[.pointer (some ⟨g, 0, none⟩), .int .i64 l.length]).run Tryz.prog w.drew = .ok (.string ⟨l.toArray⟩) (w.drew.freeze ⟨g, 0, none⟩ l.length) := by
      refine Lib.run_unsafeString_row w.drew _ _ _ 5 Tryz.underlying197 cellsU8 g cur.size hsh l hne (by omega) (by omega) (fun j x hx => ?_)
      have hj : j < l.length := (List.getElem?_eq_some_iff.1 hx).1
      rw [Addr.add_lit, Nat.zero_add, cell_at hgd, hcell j hj]
      simp [Lib.byteCells, hx]
    have hfz : (w.drew.freeze ⟨g, 0, none⟩ l.length).heap[g]? = some (.cells cur 5 (0, l.length)) := freeze_get hgd hzl (by omega)
    have hoth : ∀ k, k < w.drew.heap.size → k ≠ g → (w.drew.freeze ⟨g, 0, none⟩ l.length).heap[k]? = w.drew.heap[k]? := fun k _ hk => by
      unfold World.freeze
      split
      · rfl
      · simp only [Array.getElem?_modify]
        rw [if_neg (fun e => hk e.symm)]
    have S2 := buf_mk (cap := cap) hne hlc hcm hcs (Nat.le_refl _) hcell (hg.drew.put hfz hoth)
    have R2 := Lib.hid (Lib.below_freeze (Below.drew (Below.refl 0 w)) (p := ⟨g, 0, none⟩) (Nat.zero_le _) l.length)
    obtain ⟨w2, hw2⟩ : ∃ w2, w2 = w.drew.freeze ⟨g, 0, none⟩ l.length := ⟨_, rfl⟩
    rw [← hw2] at hUS S2 R2
    have S3 := S2.perm (show _ = pts xb (bdO sp (some ⟨g, 0, none⟩) l.length cap) * (bufHp (some ⟨g, 0, none⟩) cap l * S) by ac_rfl)
    have c1' := (bd_cells S3).2
    have S3 := Lib.hid S3
    clear h HB hg hgd hfz hoth S2 hw2 hsh hcell hcm hcs hne hlc hzl c0
    obtain ⟨n, hn⟩ : ∃ n, n = l.length := ⟨_, rfl⟩
    rw [← hn] at c1 c1' hSD hUS
    clear hn hln hl
    go_enter Tryz.func69, Tryz.ntmps69
    go_wp2_with fail
    refine region_plan (S := (fun w' => w'.cell? ⟨xb, 1, none⟩ = some (.slice (some ⟨g, 0, none⟩) n cap))) [(0, true), (1, true), (2, true), (3, true), (4, true), (5, true), (6, true), (7, true), (8, true), (9, true), (10, false), (11, true)] (by kernel_rfl) (by kernel_rfl) (by kernel_rfl) ?_ ?_
    · ((try dsimp only); (first | done | (first | exact c1 | exact c1')))
    simp only [planOps, List.map_cons, List.map_nil, List.getElem?_toArray, List.getElem?_cons_zero, List.getElem?_cons_succ]
    repeat (first
      | ((refine plan_yes (v := ?_) (by rfl) ?_ ?_); rotate_left; (focus (intro w hSw; (try dsimp only at hSw); go_simp; try (with_reducible rfl))); (try simp only [Act.put, List.setIfInBounds_toArray, List.set_cons_zero, List.set_cons_succ]))
      | ((refine plan_no (by rfl) ?_); (try simp only [Act.put, List.setIfInBounds_toArray, List.set_cons_zero, List.set_cons_succ]))
      | ((refine plan_step (fun K hK => ?_)); (first | (fail) | (go_simp; (fail); (try go_wp2_with fail)) | go_simp); (refine hK.out _ _ ?_ (fun hHeld => ?_)); (focus ((try dsimp only); (first | done | (first | exact c1 | exact c1')))); clear hK K; (try simp only [Act.put, List.setIfInBounds_toArray, List.set_cons_zero, List.set_cons_succ])))
    refine plan_done ?_
    go_wp2_with fail
    go_ret
    exact ⟨⟨rfl, S3.out⟩, R2.out⟩
end Go.Proofs.YtljlpkeddbfpaaaGreatDoor.Hd

namespace Go.Proofs.YtljlpkeddbfpaaaGreatDoor.Hd
open Go.RowKit Go.Maps Go.Sort Go.Shelf Go.Proofs.YtljlpkeddbfpaaaGreatDoor Go.Proofs.YtljlpkeddbfpaaaGreatDoor.Hp
set_option linter.unusedVariables false
attribute [local go_sem] Oper.semAt_some

theorem enc_map (ks : List (List UInt8)) : (ks.map strB).map Value.string = ks.map encStr := by rw [List.map_map]; rfl
/-- A directory's names in memory: what Sorted gives. -/
theorem fs_kids {w : World} {fb mb : Nat} {F : Fs} {R : Hp} (h : Sat w (fsHp fb mb F * R)) {k : Int} {x : Nd} {kd : Kd} (hx : find F.L k = some x) (hk : x.kids = some kd) : ∃ D, K.Reads D kd.M kd.sz ∧ K.Owns w kd.b kd.n D := by
  obtain ⟨X, h1, _⟩ := fs_node h hx
  rw [hk] at h1
  obtain ⟨D, hR, HD⟩ := K.smap_out (h1.perm (show _ = K.smap kd.b kd.M kd.sz kd.n * (pts x.b (ndO x) * (pts fb (fsO F mb) * (X * R))) by unfold kidsHp; ac_rfl))
  exact ⟨D, hR, (K.mapD_out HD).1⟩
theorem fs_name {w : World} {fb mb : Nat} {F : Fs} {R : Hp} (h : Sat w (fsHp fb mb F * R)) {k : Int} {x : Nd} {kd : Kd} (hx : find F.L k = some x) (hk : x.kids = some kd) (s : ByteArray) (hs : s.size ≤ maxLen) :
    (Instr.lookup 98 (.map (some kd.b)) (.string s) false).run Tryz.prog w = .ok (.int .i64 ((kd.M s).getD 0)) w := by
  obtain ⟨X, h1, _⟩ := fs_node h hx
  rw [hk] at h1
  exact K.smap_look (h1.perm (show _ = K.smap kd.b kd.M kd.sz kd.n * (pts x.b (ndO x) * (pts fb (fsO F mb) * (X * R))) by unfold kidsHp; ac_rfl)) s hs
theorem fs_ptr {w : World} {fb mb : Nat} {F : Fs} {R : Hp} (h : Sat w (fsHp fb mb F * R)) {k : Int} {x : Nd} (hx : find F.L k = some x) (hk : I64 k) : (Instr.lookup 101 (.map (some mb)) (.int .i64 k) false).run Tryz.prog w = .ok (pp x.b) w := by
  have hl := fs_look h k hk
  have : blk F.L k = some x.b := by unfold blk; rw [hx]; rfl
  rw [this] at hl
  exact hl
set_option maxRecDepth 100000 in
set_option maxHeartbeats 4000000 in
theorem show_leaf {w : World} {fb mb : Nat} {F : Fs} {R : Hp} {k : Int} {x : Nd} {kd : Kd} (ob : Nat) (path : ByteArray) (hx : find F.L k = some x) (hk : x.kids = some kd) (hM : kd.M = fun _ => none) (hn : kd.sz ≤ 1000000) (hi : I64 k) (h : Sat w (fsHp fb mb F * R)) :
    Calls Tryz.prog 88 #[pp fb, pp ob, .int .i64 k, .string path] w fun e w' => e = .returned (.tuple #[]) ∧ Below w.heap.size w w' := by
  obtain ⟨c0, c1, c2, c3⟩ := fs_cells h
  have hl := fs_ptr h hx hi
  obtain ⟨d0, d1, d2, d3, d4, d5⟩ := fs_at h hx
  rw [hk] at d2
  unfold kv at d2
  dsimp only at d2
  obtain ⟨D, hR, hO⟩ := fs_kids h hx hk
  have hsz := hR.size
  have Hs := Lib.hid ((callsIn_wide (n := 5)).1 (Tryz.slices_Sorted_keys_105_106 kd.b kd.n D _ w hO (by unfold maxLen; omega) (by omega)))
  have HO := Lib.hid (And.intro hO hR)
  have HM := Lib.hid hM
  clear h hO hR hM hx hk d0 d1 d3 d4 d5 hsz
  go_enter Tryz.func88, Tryz.ntmps88
  go_wp2_with fail
  refine ((callsIn_wide (n := 5)).1 (Tryz.maps_Keys_106 (some kd.b) w)).mono ?_
  rintro e w1 ⟨rfl, rfl⟩
  go_wp2_with fail
  refine Hs.out.mono ?_
  rintro e w2 ⟨v, ss, rfl, hp, hrow, hnil, hb⟩
  have hb2 : Below w.heap.size w w2 := ((Below.refl _ w).alloc (Nat.le_refl _) _).trans (hb.mono (by rw [World.size_alloc]; exact Nat.le_succ _))
  have hks := skeys_facts HO.out.1 HO.out.2 hp
  rw [HM.out] at hks
  have h0 := keys_none hks
  have hss : ss = [] := by
    have := congrArg List.length h0
    rw [List.length_map, List.length_mergeSort] at this
    exact List.eq_nil_of_length_eq_zero this
  obtain rfl := hnil.2 hss
  have hb2 := Lib.hid hb2
  clear hks h0 hss hnil hrow hp hb Hs HO HM
  go_wp2_with fail
  go_loopg [26] 0 (fun (g : Nat) (v26 : Value) (wr : World) => v26 = .int .i64 0 ∧ w2 = wr)
  case atStart => exact ⟨rfl, rfl⟩
  case round =>
    obtain ⟨rfl, rfl⟩ := hrel
    go_wp2_with fail
    go_end0
    exact ⟨rfl, hb2.out⟩
end Go.Proofs.YtljlpkeddbfpaaaGreatDoor.Hd

namespace Go.Proofs.YtljlpkeddbfpaaaGreatDoor.Hd
open Go.RowKit Go.Maps Go.Sort Go.Shelf Go.Proofs.YtljlpkeddbfpaaaGreatDoor Go.Proofs.YtljlpkeddbfpaaaGreatDoor.Hp
set_option linter.unusedVariables false
attribute [local go_sem] Oper.semAt_some

/-- The variable that the library's search asks. -/
def Glob (R : Hp) : Prop := ∃ m : Int, ∀ (w : World) (S : Hp), Sat w (S * R) → w.cell? ⟨0, 0, none⟩ = some (.int .i64 m)
theorem Glob.more {R S : Hp} (h : Glob R) : Glob (S * R) := by
  obtain ⟨m, h⟩ := h
  exact ⟨m, fun w S' hS => h w (S' * S) (hS.perm (by ac_rfl))⟩
theorem sayP1 (h t : ByteArray) : bs (h ++ ⟨#[32, 47, 10]⟩) = lineL (bs h) 1 (bs t) := by rw [bs_app]; rfl
theorem sayP3 (h t : ByteArray) : bs (h ++ ⟨#[32, 62]⟩ ++ t ++ ⟨#[10]⟩) = lineL (bs h) 3 (bs t) := by rw [bs_app, bs_app, bs_app]; rfl
theorem sayP2 (h t : ByteArray) : bs (h ++ ⟨#[32, 61]⟩ ++ ba (escL (bs t)) ++ ⟨#[10]⟩) = lineL (bs h) 2 (bs t) := by rw [bs_app, bs_app, bs_app, bs_ba]; rfl
def kindF (F : Fs) (k : Int) : Int := match find F.L k with
  | none => 0
  | some x => x.kind
def textF (F : Fs) (k : Int) : ByteArray := match find F.L k with
  | none => ⟨#[]⟩
  | some x => x.text
def lineF (path : ByteArray) (F : Fs) (e : EN) : List UInt8 := lineL (bs path ++ [47] ++ bs e.name) (kindF F e.node) (bs (textF F e.node))
def linesF (path : ByteArray) (F : Fs) (E : List EN) : List UInt8 := E.flatMap (lineF path F)
theorem linesF_take (path : ByteArray) (F : Fs) (E : List EN) (k : Nat) (hk : k < E.length) : linesF path F (E.take (k + 1)) = linesF path F (E.take k) ++ lineF path F E[k] := by
  rw [List.take_succ_eq_append_getElem hk]
  unfold linesF
  rw [List.flatMap_append]; simp
/-- What is asked of a name's node. -/
structure KdOk (F : Fs) (e : EN) (y : Nd) : Prop where
  at_ : find F.L e.node = some y
  key : I64 e.node
  kind : y.kind = 1 ∨ y.kind = 2 ∨ y.kind = 3
  leaf : y.kind = 1 → ∃ kd, y.kids = some kd ∧ (kd.M = fun _ => none) ∧ kd.sz ≤ 1000000
  text : y.text.size ≤ 4096
  name : e.name.size ≤ 100
theorem lineF_len {F : Fs} {path : ByteArray} {e : EN} {y : Nd} (ok : KdOk F e y) (hp : path.size ≤ 1000) : (lineF path F e).length ≤ 10000 := by
  unfold lineF
  refine Nat.le_trans (lineL_len _ _ _) ?_
  have h1 := ok.name
  have h2 := ok.text
  have e1 : textF F e.node = y.text := by unfold textF; rw [ok.at_]
  simp only [List.length_append, bs_length, e1, List.length_singleton]
  omega
theorem linesF_len {F : Fs} {path : ByteArray} : ∀ (E : List EN), (∀ k (hk : k < E.length), ∃ y, KdOk F E[k] y) → path.size ≤ 1000 → (linesF path F E).length ≤ 10000 * E.length
  | [], _, _ => Nat.zero_le _
  | e :: E, ok, hp => by
    obtain ⟨j, oj⟩ := ok 0 (Nat.succ_pos _)
    have h1 : (lineF path F e).length ≤ 10000 := lineF_len oj hp
    have h2 := linesF_len E (fun k hk => ok (k + 1) (Nat.succ_lt_succ hk)) hp
    show (lineF path F e ++ linesF path F E).length ≤ _
    rw [List.length_append, List.length_cons]
    omega
abbrev nmsA (p : Option Addr) (cap : Nat) : Hp := arr 9 1 p 4 cap (kidsE.map fun e => Value.string e.name)
def ShowSays (fb mb ob : Nat) (F : Fs) (l : List UInt8) (R : Hp) (w' : World) : Prop := ∃ sp q cap, SpOk sp ob ∧ Sat w' (fsHp fb mb F * (pts ob (bdO sp q l.length cap) * (bufHp q cap l * R)))
set_option maxRecDepth 100000 in
set_option maxHeartbeats 16000000 in
theorem show_root {w : World} {fb mb : Nat} {F : Fs} {R : Hp} {k0 : Int} {x0 : Nd} {kd : Kd} (ob : Nat) (path : ByteArray) (hpz : path.size ≤ 1000) (hx : find F.L k0 = some x0) (hk : x0.kids = some kd) (hM : kd.M = kidsM) (hn : kd.sz ≤ 1000000) (hi : I64 k0) (hok : ∀ k (hk : k < kidsE.length), ∃ y, KdOk F kidsE[k] y) (hg : Glob R)
    (h : Sat w (fsHp fb mb F * (pts ob (bdO none none 0 0) * (bufHp none 0 [] * R)))) :
    Calls Tryz.prog 88 #[pp fb, pp ob, .int .i64 k0, .string path] w fun e w' => (e = .returned (.tuple #[]) ∧ ShowSays fb mb ob F (linesF path F kidsE) R w') ∧ Ran w w' := by
  obtain ⟨c0, c1, c2, c3⟩ := fs_cells h
  have hl := fs_ptr h hx hi
  obtain ⟨d0, d1, d2, d3, d4, d5⟩ := fs_at h hx
  rw [hk] at d2
  unfold kv at d2
  dsimp only at d2
  obtain ⟨D, hR, hO⟩ := fs_kids h hx hk
  have hsz := hR.size
  have Hs := Lib.hid ((callsIn_wide (n := 5)).1 (Tryz.slices_Sorted_keys_105_106 kd.b kd.n D _ w hO (by unfold maxLen; omega) (by omega)))
  have HO := Lib.hid (And.intro hO hR)
  have HM := Lib.hid hM
  have HOK := Lib.hid hok
  have HG := Lib.hid hg
  have H0 := Lib.hid h
  -- what stands in the tree, wherever it lies
  have HT := Lib.hid (fun (W : World) (X : Hp) (hW : Sat W (fsHp fb mb F * X)) => And.intro (fs_cells hW).2.2.2 (And.intro (fs_ptr hW hx hi) (And.intro (by have := (fs_at hW hx).2.2.1; rw [hk] at this; exact this : W.cell? ⟨x0.b, 2, none⟩ = some (.map (some kd.b))) (fun (s : ByteArray) (hs : s.size ≤ maxLen) => (by have := fs_name hW hx hk s hs; rw [hM] at this; exact this : (Instr.lookup 98 (.map (some kd.b)) (.string s) false).run Tryz.prog W = .ok (.int .i64 ((kidsM s).getD 0)) W)))))
  have HN := Lib.hid (fun (W : World) (X : Hp) (hW : Sat W (fsHp fb mb F * X)) (e : EN) (y : Nd) (ok : KdOk F e y) => And.intro (fs_ptr hW ok.at_ ok.key) (And.intro (fs_at hW ok.at_).1 (fs_at hW ok.at_).2.1))
  have hpI : (path.size : Int) ≤ 1000 := by omega
  clear h hO hR hM hx hk d0 d1 d3 d4 d5 hsz hok hg
  go_enter Tryz.func88, Tryz.ntmps88
  go_wp2_with fail
  refine ((callsIn_wide (n := 5)).1 (Tryz.maps_Keys_106 (some kd.b) w)).mono ?_
  rintro e w1 ⟨rfl, rfl⟩
  go_wp2_with fail
  refine Hs.out.mono ?_
  rintro e w2 ⟨v, ss, rfl, hp, hrow, hnil, hb⟩
  have hb2 : Below w.heap.size w w2 := ((Below.refl _ w).alloc (Nat.le_refl _) _).trans (hb.mono (by rw [World.size_alloc]; exact Nat.le_succ _))
  have hks := skeys_facts HO.out.1 HO.out.2 hp
  rw [HM.out] at hks
  have h0 := keys_kids hks
  have hln : ss.length = 4 := by
    have := congrArg List.length h0
    rw [List.length_map, List.length_mergeSort] at this
    exact this
  obtain ⟨p, cap, rfl, HA⟩ := own_arr H0.out hb2 (by rw [World.size_alloc]; exact Nat.le_succ _) hrow
  have HA : Sat w2 (nmsA p cap * (fsHp fb mb F * (pts ob (bdO none none 0 0) * (bufHp none 0 [] * R)))) := by
    have e1 : (kidsE.map fun e => Value.string e.name) = (kidsE.map EN.name).map Value.string := by rw [List.map_map]; rfl
    unfold nmsA
    rw [e1, ← h0, enc_map]
    rw [hln] at HA
    exact HA
  rw [hln]
  have HA := Lib.hid HA
  have hb2 := Lib.hid (below_ran hb2)
  clear hks h0 hln hnil hrow hp hb Hs HO HM H0 c0 c1 c2 c3 hl d2
  go_wp2_with fail
  go_loopg [26] 4 (fun (g : Nat) (v26 : Value) (wr : World) => ∃ (k : Nat) (sp q : Option Addr) (bc : Nat), v26 = .int .i64 (k : Int) ∧ k + g = 4 ∧ SpOk sp ob ∧ Sat wr (nmsA p cap * (fsHp fb mb F * (pts ob (bdO sp q (linesF path F (kidsE.take k)).length bc) * (bufHp q bc (linesF path F (kidsE.take k)) * R)))) ∧ Ran w wr)
  case atStart => exact ⟨0, none, none, 0, rfl, by omega, .inl rfl, HA.out, hb2.out⟩
  case round =>
    clear HA hb2
    obtain ⟨k, sp, q, bc, rfl, hkg, hsp, S1, R1⟩ := hrel
    by_cases hlt : k < 4
    · have hltI : (k : Int) < 4 := by omega
      have hk0 : (0 : Int) ≤ (k : Int) := by omega
      have hkl : k < kidsE.length := hlt
      obtain ⟨y, ok⟩ := HOK.out k hkl
      have hnx := linesF_take path F kidsE k hkl
      have hll := lineF_len ok hpz
      have hpre := linesF_len (path := path) (F := F) (kidsE.take k) (fun q hq => by
        rw [List.length_take] at hq
        obtain ⟨j2, o2⟩ := HOK.out q (by omega)
        exact ⟨j2, by rw [List.getElem_take]; exact o2⟩) hpz
      rw [List.length_take] at hpre
      have hln : lineF path F kidsE[k] = lineL (bs path ++ [47] ++ bs kidsE[k].name) y.kind (bs y.text) := by
        unfold lineF kindF textF
        rw [ok.at_]
      rw [hln] at hnx hll
      have hkm := kids_at k hkl
      have hal := S1.arr_len
      obtain ⟨b, o, hb⟩ := S1.arr_addr (by omega)
      have S1' := S1
      unfold nmsA at S1'
      rw [hb] at S1'
      have hnc := S1'.arr_cell k (by rw [List.length_map]; exact hkl)
      rw [List.getElem_map] at hnc
      have ST := S1.perm (show _ = fsHp fb mb F * (nmsA p cap * (pts ob (bdO sp q (linesF path F (kidsE.take k)).length bc) * (bufHp q bc (linesF path F (kidsE.take k)) * R))) by ac_rfl)
      obtain ⟨f3, hl, d2, hname⟩ := HT.out _ _ ST
      have hnz := ok.name
      have hnl := hname kidsE[k].name (by unfold maxLen; omega)
      rw [hkm] at hnl
      have hkd := ok.kind
      have htz := ok.text
      have hleaf := ok.leaf
      obtain ⟨n1, n2, n3⟩ := HN.out _ _ ST _ y ok
      obtain ⟨pre, hpr⟩ : ∃ pre, pre = linesF path F (kidsE.take k) := ⟨_, rfl⟩
      rw [← hpr] at hnx hpre S1 ST
      have hkey := ok.key
      have hat := ok.at_
      have HLf : Hid (y.kind = 1 → ∀ (W : World) (X : Hp) (p2 : ByteArray), Sat W (fsHp fb mb F * X) → Calls Tryz.prog 88 #[pp fb, pp ob, .int .i64 kidsE[k].node, .string p2] W fun e w' => e = .returned (.tuple #[]) ∧ Below W.heap.size W w') := Lib.hid (fun h1 W X p2 hW => by
        obtain ⟨kd2, k1, k2, k3⟩ := hleaf h1
        exact show_leaf ob p2 hat k1 k2 k3 hkey hW)
      obtain ⟨nme, hnm⟩ : ∃ nme, nme = kidsE[k].name := ⟨_, rfl⟩
      obtain ⟨nod, hno⟩ : ∃ nod, nod = kidsE[k].node := ⟨_, rfl⟩
      rw [← hnm] at hnc hnx hnz hnl hll
      rw [← hno] at n1 hnl HLf hkey
      obtain ⟨here, hhe⟩ : ∃ here, here = path ++ ⟨#[47]⟩ ++ nme := ⟨_, rfl⟩
      have hbs : bs here = bs path ++ [47] ++ bs nme := by rw [hhe, bs_app, bs_app]
      rw [← hbs] at hnx hll
      have hhz : here.size ≤ 1101 := by rw [hhe, ByteArray.size_append, ByteArray.size_append]; show path.size + 1 + nme.size ≤ _; omega
      obtain ⟨yb, yk, yt, ykd, ypa, yna, yh⟩ := y
      dsimp only at hnx hkd htz n1 n2 n3 HLf hll
      subst hb
      -- the builder's WriteString, wherever
      have HW := Lib.hid (fun (dd : ByteArray) (hd : dd.size ≤ 1000000) (W : World) (X : Hp) (hW : Sat W (pts ob (bdO sp q pre.length bc) * (bufHp q bc pre * X))) => owrite_calls ob sp q bc pre dd hsp (by omega) W X hW)
      have ho1 : ¬ path.size + 1 > 9223372036854775807 := by omega
      have ho2 : ¬ path.size + 1 + nme.size > 9223372036854775807 := by omega
      have ho3 : ¬ here.size + 3 > 9223372036854775807 := by omega
      have ho4 : ¬ here.size + 2 > 9223372036854775807 := by omega
      have ho5 : ¬ here.size + 2 + yt.size > 9223372036854775807 := by omega
      have ho6 : ¬ here.size + 2 + yt.size + 1 > 9223372036854775807 := by omega
      have S1 := Lib.hid S1
      have R1 := Lib.hid R1
      have HNX := Lib.hid hnx
      have hcap : (cap : Int) ≤ 9223372036854775807 := by have := hal.2.2; unfold maxLen at this; omega
      have hcap4 : (4 : Int) ≤ (cap : Int) := by have := hal.2.1; omega
      simp only [Option.getD_some] at hnl
      clear hnx hpre hln hll hkm S1' ST hname hpr hnm hno hbs hal hleaf hat hpz
      go_upto_region 5 with fail
      rw [← hhe]
      clear hhe
      rcases hkd with rfl | rfl | rfl
      · have HC := Lib.hid (HW.out (here ++ ⟨#[32, 47, 10]⟩) (by rw [ByteArray.size_append]; show here.size + 3 ≤ _; omega) wr _ (S1.out.perm (show _ = pts ob (bdO sp q pre.length bc) * (bufHp q bc pre * (nmsA (some ⟨b, o, none⟩) cap * (fsHp fb mb F * R))) by ac_rfl)))
        have HLg := HLf.out (by first | exact trivial | rfl)
        have HLg := Lib.hid HLg
        clear HLf HW HG
        go_wp2_with fail
        refine HC.out.mono ?_
        rintro e w3 ⟨⟨rfl, q', bc', S3⟩, R3⟩
        have HLh := Lib.hid (HLg.out w3 _ here (S3.perm (show _ = fsHp fb mb F * (pts ob (bdO (some ⟨ob, 0, none⟩) q' (pre ++ bs (here ++ ⟨#[32, 47, 10]⟩)).length bc') * (bufHp q' bc' (pre ++ bs (here ++ ⟨#[32, 47, 10]⟩)) * (nmsA (some ⟨b, o, none⟩) cap * R))) by ac_rfl)))
        have S3 := Lib.hid S3
        have R3 := Lib.hid (Below.trans R1.out R3)
        clear HC HLg
        go_wp2_with fail
        refine HLh.out.mono ?_
        rintro e w4 ⟨rfl, hB⟩
        have S4 := Lib.hid (S3.out.below hB)
        have R4 := Lib.hid (Below.trans R3.out (below_ran hB))
        clear HLh S3 R3 hB
        go_wp2_with fail
        go_roundg (gk - 1)
        case rel =>
          refine ⟨k + 1, some ⟨ob, 0, none⟩, q', bc', by simp, by omega, .inr rfl, ?_, R4.out⟩
          rw [HNX.out, ← sayP1 here yt]
          exact S4.out.perm (by ac_rfl)
        case measure => omega
      · obtain ⟨m, hm⟩ := HG.out
        have hz := repl_len (bs yt)
        rw [bs_length] at hz
        have e2 := esc_two (bs yt)
        obtain ⟨z1, hz1⟩ : ∃ z1, z1 = Lib.replaceAll (bs yt) [92] [92, 92] := ⟨_, rfl⟩
        rw [← hz1] at hz e2
        have GM := Lib.hid (fun (W : World) (hW : Sat W (nmsA (some ⟨b, o, none⟩) cap * (fsHp fb mb F * (pts ob (bdO sp q pre.length bc) * (bufHp q bc pre * R))))) => hm W (nmsA (some ⟨b, o, none⟩) cap * fsHp fb mb F * (pts ob (bdO sp q pre.length bc) * bufHp q bc pre)) (hW.perm (by ac_rfl)))
        have HR1 := repl_calls yt ⟨#[92]⟩ ⟨#[92, 92]⟩ m wr (by omega) rfl (by show 2 ≤ 10; omega) (GM.out wr S1.out)
        have e3 : Lib.replaceAll (bs yt) (bs ⟨#[92]⟩) (bs ⟨#[92, 92]⟩) = z1 := hz1.symm
        rw [e3] at HR1
        have HR1 := Lib.hid HR1
        have HR2 := Lib.hid (fun (W : World) (hW : Sat W (nmsA (some ⟨b, o, none⟩) cap * (fsHp fb mb F * (pts ob (bdO sp q pre.length bc) * (bufHp q bc pre * R))))) => (by
          have := repl_calls (ba z1) ⟨#[10]⟩ ⟨#[92, 110]⟩ m W (by rw [ba_size]; omega) rfl (by show 2 ≤ 10; omega) (GM.out W hW)
          rw [bs_ba] at this
          have e4 : Lib.replaceAll z1 (bs ⟨#[10]⟩) (bs ⟨#[92, 110]⟩) = escL (bs yt) := e2
          rw [e4] at this
          exact this : Calls Tryz.prog 107 #[.string (ba z1), .string ⟨#[10]⟩, .string ⟨#[92, 110]⟩] W fun e w' => e = .returned (.string (ba (escL (bs yt)))) ∧ Below W.heap.size W w'))
        have hes := escL_len (bs yt)
        rw [bs_length] at hes
        have hesz : (ba (escL (bs yt))).size ≤ 10000 := by rw [ba_size]; omega
        have HC := Lib.hid (fun (W : World) (hW : Sat W (nmsA (some ⟨b, o, none⟩) cap * (fsHp fb mb F * (pts ob (bdO sp q pre.length bc) * (bufHp q bc pre * R))))) => HW.out (here ++ ⟨#[32, 61]⟩ ++ ba (escL (bs yt)) ++ ⟨#[10]⟩) (by rw [ByteArray.size_append, ByteArray.size_append, ByteArray.size_append]; show here.size + 2 + (ba (escL (bs yt))).size + 1 ≤ _; omega) W _ (hW.perm (show _ = pts ob (bdO sp q pre.length bc) * (bufHp q bc pre * (nmsA (some ⟨b, o, none⟩) cap * (fsHp fb mb F * R))) by ac_rfl)))
        obtain ⟨tt, htt⟩ : ∃ tt, tt = ba (escL (bs yt)) := ⟨_, rfl⟩
        rw [← htt] at HR2 HC hesz
        have HTT := Lib.hid htt
        have ho7 : ¬ here.size + 2 + tt.size > 9223372036854775807 := by omega
        have ho8 : ¬ here.size + 2 + tt.size + 1 > 9223372036854775807 := by omega
        clear HLf HW HG hm GM hz e2 hz1 e3 hes htt ho5 ho6
        go_wp2_with fail
        refine HR1.out.mono ?_
        rintro e w3 ⟨rfl, hB⟩
        have S3 := S1.out.below hB
        have HR3 := Lib.hid (HR2.out w3 S3)
        have S3 := Lib.hid S3
        have R3 := Lib.hid (Below.trans R1.out (below_ran hB))
        clear HR1 HR2 hB
        go_wp2_with fail
        refine HR3.out.mono ?_
        rintro e w4 ⟨rfl, hB⟩
        have S4 := S3.out.below hB
        have HC2 := Lib.hid (HC.out w4 S4)
        have R4 := Lib.hid (Below.trans R3.out (below_ran hB))
        clear HR3 S3 R3 S4 hB HC
        go_wp2_with fail
        refine HC2.out.mono ?_
        rintro e w5 ⟨⟨rfl, q', bc', S5⟩, R5⟩
        rw [HTT.out] at S5
        have S5 := Lib.hid S5
        have R5 := Lib.hid (Below.trans R4.out R5)
        clear HC2 R4
        go_wp2_with fail
        go_roundg (gk - 1)
        case rel =>
          refine ⟨k + 1, some ⟨ob, 0, none⟩, q', bc', by simp, by omega, .inr rfl, ?_, R5.out⟩
          rw [HNX.out, ← sayP2 here yt]
          exact S5.out.perm (by ac_rfl)
        case measure => omega
      · have HC := Lib.hid (HW.out (here ++ ⟨#[32, 62]⟩ ++ yt ++ ⟨#[10]⟩) (by rw [ByteArray.size_append, ByteArray.size_append, ByteArray.size_append]; show here.size + 2 + yt.size + 1 ≤ _; omega) wr _ (S1.out.perm (show _ = pts ob (bdO sp q pre.length bc) * (bufHp q bc pre * (nmsA (some ⟨b, o, none⟩) cap * (fsHp fb mb F * R))) by ac_rfl)))
        clear HLf HW HG
        go_wp2_with fail
        refine HC.out.mono ?_
        rintro e w3 ⟨⟨rfl, q', bc', S3⟩, R3⟩
        have S3 := Lib.hid S3
        have R3 := Lib.hid (Below.trans R1.out R3)
        clear HC
        go_wp2_with fail
        go_roundg (gk - 1)
        case rel =>
          refine ⟨k + 1, some ⟨ob, 0, none⟩, q', bc', by simp, by omega, .inr rfl, ?_, R3.out⟩
          rw [HNX.out, ← sayP3 here yt]
          exact S3.out.perm (by ac_rfl)
        case measure => omega
    · have hge : (4 : Int) ≤ (k : Int) := by omega
      have htk : kidsE.take k = kidsE := List.take_of_length_le (by show 4 ≤ k; omega)
      rw [htk] at S1
      have S9 := Lib.hid (And.intro S1 R1)
      clear S1 R1
      go_wp2_with fail
      go_end0
      exact ⟨⟨rfl, sp, q, bc, hsp, S9.out.1.right⟩, S9.out.2⟩
end Go.Proofs.YtljlpkeddbfpaaaGreatDoor.Hd

