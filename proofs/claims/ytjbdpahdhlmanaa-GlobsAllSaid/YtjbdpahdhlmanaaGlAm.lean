/- The iterator of all texts out of an alphabet, walked. -/
import Derived.Test.YtjbdpahdhlmanaaGlAl
namespace Go.Proofs.Ytjbdpahdhlmanaa.Globs
open Go.RowKit Go.Proofs.Ytjbdpahdhlmanaa Go.Proofs.Ytjbdpahdhlmanaa.Hp
set_option linter.unusedVariables false
attribute [local go_sem] Oper.semAt_some

abbrev strs (p : Option Addr) (cap : Nat) (l : List ByteArray) : Hp := arr 9 1 p l.length cap (strCells l)
abbrev boxes (bm ba : Nat) (most : Int) (al : ByteArray) : Hp := pts bm (.cells #[.int .i64 most] 3 (0, 0)) * pts ba (.cells #[.string al] 9 (0, 0))
def TxOut (al : ByteArray) (m : Nat) (J : List ByteArray → Hp) (R : Hp) (w0 : World) (g : Nat) (rv nv : Value) (wr : World) : Prop :=
  ∃ (L : Nat) (p : Option Addr) (cap : Nat), L + g = m + 1 ∧ rv = .slice p (levL al L).length cap ∧ nv = .int .i64 (L : Int) ∧ Sat wr (strs p cap (levL al L) * (J (txtL al L) * R)) ∧ Ran w0 wr
def TxMid (al : ByteArray) (L : Nat) (p : Option Addr) (cap : Nat) (J : List ByteArray → Hp) (R : Hp) (w0 : World) (g : Nat) (nv kv : Value) (wr : World) : Prop :=
  ∃ (k : Nat) (q : Option Addr) (cq : Nat), k + g = (levL al L).length ∧ nv = .slice q (((levL al L).take k).flatMap (nxtL al)).length cq ∧ kv = .int .i64 (k : Int) ∧
    Sat wr (strs p cap (levL al L) * (strs q cq (((levL al L).take k).flatMap (nxtL al)) * (J (txtL al L ++ (levL al L).take k) * R))) ∧ Ran w0 wr
def TxIn (al : ByteArray) (x : ByteArray) (nx : List ByteArray) (H : Hp) (w0 : World) (g : Nat) (nv iv : Value) (wr : World) : Prop :=
  ∃ (i : Nat) (q : Option Addr) (cq : Nat), i + g = al.size ∧ nv = .slice q (nx ++ (List.range i).map (extS al x)).length cq ∧ iv = .int .i64 (i : Int) ∧ Sat wr (strs q cq (nx ++ (List.range i).map (extS al x)) * H) ∧ Ran w0 wr
theorem blk_new {w : World} {o : Obj} {b : Nat} (h : w.heap.size = b) : (w.alloc o).heap[b]? = some o := by subst h; exact heap_alloc_new w o
theorem strCells_append (l m : List ByteArray) : strCells (l ++ m) = strCells l ++ strCells m := List.map_append
theorem strs_cell {w : World} {R : Hp} {p : Option Addr} {cap : Nat} {l : List ByteArray} (h : Sat w (strs p cap l * R)) (k : Nat) (hk : k < l.length) : ∃ b o, p = some ⟨b, o, none⟩ ∧ w.cell? ⟨b, o + k, none⟩ = some (.string l[k]) := by
  obtain ⟨h1, h2, h3⟩ := h.arr_len
  obtain ⟨b, o, rfl⟩ := h.arr_addr (by omega)
  refine ⟨b, o, rfl, ?_⟩
  rw [h.arr_cell k (by unfold strCells; rw [List.length_map]; exact hk)]
  simp [strCells]
set_option maxRecDepth 100000 in
set_option maxHeartbeats 4000000 in
theorem texts_iter (al : ByteArray) (m bm ba n : Nat) (ha : al.size ≤ 300) (hN : (txtL al (m + 1)).length ≤ 4096) (hm : m ≤ 100000) (R : Hp) :
    IterSat Try.prog n 49 #[.pointer (some ⟨bm, 0, none⟩), .pointer (some ⟨ba, 0, none⟩)] (fun s : ByteArray => #[.string s]) (txtL al (m + 1)) (boxes bm ba m al * R) := by
  intro l J W hW hY
  refine callsIn_wide.2 ?_
  have hal : (al.size : Int) ≤ 300 := by omega
  have hm' : (m : Int) ≤ 100000 := by omega
  have HY := Lib.hid hY
  have HNN := Lib.hid hN
  have hbm := (hW.perm (show _ = pts bm (.cells #[.int .i64 m] 3 (0, 0)) * (pts ba (.cells #[.string al] 9 (0, 0)) * (J [] * R)) by ac_rfl)).get
  have c0 : W.cell? ⟨bm, 0, none⟩ = some (.int .i64 m) := by rw [cell_at hbm]; rfl
  have hblt : bm < W.heap.size := (Array.getElem?_eq_some_iff.1 hbm).1
  have hW1 := hW.alloc (.cells #[.string ⟨#[]⟩] 9 (0, 0))
  have c1 : (W.alloc (.cells #[.string ⟨#[]⟩] 9 (0, 0))).cell? ⟨bm, 0, none⟩ = some (.int .i64 m) := ((kept_alloc W _).cell hblt 0).trans c0
  clear hY hN hW hbm
  go_enter Try.func49, Try.ntmps49
  go_wp2_with fail
  have S0 : Sat (W.alloc (.cells #[.string ⟨#[]⟩] 9 (0, 0))) (strs (some ⟨W.heap.size, 0, none⟩) 1 (levL al 0) * (J (txtL al 0) * (boxes bm ba m al * R))) :=
    Sat.arr_mk (by show 1 ≤ 1; omega) (by unfold maxLen; omega) (by simp) rfl (fun j hj => by
      have : j = 0 := by simpa [strCells, levL] using hj
      subst this; rfl) hW1
  have R0 : Ran W (W.alloc (.cells #[.string ⟨#[]⟩] 9 (0, 0))) := Ran.new (Below.refl _ _) _
  clear hW1 c0 c1
  go_loopg [4, 12] (m + 1) (TxOut al m J (boxes bm ba m al * R) W)
  case atStart => exact ⟨0, _, 1, by omega, rfl, rfl, S0, R0⟩
  case round =>
    clear S0 R0
    obtain ⟨L, p, cap, hLg, rfl, rfl, HS, HR⟩ := hrel
    have hL0 : (0 : Int) ≤ L := by omega
    by_cases hL : L < m + 1
    · have hL' : (L : Int) < (m : Int) + 1 := by omega
      obtain ⟨f, rfl⟩ : ∃ f, gk = f + 1 := ⟨gk - 1, by omega⟩
      have hlen : (levL al L).length ≤ 4096 := Nat.le_trans (levL_len al hL) HNN.out
      have hlen' : ((levL al L).length : Int) ≤ 4096 := by omega
      have HLg := Lib.hid hLg
      obtain ⟨tl, htl⟩ := txtL_le al (show L + 1 ≤ m + 1 from hL)
      have htl2 : txtL al (m + 1) = txtL al L ++ (levL al L ++ tl) := by rw [htl]; show (txtL al L ++ levL al L) ++ tl = _; rw [List.append_assoc]
      have Htl := Lib.hid htl2
      have S1 : Sat wr (strs p cap (levL al L) * (strs none 0 (((levL al L).take 0).flatMap (nxtL al)) * (J (txtL al L ++ (levL al L).take 0) * (boxes bm ba m al * R)))) := by
        have := (HS.nil_arr 9 1).perm (show _ = strs p cap (levL al L) * (arr 9 1 none 0 0 [] * (J (txtL al L) * (boxes bm ba m al * R))) by ac_rfl)
        simpa [strs, strCells] using this
      clear hLg htl htl2 HS
      go_wp2_with fail
      go_loopg [5, 16] ((levL al L).length) (TxMid al L p cap J (boxes bm ba m al * R) W)
      case atStart => exact ⟨0, none, 0, by omega, by simp, rfl, S1, HR⟩
      case round =>
        clear S1 HR
        obtain ⟨k, q, cq, hkg, rfl, rfl, HS, HR⟩ := hrel
        have hk0 : (0 : Int) ≤ k := by omega
        by_cases hk : k < (levL al L).length
        · have hk' : (k : Int) < (levL al L).length := by omega
          obtain ⟨f2, rfl⟩ : ∃ f, gk = f + 1 := ⟨gk - 1, by omega⟩
          obtain ⟨pb, po, rfl, cx⟩ := strs_cell HS k hk
          obtain ⟨x, hx⟩ : ∃ x, x = (levL al L)[k] := ⟨_, rfl⟩
          rw [← hx] at cx
          have htk : (levL al L).take (k + 1) = (levL al L).take k ++ [x] := by rw [List.take_succ_eq_append_getElem hk, hx]
          have hsp : txtL al (m + 1) = (txtL al L ++ (levL al L).take k) ++ x :: ((levL al L).drop (k + 1) ++ tl) := by
            rw [Htl.out]
            conv => lhs; rw [← List.take_append_drop k (levL al L), List.drop_eq_getElem_cons hk, ← hx]
            simp
          have hxs : x.size = L := levL_size al x (by rw [hx]; exact List.getElem_mem hk)
          have hxs' : (x.size : Int) ≤ 100000 := by omega
          have Htk := Lib.hid htk
          have Hkg := Lib.hid hkg
          have hfl : (((levL al L).take k).flatMap (nxtL al)).length ≤ 1228800 := by
            rw [flat_len, List.length_take]
            exact Nat.le_trans (Nat.mul_le_mul (show min k (levL al L).length ≤ 4096 by omega) ha) (by decide)
          obtain ⟨nx, hnx⟩ : ∃ l, l = ((levL al L).take k).flatMap (nxtL al) := ⟨_, rfl⟩
          rw [← hnx] at HS hfl ⊢
          have Hnx := Lib.hid hnx
          obtain ⟨fn, tmps, assign, body, hy, hRd⟩ := HY.out _ x _ (strs (some ⟨pb, po, none⟩) cap (levL al L) * (strs q cq nx * (boxes bm ba m al * R))) wr hsp (HS.perm (by ac_rfl))
          have HRd := Lib.hid hRd
          clear hsp hx htk hkg hnx hRd HS hxs
          go_upto_region 7 with fail
          refine (wpIn_wide (n := n)).1 ?_
          gi_wp2
          refine ⟨fun h => (by cases h), HRd.out.mono ?_⟩
          rintro e w2 ⟨rfl, hs2, hr2⟩
          have HR2 : Ran W w2 := Below.trans HR hr2
          have S2 : Sat w2 (strs q cq (nx ++ (List.range 0).map (extS al x)) * (strs (some ⟨pb, po, none⟩) cap (levL al L) * (J (txtL al L ++ (levL al L).take k ++ [x]) * (boxes bm ba m al * R)))) := by
            simp only [List.range_zero, List.map_nil, List.append_nil]
            exact hs2.perm (by ac_rfl)
          have hba := (hs2.perm (show _ = pts ba (.cells #[.string al] 9 (0, 0)) * (pts bm (.cells #[.int .i64 m] 3 (0, 0)) * (J (txtL al L ++ (levL al L).take k ++ [x]) * (strs (some ⟨pb, po, none⟩) cap (levL al L) * (strs q cq nx * R)))) by unfold boxes; ac_rfl)).get
          have cb : w2.cell? ⟨ba, 0, none⟩ = some (.string al) := by rw [cell_at hba]; rfl
          clear hs2 hr2 HR hy HRd cx hba
          gi_wp2
          go_wp2_with fail
          go_loopg [5, 26] (al.size) (TxIn al x nx (strs (some ⟨pb, po, none⟩) cap (levL al L) * (J (txtL al L ++ (levL al L).take k ++ [x]) * (boxes bm ba m al * R))) W)
          case atStart => exact ⟨0, q, cq, by omega, by simp, rfl, S2, HR2⟩
          case round =>
            clear S2 HR2 cb
            obtain ⟨i, q2, cq2, hig, rfl, rfl, HS, HR⟩ := hrel
            have hi0 : (0 : Int) ≤ i := by omega
            obtain ⟨ny, hny⟩ : ∃ l, l = nx ++ (List.range i).map (extS al x) := ⟨_, rfl⟩
            rw [← hny] at HS ⊢
            have hnyl : ny.length = nx.length + i := by rw [hny]; simp
            have hba := (HS.perm (show _ = pts ba (.cells #[.string al] 9 (0, 0)) * (pts bm (.cells #[.int .i64 m] 3 (0, 0)) * (strs q2 cq2 ny * (strs (some ⟨pb, po, none⟩) cap (levL al L) * (J (txtL al L ++ (levL al L).take k ++ [x]) * R)))) by unfold boxes; ac_rfl)).get
            have cb : wr.cell? ⟨ba, 0, none⟩ = some (.string al) := by rw [cell_at hba]; rfl
            clear hba
            by_cases hi : i < al.size
            · have hi' : (i : Int) < al.size := by omega
              have hi1 : (i : Int) + 1 ≤ al.size := by omega
              have hi2 : (0 : Int) ≤ (i : Int) + 1 := by omega
              have hi3 : (i : Int) ≤ (i : Int) + 1 := by omega
              have hi4 : ((i : Int) + 1).toNat = i + 1 := by omega
              have hes : ((al.extract i (i + 1)).size : Int) = 1 := by rw [ByteArray.size_extract]; omega
              have hsum : (x.size : Int) + ((al.extract i (i + 1)).size : Int) ≤ 9223372036854775807 := by omega
              have hsum2 : (x.size : Int) + 1 ≤ 9223372036854775807 := by omega
              have hsum3 : ((x.size + (al.extract i (i + 1)).size : Nat) : Int) ≤ 9223372036854775807 := by omega
              have hn9 : ny.length ≤ 1000000000 := by omega
              have hny2 : nx ++ (List.range (i + 1)).map (extS al x) = ny ++ [extS al x i] := by rw [hny, List.range_succ]; simp
              have Hny2 := Lib.hid hny2
              have Hig := Lib.hid hig
              have HSB := HS.old (.cells #[.string (extS al x i)] 9 (0, 0))
              have RB := Ran.new HR (.cells #[.string (extS al x i)] 9 (0, 0))
              clear hny hnyl hny2 hig HS HR
              go_wp2_with (at_builtin; go_loud (refine appStr rfl _ _ rfl q2 ny.length cq2 _ rfl _ rfl HSB _ (blk_new rfl) rfl hn9 ?_; intro p' cap' w6 HS7 HR7; clear HSB))
              go_roundg (gk - 1)
              case measure => have := Hig.out; omega
              case rel => exact ⟨i + 1, p', cap', by have := Hig.out; omega, by rw [Hny2.out]; simp, by go_num, by rw [Hny2.out]; unfold strs; rw [List.length_append, strCells_append]; exact HS7, Below.trans RB HR7⟩
            · have hge : ¬ ((i : Int) < al.size) := by omega
              have hie : i = al.size := by omega
              have hfin : ny = ((levL al L).take (k + 1)).flatMap (nxtL al) := by rw [hny, Htk.out, List.flatMap_append, Hnx.out, hie]; simp [nxtL]
              have Hfin := Lib.hid hfin
              clear hny hnyl hig hie hfin
              go_wp2_with fail
              go_roundg f2
              case measure => omega
              case rel => exact ⟨k + 1, q2, cq2, by have := Hkg.out; omega, by rw [Hfin.out], by go_num, by rw [← Hfin.out, Htk.out]; exact HS.perm (by rw [List.append_assoc]; ac_rfl), HR⟩
        · have hge : ¬ ((k : Int) < (levL al L).length) := by omega
          have hkk : k = (levL al L).length := by omega
          subst hkk
          rw [List.take_length] at HS ⊢
          obtain ⟨nx, hnx⟩ : ∃ l, l = (levL al L).flatMap (nxtL al) := ⟨_, rfl⟩
          rw [← hnx] at HS ⊢
          have Hnx := Lib.hid hnx
          have Hkg := Lib.hid hkg
          clear hkg hnx
          go_wp2_with fail
          go_roundg f
          case measure => omega
          case rel => exact ⟨L + 1, q, cq, by have := HLg.out; omega, by rw [Hnx.out]; rfl, by go_num, by have := HS.right; rw [Hnx.out] at this; exact this, HR⟩
    · have hge : ¬ ((L : Int) < (m : Int) + 1) := by omega
      obtain rfl : L = m + 1 := by omega
      go_wp2_with fail
      go_end0
      exact ⟨⟨_, rfl⟩, HS.right, HR⟩
end Go.Proofs.Ytjbdpahdhlmanaa.Globs
