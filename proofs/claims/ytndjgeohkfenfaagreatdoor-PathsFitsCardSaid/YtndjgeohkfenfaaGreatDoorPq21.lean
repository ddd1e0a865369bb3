/- HandlesPlays, part 21 of 26: the texts PaQ PaR PaS, joined by a program. -/
import Derived.Test.YtndjgeohkfenfaaGreatDoorPq20
import Derived.Test.YtndjgeohkfenfaaGreatDoorPq2
import Derived.Test.YtndjgeohkfenfaaGreatDoorShs
import Derived.Sort.OwnSorted
namespace Go.Proofs.YtndjgeohkfenfaaGreatDoor.Globs
open Go.RowKit Go.Proofs.YtndjgeohkfenfaaGreatDoor Go.Proofs.YtndjgeohkfenfaaGreatDoor.Hp
open Go.Proofs.YtndjgeohkfenfaaGreatDoor.Hd (fsHp Fs TreeG Glob WalkP NamesS pp finV finO fin_cells strA rightB FsOk NumsOk)
set_option linter.unusedVariables false
attribute [local go_sem] Oper.semAt_some

/-- What comes of one name. -/
def stepO (nm : ByteArray → List ByteArray) (ok : ByteArray → Bool) (fin path : ByteArray) (rest : List (List Ch)) (name : ByteArray) : List ByteArray :=
  if rest = [] then (if ok (path ++ name ++ fin) = true then [path ++ name ++ fin] else []) else walkO nm ok fin (path ++ name ++ slashB) rest
theorem walkO_cons (nm : ByteArray → List ByteArray) (ok : ByteArray → Bool) (fin path : ByteArray) (p : List Ch) (rest : List (List Ch)) : walkO nm ok fin path (p :: rest) = (pickO nm path p).flatMap (stepO nm ok fin path rest) := by
  cases rest with
  | nil => rfl
  | cons q rest => rfl
theorem take_flat {f : ByteArray → List ByteArray} {ns : List ByteArray} {i : Nat} (hi : i < ns.length) : (ns.take (i + 1)).flatMap f = (ns.take i).flatMap f ++ f ns[i] := by
  rw [List.take_succ_eq_append_getElem hi, List.flatMap_append]
  simp
theorem split_flat {f : ByteArray → List ByteArray} {ns : List ByteArray} {i : Nat} (hi : i < ns.length) : ns.flatMap f = (ns.take i).flatMap f ++ (f ns[i] ++ (ns.drop (i + 1)).flatMap f) := by
  conv => lhs; rw [← List.take_append_drop i ns, List.drop_eq_getElem_cons hi]
  rw [List.flatMap_append, List.flatMap_cons]
def WkLoop (ns : List ByteArray) (f : ByteArray → List ByteArray) (q : Option Addr) (qc xb fb mb : Nat) (F : Fs) (dir : Int) (J : List ByteArray → Hp) (R : Hp) (w : World) (g : Nat) (iv : Value) (wr : World) : Prop :=
  ∃ i : Nat, i + g = ns.length ∧ iv = .int .i64 (i : Int) ∧ Sat wr (J ((ns.take i).flatMap f) * (strO q qc ns * (pts xb (finO fb dir) * (fsHp fb mb F * R)))) ∧ Ran w wr
def WkCut (ns : List ByteArray) (xb fb mb : Nat) (F : Fs) (dir : Int) (JR : Hp) (w : World) (nv : Value) (wx : World) : Prop :=
  ∃ q qc, nv = .slice q ns.length qc ∧ Sat wx (strO q qc ns * (pts xb (finO fb dir) * (JR * fsHp fb mb F))) ∧ Ran w wx
/-- What is known of a finder's tree. -/
structure FinOk (N : Nat) (F : Fs) (dir : Int) (nm : ByteArray → List ByteArray) (ok : ByteArray → Bool) : Prop where
  tree : TreeG N F
  hN : N ≤ 1000000
  hd : Hd.I64 dir
  names : ∀ path ks, NamesS F dir path ks → ks = nm path
  short : ∀ (path x : ByteArray), x ∈ nm path → x.size ≤ 1000
  good : ∀ s, ok s = decide ((WalkP F dir s false).2 = 0)
set_option maxRecDepth 100000 in
set_option maxHeartbeats 1000000 in
theorem walk_calls (fb mb N n : Nat) (F : Fs) (dir : Int) (nm : ByteArray → List ByteArray) (ok : ByteArray → Bool) (hF : FinOk N F dir nm ok) (fin : ByteArray) : ∀ (rs : List Rw) (path : ByteArray) (lo : Option Addr) (lc : Nat) (R : Hp) (l : Nat) (J : List ByteArray → Hp) (w : World),
    rs ≠ [] → rs.length ≤ lc → RdR R lo rs → Glob R → (∀ x ∈ rs, x.L.length ≤ 1000) → path.size + 2000 * rs.length + fin.size ≤ 900000 →
    Sat w (J [] * (fsHp fb mb F * R)) →
    (∀ pre x post (S : Hp) W1, walkO nm ok fin path (rs.map Rw.L) = pre ++ x :: post → Sat W1 (J pre * S) → YieldAt Fence.wide (n - 1) Tryz.prog l #[.string x] W1 fun e W' => e = .returned (.bool true) ∧ Sat W' (J (pre ++ [x]) * S) ∧ Ran W1 W') →
    Calls Tryz.prog 87 #[finV fb dir, .string path, .slice lo rs.length lc, .string fin, .func (.yield l) #[] #[]] w fun e w' => (e = .returned (.bool true) ∧ Sat w' (J (walkO nm ok fin path (rs.map Rw.L)) * (fsHp fb mb F * R))) ∧ Ran w w' := by
  intro rs
  induction rs with
  | nil => intro path lo lc R l J w hne; exact absurd rfl hne
  | cons r rest ih =>
    intro path lo lc R l J w _ hlc hrd hG hL hsz h hY
    obtain ⟨xb, hxb⟩ : ∃ x, x = w.heap.size := ⟨_, rfl⟩
    have S1 := h.alloc (finO fb dir)
    rw [← hxb] at S1
    have R1 := Ran.new (Below.refl 0 w) (finO fb dir)
    have hrow := hrd _ _ (S1.perm (show _ = (pts xb (finO fb dir) * (J [] * fsHp fb mb F)) * R by ac_rfl))
    obtain ⟨lb, lo0, rfl, hc0, hC0⟩ := hrow 0 (by simp)
    rw [Nat.add_zero] at hc0
    unfold rwV at hc0
    have hC0 : CharsAt (w.alloc (finO fb dir)) r.p r.cap r.L := hC0
    have hc0 : (w.alloc (finO fb dir)).cell? ⟨lb, lo0, none⟩ = some (.slice r.p r.L.length r.cap) := hc0
    have hrL := hL r List.mem_cons_self
    have hcb := compileL_bd r.L true
    have HC := compile_calls r.L true r.p r.cap _ hC0 (by omega)
    obtain ⟨p, hp⟩ : ∃ p, p = compileL r.L true := ⟨_, rfl⟩
    have hpl : p.length ≤ 1000 := by have := hcb.1; rw [hp]; omega
    obtain ⟨ns, hns⟩ : ∃ ns, ns = pickO nm path r.L := ⟨_, rfl⟩
    obtain ⟨f, hf⟩ : ∃ f, f = stepO nm ok fin path (rest.map Rw.L) := ⟨_, rfl⟩
    have hout : walkO nm ok fin path ((r :: rest).map Rw.L) = ns.flatMap f := by rw [List.map_cons, walkO_cons, hns, hf]
    rw [hout] at hY ⊢
    have hnsz : ∀ x ∈ ns, x.size ≤ 1000 := fun x hx => by
      rw [hns] at hx
      unfold pickO at hx
      split at hx
      · exact hF.short path x (List.mem_filter.1 hx).1
      · rw [List.mem_singleton] at hx
        rw [hx]
        show (List.toArray _).size ≤ _
        rw [List.size_toArray, List.length_map, ← hp]; exact hpl
    have Hns := Lib.hid hns
    have Hf := Lib.hid hf
    have HY := Lib.hid hY
    have Hrd := Lib.hid hrd
    have HG := Lib.hid hG
    have HL := Lib.hid hL
    have Hp := Lib.hid hp
    have Hnsz := Lib.hid hnsz
    have Hsz := Lib.hid hsz
    have hlenI : ((rest.length + 1 : Nat) : Int) = (rest.length : Int) + 1 := by omega
    have HC := Lib.hid HC
    have Hih := Lib.hid ih
    have HF := Lib.hid hF
    have S1 := Lib.hid S1
    clear hns hf hY hrd hG hL hnsz hsz ih hF hout hrow hC0 hcb h hrL hp
    go_enter Tryz.func87, Tryz.ntmps87
    go_wp2_with fail
    refine HC.out.mono ?_
    rintro e w2 ⟨pa, pc, he, CI, B2⟩
    rw [← Hp.out] at he CI
    subst he
    have S2 := S1.out.below B2
    obtain ⟨pb, hpb⟩ : ∃ x, x = w2.heap.size := ⟨_, rfl⟩
    have S3 := S2.alloc (.cells #[.slice pa p.length pc] 68 (0, 0))
    rw [← hpb] at S3
    have R3 := Ran.new (Below.trans R1 (B2.mono (Nat.zero_le _))) (.cells #[.slice pa p.length pc] 68 (0, 0))
    have I3 := CI.keep (kept_alloc w2 (.cells #[.slice pa p.length pc] 68 (0, 0)))
    have hpc0 : (w2.alloc (.cells #[.slice pa p.length pc] 68 (0, 0))).cell? ⟨pb, 0, none⟩ = some (.slice pa p.length pc) := by rw [cell_at S3.get]; rfl
    have HPl := Lib.hid (plainI_calls p pa pc _ I3 (by omega))
    clear S2 CI B2 HC S1 hc0 R1
    go_wp2_with fail
    with_reducible refine HPl.out.mono ?_
    rintro e w3 ⟨rfl, B3⟩
    obtain ⟨s1, hs1⟩ : ∃ s, s = (⟨(p.map (·.b)).toArray⟩ : ByteArray) := ⟨_, rfl⟩
    rw [← hs1]
    have S4 := S3.below B3
    obtain ⟨sb, hsb⟩ : ∃ x, x = w3.heap.size := ⟨_, rfl⟩
    have S5 := S4.alloc (.cells #[.string s1] 9 (0, 0))
    rw [← hsb] at S5
    have R5 := Ran.new (Below.trans R3 (B3.mono (Nat.zero_le _))) (.cells #[.string s1] 9 (0, 0))
    have I5 := (I3.keep (Kept.below B3)).keep (kept_alloc w3 (.cells #[.string s1] 9 (0, 0)))
    have c5 : (w3.alloc (.cells #[.string s1] 9 (0, 0))).cell? ⟨pb, 0, none⟩ = some (.slice pa p.length pc) := by
      rw [cell_at S5.right.get]; rfl
    have HSp := special_calls p pa pc _ I5
    obtain ⟨v, hv⟩ : ∃ v, v = specialB p := ⟨_, rfl⟩
    rw [← hv] at HSp
    have HSp := Lib.hid HSp
    have Hv := Lib.hid hv
    have Hs1 := Lib.hid hs1
    have I5 := Lib.hid I5
    clear hv hs1 I3 S3 S4 HPl B3 R3 hpc0
    go_upto_region 3 with fail
    rw [← hsb, ← hpb, ← hxb]
    clear hsb hpb hxb
    go_wp2_with fail
    with_reducible refine HSp.out.mono ?_
    rintro e w4 ⟨rfl, B4⟩
    have S6 := S5.below B4
    have R6 := Below.trans R5 (B4.mono (Nat.zero_le _))
    have I6 := I5.out.keep (Kept.below B4)
    clear HSp S5 R5 I5 c5
    go_upto_if 26 with fail
    go_cut [12] from 27 to 31 (fun nv wx => WkCut ns xb fb mb F dir (J [] * R) w nv wx)
    case first =>
      cases v with
      | false =>
        have hfin : WkCut ns xb fb mb F dir (J [] * R) w (.slice (some ⟨sb, 0, none⟩) 1 1) w4 := by
          have hn : ns = [s1] := by
            rw [Hns.out]
            unfold pickO spP
            rw [← Hp.out, ← Hv.out, if_neg (by decide), Hs1.out]
          refine ⟨some ⟨sb, 0, none⟩, 1, by rw [hn]; rfl, ?_, R6⟩
          rw [hn]
          have S7 := (S6.perm (show _ = pts pb _ * (pts sb (.cells #[.string s1] 9 (0, 0)) * (pts xb (finO fb dir) * ((J [] * R) * fsHp fb mb F))) by ac_rfl)).right
          exact Sat.arr_mk (Nat.le_refl _) (by unfold maxLen; omega) (by simp) rfl (fun j hj => by
            have : j = 0 := by simpa using hj
            subst this; rfl) S7
        have Hfin := Lib.hid hfin
        clear hfin S6 I6 R6 B4
        go_wp2_with fail
        go_meet
        exact Hfin.out
      | true =>
        obtain ⟨f0, f1⟩ := fin_cells (S6.perm (show _ = pts xb (finO fb dir) * (pts sb (.cells #[.string s1] 9 (0, 0)) * (pts pb (.cells #[.slice pa p.length pc] 68 (0, 0)) * (J [] * (fsHp fb mb F * R)))) by ac_rfl))
        obtain ⟨T, hconv, hrdP, HNm⟩ := names_kept fb mb N F HF.out.tree HF.out.hN dir HF.out.hd path (by have := Hsz.out; omega) w4 (pts sb (.cells #[.string s1] 9 (0, 0)) * (pts pb (.cells #[.slice pa p.length pc] 68 (0, 0)) * (pts xb (finO fb dir) * (J [] * R))))
          (by exact (((HG.out.more).more).more).more) p pb pa pc (fun W S' hS => by rw [cell_at hS.right.right.get]; rfl) I6 (S6.perm (by ac_rfl))
        have HNm := Lib.hid HNm
        have Hconv := Lib.hid hconv
        have HrdP := Lib.hid hrdP
        clear S6 I6 hconv hrdP B4
        go_wp2_with fail
        refine HNm.out.mono ?_
        rintro e w5 ⟨⟨q, qc, ks, rfl, hks, hkl, S7⟩, R7⟩
        have hke := HF.out.names path ks hks
        have hks2 : ∀ x ∈ ks, x.size ≤ 1000000 := fun x hx => by
          rw [hke] at hx
          have := HF.out.short path x hx
          omega
        have HD := Lib.hid (delete_calls p pb pa pc ks hks2 (by have := HF.out.hN; omega) q qc w5 (fsHp fb mb F * T) HrdP.out S7)
        have R8 := Below.trans R6 R7
        have c5 : w5.cell? ⟨pb, 0, none⟩ = some (.slice pa p.length pc) := (HrdP.out w5 (strA q qc ks) (S7.perm (by ac_rfl))).1
        have Hke := Lib.hid hke
        clear S7 hks hkl hke hks2 HNm R7 R6
        go_wp2_with fail
        refine HD.out.mono ?_
        rintro e w6 ⟨⟨rfl, S8⟩, R9⟩
        have hfin : WkCut ns xb fb mb F dir (J [] * R) w (.slice q (ks.filter fun s => pathB p (bs s)).length qc) w6 := by
          have hn : ns = ks.filter fun s => pathB p (bs s) := by
            rw [Hns.out]
            unfold pickO spP
            rw [← Hp.out, ← Hv.out, if_pos rfl, Hke.out]
          refine ⟨q, qc, by rw [hn], ?_, Below.trans R8 R9⟩
          rw [hn]
          have S9 := Hconv.out w6 (strO q qc (ks.filter fun s => pathB p (bs s)) * fsHp fb mb F) (S8.perm (by ac_rfl))
          exact ((S9.perm (show _ = pts sb (.cells #[.string s1] 9 (0, 0)) * (pts pb (.cells #[.slice pa p.length pc] 68 (0, 0)) * (strO q qc (ks.filter fun s => pathB p (bs s)) * (pts xb (finO fb dir) * ((J [] * R) * fsHp fb mb F)))) by ac_rfl)).right).right
        have Hfin := Lib.hid hfin
        clear hfin S8 R8 R9 HD c5
        go_wp2_with fail
        go_meet
        exact Hfin.out
    case rest =>
      obtain ⟨q, qc, rfl, S2, R2⟩ := hcut
      have hml := S2.arr_len
      have hnI : (ns.length : Int) ≤ 9223372036854775807 := by have := hml.2; unfold maxLen at this; omega
      have S3 : Sat wc (J ((ns.take 0).flatMap f) * (strO q qc ns * (pts xb (finO fb dir) * (fsHp fb mb F * R)))) := by
        rw [List.take_zero, List.flatMap_nil]
        exact S2.perm (by ac_rfl)
      have S3 := Lib.hid S3
      clear S2 hml
      go_wp2_with fail
      go_loopg [34] (ns.length) (fun (g : Nat) (iv : Value) (wr : World) => WkLoop ns f q qc xb fb mb F dir J R w g iv wr)
      case atStart => exact ⟨0, by omega, rfl, S3.out, R2⟩
      case round =>
        clear S3 R2
        obtain ⟨i, hig, rfl, HS, HR⟩ := hrel
        have hi0 : (0 : Int) ≤ (i : Int) := by omega
        have Hig := Lib.hid hig
        by_cases hi : i < ns.length
        · have hiI : (i : Int) < (ns.length : Int) := by omega
          have HSs := HS.perm (show _ = strO q qc ns * (J ((ns.take i).flatMap f) * (pts xb (finO fb dir) * (fsHp fb mb F * R))) by ac_rfl)
          obtain ⟨qb, qo, rfl⟩ := HSs.arr_addr (by have := HSs.arr_len; omega)
          have x0 := strO_cell HSs i hi
          have hxz := Hnsz.out _ (List.getElem_mem hi)
          have htk := take_flat (f := f) hi
          have hsp := split_flat (f := f) hi
          obtain ⟨x, hx⟩ : ∃ x, x = ns[i] := ⟨_, rfl⟩
          rw [← hx] at x0 hxz htk hsp
          obtain ⟨f0, f1⟩ := fin_cells (HS.perm (show _ = pts xb (finO fb dir) * (J ((ns.take i).flatMap f) * (strO (some ⟨qb, qo, none⟩) qc ns * (fsHp fb mb F * R))) by ac_rfl))
          have hszO := Hsz.out
          have hs1 : (path.size : Int) + (x.size : Int) ≤ 9223372036854775807 := by omega
          have hs2 : ((path.size + x.size : Nat) : Int) ≤ 9223372036854775807 := by omega
          obtain ⟨here, hh⟩ : ∃ h, h = path ++ x := ⟨_, rfl⟩
          have hhz : here.size = path.size + x.size := by rw [hh, ByteArray.size_append]
          have hfx : f x = stepO nm ok fin path (rest.map Rw.L) x := by rw [Hf.out]
          unfold stepO at hfx
          rw [← hh] at hfx
          have HS0 := Lib.hid HS
          have Htk := Lib.hid htk
          have Hsp := Lib.hid hsp
          have Hhz := Lib.hid hhz
          have Hxz := Lib.hid hxz
          clear HS HSs htk hsp hx hxz hig hhz hszO
          by_cases hr : rest = []
          · subst hr
            rw [List.map_nil, if_pos rfl] at hfx
            have Hfx := Lib.hid hfx
            have hgt : ¬ (1 : Int) < (([] : List Rw).length : Int) + 1 := by decide
            have hs3 : (here.size : Int) + (fin.size : Int) ≤ 9223372036854775807 := by have := Hhz.out; have := Hsz.out; have := Hxz.out; omega
            have hs4 : ((here.size + fin.size : Nat) : Int) ≤ 9223372036854775807 := by omega
            obtain ⟨full, hfl⟩ : ∃ h, h = here ++ fin := ⟨_, rfl⟩
            have HW := Hd.Walk_calls fb mb F (HF.out.tree.ok HF.out.hN) HF.out.tree.nums dir full false wr (J ((ns.take i).flatMap f) * (strO (some ⟨qb, qo, none⟩) qc ns * (pts xb (finO fb dir) * R))) HF.out.hd (by rw [hfl, ByteArray.size_append]; have := Hhz.out; have := Hsz.out; have := Hxz.out; omega) (((HG.out.more).more).more) (HS0.out.perm (by ac_rfl))
            obtain ⟨wk, hwk⟩ : ∃ y, y = WalkP F dir full false := ⟨_, rfl⟩
            have hok := HF.out.good full
            rw [← hwk] at HW hok
            rw [← hfl] at Hfx
            obtain ⟨y1, y2⟩ := wk
            dsimp only at HW hok
            have HW := Lib.hid HW
            have Hok := Lib.hid hok
            clear hfx hwk hok HS0
            go_upto_region 9 with fail
            rw [← hh]
            clear hh
            go_wp2_with fail
            rw [← hfl]
            refine HW.out.mono ?_
            rintro e w2 ⟨⟨rfl, S3⟩, R3⟩
            have R4 := Below.trans HR R3
            clear HW f0 f1 x0 R3
            by_cases hz : y2 = 0
            · subst hz
              have hokt : ok full = true := by rw [Hok.out]; exact decide_eq_true rfl
              have hfx : f x = [full] := by rw [Hfx.out, if_pos hokt]
              have hsp := Hsp.out
              rw [hfx, List.singleton_append] at hsp
              obtain ⟨fn, tmps, assign, body, hy, hRd⟩ := HY.out _ full _ (strO (some ⟨qb, qo, none⟩) qc ns * (pts xb (finO fb dir) * (fsHp fb mb F * R))) w2 hsp (S3.perm (by ac_rfl))
              have HRd := Lib.hid hRd
              have Hft := Lib.hid hfx
              clear hsp hfx hRd S3 hokt
              go_upto_region 13 with fail
              refine (wpIn_wide (n := n)).1 ?_
              rw [hfl] at hy
              gi_wp2
              refine ⟨fun h => (by cases h), HRd.out.mono ?_⟩
              rintro e w3 ⟨rfl, S5, R5⟩
              have R6 := Below.trans R4 R5
              have S6 := Lib.hid (S5.perm (show _ = J ((ns.take i).flatMap f ++ [full]) * (strO (some ⟨qb, qo, none⟩) qc ns * (pts xb (finO fb dir) * (fsHp fb mb F * R))) by ac_rfl))
              clear S5 R5 hy HRd
              gi_wp2
              go_wp2_with fail
              go_roundg (gk - 1)
              case measure => have := Hig.out; omega
              case rel => exact ⟨i + 1, by have := Hig.out; omega, by go_num, by rw [Htk.out, Hft.out]; exact S6.out, R6⟩
            · have hokf : ¬ ok full = true := by rw [Hok.out, decide_eq_true_iff]; exact hz
              have hfx : f x = [] := by rw [Hfx.out, if_neg hokf]
              have hzb : (y2 == 0) = false := by simpa using hz
              have Hft := Lib.hid hfx
              have S4 := Lib.hid (S3.perm (show _ = J ((ns.take i).flatMap f) * (strO (some ⟨qb, qo, none⟩) qc ns * (pts xb (finO fb dir) * (fsHp fb mb F * R))) by ac_rfl))
              clear hfx S3 hokf
              go_wp2_with fail
              go_roundg (gk - 1)
              case measure => have := Hig.out; omega
              case rel => exact ⟨i + 1, by have := Hig.out; omega, by go_num, by rw [Htk.out, Hft.out, List.append_nil]; exact S4.out, R4⟩
          · have hrl : 0 < rest.length := by
              cases rest with
              | nil => exact absurd rfl hr
              | cons a b => exact Nat.succ_pos _
            rw [if_neg (fun e => hr (List.map_eq_nil_iff.1 e))] at hfx
            have hgt : (1 : Int) < (rest.length : Int) + 1 := by omega
            have hs3 : (here.size : Int) + 1 ≤ 9223372036854775807 := by have := Hhz.out; have := Hsz.out; have := Hxz.out; omega
            have hs4 : ((here.size + 1 : Nat) : Int) ≤ 9223372036854775807 := by omega
            have hs5 : ¬ (9223372036854775807 < here.size + 1) := by omega
            obtain ⟨nxt, hnx⟩ : ∃ h, h = here ++ slashB := ⟨_, rfl⟩
            rw [← hnx] at hfx
            obtain ⟨lt, hlt⟩ : ∃ a, a = tailA (some ⟨lb, lo0, none⟩) 1 lc 1 := ⟨_, rfl⟩
            have hsl : ∀ W, (Instr.slice 24 (.slice (some ⟨lb, lo0, none⟩) (rest.length + 1) lc) (some (.int .i64 1)) none none).run Tryz.prog W = .ok (.slice lt rest.length (lc - 1)) W := fun W => by
              have := slice_fromR (some ⟨lb, lo0, none⟩) (rest.length + 1) lc 1 (by omega) W
              rw [Nat.add_sub_cancel, ← hlt] at this
              exact this
            have hrd2 : RdR (strO (some ⟨qb, qo, none⟩) qc ns * (pts xb (finO fb dir) * R)) lt rest := fun W S' hS => by
              rw [hlt]
              exact rows_tail (by simpa using hlc) (Hrd.out W (S' * (strO (some ⟨qb, qo, none⟩) qc ns * pts xb (finO fb dir))) (hS.perm (by ac_rfl)))
            have hHrec := Hih.out nxt lt (lc - 1) (strO (some ⟨qb, qo, none⟩) qc ns * (pts xb (finO fb dir) * R)) l (fun pre => J ((ns.take i).flatMap f ++ pre)) wr.drew hr (by simp at hlc; omega) hrd2 ((HG.out.more).more) (fun x hx => HL.out x (List.mem_cons_of_mem _ hx))
              (by rw [hnx, ByteArray.size_append]; have h1 := Hhz.out; have h2 := Hsz.out; have h3 := Hxz.out; rw [List.length_cons] at h2; have h4 : slashB.size = 1 := rfl; omega)
              (by rw [List.append_nil]; exact (HS0.out.perm (by ac_rfl)).drew)
              (fun pre y post S W1 he hS => by
                have hq : ns.flatMap f = ((ns.take i).flatMap f ++ pre) ++ y :: (post ++ (ns.drop (i + 1)).flatMap f) := by
                  rw [Hsp.out, hfx, he]
                  simp
                rw [← List.append_assoc]
                exact HY.out _ y _ S W1 hq hS)
            rw [← hfx] at hHrec
            have Hrec := Lib.hid hHrec
            have hw1 : wr.drew.cell? ⟨xb, 0, none⟩ = some (pp fb) := f0
            have hw2 : wr.drew.cell? ⟨xb, 1, none⟩ = some (.int .i64 dir) := f1
            clear hfx hHrec hrd2 HS0 hlt
            go_upto_region 9 with fail
            rw [← hh]
            clear hh
            go_upto_region 10 with fail
            refine region_plan (S := (fun w' => w'.cell? ⟨xb, 0, none⟩ = some (pp fb) ∧ w'.cell? ⟨xb, 1, none⟩ = some (.int .i64 dir))) [(0, true), (1, true), (2, true), (3, true), (4, true), (5, true), (6, true), (7, false), (8, true)] (by kernel_rfl) (by kernel_rfl) (by kernel_rfl) ?_ ?_
            · ((try dsimp only); (first | done | (first | exact ⟨f0, f1⟩ | exact ⟨hw1, hw2⟩ | exact K5)))
            simp only [planOps, List.map_cons, List.map_nil, List.getElem?_toArray, List.getElem?_cons_zero, List.getElem?_cons_succ]
            repeat (first
              | ((refine plan_yes (v := ?_) (by rfl) ?_ ?_); rotate_left; (focus (intro w hSw; (try dsimp only at hSw); go_simp; try (with_reducible rfl))); (try simp only [Act.put, List.setIfInBounds_toArray, List.set_cons_zero, List.set_cons_succ]))
              | ((refine plan_no (by rfl) ?_); (try simp only [Act.put, List.setIfInBounds_toArray, List.set_cons_zero, List.set_cons_succ]))
              | ((refine plan_step (fun K hK => ?_)); (first | (go_simp; ((go_at_call 87; rw [← hnx]; refine Hrec.out.mono ?_; rintro e w5 ⟨⟨rfl, S5⟩, R5⟩; have K5 := fin_cells (S5.perm (show _ = pts xb (finO fb dir) * (J ((ns.take i).flatMap f ++ f x) * (fsHp fb mb F * (strO (some ⟨qb, qo, none⟩) qc ns * R))) by ac_rfl)))); (try go_wp2_with fail)) | go_simp); (refine hK.out _ _ ?_ (fun hHeld => ?_)); (focus ((try dsimp only); (first | done | (first | exact ⟨f0, f1⟩ | exact ⟨hw1, hw2⟩ | exact K5)))); clear hK K; (try simp only [Act.put, List.setIfInBounds_toArray, List.set_cons_zero, List.set_cons_succ])))
            refine plan_done ?_
            have S6 := Lib.hid (S5.perm (show _ = J ((ns.take i).flatMap f ++ f x) * (strO (some ⟨qb, qo, none⟩) qc ns * (pts xb (finO fb dir) * (fsHp fb mb F * R))) by ac_rfl))
            have R6 := Below.trans (Ran.drewN HR 1) R5
            clear S5 R5 K5 Hrec f0 f1 hw1 hw2 x0
            go_wp2_with fail
            go_roundg (gk - 1)
            case measure => have := Hig.out; omega
            case rel => exact ⟨i + 1, by have := Hig.out; omega, by go_num, by rw [Htk.out]; exact S6.out, R6⟩
        · have hge : ¬ (i : Int) < (ns.length : Int) := by omega
          have hie : i = ns.length := by omega
          subst hie
          rw [List.take_length] at HS
          have HS := Lib.hid (HS.perm (show _ = strO q qc ns * (pts xb (finO fb dir) * (J (ns.flatMap f) * (fsHp fb mb F * R))) by ac_rfl)).right.right
          clear hig
          go_wp2_with fail
          go_ret
          exact ⟨⟨rfl, HS.out⟩, HR⟩
end Go.Proofs.YtndjgeohkfenfaaGreatDoor.Globs

namespace Go.Proofs.YtndjgeohkfenfaaGreatDoor.Globs
open Go.RowKit Go.Proofs.YtndjgeohkfenfaaGreatDoor Go.Proofs.YtndjgeohkfenfaaGreatDoor.Hp
open Go.Proofs.YtndjgeohkfenfaaGreatDoor.Hd (fsHp Fs TreeG Glob WalkP NamesS pp finV finO fin_cells strA rightB FsOk NumsOk)
set_option linter.unusedVariables false
attribute [local go_sem] Oper.semAt_some

abbrev strBox (b : Nat) (s : ByteArray) : Hp := pts b (.cells #[.string s] 9 (0, 0))
abbrev rowBox (b : Nat) (lo : Option Addr) (n lc : Nat) : Hp := pts b (.cells #[.slice lo n lc] 24 (0, 0))
abbrev boxesP (fb : Nat) (dir : Int) (path : ByteArray) (lo : Option Addr) (n lc : Nat) (fin : ByteArray) (b : Nat) : Hp :=
  pts b (finO fb dir) * (strBox (b + 1) path * (rowBox (b + 2) lo n lc * strBox (b + 3) fin))
abbrev ptr (b : Nat) : Value := .pointer (some ⟨b, 0, none⟩)
set_option maxRecDepth 100000 in
set_option maxHeartbeats 4000000 in
theorem paths_iter (fb mb N n : Nat) (F : Fs) (dir : Int) (nm : ByteArray → List ByteArray) (ok : ByteArray → Bool) (hF : FinOk N F dir nm ok) (fin : ByteArray) (rs : List Rw) (path : ByteArray) (lo : Option Addr) (lc : Nat) (R : Hp) (b : Nat)
    (hne : rs ≠ []) (hlc : rs.length ≤ lc) (hrd : RdR R lo rs) (hG : Glob R) (hL : ∀ x ∈ rs, x.L.length ≤ 1000) (hsz : path.size + 2000 * rs.length + fin.size ≤ 900000) :
    IterSat Tryz.prog n 86 #[ptr b, ptr (b + 1), ptr (b + 2), ptr (b + 3)] (fun s : ByteArray => #[.string s]) (walkO nm ok fin path (rs.map Rw.L)) (boxesP fb dir path lo rs.length lc fin b * (fsHp fb mb F * R)) := by
  intro l J W hW hY
  refine callsIn_wide.2 ?_
  obtain ⟨f0, f1⟩ := fin_cells (hW.perm (show _ = pts b (finO fb dir) * (strBox (b + 1) path * (rowBox (b + 2) lo rs.length lc * (strBox (b + 3) fin * (J [] * (fsHp fb mb F * R))))) by unfold boxesP; ac_rfl))
  have g1 : W.cell? ⟨b + 1, 0, none⟩ = some (.string path) := by rw [cell_at (hW.perm (show _ = strBox (b + 1) path * (pts b (finO fb dir) * (rowBox (b + 2) lo rs.length lc * (strBox (b + 3) fin * (J [] * (fsHp fb mb F * R))))) by unfold boxesP; ac_rfl)).get]; rfl
  have g2 : W.cell? ⟨b + 2, 0, none⟩ = some (.slice lo rs.length lc) := by rw [cell_at (hW.perm (show _ = rowBox (b + 2) lo rs.length lc * (pts b (finO fb dir) * (strBox (b + 1) path * (strBox (b + 3) fin * (J [] * (fsHp fb mb F * R))))) by unfold boxesP; ac_rfl)).get]; rfl
  have g3 : W.cell? ⟨b + 3, 0, none⟩ = some (.string fin) := by rw [cell_at (hW.perm (show _ = strBox (b + 3) fin * (pts b (finO fb dir) * (strBox (b + 1) path * (rowBox (b + 2) lo rs.length lc * (J [] * (fsHp fb mb F * R))))) by unfold boxesP; ac_rfl)).get]; rfl
  have HW := Lib.hid (walk_calls fb mb N n F dir nm ok hF fin rs path lo lc (boxesP fb dir path lo rs.length lc fin b * R) l J W hne hlc
    (fun W S' hS => hrd W (S' * boxesP fb dir path lo rs.length lc fin b) (hS.perm (by ac_rfl))) hG.more hL hsz (hW.perm (by ac_rfl)) hY)
  clear hW hY hrd hG hL hsz
  go_enter Tryz.func86, Tryz.ntmps86
  go_wp2_with fail
  refine HW.out.mono ?_
  rintro e w2 ⟨⟨rfl, S2⟩, R2⟩
  have S3 := Lib.hid (S2.perm (show _ = J (walkO nm ok fin path (rs.map Rw.L)) * (boxesP fb dir path lo rs.length lc fin b * (fsHp fb mb F * R)) by ac_rfl))
  clear S2
  go_wp2_with fail
  go_end0
  exact ⟨⟨_, rfl⟩, S3.out, R2⟩
theorem paths_calls (fb : Nat) (dir : Int) (path : ByteArray) (lo : Option Addr) (n lc : Nat) (fin : ByteArray) (w : World) :
    Calls Tryz.prog 46 #[finV fb dir, .string path, .slice lo n lc, .string fin] w fun e w' => e = .returned (.func (.func 86) #[] #[ptr w.heap.size, ptr (w.heap.size + 1), ptr (w.heap.size + 2), ptr (w.heap.size + 3)]) ∧
      w' = (((w.alloc (finO fb dir)).alloc (.cells #[.string path] 9 (0, 0))).alloc (.cells #[.slice lo n lc] 24 (0, 0))).alloc (.cells #[.string fin] 9 (0, 0)) := by
  go_enter Tryz.func46, Tryz.ntmps46
  go_wp2_with fail
  go_ret
  exact ⟨rfl, rfl⟩
/-- What a text is without marks. -/
def plainB (t : List Ch) : ByteArray := ⟨(t.map (·.b)).toArray⟩
def begB (t : List Ch) : ByteArray := if (t.head?.map (·.b)) = some 47 then slashB else ⟨#[]⟩
def finB (t : List Ch) : ByteArray := if (t.getLast?.map (·.b)) = some 47 then slashB else ⟨#[]⟩
def leS (a b : ByteArray) : Bool := decide (bs a ≤ bs b)
/-- The paths that a text fits, as they are found. -/
def foundO (nm : ByteArray → List ByteArray) (ok : ByteArray → Bool) (t : List Ch) : List ByteArray := walkO nm ok (finB t) (begB t) (partsL t)
/-- The document's and the code's answer. -/
def expandO (nm : ByteArray → List ByteArray) (ok : ByteArray → Bool) (t : List Ch) : List ByteArray :=
  if (partsL t).any spP = false then [plainB t] else if foundO nm ok t = [] then [plainB t] else (foundO nm ok t).mergeSort leS
end Go.Proofs.YtndjgeohkfenfaaGreatDoor.Globs

namespace Go.Proofs.YtndjgeohkfenfaaGreatDoor.Globs
open Go.RowKit Go.Sort Go.Proofs.YtndjgeohkfenfaaGreatDoor Go.Proofs.YtndjgeohkfenfaaGreatDoor.Hp
set_option linter.unusedVariables false
attribute [local go_sem] Oper.semAt_some

theorem sortW_block {w : World} {g o n : Nat} {os : Array Obj} {cur : Array Value} {e : TypeId} {fr : Nat × Nat} (d : Array (List UInt8)) (hb : w.heap[g]? = some (.cells cur e fr)) :
    (grow (putRow encStr (Sort.ahead w n) g o d) os).heap[g]? = some (.cells (putCells encStr o d cur) e fr) := by
  have hg : g < w.heap.size := (Array.getElem?_eq_some_iff.1 hb).1
  rw [heap_grow_old _ _ (by simpa using hg)]
  simp [putRow, mapBlock, Sort.ahead, Array.getElem?_modify, hb, onCells]
theorem sortW_other {w : World} {g o n : Nat} {os : Array Obj} (d : Array (List UInt8)) (k : Nat) (hk : k < w.heap.size) (hne : k ≠ g) :
    (grow (putRow encStr (Sort.ahead w n) g o d) os).heap[k]? = w.heap[k]? := by
  rw [heap_grow_old _ _ (by simpa using hk)]
  have : g ≠ k := fun e => hne e.symm
  simp [putRow, mapBlock, Sort.ahead, Array.getElem?_modify, this]
theorem sort_map (l : List ByteArray) : (l.mergeSort leS).map bs = (l.map bs).mergeSort (fun x y => decide (x ≤ y)) :=
  List.map_mergeSort fun a _ b _ => rfl
theorem enc_bs (x : ByteArray) : encStr (bs x) = Value.string x := by obtain ⟨d⟩ := x; rfl
def SortPost (l : List ByteArray) (q : Option Addr) (cap : Nat) (S : Hp) (e : Ending) (w' : World) : Prop := e = .returned (.tuple #[]) ∧ Sat w' (strO q cap (l.mergeSort leS) * S)
theorem sort_calls (l : List ByteArray) (q : Option Addr) (cap : Nat) (w : World) (S : Hp) (h : Sat w (strO q cap l * S)) (hm : l.length ≤ 1000000000) :
    Calls Tryz.prog 47 #[.slice q l.length cap] w fun e w' => SortPost l q cap S e w' ∧ Ran w w' := by
  cases q with
  | none =>
    have h0 : l = [] := by
      have := h.arr_none.1
      exact List.eq_nil_of_length_eq_zero this
    subst h0
    refine (Tryz.slices_Sort_string_none none cap w).mono ?_
    rintro e w' ⟨rfl, rfl⟩
    exact ⟨⟨rfl, by simpa using h⟩, Below.refl _ _⟩
  | some a =>
    obtain ⟨cur, h1, h2, h3, h4, h5, h6, hh⟩ := h.arr_some
    obtain ⟨b, o, s⟩ := a
    simp at h1 h4 h6 hh
    subst h1
    have hg := hh.get
    have hlen : (l.map bs).length = l.length := List.length_map _
    have hH : Holds encStr w b o (l.map bs).toArray := fun j hj => by
      have hj' : j < l.length := by simpa using hj
      refine ⟨?_, free_at hg _⟩
      rw [cell_at hg, h6 j (by simpa using hj')]
      simp [hj', enc_bs]
    have hc := Tryz.slices_Sort_string b o cap (l.map bs) w hH hh.lt (by rw [hlen]; omega)
    rw [hlen] at hc
    refine hc.mono ?_
    rintro e w' ⟨rfl, n, os, rfl⟩
    rw [← sort_map]
    have hsl : ((l.mergeSort leS).map bs).length = l.length := by rw [List.length_map, List.length_mergeSort]
    refine ⟨⟨rfl, ?_⟩, ⟨rfl, rfl, rfl, by simp [Sort.ahead, putRow, mapBlock], fun k hk => absurd hk (Nat.not_lt_zero _)⟩⟩
    refine Sat.arr_mk (cur := putCells encStr o ((l.mergeSort leS).map bs).toArray cur) (by rw [List.length_mergeSort]; exact h2) h3 (by simp [putCells]; exact h4) (by simp) (fun j hj => ?_) (hh.put (sortW_block _ hg) fun k hk hne => sortW_other _ k hk hne)
    have hj' : j < l.length := by simpa using hj
    have hjc : o + j < cur.size := by omega
    simp [putCells, hj', hjc, enc_bs]
end Go.Proofs.YtndjgeohkfenfaaGreatDoor.Globs

