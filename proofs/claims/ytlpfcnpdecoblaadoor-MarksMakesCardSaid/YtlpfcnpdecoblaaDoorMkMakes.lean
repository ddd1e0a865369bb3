/- MarksMakes: what a text is when it is marked, what texts are one behind the other, and which runs there are: the law returns true, for all texts and all marked texts. -/
import Derived.Test.YtlpfcnpdecoblaaDoorMkW
import Derived.Test.YtlpfcnpdecoblaaDoorTie
import Derived.Test.YtlpfcnpdecoblaaDoorCards
import Derived.ChangeMaps5
import Derived.LaidMore
import Derived.Lay
import Derived.SevenTiedAt
import Derived.Stop.Joined
namespace Go.Proofs.YtlpfcnpdecoblaaDoor.marksMakes
open Go.ChangeMaps (open_string shut_string)
open Go.ChangeShapes Go.WideShapes Go.ChangeAt Go.RowKit Go.Proofs.YtlpfcnpdecoblaaDoor Go.Proofs.YtlpfcnpdecoblaaDoor.Hp Go.Proofs.YtlpfcnpdecoblaaDoor.Marks
set_option linter.unusedVariables false
attribute [local go_sem] Oper.semAt_some

def TxPost (l : List Ch) (n : Nat) (w : World) (e : Ending) (w' : World) : Prop := ∃ p cap, e = .returned (.slice p n cap) ∧ CharsAt w' p cap l ∧ Below w.heap.size w w'
theorem txpost {l : List Ch} {n : Nat} {w w' : World} {e : Ending} (hn : n = l.length) (h : CharsPost l w e w') : TxPost l n w e w' := by
  obtain ⟨p, cap, h1, h2, h3⟩ := h
  rw [← hn] at h1
  exact ⟨p, cap, h1, h2, h3⟩
def RnPost (l : List (List UInt8 × Bool)) (n : Nat) (w : World) (e : Ending) (w' : World) : Prop := ∃ p cap, e = .returned (.slice p n cap) ∧ RunsAt w' p cap l ∧ Below w.heap.size w w'
theorem rnpost {l : List (List UInt8 × Bool)} {n : Nat} {w w' : World} {e : Ending} (hn : n = l.length) (h : RunsPost l w e w') : RnPost l n w e w' := by
  obtain ⟨p, cap, h1, h2, h3⟩ := h
  rw [← hn] at h1
  exact ⟨p, cap, h1, h2, h3⟩
theorem text_n {l : List Ch} {n : Nat} (hn : n = l.length) (hm : l.length ≤ 100000) (w : World) (p : Option Addr) (c : Nat) (h : CharsAt w p c l) : Calls Tryd.prog 14 #[.slice p n c] w (TxPost l n w) := by
  subst hn
  exact (text_calls l p c w h hm).mono fun e w' => txpost rfl
theorem same_n {l : List Ch} {n : Nat} (hn : n = l.length) (w : World) (p q : Option Addr) (c d : Nat) (h : CharsAt w p c l) (k : CharsAt w q d l) : Calls Tryd.prog 15 #[.slice p n c, .slice q n d] w (FPost true w) := by
  subst hn
  exact same_calls l p q c d w h k
theorem rows3 {w : World} {T : TypeId} {t u v : List Ch} {ao bo co : Option Addr} {ca cb cc : Nat} (ht : CharsAt w ao ca t) (hu : CharsAt w bo cb u) (hv : CharsAt w co cc v) :
    RowsAt (w.alloc (.cells #[.slice ao t.length ca, .slice bo u.length cb, .slice co v.length cc] T (0, 0))) (some ⟨w.heap.size, 0, none⟩) [⟨ao, ca, t⟩, ⟨bo, cb, u⟩, ⟨co, cc, v⟩] := by
  have kn := kept_alloc w (.cells #[.slice ao t.length ca, .slice bo u.length cb, .slice co v.length cc] T (0, 0))
  have hbk := heap_alloc_new w (.cells #[.slice ao t.length ca, .slice bo u.length cb, .slice co v.length cc] T (0, 0))
  intro i hi
  refine ⟨w.heap.size, 0, rfl, ?_, ?_⟩
  · rw [cell_at hbk, Nat.zero_add]
    match i, hi with
    | 0, _ => rfl
    | 1, _ => rfl
    | 2, _ => rfl
  · match i, hi with
    | 0, _ => exact ht.keep kn
    | 1, _ => exact hu.keep kn
    | 2, _ => exact hv.keep kn
theorem join3 {t u v : List Ch} {a b c : Nat} (ha : a = t.length) (hb : b = u.length) (hc : c = v.length) (h1 : t.length ≤ 2000) (h2 : u.length ≤ 2000) (h3 : v.length ≤ 2000) {n : Nat} {J : List Ch} (hJ : J = t ++ (u ++ (v ++ []))) (hn : n = J.length) (w : World) (ao bo co : Option Addr) (ca cb cc : Nat) (ht : CharsAt w ao ca t) (hu : CharsAt w bo cb u) (hv : CharsAt w co cc v) :
    Calls Tryd.prog 20 #[.slice (some ⟨w.heap.size, 0, none⟩) 3 3] (w.alloc (.cells #[.slice ao a ca, .slice bo b cb, .slice co c cc] 22 (0, 0))) (TxPost J n (w.alloc (.cells #[.slice ao a ca, .slice bo b cb, .slice co c cc] 22 (0, 0)))) := by
  subst ha hb hc hJ
  exact (join_below _ _ 3 _ (rows3 ht hu hv) (by show (3 : Nat) ≤ 1000000; decide) (by show t.length + (u.length + (v.length + 0)) ≤ 1000000; omega)).mono fun e w' => txpost hn
theorem rjoin3 {t u v : List Ch} {a b c : Nat} (ha : a = t.length) (hb : b = u.length) (hc : c = v.length) (h1 : t.length ≤ 2000) (h2 : u.length ≤ 2000) (h3 : v.length ≤ 2000) {n : Nat} {J : List Ch} (hJ : J = t ++ (u ++ (v ++ []))) (hn : n = J.length) (w : World) (ao bo co : Option Addr) (ca cb cc : Nat) (ht : CharsAt w ao ca t) (hu : CharsAt w bo cb u) (hv : CharsAt w co cc v) :
    Calls Tryd.prog 34 #[.slice (some ⟨w.heap.size, 0, none⟩) 3 3] (w.alloc (.cells #[.slice ao a ca, .slice bo b cb, .slice co c cc] 27 (0, 0))) (TxPost J n (w.alloc (.cells #[.slice ao a ca, .slice bo b cb, .slice co c cc] 27 (0, 0)))) := by
  subst ha hb hc hJ
  exact (rjoin_calls _ _ 3 _ (rows3 ht hu hv) (by show (3 : Nat) ≤ 100000; decide) (by show t.length + (u.length + (v.length + 0)) ≤ 1000000; omega)).mono fun e w' => txpost hn
theorem mark_len (s : ByteArray) (q : Bool) : s.size = (markL (bs s) q).length := by unfold markL; rw [List.length_map, bs_length]
set_option maxRecDepth 100000 in
set_option maxHeartbeats 8000000 in
theorem walk (s : ByteArray) (ao : Option Addr) (ca : Nat) (t : List Ch) (bo : Option Addr) (cb : Nat) (u : List Ch) (W : World) (hs63 : (s.size : Int) ≤ 9223372036854775807) (ht : CharsAt W ao ca t) (hu : CharsAt W bo cb u) :
    Calls Tryd.prog 7 #[.string s, .slice ao t.length ca, .slice bo u.length cb] W (FPost true W) := by
  by_cases h0 : s.size ≤ 2000
  · have h0' : (s.size : Int) ≤ 2000 := by omega
    by_cases h1 : t.length ≤ 2000
    · have h1' : (t.length : Int) ≤ 2000 := by omega
      by_cases h2 : u.length ≤ 2000
      · have h2' : (u.length : Int) ≤ 2000 := by omega
        have Ht := Lib.hid ht
        have Hu := Lib.hid hu
        have htT := Lib.hid (fun w (k : Kept W w) => text_n (n := t.length) rfl (by omega) w ao ca (Ht.out.keep k))
        have htU := Lib.hid (fun w (k : Kept W w) => text_n (n := u.length) rfl (by omega) w bo cb (Hu.out.keep k))
        have hru := fun w (k : Kept W w) => runs_calls t ao ca w (Ht.out.keep k) (by omega)
        have hrr := fun w p c (h : CharsAt w p c t) => rruns_calls t p c w h (by omega)
        have hrl := run_len t
        obtain ⟨L, hL⟩ : ∃ L, L = runL t := ⟨_, rfl⟩
        obtain ⟨n, hn⟩ : ∃ n, n = L.length := ⟨_, rfl⟩
        rw [← hL] at hru hrr hrl
        have Hru := Lib.hid (fun w k => (hru w k).mono (fun e w' => rnpost hn))
        have Hrr := Lib.hid (fun w p c h => (hrr w p c h).mono (fun e w' => rnpost hn))
        have hnb : (n : Int) ≤ 2000 := by omega
        have Hn := Lib.hid hn
        obtain ⟨A, hA⟩ : ∃ A, A = markL (bs s) true := ⟨_, rfl⟩
        have hAl : s.size = A.length := by rw [hA]; exact mark_len s true
        obtain ⟨B, hB⟩ : ∃ B, B = markL (bs s) false := ⟨_, rfl⟩
        have hBl : s.size = B.length := by rw [hB]; exact mark_len s false
        have hofA := fun w => of_calls s true w (by omega)
        have hofB := fun w => of_calls s false w (by omega)
        have hroA := fun w => rof_calls s true w (by omega)
        have hroB := fun w => rof_calls s false w (by omega)
        rw [← hA] at hofA hroA
        rw [← hB] at hofB hroB
        have HofA := Lib.hid (fun w => (hofA w).mono (fun e w' => txpost hAl))
        have HofB := Lib.hid (fun w => (hofB w).mono (fun e w' => txpost hBl))
        have HroA := Lib.hid (fun w => (hroA w).mono (fun e w' => txpost hAl))
        have HroB := Lib.hid (fun w => (hroB w).mono (fun e w' => txpost hBl))
        have htxA := Lib.hid (text_n hAl (by omega))
        have htxB := Lib.hid (text_n hBl (by omega))
        have hsmA := Lib.hid (same_n hAl)
        have hsmB := Lib.hid (same_n hBl)
        obtain ⟨J, hJ⟩ : ∃ J, J = t ++ (u ++ (t ++ [])) := ⟨_, rfl⟩
        obtain ⟨m, hm⟩ : ∃ m, m = J.length := ⟨_, rfl⟩
        have hJl : J.length ≤ 100000 := by rw [hJ]; simp only [List.length_append, List.length_nil]; omega
        have hjo := Lib.hid (join3 (a := t.length) (b := u.length) (c := t.length) rfl rfl rfl h1 h2 h1 hJ hm)
        have hrj := Lib.hid (rjoin3 (a := t.length) (b := u.length) (c := t.length) rfl rfl rfl h1 h2 h1 hJ hm)
        have htxJ := Lib.hid (text_n hm hJl)
        have hsmJ := Lib.hid (same_n hm)
        have hpl := Lib.hid (fun w (k : Kept W w) => plain_calls t ao ca w (Ht.out.keep k) (by omega))
        have hrp := Lib.hid (fun w p c (h : CharsAt w p c t) => rplain_calls t p c w h (by omega))
        unfold PlainPost at hpl hrp
        obtain ⟨sx, hsx⟩ : ∃ x, x = (⟨(t.map (·.b)).toArray⟩ : ByteArray) := ⟨_, rfl⟩
        rw [← hsx] at hpl hrp
        clear ht hu hru hrr hrl hL hn hA hB hAl hBl hofA hofB hroA hroB hJ hm hJl hsx
        go_enter Tryd.func7, Tryd.ntmps7
        go_wp2_with fail
        refine (HofA.out W).mono ?_
        rintro e w1 ⟨p1, c1, rfl, hC1, b1⟩
        have B1 := Lib.hid b1
        have Hc := Lib.hid (htxA.out w1 p1 c1 hC1)
        clear hC1 b1 HofA
        go_wp2_with fail
        refine Hc.out.mono ?_
        rintro e w2 ⟨p2, c2, rfl, hC2, b2⟩
        have B2 := Lib.hid (bt B1.out b2)
        have C2 := Lib.hid hC2
        clear hC2 b2 Hc
        go_wp2_with fail
        refine (HroA.out w2).mono ?_
        rintro e w3 ⟨p3, c3, rfl, hC3, b3⟩
        have B3 := Lib.hid (bt B2.out b3)
        have Hc := Lib.hid (hsmA.out w3 p2 p3 c2 c3 (C2.out.keep (Kept.below b3)) hC3)
        clear hC3 b3 HroA
        go_wp2_with fail
        refine Hc.out.mono ?_
        rintro e w4 ⟨rfl, b4⟩
        have B4 := Lib.hid (bt B3.out b4)
        clear b4 Hc
        go_wp2_with fail
        refine (HofB.out w4).mono ?_
        rintro e w5 ⟨p5, c5, rfl, hC5, b5⟩
        have B5 := Lib.hid (bt B4.out b5)
        have Hc := Lib.hid (htxB.out w5 p5 c5 hC5)
        clear hC5 b5 HofB
        go_wp2_with fail
        refine Hc.out.mono ?_
        rintro e w6 ⟨p6, c6, rfl, hC6, b6⟩
        have B6 := Lib.hid (bt B5.out b6)
        have C6 := Lib.hid hC6
        clear hC6 b6 Hc
        go_wp2_with fail
        refine (HroB.out w6).mono ?_
        rintro e w7 ⟨p7, c7, rfl, hC7, b7⟩
        have B7 := Lib.hid (bt B6.out b7)
        have Hc := Lib.hid (hsmB.out w7 p6 p7 c6 c7 (C6.out.keep (Kept.below b7)) hC7)
        clear hC7 b7 HroB
        go_wp2_with fail
        refine Hc.out.mono ?_
        rintro e w8 ⟨rfl, b8⟩
        have B8 := Lib.hid (bt B7.out b8)
        clear b8 Hc
        go_wp2_with fail
        refine (Hru.out w8 (Kept.below B8.out)).mono ?_
        rintro e w9 ⟨p9, c9, rfl, hR9, b9⟩
        have B9 := Lib.hid (bt B8.out b9)
        have R9 := Lib.hid hR9
        clear hR9 b9 Hru
        go_wp2_with fail
        refine (htT.out w9 (Kept.below B9.out)).mono ?_
        rintro e w10 ⟨p10, c10, rfl, hC10, b10⟩
        have B10 := Lib.hid (bt B9.out b10)
        have R9 := Lib.hid (R9.out.keep (Kept.below b10))
        have Hc := Lib.hid (Hrr.out w10 p10 c10 hC10)
        clear hC10 b10 Hrr
        go_wp2_with fail
        refine Hc.out.mono ?_
        rintro e w11 ⟨p11, c11, rfl, hR11, b11⟩
        have B11 := Lib.hid (bt B10.out b11)
        have R9 := Lib.hid (R9.out.keep (Kept.below b11))
        have R11 := Lib.hid hR11
        clear hR11 b11 Hc C2 C6
        go_wp2_with fail
        go_loopg [9] n (SmRel n w11)
        case atStart => exact ⟨0, by omega, rfl, Below.refl _ _⟩
        case round =>
          obtain ⟨i, hig, rfl, hbel⟩ := hrel
          have hi0 : (0 : Int) ≤ i := by omega
          have Hig := Lib.hid hig
          have Hbel := Lib.hid hbel
          by_cases hi : i < n
          · have hil : (i : Int) < n := by omega
            obtain ⟨ab, a2, e2, hab, x0, x1⟩ := (R9.out.keep (Kept.below hbel)).2.2 i (by rw [← Hn.out]; exact hi)
            obtain ⟨bb, b2, e3, hbb, y0, y1⟩ := (R11.out.keep (Kept.below hbel)).2.2 i (by rw [← Hn.out]; exact hi)
            obtain ⟨q, hq⟩ : ∃ q, q = (L[i]'(by rw [← Hn.out]; exact hi)).2 := ⟨_, rfl⟩
            obtain ⟨x, hx⟩ : ∃ x, x = (⟨(L[i]'(by rw [← Hn.out]; exact hi)).1.toArray⟩ : ByteArray) := ⟨_, rfl⟩
            rw [← hx] at x0 y0
            rw [← hq] at x1 y1
            subst e2 e3
            clear hq hx hig hbel hab hbb
            go_wp2_with fail
            refine Go.Proofs.YtlpfcnpdecoblaaDoor.region_plan (S := (fun w' => (w'.cell? ⟨ab, a2 + i * 2, none⟩ = some (.string x) ∧ w'.cell? ⟨ab, a2 + i * 2 + 1, none⟩ = some (.bool q)) ∧ w'.cell? ⟨bb, b2 + i * 2, none⟩ = some (.string x) ∧ w'.cell? ⟨bb, b2 + i * 2 + 1, none⟩ = some (.bool q))) [(0, true), (1, true), (2, true), (3, true), (4, true), (5, true), (6, true), (7, true), (8, true), (9, true), (10, true), (11, true), (12, true), (13, true), (14, true), (15, true), (16, true), (17, true), (18, true), (19, true), (20, true), (21, true), (22, true), (23, true)] (by kernel_rfl) (by kernel_rfl) (by kernel_rfl) ?_ ?_
            · ((try dsimp only); (first | done | (exact ⟨⟨x0, x1⟩, y0, y1⟩)))
            simp only [Go.Proofs.YtlpfcnpdecoblaaDoor.planOps, List.map_cons, List.map_nil, List.getElem?_toArray, List.getElem?_cons_zero, List.getElem?_cons_succ]
            repeat (first
              | ((refine Go.Proofs.YtlpfcnpdecoblaaDoor.plan_yes (v := ?_) (by rfl) ?_ ?_); rotate_left; (focus (intro w hSw; (try dsimp only at hSw); go_simp; try (with_reducible rfl))); (try simp only [Act.put, List.setIfInBounds_toArray, List.set_cons_zero, List.set_cons_succ]))
              | ((refine Go.Proofs.YtlpfcnpdecoblaaDoor.plan_no (by rfl) ?_); (try simp only [Act.put, List.setIfInBounds_toArray, List.set_cons_zero, List.set_cons_succ]))
              | ((refine Go.Proofs.YtlpfcnpdecoblaaDoor.plan_step (fun K hK => ?_)); (first | (fail) | (go_simp; (fail); (try go_wp2_with fail)) | go_simp); (refine hK.out _ _ ?_ (fun hHeld => ?_)); (focus ((try dsimp only); (first | done | (exact ⟨⟨x0, x1⟩, y0, y1⟩)))); clear hK K; (try simp only [Act.put, List.setIfInBounds_toArray, List.set_cons_zero, List.set_cons_succ])))
            refine Go.Proofs.YtlpfcnpdecoblaaDoor.plan_done ?_
            go_wp2_with fail
            go_roundg (gk - 1)
            case measure => have := Hig.out; omega
            case rel => exact ⟨i + 1, by have := Hig.out; omega, by go_num, Hbel.out.drew⟩
          · have hge : ¬ ((i : Int) < n) := by omega
            have B12 := Lib.hid (bt B11.out hbel)
            clear hbel hig Hbel Hig R9 R11
            go_wp2_with fail
            refine (hpl.out wr (Kept.below B12.out)).mono ?_
            rintro e w13 ⟨rfl, b13⟩
            have B13 := Lib.hid (bt B12.out b13)
            clear b13 hpl
            go_wp2_with fail
            refine (htT.out w13 (Kept.below B13.out)).mono ?_
            rintro e w14 ⟨p14, c14, rfl, hC14, b14⟩
            have B14 := Lib.hid (bt B13.out b14)
            have Hc := Lib.hid (hrp.out w14 p14 c14 hC14)
            clear hC14 b14 hrp
            go_wp2_with fail
            refine Hc.out.mono ?_
            rintro e w15 ⟨rfl, b15⟩
            have B15 := Lib.hid (bt B14.out b15)
            have K15 := Lib.hid (Kept.below B15.out)
            have Hc := Lib.hid (hjo.out w15 ao bo ao ca cb ca (Ht.out.keep K15.out) (Hu.out.keep K15.out) (Ht.out.keep K15.out))
            clear b15 hjo
            go_wp2_with fail
            refine Hc.out.mono ?_
            rintro e w16 ⟨p16, c16, rfl, hC16, b16⟩
            have B16 := Lib.hid (bt (B15.out.alloc B15.out.size _) b16)
            have Hc := Lib.hid (htxJ.out w16 p16 c16 hC16)
            clear hC16 b16
            go_wp2_with fail
            refine Hc.out.mono ?_
            rintro e w17 ⟨p17, c17, rfl, hC17, b17⟩
            have B17 := Lib.hid (bt B16.out b17)
            have C17 := Lib.hid hC17
            clear hC17 b17 Hc htxJ
            go_wp2_with fail
            refine (htT.out w17 (Kept.below B17.out)).mono ?_
            rintro e w18 ⟨p18, c18, rfl, hC18, b18⟩
            have B18 := Lib.hid (bt B17.out b18)
            have K18 := Lib.hid (Kept.below b18)
            have C18 := Lib.hid hC18
            clear hC18 b18
            go_wp2_with fail
            refine (htU.out w18 (Kept.below B18.out)).mono ?_
            rintro e w19 ⟨p19, c19, rfl, hC19, b19⟩
            have B19 := Lib.hid (bt B18.out b19)
            have K19 := Lib.hid (K18.out.trans (Kept.below b19))
            have C18 := Lib.hid (C18.out.keep (Kept.below b19))
            have C19 := Lib.hid hC19
            clear hC19 b19 K18
            go_wp2_with fail
            refine (htT.out w19 (Kept.below B19.out)).mono ?_
            rintro e w20 ⟨p20, c20, rfl, hC20, b20⟩
            have B20 := Lib.hid (bt B19.out b20)
            have K20 := Lib.hid (K19.out.trans (Kept.below b20))
            have Hc := Lib.hid (hrj.out w20 p18 p19 p20 c18 c19 c20 (C18.out.keep (Kept.below b20)) (C19.out.keep (Kept.below b20)) hC20)
            clear hC20 b20 K19 C18 C19 hrj
            go_wp2_with fail
            refine Hc.out.mono ?_
            rintro e w21 ⟨p21, c21, rfl, hC21, b21⟩
            have B21 := Lib.hid (bt (B20.out.alloc B20.out.size _) b21)
            have K21 := Lib.hid ((K20.out.trans (kept_alloc _ _)).trans (Kept.below b21))
            have Hc := Lib.hid (hsmJ.out w21 p17 p21 c17 c21 (C17.out.keep K21.out) hC21)
            clear hC21 b21 K20 C17
            go_wp2_with fail
            refine Hc.out.mono ?_
            rintro e w22 ⟨rfl, b22⟩
            have B22 := Lib.hid (bt B21.out b22)
            clear b22 Hc
            go_wp2_with fail
            refine (awake_calls w22).mono ?_
            rintro e w23 ⟨rfl, b23⟩
            go_wp2_with fail
            go_ret
            exact ⟨rfl, bt B22.out b23⟩
      · have h2' : (2000 : Int) < (u.length : Int) := by omega
        clear ht hu
        go_enter Tryd.func7, Tryd.ntmps7
        go_wp2_with fail
        refine (awake_calls W).mono ?_
        rintro e w9 ⟨rfl, b9⟩
        go_wp2_with fail
        go_ret
        exact ⟨rfl, b9⟩
    · have h1' : (2000 : Int) < (t.length : Int) := by omega
      clear ht hu
      go_enter Tryd.func7, Tryd.ntmps7
      go_wp2_with fail
      refine (awake_calls W).mono ?_
      rintro e w9 ⟨rfl, b9⟩
      go_wp2_with fail
      go_ret
      exact ⟨rfl, b9⟩
  · have h0' : (2000 : Int) < (s.size : Int) := by omega
    clear ht hu
    go_enter Tryd.func7, Tryd.ntmps7
    go_wp2_with fail
    refine (awake_calls W).mono ?_
    rintro e w9 ⟨rfl, b9⟩
    go_wp2_with fail
    go_ret
    exact ⟨rfl, b9⟩

set_option maxRecDepth 100000 in
theorem lifted (os : Os) (started : os.Started) (H : Type) (enc : TypeId × Value → H) :
    ReturnsInHanded {} Tryd.checked os 7 .any (fun w args => (Rows.marksMakesSpec.pre enc Tryd.prog Tryd.f7 Rows.marksMakesRow.domain false w args ∧ laidMetH Tryd.prog Rows.marksMakesRow.laid w) ∧ sizedMet enc Tryd.prog Tryd.f7 (OpenSpec.ofChange Rows.marksMakesSpec) false w args) (Rows.marksMakesSpec.post enc Tryd.prog Tryd.f7 false true false false) := by
  refine returnsInHanded_of_change_and (C := Tryd.checked) (X := fun w _ => laidMetH Tryd.prog Rows.marksMakesRow.laid w) (fun _ _ _ hh h => h.of_heap hh) own started (by kernel_rfl) Tryd.func7
    (ChangeSpec.witness_shaped (enc := enc) (C := Tryd.checked) (os := os) (X := fun w _ => laidMetH Tryd.prog Rows.marksMakesRow.laid w) false (World.laidAll Tryd.prog os Rows.marksMakesRow.laid) #[.string ⟨#[]⟩, .slice none 0 0, .slice none 0 0] 8 (World.laidAll_os _ _ _)
      (World.shaped_of_ZipB (by kernel_rfl) (by kernel_rfl)) (by kernel_rfl) (by kernel_rfl) (by kernel_rfl)
      (by rw [MakeChecks.laidMetH_plain _ _ _ (by kernel_rfl)]; exact laidMet_laidAll _ (by kernel_rfl) (by kernel_rfl))) ?_
  intro W base args ds gs before hval0 hW hcnd _ hL _
  have hval : ∀ (j : Nat) t v, Tryd.f7.params[j]? = some t → args[j]? = some v → Value.okWide Tryd.prog W .any base t v := hval0
  have hW' := hW
  obtain ⟨p, q, hA0, hV, rfl, hfz, hnd⟩ := hW
  have hA : DataW.TrodAll enc Tryd.prog W 0 (fun _ => true) true Tryd.f7.params.toList args.toList ds p := hA0
  rw [Tryd.params7] at hA hval
  obtain ⟨v0, vs0, d0, ds0, p0, q0, hargs, rfl, rfl, h0, r0⟩ := trodAll_cons hA
  obtain ⟨v1, vs1, d1, ds1, p1, q1, rfl, rfl, rfl, h1, r1⟩ := trodAll_cons r0
  obtain ⟨v2, vs2, d2, ds2, p2, q2, rfl, rfl, rfl, h2, r2⟩ := trodAll_cons r1
  obtain ⟨rfl, rfl, rfl⟩ := trodAll_nil r2
  obtain rfl : args = #[v0, v1, v2] := by cases args; simp_all
  obtain ⟨rfl, rfl⟩ := trodVars_none hV
  obtain ⟨s0, rfl, rfl, rfl, w0⟩ := open_string Tryd.underlying9 (hval 0 9 v0 rfl rfl) h0
  have k1 := h1
  have lt1 : ∀ x ∈ p1, x.block < W.heap.size := by obtain ⟨m, hm⟩ := k1; exact DataW.trod_lt m _ _ _ hm
  obtain ⟨ao1, l1, cap1, rfl, w1⟩ := chars_open (hval 1 22 v1 rfl rfl) h1
  have k2 := h2
  have lt2 : ∀ x ∈ p2, x.block < W.heap.size := by obtain ⟨m, hm⟩ := k2; exact DataW.trod_lt m _ _ _ hm
  obtain ⟨ao2, l2, cap2, rfl, w2⟩ := chars_open (hval 2 22 v2 rfl rfl) h2
  clear hA0 hval0
  refine (walk s0 ao1 cap1 l1 ao2 cap2 l2 W (by unfold maxLen at w0; omega) w1 w2).mono fun e W' ⟨he, bel⟩ => ?_
  subst he
  exact ⟨_, rfl, _, _, _, [], _, [], hW', trodAll_mk1 (shut_bool Tryd.underlying4 _), (trodAll_cons_mk (shut_string Tryd.underlying9 w0) (trodAll_cons_mk (Below.trod laidOut (by kernel_rfl) (of_decide_eq_true (by kernel_rfl)) k1 bel lt1) (trodAll_cons_mk (Below.trod laidOut (by kernel_rfl) (of_decide_eq_true (by kernel_rfl)) k2 bel lt2) trodAll_mk0))), rfl, bel.frame _, fun h => by cases h⟩

theorem over : Rows.marksMakesRow.holds Tryd.pinned (OpenSpec.ofChange Rows.marksMakesSpec) :=
  OpenClaim.holds_of_wide 7 Tryd.f7 rfl rfl rfl rfl rfl rfl rfl ⟨rfl, rfl, rfl, rfl, rfl⟩ rfl rfl rfl rfl rfl (by kernel_rfl) Tryd.func7 (by kernel_rfl)
    (of_decide_eq_true (by kernel_rfl)) (by unfold Func.isWrapper; first | (rw [if_pos (by decide +kernel)]; kernel_rfl) | (rw [if_neg (by decide +kernel)]; exact ⟨rfl, rfl⟩))
    (fun os started H enc _ => lifted os started H enc)

theorem proved : Rows.MarksMakesCardSaid :=
  Claim7.holds_tied_plain_at .later [] [.data, .pinned] true (true, "f482e89116bc99bf43e4e1caee790152a011ea106b481086dbda4c4ef674d186") false over (fun _ h => by cases h) (by kernel_rfl) (fun _ h => by cases h) marksMakes_row_tie rfl ⟨rfl, rfl⟩ (by kernel_rfl) rfl
    (fun f fn hf hfn => by
      obtain rfl : f = 7 := Option.some.inj ((show Tryd.prog.funcNamed "whelk/whelklaw01.MarksMakes" = some 7 by kernel_rfl).symm.trans hf) |>.symm
      obtain rfl : fn = Tryd.f7 := (Option.some.inj (Tryd.func7.symm.trans hfn)).symm
      exact ⟨by kernel_rfl, fun j t ht => by
        rw [Tryd.params7] at ht
        have hm : t ∈ [9, 22, 22] := by simpa using Array.mem_of_getElem? ht
        have hall : ([9, 22, 22].all fun u => !Tryd.prog.wantsStandIn u) = true := by kernel_rfl
        exact (show Tryd.prog.wantsStandIn t = false by simpa using List.all_eq_true.1 hall t hm)⟩)
    (by kernel_rfl)
#print axioms proved
end Go.Proofs.YtlpfcnpdecoblaaDoor.marksMakes
