/- MarksWhole: runs, one behind the other, and parts, with the byte between each two, are the text; runs take turns; no part has the byte bare: the law returns true, for all marked texts and bytes. -/
import Derived.Test.YtlpfcnpdecoblaaDoorMkW
import Derived.Test.YtlpfcnpdecoblaaDoorTie
import Derived.Test.YtlpfcnpdecoblaaDoorCards
import Derived.LaidMore
import Derived.Lay
import Derived.SevenTiedAt
import Derived.Stop.Joined
namespace Go.Proofs.YtlpfcnpdecoblaaDoor.marksWhole
open Go.ChangeShapes Go.WideShapes Go.ChangeAt Go.RowKit Go.Proofs.YtlpfcnpdecoblaaDoor Go.Proofs.YtlpfcnpdecoblaaDoor.Hp Go.Proofs.YtlpfcnpdecoblaaDoor.Marks
set_option linter.unusedVariables false
attribute [local go_sem] Oper.semAt_some

def TxPost (l : List Ch) (n : Nat) (w : World) (e : Ending) (w' : World) : Prop := ∃ p cap, e = .returned (.slice p n cap) ∧ CharsAt w' p cap l ∧ Below w.heap.size w w'
theorem txpost {l : List Ch} {n : Nat} {w w' : World} {e : Ending} (hn : n = l.length) (h : CharsPost l w e w') : TxPost l n w e w' := by
  obtain ⟨p, cap, h1, h2, h3⟩ := h
  rw [← hn] at h1
  exact ⟨p, cap, h1, h2, h3⟩
def RnPost (l : List (List UInt8 × Bool)) (n : Nat) (w : World) (e : Ending) (w' : World) : Prop := ∃ p cap, e = .returned (.slice p n cap) ∧ RunsAt w' p cap l ∧ Below w.heap.size w w'
theorem rnpost {l : List (List UInt8 × Bool)} {n : Nat} {w w' : World} {e : Ending} (hn : n = l.length) (h : RunsPost l w e w') : RnPost l n w e w' := by
  obtain ⟨p, cap, h1, h2, h3⟩ := h
  rw [← hn] at h1
  exact ⟨p, cap, h1, h2, h3⟩
def PPost (ls : List (List Ch)) (n : Nat) (w : World) (e : Ending) (w' : World) : Prop := ∃ p cap rs, e = .returned (.slice p n cap) ∧ rs.map Rw.L = ls ∧ rs.length = n ∧ RowsAt w' p rs ∧ Below w.heap.size w w'
theorem ppost {ls : List (List Ch)} {n : Nat} {w w' : World} {e : Ending} (hn : n = ls.length) (h : PartsPost ls w e w') : PPost ls n w e w' := by
  obtain ⟨p, cap, rs, h1, h2, h3, h4⟩ := h
  have hl : rs.length = n := by rw [hn, ← h2, List.length_map]
  rw [hl] at h1
  exact ⟨p, cap, rs, h1, h2, hl, h3, h4⟩
theorem stepCh {w : World} {H : Hp} {ops : Array Oper} {o : Oper} {a : Act} {K : Act → World → Prop} {Q : Exit → Act → World → Prop} {E : Prop} (hgd : o.guard = none) (s x : Operand)
    (ho : o.op = .call { callee := .builtin .append, args := #[s, x], argTypes := #[22, 22] })
    (p : Option Addr) (n cap : Nat) (xs : List Value) (hp : a.eval s = .slice p n cap) (vx : Value) (hvx : a.eval x = vx) (m : Nat) (news : List Value) (hs : Src Tryd.prog 2 22 vx m news w) (h : Sat w (arr 37 2 p n cap xs * H)) (hn : n + m ≤ 1000000000)
    (hk : ∀ p' cap' w', Sat w' (arr 37 2 p' (n + m) cap' (xs ++ news) * H) → Ran w w' → K (a.put o.dst (.slice p' (n + m) cap')) w') :
    if Region.wanted o (yielded ops a.tmps) = true then Oper.wp Tryd.prog o a w K Q else E := by
  obtain ⟨i0, hi, hz0, hz1, hz2⟩ := info_parts infoCh
  exact step_append_arr hgd s x _ _ ho 37 i0 _ 2 2 Tryd.underlying22 hi hz0 hz1 hz2 rfl p n cap xs hp h _ hvx m news (by rw [hz1]; exact hs) (by omega) (by unfold maxLen; omega) (fun p' cap' w' h1 h2 _ => hk p' cap' w' h1 h2)
theorem accP_app (b : UInt8) (A B : List (List Ch)) : (accP b A).length ≤ (accP b (A ++ B)).length := by
  cases A with
  | nil => exact Nat.zero_le _
  | cons a A =>
    show (a ++ A.flatMap _).length ≤ (a ++ (A ++ B).flatMap _).length
    rw [List.flatMap_append]
    simp only [List.length_append]
    omega
theorem accP_le (b : UInt8) (P : List (List Ch)) (i : Nat) : (accP b (P.take i)).length ≤ (accP b P).length := by
  have := accP_app b (P.take i) (P.drop i)
  rw [List.take_append_drop] at this
  exact this
theorem runs_le (L : List (List UInt8 × Bool)) (i : Nat) : ((L.take i).flatMap runC).length ≤ (L.flatMap runC).length := by
  conv => rhs; rw [← List.take_append_drop i L, List.flatMap_append, List.length_append]
  omega
theorem same_n {l : List Ch} {n m : Nat} (hn : n = l.length) (hm : m = l.length) (hb : l.length ≤ 100000) (w : World) (p q : Option Addr) (c d : Nat) (h : CharsAt w p c l) (k : CharsAt w q d l) : Calls Tryd.prog 18 #[.slice p n c, .slice q m d] w (FPost true w) := by
  subst hn hm
  exact lsame_calls l p q c d w h k hb
theorem runC_mark (u : List UInt8) (q : Bool) : markL u q = runC (u, q) := rfl
def WlRel (L : List (List UInt8 × Bool)) (n : Nat) (w : World) (g : Nat) (av iv : Value) (wr : World) : Prop :=
  ∃ (i : Nat) (p : Option Addr) (cap : Nat), i + g = n ∧ iv = .int .i64 (i : Int) ∧ av = .slice p ((L.take i).flatMap runC).length cap ∧ Sat wr (chA p cap ((L.take i).flatMap runC) * keep w) ∧ Ran w wr
def WpRel (b : UInt8) (P : List (List Ch)) (n : Nat) (w : World) (g : Nat) (av iv : Value) (wr : World) : Prop :=
  ∃ (i : Nat) (p : Option Addr) (cap : Nat), i + g = n ∧ iv = .int .i64 (i : Int) ∧ av = .slice p (accP b (P.take i)).length cap ∧ Sat wr (chA p cap (accP b (P.take i)) * keep w) ∧ Ran w wr
set_option maxRecDepth 100000 in
set_option maxHeartbeats 8000000 in
theorem walk (ao : Option Addr) (ca : Nat) (t : List Ch) (b : UInt8) (W : World) (ht : CharsAt W ao ca t) :
    Calls Tryd.prog 8 #[.slice ao t.length ca, .int .u8 b.toNat] W (FPost true W) := by
  by_cases h1 : t.length ≤ 1000
  · have h1' : (t.length : Int) ≤ 1000 := by omega
    have Ht := Lib.hid ht
    have H1 := Lib.hid h1
    have hru := runs_calls t ao ca W ht (by omega)
    have hrl := run_len t
    have hrj := run_join t
    have hrt := run_text t
    have hrn := turns_at _ (run_turns t)
    obtain ⟨L, hL⟩ : ∃ L, L = runL t := ⟨_, rfl⟩
    obtain ⟨n, hn⟩ : ∃ n, n = L.length := ⟨_, rfl⟩
    rw [← hL] at hru hrl hrj hrt hrn
    have Hru := Lib.hid (hru.mono (fun e w' => rnpost hn))
    have hnb : (n : Int) ≤ 1000 := by omega
    have Hn := Lib.hid hn
    have Hrj := Lib.hid hrj
    have Hrt := Lib.hid hrt
    have Hrn := Lib.hid hrn
    obtain ⟨P, hP⟩ : ∃ P, P = partL b t := ⟨_, rfl⟩
    obtain ⟨m, hm⟩ : ∃ m, m = P.length := ⟨_, rfl⟩
    have hpt := fun w (k : Kept W w) => part_below t ao ca b w (Ht.out.keep k) (by omega)
    have hpn := partL_ne b t
    have hpl := part_total b t
    have hpf := part_free b t
    have hpj := part_join b t
    have hpe := part_each b t
    rw [← hP] at hpt hpn hpl hpf hpj hpe
    have hm0 : 0 < m := by rw [hm]; exact List.length_pos_iff.2 hpn
    have hm0' : (0 : Int) < (m : Int) := by omega
    have hmb : (m : Int) ≤ 1001 := by omega
    have Hpt := Lib.hid (fun w k => (hpt w k).mono (fun e w' => ppost hm))
    have Hm := Lib.hid hm
    have Hpf := Lib.hid hpf
    have Hpj := Lib.hid hpj
    have Hpe := Lib.hid hpe
    clear ht hru hrl hrj hrt hrn hL hn hP hm hpt hpn hpl hpf hpj hpe h1 hm0
    go_enter Tryd.func8, Tryd.ntmps8
    go_wp2_with fail
    refine Hru.out.mono ?_
    rintro e w1 ⟨p1, c1, rfl, hR1, b1⟩
    have B1 := Lib.hid b1
    have R1 := Lib.hid hR1
    clear hR1 b1 Hru
    go_wp2_with fail
    go_loopg [6, 7] n (fun (g : Nat) (av iv : Value) (wr : World) => WlRel L n w1 g av iv wr)
    case atStart => exact ⟨0, none, 0, by omega, rfl, rfl, by show Sat w1 (arr 37 2 none 0 0 [] * keep w1); exact (Sat.start w1).nil_arr _ _, Below.refl 0 w1⟩
    case round =>
      obtain ⟨i, p, cap, hig, rfl, rfl, HS, HR⟩ := hrel
      have hi0 : (0 : Int) ≤ (i : Int) := by omega
      have hK := kept_of HS
      have Hig := Lib.hid hig
      by_cases hi : i < n
      · have hil : (i : Int) < (n : Int) := by omega
        have hiL : i < L.length := by rw [← Hn.out]; exact hi
        obtain ⟨ab, a2, rfl, hab, x0, x1⟩ := R1.out.2.2 i hiL
        have htk : (L.take (i + 1)).flatMap runC = (L.take i).flatMap runC ++ runC L[i] := by rw [List.take_succ_eq_append_getElem hiL, List.flatMap_append]; simp
        have hle := runs_le L (i + 1)
        rw [Hrj.out] at hle
        have hmt := H1.out
        have hnonempty := Hrt.out L[i] (List.getElem_mem hiL)
        have hev := Hrn.out
        obtain ⟨u, hu⟩ : ∃ u, u = L[i].1 := ⟨_, rfl⟩
        obtain ⟨q, hq⟩ : ∃ q, q = L[i].2 := ⟨_, rfl⟩
        have hrc : runC L[i] = markL u q := by rw [hu, hq]; rfl
        rw [hrc] at htk
        rw [← hu] at x0 hnonempty
        rw [← hq] at x1
        obtain ⟨s, hs⟩ : ∃ s, s = (⟨u.toArray⟩ : ByteArray) := ⟨_, rfl⟩
        have hsu : bs s = u := by rw [hs]
        rw [← hs] at x0
        have hss : s.size ≠ 0 := by
          intro e
          rw [← bs_length, hsu] at e
          exact hnonempty (List.eq_nil_of_length_eq_zero e)
        have hne := ne_empty hss
        have hne2 : (s.toList == []) = false := by simpa using hne
        have hne3 : s.toList ≠ [] := by simpa using hne2
        have hml : (markL u q).length = s.size := by unfold markL; rw [List.length_map, ← hsu, bs_length]
        rw [htk, List.length_append, hml] at hle
        obtain ⟨acc, hacc⟩ : ∃ a, a = (L.take i).flatMap runC := ⟨_, rfl⟩
        rw [← hacc] at HS htk hle
        rw [← hacc]
        obtain ⟨nl, hnl⟩ : ∃ n, n = acc.length := ⟨_, rfl⟩
        rw [← hnl] at hle
        rw [← hnl]
        have hlim : nl + s.size ≤ 1000000000 := by omega
        have hof := Lib.hid (fun w => (of_calls s q w (by omega)).mono (fun e w' => txpost (n := s.size) (by rw [hsu, hml])))
        have HSA := Lib.hid (show Sat wr (arr 37 2 p nl cap (chCells acc) * keep w1) by rw [hnl]; exact HS)
        have HY := Lib.hid (fun (w' : World) (kk : Kept w1 w') => And.intro ((kk.cell hab _).trans x0) ((kk.cell hab _).trans x1))
        have hnx := Lib.hid (fun (w9 : World) (p' : Option Addr) (cap' : Nat) (T9 : Sat w9 (arr 37 2 p' (nl + s.size) cap' (chCells acc ++ chCells (markL u q)) * keep w1)) (R9 : Ran w1 w9) => (show WlRel L n w1 (gk - 1) (.slice p' (nl + s.size) cap') (.int .i64 ((i : Int) + 1)) w9 from by
          have e1 : ((L.take (i + 1)).flatMap runC).length = nl + s.size := by rw [htk, List.length_append, hml, hnl]
          refine ⟨i + 1, p', cap', by omega, rfl, by rw [e1], ?_, R9⟩
          unfold chA
          rw [e1, htk, chCells_join]
          exact T9))
        rw [hsu] at hof
        have Hmsr := Lib.hid (show gk - 1 < gk by omega)
        have HRd := Lib.hid HR
        have hQ := Lib.hid (fun (h0 : 0 < i) => (show ∃ q', (q' == q) = false ∧ ∀ w', Kept w1 w' → w'.cell? ⟨ab, a2 + (i - 1) * 2 + 1, none⟩ = some (.bool q') from by
          obtain ⟨ab2, a22, e2, hab2, y0, y1⟩ := R1.out.2.2 (i - 1) (by omega)
          obtain ⟨e3, e4⟩ : ab2 = ab ∧ a22 = a2 := by simpa using e2.symm
          rw [e3, e4] at y1
          refine ⟨_, ?_, fun w' kk => (kk.cell hab _).trans y1⟩
          have := hev (i - 1) (by omega)
          rw [hq]
          simp only [show i - 1 + 1 = i by omega] at this
          exact this))
        have x0 := (hK.cell hab _).trans x0
        have x1 := (hK.cell hab _).trans x1
        have HML := Lib.hid hml
        clear HS hle hmt hu hq hrc hs hsu hss hml hacc htk hnonempty hev hig HR hK hnl
        rcases Nat.eq_zero_or_pos i with h0 | h0
        · subst h0
          clear hQ
          have HY := Lib.hid (fun (w' : World) (kk : Kept w1 w') => (show w'.cell? ⟨ab, a2, none⟩ = some (.string s) ∧ w'.cell? ⟨ab, a2 + 1, none⟩ = some (.bool q) from by have := HY.out w' kk; simpa using this))
          have x0 : wr.cell? ⟨ab, a2, none⟩ = some (.string s) := (HY.out wr (kept_of HSA.out)).1
          have x1 : wr.cell? ⟨ab, a2 + 1, none⟩ = some (.bool q) := (HY.out wr (kept_of HSA.out)).2
          go_wp2_with fail
          refine Go.Proofs.YtlpfcnpdecoblaaDoor.region_plan (S := (fun w' => w'.cell? ⟨ab, a2, none⟩ = some (.string s))) [(0, true), (1, true), (2, true), (3, true), (4, true), (5, true), (6, true), (7, true), (8, true), (9, true), (10, true), (11, true), (12, true), (13, true), (14, true), (15, true), (16, true), (17, true), (18, true), (19, true), (20, true), (21, true), (22, true), (23, true)] (by kernel_rfl) (by kernel_rfl) (by kernel_rfl) ?_ ?_
          · ((try dsimp only); (first | done | (exact x0)))
          simp only [Go.Proofs.YtlpfcnpdecoblaaDoor.planOps, List.map_cons, List.map_nil, List.getElem?_toArray, List.getElem?_cons_zero, List.getElem?_cons_succ]
          repeat (first
            | ((refine Go.Proofs.YtlpfcnpdecoblaaDoor.plan_yes (v := ?_) (by rfl) ?_ ?_); rotate_left; (focus (intro w hSw; (try dsimp only at hSw); go_simp; try (with_reducible rfl))); (try simp only [Act.put, List.setIfInBounds_toArray, List.set_cons_zero, List.set_cons_succ]))
            | ((refine Go.Proofs.YtlpfcnpdecoblaaDoor.plan_no (by rfl) ?_); (try simp only [Act.put, List.setIfInBounds_toArray, List.set_cons_zero, List.set_cons_succ]))
            | ((refine Go.Proofs.YtlpfcnpdecoblaaDoor.plan_step (fun K hK => ?_)); (first | (fail) | (go_simp; (fail); (try go_wp2_with fail)) | go_simp); (refine hK.out _ _ ?_ (fun hHeld => ?_)); (focus ((try dsimp only); (first | done | (exact x0)))); clear hK K; (try simp only [Act.put, List.setIfInBounds_toArray, List.set_cons_zero, List.set_cons_succ])))
          refine Go.Proofs.YtlpfcnpdecoblaaDoor.plan_done ?_
          go_wp2_with fail
          refine Go.Proofs.YtlpfcnpdecoblaaDoor.region_plan (S := (fun w' => w'.cell? ⟨ab, a2, none⟩ = some (.string s) ∧ w'.cell? ⟨ab, a2 + 1, none⟩ = some (.bool q))) [(0, true), (1, true), (2, true), (3, true), (4, true), (5, true), (6, true), (7, true), (8, true), (9, true), (10, true), (11, false), (12, false), (13, true)] (by kernel_rfl) (by kernel_rfl) (by kernel_rfl) ?_ ?_
          · ((try dsimp only); (first | done | (first | exact HY.out _ (kept_of T6) | exact HY.out _ (kept_of H3.out) | exact HY.out _ (kept_of HSA.out.drew.drew))))
          simp only [Go.Proofs.YtlpfcnpdecoblaaDoor.planOps, List.map_cons, List.map_nil, List.getElem?_toArray, List.getElem?_cons_zero, List.getElem?_cons_succ]
          repeat (first
            | ((refine Go.Proofs.YtlpfcnpdecoblaaDoor.plan_yes (v := ?_) (by rfl) ?_ ?_); rotate_left; (focus (intro w hSw; (try dsimp only at hSw); go_simp; try (with_reducible rfl))); (try simp only [Act.put, List.setIfInBounds_toArray, List.set_cons_zero, List.set_cons_succ]))
            | ((refine Go.Proofs.YtlpfcnpdecoblaaDoor.plan_no (by rfl) ?_); (try simp only [Act.put, List.setIfInBounds_toArray, List.set_cons_zero, List.set_cons_succ]))
            | ((refine Go.Proofs.YtlpfcnpdecoblaaDoor.plan_step (fun K hK => ?_)); (first | (first | (go_at_call 29; refine (hof.out _).mono ?_; rintro e w3 ⟨p3, c3, rfl, hC3, b3⟩; have H3 := Lib.hid (HSA.out.drew.drew.below b3); have hs3 := Lib.hid (by have := srcCh hC3; rw [HML.out] at this; exact this); have R3 := Lib.hid (Ran.below (Below.drew (Below.drew HRd.out)) b3); clear hC3 b3) | (refine stepCh rfl _ _ rfl p nl cap _ rfl _ rfl s.size _ hs3.out H3.out hlim ?_; intro p' cap' w6 T6 R6)) | (go_simp; (first | (go_at_call 29; refine (hof.out _).mono ?_; rintro e w3 ⟨p3, c3, rfl, hC3, b3⟩; have H3 := Lib.hid (HSA.out.drew.drew.below b3); have hs3 := Lib.hid (by have := srcCh hC3; rw [HML.out] at this; exact this); have R3 := Lib.hid (Ran.below (Below.drew (Below.drew HRd.out)) b3); clear hC3 b3) | (refine stepCh rfl _ _ rfl p nl cap _ rfl _ rfl s.size _ hs3.out H3.out hlim ?_; intro p' cap' w6 T6 R6)); (try go_wp2_with fail)) | go_simp); (refine hK.out _ _ ?_ (fun hHeld => ?_)); (focus ((try dsimp only); (first | done | (first | exact HY.out _ (kept_of T6) | exact HY.out _ (kept_of H3.out) | exact HY.out _ (kept_of HSA.out.drew.drew))))); clear hK K; (try simp only [Act.put, List.setIfInBounds_toArray, List.set_cons_zero, List.set_cons_succ])))
          refine Go.Proofs.YtlpfcnpdecoblaaDoor.plan_done ?_
          have Hrel := Lib.hid (hnx.out w6 p' cap' T6 (Below.trans R3.out R6))
          clear T6 R6 H3 R3 hnx hs3
          go_wp2_with fail
          go_roundg (gk - 1)
          case measure => exact Hmsr.out
          case rel => exact Hrel.out
        · obtain ⟨q', hqq, hqc⟩ := hQ.out h0
          have y1 := hqc wr (kept_of HSA.out)
          have hi1 : (0 : Int) < (i : Int) := by omega
          have hi2 : (i : Int) - 1 = ((i - 1 : Nat) : Int) := by omega
          have hi3 : (0 : Int) ≤ ((i - 1 : Nat) : Int) := by omega
          have hi4 : ((i - 1 : Nat) : Int) < (n : Int) := by omega
          have hi5 : ((i - 1 : Nat) : Int) ≤ 1000 := by omega
          have hi6 : (i : Int) ≤ 1000 := by omega
          have hi7 : IntKind.i64.wrap ((i - 1 : Nat) : Int) = ((i - 1 : Nat) : Int) := IntWalk.i64_in _ (by omega)
          obtain ⟨im, him⟩ : ∃ k, k = i - 1 := ⟨_, rfl⟩
          rw [← him] at y1 hi2 hi3 hi4 hi5 hi7
          clear hQ hqc him
          rcases Bool.eq_false_or_eq_true q' with hq' | hq'
          · have hqv : q = false := by rw [hq'] at hqq; revert hqq; cases q <;> decide
            clear hqq
            subst hq' hqv
            go_wp2_with fail
            refine Go.Proofs.YtlpfcnpdecoblaaDoor.region_plan (S := (fun w' => w'.cell? ⟨ab, a2 + i * 2, none⟩ = some (.string s) ∧ w'.cell? ⟨ab, a2 + i * 2 + 1, none⟩ = some (.bool false) ∧ w'.cell? ⟨ab, a2 + im * 2 + 1, none⟩ = some (.bool true))) [(0, true), (1, true), (2, true), (3, true), (4, true), (5, true), (6, true), (7, true), (8, true), (9, true), (10, true), (11, true), (12, true), (13, true), (14, true), (15, true), (16, true), (17, true), (18, true), (19, true), (20, true), (21, true), (22, true), (23, true)] (by kernel_rfl) (by kernel_rfl) (by kernel_rfl) ?_ ?_
            · ((try dsimp only); (first | done | (exact ⟨x0, x1, y1⟩)))
            simp only [Go.Proofs.YtlpfcnpdecoblaaDoor.planOps, List.map_cons, List.map_nil, List.getElem?_toArray, List.getElem?_cons_zero, List.getElem?_cons_succ]
            repeat (first
              | ((refine Go.Proofs.YtlpfcnpdecoblaaDoor.plan_yes (v := ?_) (by rfl) ?_ ?_); rotate_left; (focus (intro w hSw; (try dsimp only at hSw); go_simp; try (with_reducible rfl))); (try simp only [Act.put, List.setIfInBounds_toArray, List.set_cons_zero, List.set_cons_succ]))
              | ((refine Go.Proofs.YtlpfcnpdecoblaaDoor.plan_no (by rfl) ?_); (try simp only [Act.put, List.setIfInBounds_toArray, List.set_cons_zero, List.set_cons_succ]))
              | ((refine Go.Proofs.YtlpfcnpdecoblaaDoor.plan_step (fun K hK => ?_)); (first | (fail) | (go_simp; (fail); (try go_wp2_with fail)) | go_simp); (refine hK.out _ _ ?_ (fun hHeld => ?_)); (focus ((try dsimp only); (first | done | (exact ⟨x0, x1, y1⟩)))); clear hK K; (try simp only [Act.put, List.setIfInBounds_toArray, List.set_cons_zero, List.set_cons_succ])))
            refine Go.Proofs.YtlpfcnpdecoblaaDoor.plan_done ?_
            go_wp2_with fail
            refine Go.Proofs.YtlpfcnpdecoblaaDoor.region_plan (S := (fun w' => w'.cell? ⟨ab, a2 + i * 2, none⟩ = some (.string s) ∧ w'.cell? ⟨ab, a2 + i * 2 + 1, none⟩ = some (.bool false))) [(0, true), (1, true), (2, true), (3, true), (4, true), (5, true), (6, true), (7, true), (8, true), (9, true), (10, true), (11, false), (12, false), (13, true)] (by kernel_rfl) (by kernel_rfl) (by kernel_rfl) ?_ ?_
            · ((try dsimp only); (first | done | (first | exact HY.out _ (kept_of T6) | exact HY.out _ (kept_of H3.out) | exact HY.out _ (kept_of HSA.out.drew.drew))))
            simp only [Go.Proofs.YtlpfcnpdecoblaaDoor.planOps, List.map_cons, List.map_nil, List.getElem?_toArray, List.getElem?_cons_zero, List.getElem?_cons_succ]
            repeat (first
              | ((refine Go.Proofs.YtlpfcnpdecoblaaDoor.plan_yes (v := ?_) (by rfl) ?_ ?_); rotate_left; (focus (intro w hSw; (try dsimp only at hSw); go_simp; try (with_reducible rfl))); (try simp only [Act.put, List.setIfInBounds_toArray, List.set_cons_zero, List.set_cons_succ]))
              | ((refine Go.Proofs.YtlpfcnpdecoblaaDoor.plan_no (by rfl) ?_); (try simp only [Act.put, List.setIfInBounds_toArray, List.set_cons_zero, List.set_cons_succ]))
              | ((refine Go.Proofs.YtlpfcnpdecoblaaDoor.plan_step (fun K hK => ?_)); (first | (first | (go_at_call 29; refine (hof.out _).mono ?_; rintro e w3 ⟨p3, c3, rfl, hC3, b3⟩; have H3 := Lib.hid (HSA.out.drew.drew.below b3); have hs3 := Lib.hid (by have := srcCh hC3; rw [HML.out] at this; exact this); have R3 := Lib.hid (Ran.below (Below.drew (Below.drew HRd.out)) b3); clear hC3 b3) | (refine stepCh rfl _ _ rfl p nl cap _ rfl _ rfl s.size _ hs3.out H3.out hlim ?_; intro p' cap' w6 T6 R6)) | (go_simp; (first | (go_at_call 29; refine (hof.out _).mono ?_; rintro e w3 ⟨p3, c3, rfl, hC3, b3⟩; have H3 := Lib.hid (HSA.out.drew.drew.below b3); have hs3 := Lib.hid (by have := srcCh hC3; rw [HML.out] at this; exact this); have R3 := Lib.hid (Ran.below (Below.drew (Below.drew HRd.out)) b3); clear hC3 b3) | (refine stepCh rfl _ _ rfl p nl cap _ rfl _ rfl s.size _ hs3.out H3.out hlim ?_; intro p' cap' w6 T6 R6)); (try go_wp2_with fail)) | go_simp); (refine hK.out _ _ ?_ (fun hHeld => ?_)); (focus ((try dsimp only); (first | done | (first | exact HY.out _ (kept_of T6) | exact HY.out _ (kept_of H3.out) | exact HY.out _ (kept_of HSA.out.drew.drew))))); clear hK K; (try simp only [Act.put, List.setIfInBounds_toArray, List.set_cons_zero, List.set_cons_succ])))
            refine Go.Proofs.YtlpfcnpdecoblaaDoor.plan_done ?_
            have Hrel := Lib.hid (hnx.out w6 p' cap' T6 (Below.trans R3.out R6))
            clear T6 R6 H3 R3 hnx hs3
            go_wp2_with fail
            go_roundg (gk - 1)
            case measure => exact Hmsr.out
            case rel => exact Hrel.out
          · have hqv : q = true := by rw [hq'] at hqq; revert hqq; cases q <;> decide
            clear hqq
            subst hq' hqv
            go_wp2_with fail
            refine Go.Proofs.YtlpfcnpdecoblaaDoor.region_plan (S := (fun w' => w'.cell? ⟨ab, a2 + i * 2, none⟩ = some (.string s) ∧ w'.cell? ⟨ab, a2 + i * 2 + 1, none⟩ = some (.bool true) ∧ w'.cell? ⟨ab, a2 + im * 2 + 1, none⟩ = some (.bool false))) [(0, true), (1, true), (2, true), (3, true), (4, true), (5, true), (6, true), (7, true), (8, true), (9, true), (10, true), (11, true), (12, true), (13, true), (14, true), (15, true), (16, true), (17, true), (18, true), (19, true), (20, true), (21, true), (22, true), (23, true)] (by kernel_rfl) (by kernel_rfl) (by kernel_rfl) ?_ ?_
            · ((try dsimp only); (first | done | (exact ⟨x0, x1, y1⟩)))
            simp only [Go.Proofs.YtlpfcnpdecoblaaDoor.planOps, List.map_cons, List.map_nil, List.getElem?_toArray, List.getElem?_cons_zero, List.getElem?_cons_succ]
            repeat (first
              | ((refine Go.Proofs.YtlpfcnpdecoblaaDoor.plan_yes (v := ?_) (by rfl) ?_ ?_); rotate_left; (focus (intro w hSw; (try dsimp only at hSw); go_simp; try (with_reducible rfl))); (try simp only [Act.put, List.setIfInBounds_toArray, List.set_cons_zero, List.set_cons_succ]))
              | ((refine Go.Proofs.YtlpfcnpdecoblaaDoor.plan_no (by rfl) ?_); (try simp only [Act.put, List.setIfInBounds_toArray, List.set_cons_zero, List.set_cons_succ]))
              | ((refine Go.Proofs.YtlpfcnpdecoblaaDoor.plan_step (fun K hK => ?_)); (first | (fail) | (go_simp; (fail); (try go_wp2_with fail)) | go_simp); (refine hK.out _ _ ?_ (fun hHeld => ?_)); (focus ((try dsimp only); (first | done | (exact ⟨x0, x1, y1⟩)))); clear hK K; (try simp only [Act.put, List.setIfInBounds_toArray, List.set_cons_zero, List.set_cons_succ])))
            refine Go.Proofs.YtlpfcnpdecoblaaDoor.plan_done ?_
            go_wp2_with fail
            refine Go.Proofs.YtlpfcnpdecoblaaDoor.region_plan (S := (fun w' => w'.cell? ⟨ab, a2 + i * 2, none⟩ = some (.string s) ∧ w'.cell? ⟨ab, a2 + i * 2 + 1, none⟩ = some (.bool true))) [(0, true), (1, true), (2, true), (3, true), (4, true), (5, true), (6, true), (7, true), (8, true), (9, true), (10, true), (11, false), (12, false), (13, true)] (by kernel_rfl) (by kernel_rfl) (by kernel_rfl) ?_ ?_
            · ((try dsimp only); (first | done | (first | exact HY.out _ (kept_of T6) | exact HY.out _ (kept_of H3.out) | exact HY.out _ (kept_of HSA.out.drew.drew))))
            simp only [Go.Proofs.YtlpfcnpdecoblaaDoor.planOps, List.map_cons, List.map_nil, List.getElem?_toArray, List.getElem?_cons_zero, List.getElem?_cons_succ]
            repeat (first
              | ((refine Go.Proofs.YtlpfcnpdecoblaaDoor.plan_yes (v := ?_) (by rfl) ?_ ?_); rotate_left; (focus (intro w hSw; (try dsimp only at hSw); go_simp; try (with_reducible rfl))); (try simp only [Act.put, List.setIfInBounds_toArray, List.set_cons_zero, List.set_cons_succ]))
              | ((refine Go.Proofs.YtlpfcnpdecoblaaDoor.plan_no (by rfl) ?_); (try simp only [Act.put, List.setIfInBounds_toArray, List.set_cons_zero, List.set_cons_succ]))
              | ((refine Go.Proofs.YtlpfcnpdecoblaaDoor.plan_step (fun K hK => ?_)); (first | (first | (go_at_call 29; refine (hof.out _).mono ?_; rintro e w3 ⟨p3, c3, rfl, hC3, b3⟩; have H3 := Lib.hid (HSA.out.drew.drew.below b3); have hs3 := Lib.hid (by have := srcCh hC3; rw [HML.out] at this; exact this); have R3 := Lib.hid (Ran.below (Below.drew (Below.drew HRd.out)) b3); clear hC3 b3) | (refine stepCh rfl _ _ rfl p nl cap _ rfl _ rfl s.size _ hs3.out H3.out hlim ?_; intro p' cap' w6 T6 R6)) | (go_simp; (first | (go_at_call 29; refine (hof.out _).mono ?_; rintro e w3 ⟨p3, c3, rfl, hC3, b3⟩; have H3 := Lib.hid (HSA.out.drew.drew.below b3); have hs3 := Lib.hid (by have := srcCh hC3; rw [HML.out] at this; exact this); have R3 := Lib.hid (Ran.below (Below.drew (Below.drew HRd.out)) b3); clear hC3 b3) | (refine stepCh rfl _ _ rfl p nl cap _ rfl _ rfl s.size _ hs3.out H3.out hlim ?_; intro p' cap' w6 T6 R6)); (try go_wp2_with fail)) | go_simp); (refine hK.out _ _ ?_ (fun hHeld => ?_)); (focus ((try dsimp only); (first | done | (first | exact HY.out _ (kept_of T6) | exact HY.out _ (kept_of H3.out) | exact HY.out _ (kept_of HSA.out.drew.drew))))); clear hK K; (try simp only [Act.put, List.setIfInBounds_toArray, List.set_cons_zero, List.set_cons_succ])))
            refine Go.Proofs.YtlpfcnpdecoblaaDoor.plan_done ?_
            have Hrel := Lib.hid (hnx.out w6 p' cap' T6 (Below.trans R3.out R6))
            clear T6 R6 H3 R3 hnx hs3
            go_wp2_with fail
            go_roundg (gk - 1)
            case measure => exact Hmsr.out
            case rel => exact Hrel.out
      · have hge : ¬ ((i : Int) < (n : Int)) := by omega
        have hta : L.take i = L := List.take_of_length_le (by rw [← Hn.out]; omega)
        rw [hta, Hrj.out] at HS
        rw [hta, Hrj.out]
        have hsm := Lib.hid (same_n (l := t) rfl rfl (by have := H1.out; omega) wr p ao cap ca (chA_at HS) (Ht.out.keep ((Kept.below B1.out).trans hK)))
        have B2 := Lib.hid (bt B1.out (HR.whole HS))
        clear HS HR hK hta hig Hig hi R1 Hrt Hrn Hrj Hn
        go_wp2_with fail
        refine hsm.out.mono ?_
        rintro e w3 ⟨rfl, b3⟩
        have B3 := Lib.hid (bt B2.out b3)
        clear b3 hsm
        go_wp2_with fail
        refine (Hpt.out w3 (Kept.below B3.out)).mono ?_
        rintro e w4 ⟨p4, c4, rs, rfl, hLr, hlr, hR4, b4⟩
        have B4 := Lib.hid (bt B3.out b4)
        have R4 := Lib.hid hR4
        have Lr := Lib.hid hLr
        have lr := Lib.hid hlr
        clear b4 hR4 hLr hlr Hpt
        go_wp2_with fail
        go_loopg [6, 9] m (fun (g : Nat) (av iv : Value) (wr : World) => WpRel b P m w4 g av iv wr)
        case atStart => exact ⟨0, none, 0, by omega, rfl, rfl, by show Sat w4 (arr 37 2 none 0 0 [] * keep w4); exact (Sat.start w4).nil_arr _ _, Below.refl 0 w4⟩
        case round =>
          obtain ⟨i, p, cap, hig, rfl, rfl, HS, HR⟩ := hrel
          have hi0 : (0 : Int) ≤ (i : Int) := by omega
          have hK := kept_of HS
          have Hig := Lib.hid hig
          by_cases hi : i < m
          · have hil : (i : Int) < (m : Int) := by omega
            have hir : i < rs.length := by rw [lr.out]; exact hi
            have hiP : i < P.length := by rw [← Hm.out]; exact hi
            obtain ⟨rb, ro, rfl, hc, hch⟩ := R4.out i hir
            have hrP : rs[i].L = P[i] := by
              have h6 : (rs.map Rw.L)[i]? = P[i]? := by rw [Lr.out]
              rw [List.getElem?_map, List.getElem?_eq_getElem hir, List.getElem?_eq_getElem hiP] at h6
              simpa using h6
            have hlt := World.block_lt_of_cell? w4 _ hc
            have htk : P.take (i + 1) = P.take i ++ [P[i]] := List.take_succ_eq_append_getElem hiP
            have hle := accP_le b P (i + 1)
            rw [Hpj.out] at hle
            have hmt := H1.out
            have hfree := Hpf.out P[i] (List.getElem_mem hiP)
            have hel := Hpe.out P[i] (List.getElem_mem hiP)
            obtain ⟨⟨rp, rc, rl⟩, hr⟩ : ∃ r, r = rs[i] := ⟨_, rfl⟩
            rw [← hr] at hc hch hrP
            dsimp only at hrP hch
            unfold rwV at hc
            dsimp only at hc
            obtain ⟨x, hx⟩ : ∃ x, x = P[i] := ⟨_, rfl⟩
            rw [← hx] at hrP htk hfree hel
            subst hrP
            have hfi := fun (w : World) (k : Kept w4 w) => find_calls rl rp rc b w (hch.keep k) (by omega)
            rw [idx_none hfree] at hfi
            obtain ⟨k, hk⟩ : ∃ k, k = rl.length := ⟨_, rfl⟩
            rw [← hk] at hfi hc
            have hfi := Lib.hid hfi
            have hsrc := Lib.hid (fun (w : World) (kk : Kept w4 w) => (show Src Tryd.prog 2 22 (.slice rp k rc) k (chCells rl) w from by rw [hk]; exact srcCh (hch.keep kk)))
            have hcc := Lib.hid (fun (w : World) (kk : Kept w4 w) => (kk.cell hlt _).trans hc)
            have c0 := hcc.out wr hK
            have Hmsr := Lib.hid (show gk - 1 < gk by omega)
            rcases Nat.eq_zero_or_pos i with h0 | h0
            · subst h0
              have hcc := Lib.hid (fun (w : World) (kk : Kept w4 w) => (show w.cell? ⟨rb, ro, none⟩ = some (.slice rp k rc) from hcc.out w kk))
              have c0 : wr.cell? ⟨rb, ro, none⟩ = some (.slice rp k rc) := hcc.out wr hK
              have hacc : accP b (P.take (0 + 1)) = rl := by rw [htk]; show rl ++ [] = rl; rw [List.append_nil]
              have HSA := Lib.hid (show Sat wr (arr 37 2 p 0 cap [] * keep w4) from HS)
              have hnx := Lib.hid (fun (w9 : World) (p' : Option Addr) (cap' : Nat) (T9 : Sat w9 (arr 37 2 p' (0 + k) cap' ([] ++ chCells rl) * keep w4)) (R9 : Ran w4 w9) => (show WpRel b P m w4 (gk - 1) (.slice p' (0 + k) cap') (.int .i64 (((0 : Nat) : Int) + 1)) w9 from by
                have e1 : (accP b (P.take (0 + 1))).length = 0 + k := by rw [hacc, hk, Nat.zero_add]
                refine ⟨0 + 1, p', cap', by omega, rfl, by rw [e1], ?_, R9⟩
                unfold chA
                rw [e1, hacc]
                exact T9))
              have hlim : 0 + k ≤ 1000000000 := by omega
              have HRd := Lib.hid HR
              have hacc0 : (accP b (P.take 0)).length = 0 := rfl
              rw [hacc0]
              clear HS HR hK hacc hacc0 htk hle hmt hfree hel hr hx hc hch hlt hig hk
              go_wp2_with fail
              refine (hfi.out wr (kept_of HSA.out)).mono ?_
              rintro e w5 ⟨rfl, b5⟩
              have HSB := HSA.out.below b5
              have hs5 := Lib.hid (hsrc.out w5 (kept_of HSB))
              have c5 := hcc.out w5 (kept_of HSB)
              have R5 := Lib.hid (Ran.below HRd.out b5)
              clear b5 c0
              go_wp2_with (at_builtin; go_loud (refine appCh rfl _ _ rfl p 0 cap _ rfl _ rfl k _ hs5.out HSB hlim ?_; intro p' cap' w6 T6 R6; clear HSB))
              have Hrel := Lib.hid (hnx.out w6 p' cap' T6 (Below.trans R5.out R6))
              clear T6 R6 R5 hnx
              go_roundg (gk - 1)
              case measure => exact Hmsr.out
              case rel => have := Hrel.out; simpa using this
            · have hi1 : (0 : Int) < (i : Int) := by omega
              have hPne : P.take i ≠ [] := fun e => by
                have := congrArg List.length e
                rw [List.length_take, List.length_nil] at this
                omega
              have hacc := accP_snoc b (P.take i) rl hPne
              rw [← htk] at hacc
              obtain ⟨acc, hA⟩ : ∃ a, a = accP b (P.take i) := ⟨_, rfl⟩
              rw [← hA] at hacc HS
              rw [← hA]
              obtain ⟨nl, hnl⟩ : ∃ n, n = acc.length := ⟨_, rfl⟩
              rw [← hnl]
              rw [hacc, List.length_append, List.length_cons, ← hnl] at hle
              have hlim1 : nl + 1 ≤ 1000000000 := by omega
              have hlim2 : nl + 1 + k ≤ 1000000000 := by omega
              have HSA := Lib.hid (show Sat wr (arr 37 2 p nl cap (chCells acc) * keep w4) by rw [hnl]; exact HS)
              have hnx := Lib.hid (fun (w9 : World) (p' : Option Addr) (cap' : Nat) (T9 : Sat w9 (arr 37 2 p' (nl + 1 + k) cap' ((chCells acc ++ [.int .u8 b.toNat, .bool false]) ++ chCells rl) * keep w4)) (R9 : Ran w4 w9) => (show WpRel b P m w4 (gk - 1) (.slice p' (nl + 1 + k) cap') (.int .i64 ((i : Int) + 1)) w9 from by
                have e1 : (accP b (P.take (i + 1))).length = nl + 1 + k := by rw [hacc, List.length_append, List.length_cons, hnl, hk]; omega
                refine ⟨i + 1, p', cap', by omega, rfl, by rw [e1], ?_, R9⟩
                unfold chA
                rw [e1, hacc, show acc ++ (⟨b, false⟩ : Ch) :: rl = (acc ++ [⟨b, false⟩]) ++ rl by simp, chCells_join, chCells_snoc]
                exact T9))
              have HRd := Lib.hid HR
              obtain ⟨xs, hxs⟩ : ∃ xs, xs = chCells acc := ⟨_, rfl⟩
              rw [← hxs] at HSA hnx
              clear HS HR hK hacc htk hle hmt hfree hel hr hx hc hch hlt hig hk hA hnl hPne hxs
              go_wp2_with fail
              refine (hfi.out wr (kept_of HSA.out)).mono ?_
              rintro e w5 ⟨rfl, b5⟩
              have HSB := (HSA.out.below b5).old (.cells #[.int .u8 b.toNat, .bool false] 37 (0, 0))
              have hs5 := Lib.hid (src1 (w := w5.alloc (.cells #[.int .u8 b.toNat, .bool false] 37 (0, 0))) (c := ⟨b, false⟩) (block_new rfl))
              have R5 := Lib.hid (Ran.new (Ran.below HRd.out b5) (.cells #[.int .u8 b.toNat, .bool false] 37 (0, 0)))
              clear b5 c0
              go_wp2_with (at_builtin; go_loud (first | (refine appCh rfl _ _ rfl p nl cap _ rfl _ rfl 1 _ hs5.out HSB hlim1 ?_; intro p6 cap6 w6 T6 R6; have H6 := Lib.hid T6; have R7 := Lib.hid (Below.trans R5.out R6); have c6 := hcc.out w6 (kept_of T6); have hs6 := Lib.hid (hsrc.out w6 (kept_of T6)); clear HSB T6 R6 hs5) | (refine appCh rfl _ _ rfl p6 (nl + 1) cap6 _ rfl _ rfl k _ hs6.out H6.out hlim2 ?_; intro p' cap' w7 T7 R8)))
              have Hrel := Lib.hid (hnx.out w7 p' cap' T7 (Below.trans R7.out R8))
              clear T7 R8 R5 R7 hnx H6 hs6
              go_roundg (gk - 1)
              case measure => exact Hmsr.out
              case rel => exact Hrel.out
          · have hge : ¬ ((i : Int) < (m : Int)) := by omega
            have hta : P.take i = P := List.take_of_length_le (by rw [← Hm.out]; omega)
            rw [hta, Hpj.out] at HS
            rw [hta, Hpj.out]
            have hsm := Lib.hid (same_n (l := t) rfl rfl (by have := H1.out; omega) wr p ao cap ca (chA_at HS) (Ht.out.keep ((Kept.below B4.out).trans hK)))
            have B5 := Lib.hid (bt B4.out (HR.whole HS))
            clear HS HR hK hta hig Hig hi R4 Hpf Hpe Hpj Hm
            go_wp2_with fail
            refine hsm.out.mono ?_
            rintro e w6 ⟨rfl, b6⟩
            have B6 := Lib.hid (bt B5.out b6)
            clear b6 hsm
            go_wp2_with fail
            refine (awake_calls w6).mono ?_
            rintro e w7 ⟨rfl, b7⟩
            go_wp2_with fail
            go_ret
            exact ⟨rfl, bt B6.out b7⟩
  · have h1' : (1000 : Int) < (t.length : Int) := by omega
    clear ht
    go_enter Tryd.func8, Tryd.ntmps8
    go_wp2_with fail
    refine (awake_calls W).mono ?_
    rintro e w9 ⟨rfl, b9⟩
    go_wp2_with fail
    go_ret
    exact ⟨rfl, b9⟩

set_option maxRecDepth 100000 in
theorem lifted (os : Os) (started : os.Started) (H : Type) (enc : TypeId × Value → H) :
    ReturnsInHanded {} Tryd.checked os 8 .any (fun w args => (Rows.marksWholeSpec.pre enc Tryd.prog Tryd.f8 Rows.marksWholeRow.domain false w args ∧ laidMetH Tryd.prog Rows.marksWholeRow.laid w) ∧ sizedMet enc Tryd.prog Tryd.f8 (OpenSpec.ofChange Rows.marksWholeSpec) false w args) (Rows.marksWholeSpec.post enc Tryd.prog Tryd.f8 false true false false) := by
  refine returnsInHanded_of_change_and (C := Tryd.checked) (X := fun w _ => laidMetH Tryd.prog Rows.marksWholeRow.laid w) (fun _ _ _ hh h => h.of_heap hh) own started (by kernel_rfl) Tryd.func8
    (ChangeSpec.witness_shaped (enc := enc) (C := Tryd.checked) (os := os) (X := fun w _ => laidMetH Tryd.prog Rows.marksWholeRow.laid w) false (World.laidAll Tryd.prog os Rows.marksWholeRow.laid) #[.slice none 0 0, .int .u8 0] 8 (World.laidAll_os _ _ _)
      (World.shaped_of_ZipB (by kernel_rfl) (by kernel_rfl)) (by kernel_rfl) (by kernel_rfl) (by kernel_rfl)
      (by rw [MakeChecks.laidMetH_plain _ _ _ (by kernel_rfl)]; exact laidMet_laidAll _ (by kernel_rfl) (by kernel_rfl))) ?_
  intro W base args ds gs before hval0 hW hcnd _ hL _
  have hval : ∀ (j : Nat) t v, Tryd.f8.params[j]? = some t → args[j]? = some v → Value.okWide Tryd.prog W .any base t v := hval0
  have hW' := hW
  obtain ⟨p, q, hA0, hV, rfl, hfz, hnd⟩ := hW
  have hA : DataW.TrodAll enc Tryd.prog W 0 (fun _ => true) true Tryd.f8.params.toList args.toList ds p := hA0
  rw [Tryd.params8] at hA hval
  obtain ⟨v0, vs0, d0, ds0, p0, q0, hargs, rfl, rfl, h0, r0⟩ := trodAll_cons hA
  obtain ⟨v1, vs1, d1, ds1, p1, q1, rfl, rfl, rfl, h1, r1⟩ := trodAll_cons r0
  obtain ⟨rfl, rfl, rfl⟩ := trodAll_nil r1
  obtain rfl : args = #[v0, v1] := by cases args; simp_all
  obtain ⟨rfl, rfl⟩ := trodVars_none hV
  have k0 := h0
  have lt0 : ∀ x ∈ p0, x.block < W.heap.size := by obtain ⟨m, hm⟩ := k0; exact DataW.trod_lt m _ _ _ hm
  obtain ⟨ao0, l0, cap0, rfl, w0⟩ := chars_open (hval 0 22 v0 rfl rfl) h0
  obtain ⟨a1, rfl, rfl, rfl, w1⟩ := open_int Tryd.underlying5 (hval 1 5 v1 rfl rfl) h1
  obtain ⟨c1, rfl⟩ := u8_of w1
  clear hA0 hval0
  refine (walk ao0 cap0 l0 c1 W w0 ).mono fun e W' ⟨he, bel⟩ => ?_
  subst he
  exact ⟨_, rfl, _, _, _, [], _, [], hW', trodAll_mk1 (shut_bool Tryd.underlying4 _), (trodAll_cons_mk (Below.trod laidOut (by kernel_rfl) (of_decide_eq_true (by kernel_rfl)) k0 bel lt0) (trodAll_cons_mk (shut_int Tryd.underlying5 w1) trodAll_mk0)), rfl, bel.frame _, fun h => by cases h⟩

theorem over : Rows.marksWholeRow.holds Tryd.pinned (OpenSpec.ofChange Rows.marksWholeSpec) :=
  OpenClaim.holds_of_wide 8 Tryd.f8 rfl rfl rfl rfl rfl rfl rfl ⟨rfl, rfl, rfl, rfl, rfl⟩ rfl rfl rfl rfl rfl (by kernel_rfl) Tryd.func8 (by kernel_rfl)
    (of_decide_eq_true (by kernel_rfl)) (by unfold Func.isWrapper; first | (rw [if_pos (by decide +kernel)]; kernel_rfl) | (rw [if_neg (by decide +kernel)]; exact ⟨rfl, rfl⟩))
    (fun os started H enc _ => lifted os started H enc)

theorem proved : Rows.MarksWholeCardSaid :=
  Claim7.holds_tied_plain_at .later [] [.data, .pinned] true (true, "f482e89116bc99bf43e4e1caee790152a011ea106b481086dbda4c4ef674d186") false over (fun _ h => by cases h) (by kernel_rfl) (fun _ h => by cases h) marksWhole_row_tie rfl ⟨rfl, rfl⟩ (by kernel_rfl) rfl
    (fun f fn hf hfn => by
      obtain rfl : f = 8 := Option.some.inj ((show Tryd.prog.funcNamed "whelk/whelklaw01.MarksWhole" = some 8 by kernel_rfl).symm.trans hf) |>.symm
      obtain rfl : fn = Tryd.f8 := (Option.some.inj (Tryd.func8.symm.trans hfn)).symm
      exact ⟨by kernel_rfl, fun j t ht => by
        rw [Tryd.params8] at ht
        have hm : t ∈ [22, 5] := by simpa using Array.mem_of_getElem? ht
        have hall : ([22, 5].all fun u => !Tryd.prog.wantsStandIn u) = true := by kernel_rfl
        exact (show Tryd.prog.wantsStandIn t = false by simpa using List.all_eq_true.1 hall t hm)⟩)
    (by kernel_rfl)
#print axioms proved
end Go.Proofs.YtlpfcnpdecoblaaDoor.marksWhole
