/- HandlesPlays, part 18 of 34: the texts HdIv HdIw, joined by a program. -/
import Derived.Test.YtljlpkeddbfpaaaGreatDoorHm17
import Derived.Test.YtljlpkeddbfpaaaGreatDoorHm15
namespace Go.Proofs.YtljlpkeddbfpaaaGreatDoor.Hd
open Go.RowKit Go.Maps Go.Proofs.YtljlpkeddbfpaaaGreatDoor Go.Proofs.YtljlpkeddbfpaaaGreatDoor.Hp
set_option linter.unusedVariables false

section
variable {α : Type}
theorem keys_upd : ∀ (L : List (Int × α)) (k : Int) (x : α), (updA L k x).map Prod.fst = L.map Prod.fst
  | [], _, _ => rfl
  | p :: L, k, x => by
    unfold updA
    by_cases e : p.1 = k
    · rw [if_pos e, List.map_cons, List.map_cons, ← e]
    · rw [if_neg e, List.map_cons, List.map_cons, keys_upd L k x]
theorem del_sub : ∀ (L : List (Int × α)) (k : Int), (delA L k).Sublist L
  | [], _ => List.Sublist.refl _
  | p :: L, k => by
    unfold delA
    by_cases e : p.1 = k
    · rw [if_pos e]; exact List.sublist_cons_self p L
    · rw [if_neg e]; exact (del_sub L k).cons_cons p
theorem nodup_del {L : List (Int × α)} (h : (L.map Prod.fst).Nodup) (k : Int) : ((delA L k).map Prod.fst).Nodup := h.sublist ((del_sub L k).map _)
theorem nodup_upd {L : List (Int × α)} (h : (L.map Prod.fst).Nodup) (k : Int) (x : α) : ((updA L k x).map Prod.fst).Nodup := by rw [keys_upd]; exact h
theorem find_of_mem : ∀ (L : List (Int × α)) (k : Int), k ∈ L.map Prod.fst → (findA L k).isSome = true
  | [], k, h => by cases h
  | p :: L, k, h => by
    unfold findA
    by_cases e : p.1 = k
    · rw [if_pos e]; rfl
    · rw [if_neg e]
      rw [List.map_cons, List.mem_cons] at h
      exact find_of_mem L k (h.resolve_left fun h => e h.symm)
theorem nodup_cons {L : List (Int × α)} (h : (L.map Prod.fst).Nodup) {k : Int} (x : α) (hk : findA L k = none) : (((k, x) :: L).map Prod.fst).Nodup := by
  rw [List.map_cons, List.nodup_cons]
  exact ⟨fun hm => (by have := find_of_mem L k hm; rw [hk] at this; cases this), h⟩
theorem sumA_le (f : α → Nat) (b : Nat) (h : ∀ x, f x ≤ b) : ∀ L : List (Int × α), sumA f L ≤ b * L.length
  | [] => Nat.zero_le _
  | p :: L => by
    have h1 := sumA_le f b h L
    have h2 := h p.2
    show f p.2 + sumA f L ≤ b * (L.length + 1)
    rw [Nat.mul_add]; omega
theorem sumA_congr (f g : α → Nat) : ∀ L : List (Int × α), (∀ k x, (k, x) ∈ L → f x = g x) → sumA f L = sumA g L
  | [], _ => rfl
  | p :: L, h => by
    show f p.2 + sumA f L = g p.2 + sumA g L
    rw [h p.1 p.2 List.mem_cons_self, sumA_congr f g L fun k x hm => h k x (List.mem_cons_of_mem _ hm)]
end
theorem read_le (t : ByteArray) (a q : Nat) : a + (readB t a q).size ≤ max a t.size := by
  unfold readB
  rw [ByteArray.size_extract, ByteArray.size_extract]
  omega
theorem zeros_size (n : Nat) : (zerosB n).size = n := by
  unfold zerosB
  show (Lib.repeatL [0] n).toArray.size = n
  rw [List.size_toArray]
  induction n with
  | zero => rfl
  | succ n ih => simpa [Lib.repeatL] using ih
theorem wr_size (t : ByteArray) (a : Nat) (d : ByteArray) : (wrB t a d).size = max t.size (a + d.size) := by
  unfold wrB
  rw [ByteArray.size_append, ByteArray.size_append, ByteArray.size_append, ByteArray.size_extract, ByteArray.size_extract, zeros_size]
  omega
theorem cF_le (k : Int) (x : Hn) : cF k x ≤ 1 := by
  unfold cF
  split
  · split <;> omega
  · omega
section
variable {F : Fs} {k : Int} {x : Nd}
theorem TreeOk.put (h : TreeOk F) (hx : find F.L k = some x) (x' : Nd) (u : Int) (hk : x'.kind = x.kind) (hkd : x'.kids = x.kids) (hnm : x'.names = x.names) (hh : 0 ≤ x'.holds ∧ x'.holds ≤ 1000000) (ht : x'.text.size ≤ 4096) (hu : 0 ≤ u ∧ u ≤ 60) : TreeOk { F.put k x' with used := u } := by
  have hs : (find F.L k).isSome = true := by rw [hx]; rfl
  have hf : ∀ j, find ({ F.put k x' with used := u } : Fs).L j = if j = k then some x' else find F.L j := fun j => find_put F k j x' hs
  have hno := h.ok k x hx
  refine ⟨?_, fun j => ?_, fun j y hy => ?_, fun j y hy => ?_, fun j y hy => ?_, h.room, hu, fun j y hy => ?_⟩
  · intro j y hy
    rw [hf] at hy
    split at hy
    · injection hy with hy; subst hy
      exact ⟨by omega, by rw [hkd]; exact hno.kids, hh, by rw [hnm]; exact hno.names⟩
    · exact h.ok j y hy
  · rw [hf]
    split
    · rename_i e; subst e
      rw [← h.only, hx]; simp
    · exact h.only j
  · rw [hf] at hy
    split at hy
    · rename_i e; subst e; injection hy with hy; subst hy
      rw [hk]; exact h.files _ x hx
    · exact h.files j y hy
  · rw [hf] at hy
    split at hy
    · injection hy with hy; subst hy
      rw [hk, hkd, hnm]; exact h.kids k x hx
    · exact h.kids j y hy
  · rw [hf] at hy
    split at hy
    · injection hy with hy; subst hy
      rw [hk]; exact h.kinds k x hx
    · exact h.kinds j y hy
  · rw [hf] at hy
    split at hy
    · injection hy with hy; subst hy; exact ht
    · exact h.text j y hy
theorem tree_hold (h : TreeOk F) (hx : find F.L k = some x) (hb : 0 ≤ x.holds ∧ x.holds ≤ 900000) : TreeOk (holdP F k) ∧ ∀ j y, find (holdP F k).L j = some y → ∃ z, find F.L j = some z ∧ y.holds = z.holds + (if k = j then 1 else 0) := by
  rw [holdP_eq hx]
  refine ⟨h.put hx { x with holds := x.holds + 1 } F.used rfl rfl rfl ⟨by show 0 ≤ x.holds + 1; omega, by show x.holds + 1 ≤ 1000000; omega⟩ (h.text k x hx) h.used, fun j y hy => ?_⟩
  rw [find_put F k j _ (by rw [hx]; rfl)] at hy
  split at hy
  · rename_i e; subst e; injection hy with hy; subst hy
    exact ⟨x, hx, by rw [if_pos rfl]⟩
  · rename_i e
    exact ⟨y, hy, by rw [if_neg (fun h => e h.symm)]; omega⟩
theorem tree_drop (h : TreeOk F) (hx : find F.L k = some x) (hb : 1 ≤ x.holds ∧ x.holds ≤ 900000) : TreeOk (dropP F k) ∧ ∀ j y, find (dropP F k).L j = some y → ∃ z, find F.L j = some z ∧ y.holds = z.holds - (if k = j then 1 else 0) := by
  rw [dropP_eq hx (by omega)]
  refine ⟨h.put hx { x with holds := x.holds - 1 } F.used rfl rfl rfl ⟨by show 0 ≤ x.holds - 1; omega, by show x.holds - 1 ≤ 1000000; omega⟩ (h.text k x hx) h.used, fun j y hy => ?_⟩
  rw [find_put F k j _ (by rw [hx]; rfl)] at hy
  split at hy
  · rename_i e; subst e; injection hy with hy; subst hy
    exact ⟨x, hx, by rw [if_pos rfl]⟩
  · rename_i e
    exact ⟨y, hy, by rw [if_neg (fun h => e h.symm)]; omega⟩
theorem tree_write (h : TreeOk F) (hx : find F.L k = some x) (a : Nat) (d : ByteArray) : TreeOk (writeP F k x a d).2 ∧ (∀ j y, find (writeP F k x a d).2.L j = some y → ∃ z, find F.L j = some z ∧ y.holds = z.holds) ∧ ((writeP F k x a d).1 = 0 → a + d.size ≤ 4096) := by
  have same : ∀ j y, find F.L j = some y → ∃ z, find F.L j = some z ∧ y.holds = z.holds := fun j y hy => ⟨y, hy, rfl⟩
  unfold writeP
  by_cases h1 : 4096 < a ∨ 4096 - a < d.size
  · rw [if_pos h1]; exact ⟨h, same, fun e => by cases e⟩
  · rw [if_neg h1]
    by_cases h2 : d.size = 0
    · rw [if_pos h2]; exact ⟨h, same, fun _ => by omega⟩
    · rw [if_neg h2]
      by_cases h3 : F.room - F.used < (moreB x.text a d : Int)
      · rw [if_pos h3]; exact ⟨h, same, fun e => by cases e⟩
      · rw [if_neg h3]
        have hu := h.used
        have hr := h.room
        have ht := h.text k x hx
        have hno := h.ok k x hx
        refine ⟨h.put hx { x with text := wrB x.text a d } _ rfl rfl rfl hno.holds ?_ ⟨by omega, by omega⟩, fun j y hy => ?_, fun _ => by omega⟩
        · show (wrB x.text a d).size ≤ 4096
          rw [wr_size]; omega
        · have hf : find (F.put k { x with text := wrB x.text a d }).L j = some y := hy
          rw [find_put F k j _ (by rw [hx]; rfl)] at hf
          split at hf
          · rename_i e; subst e; injection hf with hf; subst hf
            exact ⟨x, hx, rfl⟩
          · exact ⟨y, hf, rfl⟩
end
section
variable {s : Sg} {N : Nat}
theorem Inv.more (h : Inv N s) : Inv (N + 1) s where
  tree := h.tree
  nd := h.nd
  ids k x hx := by have := h.ids k x hx; omega
  refs k x hx := by have := h.refs k x hx; omega
  th := h.th
  oneR := h.oneR
  oneW := h.oneW
  nR := h.nR
  nW := h.nW
  pnd := h.pnd
  pk := h.pk
  holds := h.holds
  lenL := (by have := h.lenL; omega)
  lenN := by have := h.lenN; omega
  lenP := by have := h.lenP; omega
  held := h.held
  tot := by have := h.tot; omega
theorem Inv.upd (h : Inv N s) {k : Int} {y y' : Hn} (hy : findA s.L k = some y) (hr : 1 ≤ y'.refs ∧ y'.refs ≤ (N : Int) + 2) (hth : ThOk s.P y') (F' : Fs) (hT : TreeOk F') (hF : ∀ j z, find F'.L j = some z → ∃ u, find s.F.L j = some u ∧ z.holds = u.holds)
    (h1 : ∀ j, cF j y' = cF j y) (h2 : cR y' = cR y) (h3 : cW y' = cW y) (hR : ∀ bb e, y'.t = .reader bb e → y.t = .reader bb e) (hW : ∀ bb e, y'.t = .writer bb e → y.t = .writer bb e) : Inv (N + 1) { s with F := F', L := updA s.L k y' } := by
  have hs : (findA s.L k).isSome = true := by rw [hy]; rfl
  have hf : ∀ j, findA (updA s.L k y') j = if j = k then some y' else findA s.L j := fun j => findA_upd s.L k j y' hs
  have sm : ∀ f : Hn → Nat, f y' = f y → sumA f (updA s.L k y') = sumA f s.L := fun f e => by rw [sumA_upd f s.L k y y' hy, sumA_get f s.L k y hy, e]
  have old : ∀ j x, findA (updA s.L k y') j = some x → ∃ z, findA s.L j = some z ∧ (∀ bb e, x.t = .reader bb e → z.t = .reader bb e) ∧ (∀ bb e, x.t = .writer bb e → z.t = .writer bb e) := fun j x hx => by
    rw [hf] at hx
    split at hx
    · rename_i e; subst e; injection hx with hx; subst hx
      exact ⟨y, hy, hR, hW⟩
    · exact ⟨x, hx, fun _ _ e => e, fun _ _ e => e⟩
  have hm := h.more
  refine { tree := hT, nd := nodup_upd h.nd k y', ids := fun j x hx => ?_, refs := fun j x hx => ?_, th := fun j x hx => ?_, oneR := fun i j x z bb e1 e2 hi hj hx hz => ?_, oneW := fun i j x z bb e1 e2 hi hj hx hz => ?_,
           nR := (by show sumA cR (updA s.L k y') = _; rw [sm cR h2]; exact h.nR), nW := (by show sumA cW (updA s.L k y') = _; rw [sm cW h3]; exact h.nW), pnd := h.pnd, pk := h.pk, holds := fun j x hx => ?_,
           lenL := (by show (updA s.L k y').length ≤ _; rw [updA_len]; exact hm.lenL), lenN := hm.lenN, lenP := hm.lenP, held := h.held, tot := hm.tot }
  · obtain ⟨z, hz, _⟩ := old j x hx
    exact hm.ids j z hz
  · have hx' : findA (updA s.L k y') j = some x := hx
    rw [hf] at hx'
    split at hx'
    · injection hx' with hx'; subst hx'; exact ⟨hr.1, by omega⟩
    · exact hm.refs j x hx'
  · have hx' : findA (updA s.L k y') j = some x := hx
    rw [hf] at hx'
    split at hx'
    · injection hx' with hx'; subst hx'; exact hth
    · exact h.th j x hx'
  · obtain ⟨u, hu, p1, _⟩ := old i x hi
    obtain ⟨v, hv, p2, _⟩ := old j z hj
    exact h.oneR i j u v bb e1 e2 hu hv (p1 _ _ hx) (p2 _ _ hz)
  · obtain ⟨u, hu, _, p1⟩ := old i x hi
    obtain ⟨v, hv, _, p2⟩ := old j z hj
    exact h.oneW i j u v bb e1 e2 hu hv (p1 _ _ hx) (p2 _ _ hz)
  · obtain ⟨u, hu, he⟩ := hF j x hx
    show x.holds = (sumA (cF j) (updA s.L k y') : Int)
    rw [sm (cF j) (h1 j), he]
    exact h.holds j u hu
theorem Inv.cons (h : Inv N s) {g : Nat} (hg : Free s.L g) {y' : Hn} (hr : y'.refs = 1) (hth : ThOk s.P y') (F' : Fs) (hT : TreeOk F') (hF : ∀ j z, find F'.L j = some z → ∃ u, find s.F.L j = some u ∧ z.holds = u.holds + (cF j y' : Int))
    (h2 : cR y' = 0) (h3 : cW y' = 0) (hR : ∀ bb e, y'.t ≠ .reader bb e) (hW : ∀ bb e, y'.t ≠ .writer bb e) : Inv (N + 1) { s with F := F', L := ((g : Int), y') :: s.L, n := s.n + 1 } := by
  have hf : ∀ j, findA (((g : Int), y') :: s.L) j = if j = (g : Int) then some y' else findA s.L j := fun j => findA_cons s.L g j y'
  have hm := h.more
  have hl := h.lenL
  have hgl := hg.le
  have hgp := hg.pos
  refine { tree := hT, nd := nodup_cons h.nd y' hg.none, ids := fun j x hx => ?_, refs := fun j x hx => ?_, th := fun j x hx => ?_, oneR := fun i j x z bb e1 e2 hi hj hx hz => ?_, oneW := fun i j x z bb e1 e2 hi hj hx hz => ?_,
           nR := (by show cR y' + sumA cR s.L = _; rw [h2, Nat.zero_add]; exact h.nR), nW := (by show cW y' + sumA cW s.L = _; rw [h3, Nat.zero_add]; exact h.nW), pnd := h.pnd, pk := h.pk, holds := fun j x hx => ?_,
           lenL := (by show s.L.length + 1 ≤ _; omega), lenN := (by have := h.lenN; show s.n + 1 ≤ _; omega), lenP := hm.lenP, held := h.held, tot := hm.tot }
  · have hx' : findA (((g : Int), y') :: s.L) j = some x := hx
    rw [hf] at hx'
    split at hx'
    · omega
    · exact hm.ids j x hx'
  · have hx' : findA (((g : Int), y') :: s.L) j = some x := hx
    rw [hf] at hx'
    split at hx'
    · injection hx' with hx'; subst hx'; omega
    · exact hm.refs j x hx'
  · have hx' : findA (((g : Int), y') :: s.L) j = some x := hx
    rw [hf] at hx'
    split at hx'
    · injection hx' with hx'; subst hx'; exact hth
    · exact h.th j x hx'
  · have hi' : findA (((g : Int), y') :: s.L) i = some x := hi
    have hj' : findA (((g : Int), y') :: s.L) j = some z := hj
    rw [hf] at hi' hj'
    split at hi'
    · injection hi' with hi'; subst hi'; exact absurd hx (hR _ _)
    · split at hj'
      · injection hj' with hj'; subst hj'; exact absurd hz (hR _ _)
      · exact h.oneR i j x z bb e1 e2 hi' hj' hx hz
  · have hi' : findA (((g : Int), y') :: s.L) i = some x := hi
    have hj' : findA (((g : Int), y') :: s.L) j = some z := hj
    rw [hf] at hi' hj'
    split at hi'
    · injection hi' with hi'; subst hi'; exact absurd hx (hW _ _)
    · split at hj'
      · injection hj' with hj'; subst hj'; exact absurd hz (hW _ _)
      · exact h.oneW i j x z bb e1 e2 hi' hj' hx hz
  · obtain ⟨u, hu, he⟩ := hF j x hx
    have := h.holds j u hu
    show x.holds = ((cF j y' + sumA (cF j) s.L : Nat) : Int)
    omega
theorem Inv.del (h : Inv N s) {id : Int} {y : Hn} (hy : findA s.L id = some y) (F' : Fs) (P' : PL) (hT : TreeOk F') (hF : ∀ j z, find F'.L j = some z → ∃ u, find s.F.L j = some u ∧ z.holds = u.holds - (cF j y : Int))
    (hth : ∀ k x, findA s.L k = some x → k ≠ id → ThOk P' x) (nR : sumA cR (delA s.L id) = sumA (fun p : Pp => p.rd.toNat) P') (nW : sumA cW (delA s.L id) = sumA (fun p : Pp => p.wr.toNat) P') (pnd : (P'.map Prod.fst).Nodup)
    (pk : ∀ k p, findA P' k = some p → k = (p.bb : Int) ∧ (p.rd = true ∨ p.wr = true) ∧ p.frm + p.data.length ≤ s.tot) (lenP : P'.length ≤ N) (held : sumA Pp.len P' ≤ 40) : Inv (N + 1) { s with F := F', L := delA s.L id, P := P' } := by
  have hf : ∀ j, findA (delA s.L id) j = if j = id then none else findA s.L j := fun j => findA_del s.L id j h.nd
  have old : ∀ j x, findA (delA s.L id) j = some x → findA s.L j = some x ∧ j ≠ id := fun j x hx => by
    rw [hf] at hx
    split at hx
    · cases hx
    · rename_i e; exact ⟨hx, e⟩
  have hm := h.more
  have hdl := delA_len s.L id (by rw [hy]; rfl)
  refine { tree := hT, nd := nodup_del h.nd id, ids := fun j x hx => hm.ids j x (old j x hx).1, refs := fun j x hx => hm.refs j x (old j x hx).1, th := fun j x hx => hth j x (old j x hx).1 (old j x hx).2,
           oneR := fun i j x z bb e1 e2 hi hj hx hz => h.oneR i j x z bb e1 e2 (old i x hi).1 (old j z hj).1 hx hz, oneW := fun i j x z bb e1 e2 hi hj hx hz => h.oneW i j x z bb e1 e2 (old i x hi).1 (old j z hj).1 hx hz,
           nR := nR, nW := nW, pnd := pnd, pk := pk, holds := fun j x hx => ?_, lenL := (by have := h.lenL; show (delA s.L id).length ≤ _; omega), lenN := hm.lenN, lenP := (by show P'.length ≤ _; omega), held := held, tot := hm.tot }
  obtain ⟨u, hu, he⟩ := hF j x hx
  have h1 := h.holds j u hu
  have h2 := sumA_get (cF j) s.L id y hy
  show x.holds = (sumA (cF j) (delA s.L id) : Int)
  omega
theorem Inv.pupd (h : Inv N s) {bb : Int} {p p' : Pp} (hp : findA s.P bb = some p) (e1 : p'.bb = p.bb) (e2 : p'.eb = p.eb) (e3 : p'.rd = p.rd) (e4 : p'.wr = p.wr) (t : Nat) (ht : s.tot ≤ t) (ht2 : t ≤ 100 * (N + 1)) (hl : p'.frm + p'.data.length ≤ t)
    (hh : sumA Pp.len (updA s.P bb p') ≤ 40) : Inv (N + 1) { s with P := updA s.P bb p', tot := t } := by
  have hs : (findA s.P bb).isSome = true := by rw [hp]; rfl
  have hf : ∀ j, findA (updA s.P bb p') j = if j = bb then some p' else findA s.P j := fun j => findA_upd s.P bb j p' hs
  have sm : ∀ f : Pp → Nat, f p' = f p → sumA f (updA s.P bb p') = sumA f s.P := fun f e => by rw [sumA_upd f s.P bb p p' hp, sumA_get f s.P bb p hp, e]
  have hm := h.more
  have fwd : ∀ j q, findA s.P j = some q → ∃ q', findA (updA s.P bb p') j = some q' ∧ q'.eb = q.eb ∧ q'.rd = q.rd ∧ q'.wr = q.wr := fun j q hq => by
    rw [hf]
    split
    · rename_i e; subst e; rw [hp] at hq; injection hq with hq; subst hq
      exact ⟨p', rfl, e2, e3, e4⟩
    · exact ⟨q, hq, rfl, rfl, rfl⟩
  refine { tree := h.tree, nd := h.nd, ids := hm.ids, refs := hm.refs, th := fun j x hx => ?_, oneR := h.oneR, oneW := h.oneW, nR := ?_, nW := ?_, pnd := nodup_upd h.pnd bb p', pk := fun j q hq => ?_, holds := h.holds, lenL := hm.lenL, lenN := hm.lenN,
           lenP := (by show (updA s.P bb p').length ≤ _; rw [updA_len]; exact hm.lenP), held := hh, tot := ht2 }
  · have h0 := h.th j x hx
    show ThOk (updA s.P bb p') x
    unfold ThOk at h0 ⊢
    split at h0
    · exact h0
    · exact h0
    · exact h0
    · obtain ⟨q, hq, a, b⟩ := h0
      obtain ⟨q', hq', a', b', _⟩ := fwd _ q hq
      exact ⟨q', hq', by rw [a', a], by rw [b', b]⟩
    · obtain ⟨q, hq, a, b⟩ := h0
      obtain ⟨q', hq', a', _, b'⟩ := fwd _ q hq
      exact ⟨q', hq', by rw [a', a], by rw [b', b]⟩
  · show _ = sumA (fun p : Pp => p.rd.toNat) (updA s.P bb p')
    rw [sm _ (by rw [e3])]; exact h.nR
  · show _ = sumA (fun p : Pp => p.wr.toNat) (updA s.P bb p')
    rw [sm _ (by rw [e4])]; exact h.nW
  · have hq' : findA (updA s.P bb p') j = some q := hq
    rw [hf] at hq'
    split at hq'
    · rename_i e; subst e; injection hq' with hq'; subst hq'
      obtain ⟨a, b, _⟩ := h.pk _ p hp
      exact ⟨by rw [e1]; exact a, by rw [e3, e4]; exact b, hl⟩
    · obtain ⟨a, b, d⟩ := h.pk j q hq'
      exact ⟨a, b, Nat.le_trans d ht⟩
end
end Go.Proofs.YtljlpkeddbfpaaaGreatDoor.Hd

namespace Go.Proofs.YtljlpkeddbfpaaaGreatDoor.Hd
open Go.RowKit Go.Maps Go.Proofs.YtljlpkeddbfpaaaGreatDoor Go.Proofs.YtljlpkeddbfpaaaGreatDoor.Hp
set_option linter.unusedVariables false

section
variable {s : Sg} {N : Nat}
theorem same_holds (F : Fs) : ∀ j z, find F.L j = some z → ∃ u, find F.L j = some u ∧ z.holds = u.holds := fun j z h => ⟨z, h, rfl⟩
theorem same_cons (F : Fs) {y : Hn} (h : ∀ j, cF j y = 0) : ∀ j z, find F.L j = some z → ∃ u, find F.L j = some u ∧ z.holds = u.holds + (cF j y : Int) := fun j z hz => ⟨z, hz, by rw [h j]; simp⟩
theorem same_del (F : Fs) {y : Hn} (h : ∀ j, cF j y = 0) : ∀ j z, find F.L j = some z → ∃ u, find F.L j = some u ∧ z.holds = u.holds - (cF j y : Int) := fun j z hz => ⟨z, hz, by rw [h j]; simp⟩
theorem Inv.hb (h : Inv N s) (hN : N ≤ 100) {k : Int} {x : Nd} (hx : find s.F.L k = some x) : 0 ≤ x.holds ∧ x.holds ≤ 900000 := by
  have h1 := h.holds k x hx
  have h2 := sumA_le (cF k) 1 (cF_le k) s.L
  have h3 := h.lenL
  omega
theorem Inv.step_pipe (h : Inv N s) {g1 g2 h1 x1 h2 x2 bb eb : Nat} (hg1 : Free s.L g1) (hg2 : ∀ y, Free (((g1 : Int), y) :: s.L) g2) (hp : findA s.P (bb : Int) = none) :
    Inv (N + 1) { s with L := ((g2 : Int), (⟨h2, 1, x2, .writer bb eb⟩ : Hn)) :: ((g1 : Int), (⟨h1, 1, x1, .reader bb eb⟩ : Hn)) :: s.L, n := s.n + 2, P := ((bb : Int), (⟨bb, eb, 0, [], true, true⟩ : Pp)) :: s.P } := by
  obtain ⟨rN, hrN⟩ : ∃ r : Hn, r = ⟨h1, 1, x1, .reader bb eb⟩ := ⟨_, rfl⟩
  obtain ⟨wN, hwN⟩ : ∃ r : Hn, r = ⟨h2, 1, x2, .writer bb eb⟩ := ⟨_, rfl⟩
  obtain ⟨pN, hpN⟩ : ∃ p : Pp, p = ⟨bb, eb, 0, [], true, true⟩ := ⟨_, rfl⟩
  rw [← hrN, ← hwN, ← hpN]
  have hm := h.more
  have hl := h.lenL
  have b1 := hg1.le
  have b1' := hg1.pos
  have b2 := (hg2 rN).le
  have b2' := (hg2 rN).pos
  simp only [List.length_cons] at b2
  have hf : ∀ j, findA (((g2 : Int), wN) :: ((g1 : Int), rN) :: s.L) j = if j = (g2 : Int) then some wN else if j = (g1 : Int) then some rN else findA s.L j := fun j => by rw [findA_cons, findA_cons]
  have hq : ∀ j, findA (((bb : Int), pN) :: s.P) j = if j = (bb : Int) then some pN else findA s.P j := fun j => findA_cons s.P bb j pN
  have old : ∀ j q, findA s.P j = some q → findA (((bb : Int), pN) :: s.P) j = some q := fun j q hj => by
    rw [hq, if_neg (fun e => by rw [e, hp] at hj; cases hj)]; exact hj
  have cas : ∀ j x, findA (((g2 : Int), wN) :: ((g1 : Int), rN) :: s.L) j = some x → (j = (g2 : Int) ∧ x = wN) ∨ (j = (g1 : Int) ∧ x = rN) ∨ findA s.L j = some x := fun j x hx => by
    rw [hf] at hx
    split at hx
    · rename_i e; injection hx with hx; exact .inl ⟨e, hx.symm⟩
    · split at hx
      · rename_i e; injection hx with hx; exact .inr (.inl ⟨e, hx.symm⟩)
      · exact .inr (.inr hx)
  have no : ∀ j x, findA s.L j = some x → (∀ e, x.t ≠ .reader bb e) ∧ (∀ e, x.t ≠ .writer bb e) := fun j x hx => by
    have := h.th j x hx
    unfold ThOk at this
    refine ⟨fun e he => ?_, fun e he => ?_⟩
    · rw [he] at this; obtain ⟨q, hq, _⟩ := this; rw [hp] at hq; cases hq
    · rw [he] at this; obtain ⟨q, hq, _⟩ := this; rw [hp] at hq; cases hq
  refine { tree := h.tree, nd := nodup_cons (nodup_cons h.nd rN hg1.none) wN (hg2 rN).none, ids := fun j x hx => ?_, refs := fun j x hx => ?_, th := fun j x hx => ?_, oneR := fun i j x z b e1 e2 hi hj hx hz => ?_, oneW := fun i j x z b e1 e2 hi hj hx hz => ?_,
           nR := ?_, nW := ?_, pnd := nodup_cons h.pnd pN hp, pk := fun j q hj => ?_, holds := fun j x hx => ?_, lenL := ?_, lenN := ?_, lenP := ?_, held := ?_, tot := hm.tot }
  · rcases cas j x hx with ⟨e, _⟩ | ⟨e, _⟩ | e
    · omega
    · omega
    · exact hm.ids j x e
  · rcases cas j x hx with ⟨_, e⟩ | ⟨_, e⟩ | e
    · rw [e, hwN]; exact ⟨Int.le_refl _, by show (1 : Int) ≤ _; omega⟩
    · rw [e, hrN]; exact ⟨Int.le_refl _, by show (1 : Int) ≤ _; omega⟩
    · exact hm.refs j x e
  · show ThOk (((bb : Int), pN) :: s.P) x
    rcases cas j x hx with ⟨_, e⟩ | ⟨_, e⟩ | e
    · rw [e, hwN]; exact ⟨pN, by rw [hq, if_pos rfl], by rw [hpN], by rw [hpN]⟩
    · rw [e, hrN]; exact ⟨pN, by rw [hq, if_pos rfl], by rw [hpN], by rw [hpN]⟩
    · have h0 := h.th j x e
      unfold ThOk at h0 ⊢
      split at h0
      · exact h0
      · exact h0
      · exact h0
      · obtain ⟨q, a, b, d⟩ := h0; exact ⟨q, old _ q a, b, d⟩
      · obtain ⟨q, a, b, d⟩ := h0; exact ⟨q, old _ q a, b, d⟩
  · rcases cas i x hi with ⟨_, e⟩ | ⟨ei, e⟩ | e
    · rw [e, hwN] at hx; cases hx
    · rcases cas j z hj with ⟨_, e'⟩ | ⟨ej, e'⟩ | e'
      · rw [e', hwN] at hz; cases hz
      · rw [ei, ej]
      · rw [e, hrN] at hx; cases hx
        exact absurd hz ((no j z e').1 _)
    · rcases cas j z hj with ⟨_, e'⟩ | ⟨ej, e'⟩ | e'
      · rw [e', hwN] at hz; cases hz
      · rw [e', hrN] at hz; cases hz
        exact absurd hx ((no i x e).1 _)
      · exact h.oneR i j x z b e1 e2 e e' hx hz
  · rcases cas i x hi with ⟨ei, e⟩ | ⟨_, e⟩ | e
    · rcases cas j z hj with ⟨ej, e'⟩ | ⟨_, e'⟩ | e'
      · rw [ei, ej]
      · rw [e', hrN] at hz; cases hz
      · rw [e, hwN] at hx; cases hx
        exact absurd hz ((no j z e').2 _)
    · rw [e, hrN] at hx; cases hx
    · rcases cas j z hj with ⟨ej, e'⟩ | ⟨_, e'⟩ | e'
      · rw [e', hwN] at hz; cases hz
        exact absurd hx ((no i x e).2 _)
      · rw [e', hrN] at hz; cases hz
      · exact h.oneW i j x z b e1 e2 e e' hx hz
  · show cR wN + (cR rN + sumA cR s.L) = pN.rd.toNat + sumA (fun p : Pp => p.rd.toNat) s.P
    rw [hwN, hrN, hpN, h.nR]
    show 0 + (1 + _) = 1 + _
    omega
  · show cW wN + (cW rN + sumA cW s.L) = pN.wr.toNat + sumA (fun p : Pp => p.wr.toNat) s.P
    rw [hwN, hrN, hpN, h.nW]
    show 1 + (0 + _) = 1 + _
    omega
  · have hj' : findA (((bb : Int), pN) :: s.P) j = some q := hj
    rw [hq] at hj'
    split at hj'
    · rename_i e; injection hj' with hj'; rw [← hj', hpN, e]
      exact ⟨rfl, .inl rfl, Nat.zero_le _⟩
    · exact h.pk j q hj'
  · have := h.holds j x hx
    show x.holds = ((cF j wN + (cF j rN + sumA (cF j) s.L) : Nat) : Int)
    have a : cF j wN = 0 := by rw [hwN]; rfl
    have b : cF j rN = 0 := by rw [hrN]; rfl
    omega
  · show s.L.length + 1 + 1 ≤ _
    omega
  · have := h.lenN
    show s.n + 2 ≤ _
    omega
  · have := h.lenP
    show s.P.length + 1 ≤ _
    omega
  · have := h.held
    show Pp.len pN + sumA Pp.len s.P ≤ 40
    have a : Pp.len pN = 0 := by rw [hpN]; rfl
    omega
theorem Inv.step_reader (h : Inv N s) {id : Int} {y : Hn} {bb eb : Nat} {p : Pp} (hy : findA s.L id = some y) (hyt : y.t = .reader bb eb) (hp : findA s.P (bb : Int) = some p) : Inv (N + 1) { s with L := delA s.L id, P := closeR s.P bb p } := by
  have hcF : ∀ j, cF j y = 0 := fun j => by unfold cF; rw [hyt]
  have hcR : cR y = 1 := by unfold cR; rw [hyt]
  have hcW : cW y = 0 := by unfold cW; rw [hyt]
  have g1 := sumA_get cR s.L id y hy
  have g2 := sumA_get cW s.L id y hy
  have g3 := sumA_get (fun p : Pp => p.rd.toNat) s.P _ p hp
  have g4 := sumA_get (fun p : Pp => p.wr.toNat) s.P _ p hp
  have g5 := sumA_get Pp.len s.P _ p hp
  have nR := h.nR
  have nW := h.nW
  have hth := h.th id y hy
  unfold ThOk at hth
  rw [hyt] at hth
  obtain ⟨p0, hp0, _, hrd⟩ := hth
  rw [hp] at hp0
  injection hp0 with hp0
  subst hp0
  have hrd1 : p.rd.toNat = 1 := by rw [hrd]; rfl
  have notbb : ∀ k x, findA s.L k = some x → k ≠ id → ∀ b e, x.t = .reader b e → (b : Int) ≠ (bb : Int) := fun k x hx hk b e he hb => by
    have : b = bb := by omega
    subst this
    exact hk (h.oneR k id x y b e eb hx hy he hyt)
  unfold closeR
  by_cases hw : p.wr = true
  · rw [if_pos hw]
    have hs : (findA s.P (bb : Int)).isSome = true := by rw [hp]; rfl
    have hf : ∀ j, findA (updA s.P (bb : Int) { p with rd := false }) j = if j = (bb : Int) then some { p with rd := false } else findA s.P j := fun j => findA_upd s.P bb j _ hs
    have u3 := sumA_upd (fun p : Pp => p.rd.toNat) s.P _ p { p with rd := false } hp
    have u4 := sumA_upd (fun p : Pp => p.wr.toNat) s.P _ p { p with rd := false } hp
    have u5 := sumA_upd Pp.len s.P _ p { p with rd := false } hp
    refine h.del hy s.F _ h.tree (same_del s.F hcF) (fun k x hx hk => ?_) (by rw [u3]; show _ = 0 + _; omega) (by rw [u4]; show _ = p.wr.toNat + _; omega) (nodup_upd h.pnd _ _) (fun j q hj => ?_) (by rw [updA_len]; exact h.lenP) (by
      rw [u5]; have := h.held; show Pp.len p + _ ≤ 40; omega)
    · have h0 := h.th k x hx
      have hnb := notbb k x hx hk
      unfold ThOk at h0 ⊢
      split at h0
      · exact h0
      · exact h0
      · exact h0
      · rename_i b e heq
        obtain ⟨q, a, d, f⟩ := h0
        exact ⟨q, by rw [hf, if_neg (hnb b e heq)]; exact a, d, f⟩
      · rename_i b e heq
        obtain ⟨q, a, d, f⟩ := h0
        by_cases hb : (b : Int) = (bb : Int)
        · rw [hb, hp] at a; injection a with a; subst a
          exact ⟨{ p with rd := false }, by rw [hf, if_pos hb], d, f⟩
        · exact ⟨q, by rw [hf, if_neg hb]; exact a, d, f⟩
    · rw [hf] at hj
      split at hj
      · rename_i e; injection hj with hj; subst hj
        obtain ⟨a, _, d⟩ := h.pk _ p hp
        exact ⟨by rw [e]; exact a, .inr hw, d⟩
      · exact h.pk j q hj
  · rw [if_neg hw]
    have hw : p.wr = false := by simpa using hw
    have hf : ∀ j, findA (delA s.P (bb : Int)) j = if j = (bb : Int) then none else findA s.P j := fun j => findA_del s.P _ j h.pnd
    have hw0 : p.wr.toNat = 0 := by rw [hw]; rfl
    have hdl := delA_len s.P (bb : Int) (by rw [hp]; rfl)
    refine h.del hy s.F _ h.tree (same_del s.F hcF) (fun k x hx hk => ?_) (by omega) (by omega) (nodup_del h.pnd _) (fun j q hj => ?_) (by have := h.lenP; omega) (by have := h.held; omega)
    · have h0 := h.th k x hx
      have hnb := notbb k x hx hk
      unfold ThOk at h0 ⊢
      split at h0
      · exact h0
      · exact h0
      · exact h0
      · rename_i b e heq
        obtain ⟨q, a, d, f⟩ := h0
        exact ⟨q, by rw [hf, if_neg (hnb b e heq)]; exact a, d, f⟩
      · rename_i b e heq
        obtain ⟨q, a, d, f⟩ := h0
        by_cases hb : (b : Int) = (bb : Int)
        · rw [hb, hp] at a; injection a with a; subst a
          rw [hw] at f; cases f
        · exact ⟨q, by rw [hf, if_neg hb]; exact a, d, f⟩
    · rw [hf] at hj
      split at hj
      · cases hj
      · exact h.pk j q hj
theorem Inv.step_writer (h : Inv N s) {id : Int} {y : Hn} {bb eb : Nat} {p : Pp} (hy : findA s.L id = some y) (hyt : y.t = .writer bb eb) (hp : findA s.P (bb : Int) = some p) : Inv (N + 1) { s with L := delA s.L id, P := closeW s.P bb p } := by
  have hcF : ∀ j, cF j y = 0 := fun j => by unfold cF; rw [hyt]
  have hcR : cR y = 0 := by unfold cR; rw [hyt]
  have hcW : cW y = 1 := by unfold cW; rw [hyt]
  have g1 := sumA_get cR s.L id y hy
  have g2 := sumA_get cW s.L id y hy
  have g3 := sumA_get (fun p : Pp => p.rd.toNat) s.P _ p hp
  have g4 := sumA_get (fun p : Pp => p.wr.toNat) s.P _ p hp
  have g5 := sumA_get Pp.len s.P _ p hp
  have nR := h.nR
  have nW := h.nW
  have hth := h.th id y hy
  unfold ThOk at hth
  rw [hyt] at hth
  obtain ⟨p0, hp0, _, hwd⟩ := hth
  rw [hp] at hp0
  injection hp0 with hp0
  subst hp0
  have hwd1 : p.wr.toNat = 1 := by rw [hwd]; rfl
  have notbb : ∀ k x, findA s.L k = some x → k ≠ id → ∀ b e, x.t = .writer b e → (b : Int) ≠ (bb : Int) := fun k x hx hk b e he hb => by
    have : b = bb := by omega
    subst this
    exact hk (h.oneW k id x y b e eb hx hy he hyt)
  unfold closeW
  by_cases hw : p.rd = true
  · rw [if_pos hw]
    have hs : (findA s.P (bb : Int)).isSome = true := by rw [hp]; rfl
    have hf : ∀ j, findA (updA s.P (bb : Int) { p with wr := false }) j = if j = (bb : Int) then some { p with wr := false } else findA s.P j := fun j => findA_upd s.P bb j _ hs
    have u3 := sumA_upd (fun p : Pp => p.rd.toNat) s.P _ p { p with wr := false } hp
    have u4 := sumA_upd (fun p : Pp => p.wr.toNat) s.P _ p { p with wr := false } hp
    have u5 := sumA_upd Pp.len s.P _ p { p with wr := false } hp
    refine h.del hy s.F _ h.tree (same_del s.F hcF) (fun k x hx hk => ?_) (by rw [u3]; show _ = p.rd.toNat + _; omega) (by rw [u4]; show _ = 0 + _; omega) (nodup_upd h.pnd _ _) (fun j q hj => ?_) (by rw [updA_len]; exact h.lenP) (by
      rw [u5]; have := h.held; show Pp.len p + _ ≤ 40; omega)
    · have h0 := h.th k x hx
      have hnb := notbb k x hx hk
      unfold ThOk at h0 ⊢
      split at h0
      · exact h0
      · exact h0
      · exact h0
      · rename_i b e heq
        obtain ⟨q, a, d, f⟩ := h0
        by_cases hb : (b : Int) = (bb : Int)
        · rw [hb, hp] at a; injection a with a; subst a
          exact ⟨{ p with wr := false }, by rw [hf, if_pos hb], d, f⟩
        · exact ⟨q, by rw [hf, if_neg hb]; exact a, d, f⟩
      · rename_i b e heq
        obtain ⟨q, a, d, f⟩ := h0
        exact ⟨q, by rw [hf, if_neg (hnb b e heq)]; exact a, d, f⟩
    · rw [hf] at hj
      split at hj
      · rename_i e; injection hj with hj; subst hj
        obtain ⟨a, _, d⟩ := h.pk _ p hp
        exact ⟨by rw [e]; exact a, .inl hw, d⟩
      · exact h.pk j q hj
  · rw [if_neg hw]
    have hw : p.rd = false := by simpa using hw
    have hf : ∀ j, findA (delA s.P (bb : Int)) j = if j = (bb : Int) then none else findA s.P j := fun j => findA_del s.P _ j h.pnd
    have hw0 : p.rd.toNat = 0 := by rw [hw]; rfl
    have hdl := delA_len s.P (bb : Int) (by rw [hp]; rfl)
    refine h.del hy s.F _ h.tree (same_del s.F hcF) (fun k x hx hk => ?_) (by omega) (by omega) (nodup_del h.pnd _) (fun j q hj => ?_) (by have := h.lenP; omega) (by have := h.held; omega)
    · have h0 := h.th k x hx
      have hnb := notbb k x hx hk
      unfold ThOk at h0 ⊢
      split at h0
      · exact h0
      · exact h0
      · exact h0
      · rename_i b e heq
        obtain ⟨q, a, d, f⟩ := h0
        by_cases hb : (b : Int) = (bb : Int)
        · rw [hb, hp] at a; injection a with a; subst a
          rw [hw] at f; cases f
        · exact ⟨q, by rw [hf, if_neg hb]; exact a, d, f⟩
      · rename_i b e heq
        obtain ⟨q, a, d, f⟩ := h0
        exact ⟨q, by rw [hf, if_neg (hnb b e heq)]; exact a, d, f⟩
    · rw [hf] at hj
      split at hj
      · cases hj
      · exact h.pk j q hj
theorem inv_step {o : Opr} {n er : Int} {t : ByteArray} {s' : Sg} (h : Inv N s) (hN : N ≤ 100) (hd : o.d.size ≤ 100) (st : Step s o n t er s') : Inv (N + 1) s' := by
  cases st with
  | file_no _ _ => exact h.more
  | file_ok x g hb xb _ hx hk hm hg =>
    obtain ⟨T, hh⟩ := tree_hold h.tree hx (h.hb hN hx)
    refine h.cons hg (y' := ⟨hb, 1, xb, .file o.node 0 o.m⟩) rfl ?_ _ T (fun j z hz => ?_) rfl rfl (fun _ _ e => by cases e) (fun _ _ e => by cases e)
    · exact ⟨(h.tree.files _ x hx).1 hk, Nat.zero_le _, hm⟩
    · obtain ⟨u, hu, e⟩ := hh j z hz
      refine ⟨u, hu, ?_⟩
      rw [e]
      show _ = u.holds + (((if o.node = j then 1 else 0 : Nat) : Nat) : Int)
      split <;> rfl
  | text g hb xb _ hg => exact h.cons hg (y' := ⟨hb, 1, xb, .text o.d 0⟩) rfl ⟨Nat.zero_le _, hd⟩ s.F h.tree (same_cons s.F fun _ => rfl) rfl rfl (fun _ _ e => by cases e) (fun _ _ e => by cases e)
  | sink_no _ _ => exact h.more
  | sink_ok most g hb xb _ _ hm hg => exact h.cons hg (y' := ⟨hb, 1, xb, .sink none none 0 [] most⟩) rfl ⟨.inl rfl, Nat.zero_le _, hm⟩ s.F h.tree (same_cons s.F fun _ => rfl) rfl rfl (fun _ _ e => by cases e) (fun _ _ e => by cases e)
  | pipe g1 g2 h1 x1 h2 x2 bb eb _ hg1 hg2 hp => exact h.step_pipe hg1 hg2 hp
  | ref_no _ _ => exact h.more
  | ref_ok y _ hy =>
    have hr := h.refs _ y hy
    exact h.upd hy (y' := { y with refs := y.refs + 1 }) ⟨by show 1 ≤ y.refs + 1; omega, by show y.refs + 1 ≤ _; omega⟩ (h.th _ y hy) s.F h.tree (same_holds s.F) (fun _ => rfl) rfl rfl (fun _ _ e => e) (fun _ _ e => e)
  | unref_no _ _ => exact h.more
  | unref_more y _ hy h2 =>
    have hr := h.refs _ y hy
    exact h.upd hy (y' := { y with refs := y.refs - 1 }) ⟨by show 1 ≤ y.refs - 1; omega, by show y.refs - 1 ≤ _; omega⟩ (h.th _ y hy) s.F h.tree (same_holds s.F) (fun _ => rfl) rfl rfl (fun _ _ e => e) (fun _ _ e => e)
  | unref_file y k a m _ hy h1 hyt =>
    have hth := h.th _ y hy
    unfold ThOk at hth
    rw [hyt] at hth
    obtain ⟨x, hx⟩ := Option.isSome_iff_exists.1 ((h.tree.only k).2 (by omega))
    have hc : cF k y = 1 := by unfold cF; rw [hyt]; exact if_pos rfl
    have hhx := h.holds k x hx
    have hgx := sumA_get (cF k) s.L _ y hy
    have hbx := h.hb hN hx
    obtain ⟨T, hh⟩ := tree_drop h.tree hx ⟨by omega, hbx.2⟩
    have g1 := sumA_get cR s.L _ y hy
    have g2 := sumA_get cW s.L _ y hy
    have c1 : cR y = 0 := by unfold cR; rw [hyt]
    have c2 : cW y = 0 := by unfold cW; rw [hyt]
    refine h.del hy _ s.P T (fun j z hz => ?_) (fun k x hx _ => h.th k x hx) (by rw [← h.nR]; omega) (by rw [← h.nW]; omega) h.pnd h.pk h.lenP h.held
    obtain ⟨u, hu, e⟩ := hh j z hz
    refine ⟨u, hu, ?_⟩
    rw [e]
    have : (cF j y : Int) = if k = j then 1 else 0 := by unfold cF; rw [hyt]; dsimp only; split <;> rfl
    rw [this]
  | unref_text y t a _ hy h1 hyt =>
    have g1 := sumA_get cR s.L _ y hy
    have g2 := sumA_get cW s.L _ y hy
    have c1 : cR y = 0 := by unfold cR; rw [hyt]
    have c2 : cW y = 0 := by unfold cW; rw [hyt]
    exact h.del hy s.F s.P h.tree (same_del s.F fun j => by unfold cF; rw [hyt]) (fun k x hx _ => h.th k x hx) (by rw [← h.nR]; omega) (by rw [← h.nW]; omega) h.pnd h.pk h.lenP h.held
  | unref_sink y sp q cap l most _ hy h1 hyt =>
    have g1 := sumA_get cR s.L _ y hy
    have g2 := sumA_get cW s.L _ y hy
    have c1 : cR y = 0 := by unfold cR; rw [hyt]
    have c2 : cW y = 0 := by unfold cW; rw [hyt]
    exact h.del hy s.F s.P h.tree (same_del s.F fun j => by unfold cF; rw [hyt]) (fun k x hx _ => h.th k x hx) (by rw [← h.nR]; omega) (by rw [← h.nW]; omega) h.pnd h.pk h.lenP h.held
  | unref_reader y bb eb p _ hy h1 hyt hp => exact h.step_reader hy hyt hp
  | unref_writer y bb eb p _ hy h1 hyt hp => exact h.step_writer hy hyt hp
  | read_no _ _ => exact h.more
  | read_mode y _ _ _ => exact h.more
  | read_neg y _ _ _ _ => exact h.more
  | read_file y k a q m x _ hy hyt hm hq hx =>
    have hr := h.refs _ y hy
    have hth := h.th _ y hy
    unfold ThOk at hth
    rw [hyt] at hth
    have hle := read_le x.text a q
    have htx := h.tree.text k x hx
    exact h.upd hy (y' := { y with t := .file k (a + (readB x.text a q).size) m }) ⟨hr.1, by show y.refs ≤ _; omega⟩ ⟨hth.1, by omega, hth.2.2⟩ s.F h.tree (same_holds s.F) (fun j => by unfold cF; rw [hyt]) (by unfold cR; rw [hyt]) (by unfold cW; rw [hyt]) (fun _ _ e => by cases e) (fun _ _ e => by cases e)
  | read_text y t a q _ hy hyt hq =>
    have hr := h.refs _ y hy
    have hth := h.th _ y hy
    unfold ThOk at hth
    rw [hyt] at hth
    have hle := read_le t a q
    exact h.upd hy (y' := { y with t := .text t (a + (readB t a q).size) }) ⟨hr.1, by show y.refs ≤ _; omega⟩ ⟨by have := hth.1; omega, hth.2⟩ s.F h.tree (same_holds s.F) (fun j => by unfold cF; rw [hyt]) (by unfold cR; rw [hyt]) (by unfold cW; rw [hyt]) (fun _ _ e => by cases e) (fun _ _ e => by cases e)
  | read_pipe y bb eb q p _ hy hyt hq hp =>
    obtain ⟨_, _, ht⟩ := h.pk _ p hp
    have g5 := sumA_get Pp.len s.P _ p hp
    have u5 := sumA_upd Pp.len s.P _ p { p with frm := p.frm + min q p.data.length, data := p.data.drop (min q p.data.length) } hp
    have htt := h.tot
    have hh := h.held
    refine h.pupd hp (p' := { p with frm := p.frm + min q p.data.length, data := p.data.drop (min q p.data.length) }) rfl rfl rfl rfl s.tot (Nat.le_refl _) (by omega) ?_ ?_
    · show p.frm + min q p.data.length + (p.data.drop (min q p.data.length)).length ≤ s.tot
      rw [List.length_drop]; omega
    · rw [u5]
      show (p.data.drop (min q p.data.length)).length + _ ≤ 40
      have e : Pp.len p = p.data.length := rfl
      rw [List.length_drop]; omega
  | write_no _ _ => exact h.more
  | write_mode y _ _ _ => exact h.more
  | write_file y k a m x _ hy hyt hm hx =>
    have hr := h.refs _ y hy
    have hth := h.th _ y hy
    unfold ThOk at hth
    rw [hyt] at hth
    obtain ⟨T, hh, hz⟩ := tree_write h.tree hx (atW x a m) o.d
    have htx := h.tree.text k x hx
    have hat : atW x a m ≤ 8192 := by unfold atW; split <;> omega
    refine h.upd hy (y' := { y with t := .file k (atN s.F k x a m o.d) m }) ⟨hr.1, by show y.refs ≤ _; omega⟩ ⟨hth.1, ?_, hth.2.2⟩ _ T hh (fun j => by unfold cF; rw [hyt]) (by unfold cR; rw [hyt]) (by unfold cW; rw [hyt]) (fun _ _ e => by cases e) (fun _ _ e => by cases e)
    unfold atN
    split
    · rename_i e; have := hz e; omega
    · exact hat
  | write_sink y sp q sp' q' cap cap' l most _ hy hyt hsp =>
    have hr := h.refs _ y hy
    have hth := h.th _ y hy
    unfold ThOk at hth
    rw [hyt] at hth
    refine h.upd hy (y' := { y with t := .sink sp' q' cap' (skL l most o.d) most }) ⟨hr.1, by show y.refs ≤ _; omega⟩ ⟨hsp, ?_, hth.2.2⟩ s.F h.tree (same_holds s.F) (fun j => by unfold cF; rw [hyt]) (by unfold cR; rw [hyt]) (by unfold cW; rw [hyt]) (fun _ _ e => by cases e) (fun _ _ e => by cases e)
    unfold skL
    split
    · rw [List.length_append, bs_length]; assumption
    · exact hth.2.1
  | write_full y bb eb p _ _ _ _ _ => exact h.more
  | write_pipe y bb eb p _ hy hyt hp hl =>
    obtain ⟨_, _, ht⟩ := h.pk _ p hp
    have g5 := sumA_get Pp.len s.P _ p hp
    have u5 := sumA_upd Pp.len s.P _ p { p with data := p.data ++ bs o.d } hp
    have htt := h.tot
    have hh := h.held
    refine h.pupd hp (p' := { p with data := p.data ++ bs o.d }) rfl rfl rfl rfl (s.tot + o.d.size) (by omega) (by omega) ?_ ?_
    · show p.frm + (p.data ++ bs o.d).length ≤ s.tot + o.d.size
      rw [List.length_append, bs_length]; omega
    · rw [u5]
      show (p.data ++ bs o.d).length + _ ≤ 40
      have e : Pp.len p = p.data.length := rfl
      rw [List.length_append, bs_length]; omega
end
end Go.Proofs.YtljlpkeddbfpaaaGreatDoor.Hd

