/- (*Buffer).Append, walked: what is appended stands behind what was there. -/
import Derived.Test.YtgaeafhkepfgjaaSpB
import Derived.Test.YtgaeafhkepfgjaaSpP
import Derived.Test.YtgaeafhkepfgjaaCopy
namespace Go.Proofs.Ytgaeafhkepfgjaa.Spill
open Go.RowKit Go.Proofs.Ytgaeafhkepfgjaa Go.Proofs.Ytgaeafhkepfgjaa.Hp
set_option linter.unusedVariables false

/-- A pool, its free chunks whatever they are; tot: how many chunks there are at most. -/
def poolX (bp q m c held used opn tot : Nat) : Hp := ex fun x : Option Addr × Nat × List (Nat × List Value) => fact (used + x.2.2.length ≤ tot) * pool bp q m c held used opn x.1 x.2.1 x.2.2
/-- An open buffer that has some bytes, from a place on. -/
def bufX (bb bp m c frm : Nat) (data : List UInt8) : Hp := ex fun x : Nat × Option Addr × Nat × List Value × List (Nat × List Value) =>
  fact (x.2.2.2.2.length + gn m c frm = cl m c (frm + data.length) ∧ Holds m c (gn m c frm) frm x.2.2.2.1 x.2.2.2.2 data) * bufO bb bp m c x.1 x.2.1 x.2.2.1 (gn m c frm) frm (frm + data.length) x.2.2.2.1 x.2.2.2.2

theorem poolX_out {w : World} {R : Hp} {bp q m c held used opn tot : Nat} (h : Sat w (poolX bp q m c held used opn tot * R)) : ∃ p cap F, used + F.length ≤ tot ∧ Sat w (pool bp q m c held used opn p cap F * R) := by
  obtain ⟨⟨p, cap, F⟩, h⟩ := Sat.ex_out h
  rw [sep_assoc] at h
  obtain ⟨h1, h⟩ := h.fact_out
  exact ⟨p, cap, F, h1, h⟩
theorem poolX_in {w : World} {R : Hp} {bp q m c held used opn tot cap : Nat} {p : Option Addr} {F : List (Nat × List Value)} (h1 : used + F.length ≤ tot) (h : Sat w (pool bp q m c held used opn p cap F * R)) : Sat w (poolX bp q m c held used opn tot * R) := by
  refine Sat.ex_in (p, cap, F) ?_
  rw [sep_assoc]
  exact h.fact_in h1
theorem bufX_out {w : World} {R : Hp} {bb bp m c frm : Nat} {data : List UInt8} (h : Sat w (bufX bb bp m c frm data * R)) :
    ∃ fb p cap fs L, L.length + gn m c frm = cl m c (frm + data.length) ∧ Holds m c (gn m c frm) frm fs L data ∧ Sat w (bufO bb bp m c fb p cap (gn m c frm) frm (frm + data.length) fs L * R) := by
  obtain ⟨⟨fb, p, cap, fs, L⟩, h⟩ := Sat.ex_out h
  rw [sep_assoc] at h
  obtain ⟨⟨h1, h2⟩, h⟩ := h.fact_out
  exact ⟨fb, p, cap, fs, L, h1, h2, h⟩
theorem bufX_in {w : World} {R : Hp} {bb bp m c frm til fb cap : Nat} {p : Option Addr} {fs : List Value} {L : List (Nat × List Value)} {data : List UInt8} (ht : til = frm + data.length) (h1 : L.length + gn m c frm = cl m c til) (h2 : Holds m c (gn m c frm) frm fs L data)
    (h : Sat w (bufO bb bp m c fb p cap (gn m c frm) frm til fs L * R)) : Sat w (bufX bb bp m c frm data * R) := by
  subst ht
  refine Sat.ex_in (fb, p, cap, fs, L) ?_
  rw [sep_assoc]
  exact h.fact_in ⟨h1, h2⟩

/-- What the walk reads of a pool and an open buffer. -/
theorem facts {w : World} {R : Hp} {bp q m c held used opn cap bb fb cap' gone frm til : Nat} {p p' : Option Addr} {F L : List (Nat × List Value)} {fs : List Value}
    (h : Sat w (pool bp q m c held used opn p cap F * (bufO bb bp m c fb p' cap' gone frm til fs L * R))) :
    (w.cell? ⟨bp, 0, none⟩ = some (.int .i64 q) ∧ w.cell? ⟨bp, 1, none⟩ = some (.int .i64 m) ∧ w.cell? ⟨bp, 2, none⟩ = some (.int .i64 c) ∧ w.cell? ⟨bp, 3, none⟩ = some (.int .i64 held) ∧ w.cell? ⟨bp, 4, none⟩ = some (.int .i64 used) ∧ w.cell? ⟨bp, 5, none⟩ = some (.int .i64 opn) ∧
      (∀ i, w.frozen? ⟨bp, i, none⟩ = false)) ∧
    (w.cell? ⟨bb, 0, none⟩ = some (.pointer (some ⟨bp, 0, none⟩)) ∧ w.cell? ⟨bb, 1, none⟩ = some (.bool false) ∧ w.cell? ⟨bb, 2, none⟩ = some (.slice (some ⟨fb, 0, none⟩) m m) ∧ w.cell? ⟨bb, 3, none⟩ = some (.slice p' L.length cap') ∧ w.cell? ⟨bb, 4, none⟩ = some (.int .i64 gone) ∧ w.cell? ⟨bb, 5, none⟩ = some (.int .i64 frm) ∧ w.cell? ⟨bb, 6, none⟩ = some (.int .i64 til) ∧
      (∀ i, w.frozen? ⟨bb, i, none⟩ = false)) ∧ bp ≠ bb := by
  have h1 : Sat w (pts bp (pf q m c held used opn (.slice p F.length cap)) * (pts bb (bf bp false (.slice (some ⟨fb, 0, none⟩) m m) (.slice p' L.length cap') gone frm til) * (arr 58 1 p F.length cap (F.map (bs c)) * all (chunk c) F * (fact (fs.length = m) * pts fb (.cells fs.toArray 5 (0, 0)) * (arr 58 1 p' L.length cap' (L.map (bs c)) * all (chunk c) L)) * R))) := h.perm (by unfold pool bufO; ac_rfl)
  obtain ⟨c0, c1, c2, c3, c4, c5, _, cf⟩ := cells7 h1.get
  obtain ⟨b0, b1, b2, b3, b4, b5, b6, bf⟩ := cells7 h1.right.get
  exact ⟨⟨c0, c1, c2, c3, c4, c5, cf⟩, ⟨b0, b1, b2, b3, b4, b5, b6, bf⟩, h1.ne⟩

theorem keepB {w : World} {R : Hp} {bb bp : Nat} {cl : Bool} {f ch : Value} {gone frm til : Int} (h : Sat w (pts bb (bf bp cl f ch gone frm til) * R)) : w.cell? ⟨bb, 0, none⟩ = some (.pointer (some ⟨bp, 0, none⟩)) ∧ w.cell? ⟨bb, 3, none⟩ = some ch ∧ w.frozen? ⟨bb, 3, none⟩ = false :=
  ⟨(cells7 h.get).1, (cells7 h.get).2.2.2.1, free_at h.get 3⟩
/-- What is left of a buffer when its fields and one chunk are taken out. -/
def bufR (m c fb : Nat) (p : Option Addr) (cap : Nat) (fs : List Value) (L : List (Nat × List Value)) (k : Nat) : Hp :=
  fact (fs.length = m) * pts fb (.cells fs.toArray 5 (0, 0)) * (arr 58 1 p L.length cap (L.map (bs c)) * (all (chunk c) (L.take k) * all (chunk c) (L.drop (k + 1))))
theorem buf_focus (bb bp m c fb : Nat) (p : Option Addr) (cap gone frm til : Nat) (fs : List Value) (L : List (Nat × List Value)) (k : Nat) (hk : k < L.length) :
    bufO bb bp m c fb p cap gone frm til fs L = pts bb (bf bp false (.slice (some ⟨fb, 0, none⟩) m m) (.slice p L.length cap) gone frm til) * (fact (L[k].2.length = c) * (pts L[k].1 (.cells L[k].2.toArray 5 (0, 0)) * bufR m c fb p cap fs L k)) := by
  unfold bufO bufR
  rw [all_split (chunk c) L k hk]
  show _ = _
  unfold chunk
  ac_rfl
theorem buf_unfocus (bb bp m c fb : Nat) (p : Option Addr) (cap gone frm til : Nat) (fs : List Value) (L : List (Nat × List Value)) (k : Nat) (hk : k < L.length) (ys : List Value) :
    bufO bb bp m c fb p cap gone frm til fs (L.set k (L[k].1, ys)) = pts bb (bf bp false (.slice (some ⟨fb, 0, none⟩) m m) (.slice p L.length cap) gone frm til) * (fact (ys.length = c) * (pts L[k].1 (.cells ys.toArray 5 (0, 0)) * bufR m c fb p cap fs L k)) := by
  unfold bufO bufR
  rw [all_set (chunk c) L k hk, List.length_set]
  have e : (L.set k (L[k].1, ys)).map (bs c) = L.map (bs c) := by
    rw [List.map_set]
    apply List.ext_getElem?
    intro i
    by_cases hi : i = k
    · subst hi; simp [hk, bs]
    · rw [List.getElem?_set_ne (by omega)]
  rw [e]
  show _ * (_ * (_ * (fact (ys.length = c) * pts L[k].1 (.cells ys.toArray 5 (0, 0)) * _))) = _
  ac_rfl

theorem size5 : (Try.prog.info? 5).map (·.size) = some 1 := by kernel_rfl

/-- Behind a copy into the chunk where the end stands. -/
theorem close_chunk {w : World} {R : Hp} {bp bb q m c held u opn frm til fb cap cap' tot n k : Nat} {p p' : Option Addr} {F L : List (Nat × List Value)} {fs : List Value} {l ys : List UInt8} (hc : 1 ≤ c) (hk : k < L.length) (hmt : m ≤ til) (ht : frm + l.length = til) (hn : ys.length = n) (hn1 : 1 ≤ n) (hn3 : (til - m) % c + n ≤ c)
    (hkk : gn m c frm + k = (til - m) / c) (hL : L.length + gn m c frm = cl m c (til + n)) (hxl : L[k].2.length = c) (hH : Holds m c (gn m c frm) frm fs L l) (hF : u + F.length ≤ tot)
    (H : Sat w (pts bb (bf bp false (.slice (some ⟨fb, 0, none⟩) m m) (.slice p' L.length cap') (gn m c frm) frm (til + n : Nat)) * (pts L[k].1 (.cells (splice L[k].2 ((til - m) % c) (bytes ys)).toArray 5 (0, 0)) * (bufR m c fb p' cap' fs L k * (pool bp q m c held u opn p cap F * R))))) :
    Sat w (poolX bp q m c held u opn tot * (bufX bb bp m c frm (l ++ ys) * R)) := by
  have hsl : (splice L[k].2 ((til - m) % c) (bytes ys)).length = c := by rw [length_splice _ _ _ (by rw [bytes_length]; omega)]; exact hxl
  have H2 := H.fact_in hsl
  have H3 := H2.perm (show _ = pts bb (bf bp false (.slice (some ⟨fb, 0, none⟩) m m) (.slice p' L.length cap') (gn m c frm) frm (til + n : Nat)) * (fact ((splice L[k].2 ((til - m) % c) (bytes ys)).length = c) * (pts L[k].1 (.cells (splice L[k].2 ((til - m) % c) (bytes ys)).toArray 5 (0, 0)) * bufR m c fb p' cap' fs L k)) * (pool bp q m c held u opn p cap F * R) by ac_rfl)
  rw [← buf_unfocus bb bp m c fb p' cap' (gn m c frm) frm (til + n) fs L k hk] at H3
  refine poolX_in hF ((bufX_in (data := l ++ ys) (by rw [List.length_append]; omega) (by rw [List.length_set]; exact hL) ?_ H3).perm (show _ = pool bp q m c held u opn p cap F * (bufX bb bp m c frm (l ++ ys) * R) by ac_rfl))
  intro i hi
  rw [atp_chunk hc hmt hkk (List.getElem?_eq_getElem hk) hxl (by rw [bytes_length]; omega) (by omega) (by rw [bytes_length]; rw [List.length_append] at hi; omega)]
  exact holds_write ht hH i hi

/-- Behind 'b.chunks = append(b.chunks, b.p.take())'. -/
def Took (bp bb q m c held u opn fb gone frm til : Nat) (fs : List Value) (F L : List (Nat × List Value)) (R : Hp) (w wx : World) : Prop :=
  ∃ x pp pc F' p2 cap2, F'.length = F.length - 1 ∧ Sat wx (pool bp q m c held (u + 1) opn pp pc F' * (bufO bb bp m c fb p2 cap2 gone frm til fs (L ++ [x]) * R)) ∧ Ran w wx
theorem took_in {w w2 : World} {R : Hp} {bp bb q m c held u opn fb gone frm til cap2 pc : Nat} {pp p2 p' : Option Addr} {cap' : Nat} {fs : List Value} {F F' L : List (Nat × List Value)} {x : Nat × List Value} (hF : F'.length = F.length - 1) (hw : Ran w w2)
    (H : Sat w2 (arr 58 1 p2 (L.length + 1) cap2 (L.map (bs c) ++ [.slice (some ⟨x.1, 0, none⟩) c c]) * (pts bb (bf bp false (.slice (some ⟨fb, 0, none⟩) m m) (.slice p' L.length cap') gone frm til) * (pool bp q m c held (u + 1) opn pp pc F' * (chunk c x * (fact (fs.length = m) * pts fb (.cells fs.toArray 5 (0, 0)) * all (chunk c) L * R)))))) :
    Took bp bb q m c held u opn fb gone frm til fs F L R w (w2.setCell ⟨bb, 3, none⟩ (.slice p2 (L.length + 1) cap2)) := by
  have H1 := H.perm (show _ = pts bb (bf bp false (.slice (some ⟨fb, 0, none⟩) m m) (.slice p' L.length cap') gone frm til) * (arr 58 1 p2 (L.length + 1) cap2 (L.map (bs c) ++ [.slice (some ⟨x.1, 0, none⟩) c c]) * (pool bp q m c held (u + 1) opn pp pc F' * (chunk c x * (fact (fs.length = m) * pts fb (.cells fs.toArray 5 (0, 0)) * all (chunk c) L * R)))) by ac_rfl)
  have H2 : Sat (w2.setCell ⟨bb, 3, none⟩ (.slice p2 (L.length + 1) cap2)) (pts bb (bf bp false (.slice (some ⟨fb, 0, none⟩) m m) (.slice p2 (L.length + 1) cap2) gone frm til) * (arr 58 1 p2 (L.length + 1) cap2 (L.map (bs c) ++ [.slice (some ⟨x.1, 0, none⟩) c c]) * (pool bp q m c held (u + 1) opn pp pc F' * (chunk c x * (fact (fs.length = m) * pts fb (.cells fs.toArray 5 (0, 0)) * all (chunk c) L * R))))) := H1.set (i := 3) _
  refine ⟨x, pp, pc, F', p2, cap2, hF, H2.perm ?_, Ran.set hw _ _⟩
  unfold bufO
  rw [List.length_append, List.map_append, all_snoc]
  show _ = _ * (pts bb (bf bp false (.slice (some ⟨fb, 0, none⟩) m m) (.slice p2 (L.length + 1) cap2) gone frm til) * (_ * (arr 58 1 p2 (L.length + 1) cap2 (L.map (bs c) ++ [.slice (some ⟨x.1, 0, none⟩) c c]) * _)) * _)
  ac_rfl

/-- At the loop's head: some bytes have gone over, the rest is in the slot. -/
def ARel (bp bb q m c held U opn tot frm : Nat) (data dl : List UInt8) (R : Hp) (w : World) (k : Nat) (d : Value) (wr : World) : Prop :=
  ∃ done rest, dl = done ++ rest ∧ k = rest.length ∧ d = .string ⟨rest.toArray⟩ ∧
    Sat wr (poolX bp q m c (held + dl.length) (U + (cl m c (frm + (data ++ done).length) - gn m c frm)) opn (tot + done.length) * (bufX bb bp m c frm (data ++ done) * R)) ∧ Ran w wr

theorem wpList_copy_str {w : World} {R : Hp} {ops : Array Oper} {rest : List Oper} {o : Oper} {a : Act} {Q : Exit → Act → World → Prop} (hgd : o.guard = none) (d s : Operand)
    (ho : o.op = .call { callee := .builtin .copy, args := #[d, s], argTypes := #[58, 9] }) (g off dLen dCap : Nat) (l : List UInt8) (hd : a.eval d = .slice (some ⟨g, off, none⟩) dLen dCap) (hx : a.eval s = .string ⟨l.toArray⟩) (cur : List Value)
    (h : Sat w (pts g (.cells cur.toArray 5 (0, 0)) * R)) (n : Nat) (hn : n = min l.length dLen) (hfit : off + n ≤ cur.length)
    (hk : ∀ w', Sat w' (pts g (.cells (splice cur off (bytes (l.take n))).toArray 5 (0, 0)) * R) → Ran w w' → wpList Try.prog ops Q rest (a.put o.dst (.int .i64 (n : Int))) w') : wpList Try.prog ops Q (o :: rest) a w := by
  have hlen : (bytes (l.take n)).length = n := by rw [bytes_length, List.length_take]; omega
  have := wpList_copy_sat (P := Try.prog) (R := R) (ops := ops) (rest := rest) (Q := Q) hgd d s _ _ ho 5 Try.underlying58 size5 g off dLen dCap _ hd hx cur (bytes (l.take n)) 5 h l.length
    (by rw [lenOf_string]; rfl) (by rw [firstCells_str]; subst hn; rfl) (by rw [hlen, hn]) (by omega) (bytes_one _) (by rw [hlen]; exact hk)
  exact this

set_option maxRecDepth 100000 in
set_option maxHeartbeats 2000000 in
theorem append_loop (bp bb q m c held U opn tot frm : Nat) (data dl : List UInt8) (R : Hp) (w : World) (hc : 1 ≤ c) (hc2 : c ≤ 65536) (hm : m ≤ 65536) (hq : q ≤ 1048576) (hh : held + dl.length ≤ q) (hf : frm + data.length + dl.length ≤ 1000000000) (hU : U ≤ 1000000000) (htot : tot ≤ 1000000000)
    (H : Sat w (poolX bp q m c held (U + (cl m c (frm + data.length) - gn m c frm)) opn tot * (bufX bb bp m c frm data * R))) :
    Calls Try.prog 13 #[.pointer (some ⟨bb, 0, none⟩), .string ⟨dl.toArray⟩] w fun e w' => e = .returned (.int .i64 0) ∧
      Sat w' (poolX bp q m c (held + dl.length) (U + (cl m c (frm + (data ++ dl).length) - gn m c frm)) opn (tot + dl.length) * (bufX bb bp m c frm (data ++ dl) * R)) ∧ Ran w w' := by
  obtain ⟨p, cap, F, hFt, H1⟩ := poolX_out H
  obtain ⟨fb, p', cap', fs, L, hL, hHolds, H2⟩ := bufX_out (H1.perm (sep_comm _ _) |>.perm (sep_assoc _ _ _))
  obtain ⟨⟨c0, c1, c2, c3, c4, c5, cf⟩, ⟨b0, b1, b2, b3, b4, b5, b6, bz⟩, hne⟩ := facts (H2.perm (show _ = pool bp q m c held (U + (cl m c (frm + data.length) - gn m c frm)) opn p cap F * (bufO bb bp m c fb p' cap' (gn m c frm) frm (frm + data.length) fs L * R) by ac_rfl))
  have g1 : ¬ ((q : Int) - held < dl.length) := by omega
  have g2 : (0 : Int) ≤ (q : Int) - held := by omega
  clear hL
  go_enter Try.func13, Try.ntmps13
  go_wp2_with (go_at_call 28; refine (is_open _ _ b1).mono ?_; rintro e w' ⟨rfl, rfl⟩)
  go_quiet (fail)
  go_wp2_with fail
  go_loopg [1] (dl.length) (ARel bp bb q m c held U opn tot frm data dl R w)
  case atStart =>
    have H3 : Sat ((w.drewN nq).setCell ⟨bp, 3, none⟩ (.int .i64 ((held : Int) + dl.length))) (pts bp (pf q m c (held + dl.length : Nat) (U + (cl m c (frm + data.length) - gn m c frm) : Nat) opn (.slice p F.length cap)) * (arr 58 1 p F.length cap (F.map (bs c)) * all (chunk c) F * (bufX bb bp m c frm data * R))) :=
      ((H1.perm (sep_assoc _ _ _)).drewN nq).set (i := 3) (.int .i64 ((held : Int) + dl.length))
    refine ⟨[], dl, rfl, rfl, rfl, ?_, Ran.set (Ran.drewN (Below.refl _ _) _) _ _⟩
    rw [List.append_nil]
    exact poolX_in hFt (H3.perm (by unfold pool; ac_rfl))
  case round =>
    clear c0 c1 c2 c3 c4 c5 cf b0 b1 b2 b3 b4 b5 b6 bz hne H1 H2 g1 g2 hFt hHolds H p cap F fb p' cap' fs L
    obtain ⟨done, rest, hdl, rfl, rfl, HS, HR⟩ := hrel
    by_cases hr : rest = []
    · subst hr
      have hdl' := Lib.hid hdl
      clear hdl
      go_wp2
      go_ret
      obtain rfl : dl = done := by have := hdl'.out; simpa using this
      exact ⟨rfl, HS, HR⟩
    · obtain ⟨p, cap, F, hFt, H1⟩ := poolX_out HS
      obtain ⟨fb, p', cap', fs, L, hL, hHolds, H2⟩ := bufX_out (H1.perm (sep_comm _ _) |>.perm (sep_assoc _ _ _))
      have hlen : frm + (data ++ done).length + rest.length ≤ 1000000000 := by subst hdl; simp at hf ⊢; omega
      generalize htil : frm + (data ++ done).length = til at *
      have Htil := Lib.hid htil
      have HL := Lib.hid hL
      have Hdl := Lib.hid hdl
      clear htil hL hdl
      obtain ⟨u, hu⟩ : ∃ u, u = U + (cl m c til - gn m c frm) := ⟨_, rfl⟩
      rw [← hu] at HS H1 H2 hFt
      have Hu := Lib.hid hu
      clear hu
      have HP := H2.perm (show _ = pool bp q m c (held + dl.length) u opn p cap F * (bufO bb bp m c fb p' cap' (gn m c frm) frm til fs L * R) by ac_rfl)
      obtain ⟨⟨c0, c1, c2, c3, c4, c5, cf⟩, ⟨b0, b1, b2, b3, b4, b5, b6, bz⟩, hne⟩ := facts HP
      have hr1 : 0 < rest.length := List.length_pos_iff.2 hr
      have hr2 : rest.isEmpty = false := by simpa using hr
      by_cases hA : (til : Int) < m
      · have HF : Sat wr (pts fb (.cells fs.toArray 5 (0, 0)) * (pool bp q m c (held + dl.length) u opn p cap F * (pts bb (bf bp false (.slice (some ⟨fb, 0, none⟩) m m) (.slice p' L.length cap') (gn m c frm) frm til) * (fact (fs.length = m) * (arr 58 1 p' L.length cap' (L.map (bs c)) * all (chunk c) L) * R)))) := HP.perm (by unfold bufO; ac_rfl)
        have hfs := (HF.right.perm (show _ = fact (fs.length = m) * (pool bp q m c (held + dl.length) u opn p cap F * (pts bb (bf bp false (.slice (some ⟨fb, 0, none⟩) m m) (.slice p' L.length cap') (gn m c frm) frm til) * ((arr 58 1 p' L.length cap' (L.map (bs c)) * all (chunk c) L) * R))) by ac_rfl)).fact_out.1
        have Hfs := Lib.hid hfs
        clear hfs
        obtain ⟨n, hn⟩ : ∃ n, n = min rest.length (m - til) := ⟨_, rfl⟩
        have hn1 : (1 : Int) ≤ n := by omega
        have hn2 : (n : Int) ≤ rest.length := by omega
        have hn3 : (til : Int) + n ≤ m := by omega
        have Hn := Lib.hid hn
        clear hn
        go_wp2_with fail
        go_quiet (fail)
        go_wp2_with (first
          | (go_at_call 30; refine (at_first _ bb bp fb m til (by exact b0) (by exact b2) (by exact c1) hA).mono ?_; rintro e w' ⟨rfl, nq2, rfl⟩)
          | (with_reducible refine wpList_copy_str (o := ⟨some 92, _, _, _, _, _⟩) rfl _ _ rfl fb til (m - til) (m - til) rest rfl rfl fs (Sat.drewN HF _) n Hn.out (by have := Hfs.out; omega) ?_; intro w2 HS2 HR2; have HB := HS2.perm (show _ = pts bb (bf bp false (.slice (some ⟨fb, 0, none⟩) m m) (.slice p' L.length cap') (gn m c frm) frm til) * (pts fb (.cells (splice fs til (bytes (rest.take n))).toArray 5 (0, 0)) * (pool bp q m c (held + dl.length) u opn p cap F * (fact (fs.length = m) * (arr 58 1 p' L.length cap' (L.map (bs c)) * all (chunk c) L) * R))) by ac_rfl); obtain ⟨d0, d1, d2, d3, d4, d5, d6, dz⟩ := cells7 HB.get))
        go_roundg (rest.length - n)
        case measure => omega
        case rel =>
          have HB2 : Sat (w2.setCell ⟨bb, 6, none⟩ (.int .i64 ((til : Int) + n))) (pts bb (bf bp false (.slice (some ⟨fb, 0, none⟩) m m) (.slice p' L.length cap') (gn m c frm) frm (til + n : Nat)) * (pts fb (.cells (splice fs til (bytes (rest.take n))).toArray 5 (0, 0)) * (pool bp q m c (held + dl.length) u opn p cap F * (fact (fs.length = m) * (arr 58 1 p' L.length cap' (L.map (bs c)) * all (chunk c) L) * R)))) := HB.set (i := 6) (.int .i64 ((til : Int) + n))
          have hfs := Hfs.out
          have hvl : (bytes (rest.take n)).length = n := by rw [bytes_length, List.length_take]; omega
          have hsl : (splice fs til (bytes (rest.take n))).length = m := by rw [length_splice _ _ _ (by omega)]; exact hfs
          have ht := Htil.out
          have hl0 : cl m c til = 0 := cl_low hc (by omega)
          have hl1 : cl m c (til + n) = 0 := cl_low hc (by omega)
          have ht2 : frm + (data ++ (done ++ rest.take n)).length = til + n := by rw [← ht]; simp; omega
          refine ⟨done ++ rest.take n, rest.drop n, ?_, by simp, ?_, ?_, ?_⟩
          · rw [Hdl.out, List.append_assoc, List.take_append_drop]
          · rw [str_drop]
          · rw [ht2, hl1]
            have hu := Hu.out
            rw [hl0] at hu
            rw [← hu]
            have HB3 := HB2.perm (show _ = bufO bb bp m c fb p' cap' (gn m c frm) frm (til + n) (splice fs til (bytes (rest.take n))) L * (pool bp q m c (held + dl.length) u opn p cap F * R) by unfold bufO; rw [hfs, hsl]; ac_rfl)
            refine (poolX_in (tot := tot + (done ++ rest.take n).length) (by simp; omega) ((bufX_in (data := data ++ (done ++ rest.take n)) (by omega) (by rw [hl1, ← hl0]; exact HL.out) ?_ HB3).perm (show _ = pool bp q m c (held + dl.length) u opn p cap F * (bufX bb bp m c frm (data ++ (done ++ rest.take n)) * R) by ac_rfl)))
            intro i hi
            rw [← List.append_assoc] at hi ⊢
            rw [atp_first hfs (by omega) (by rw [hvl]; rw [List.length_append, List.length_take] at hi; omega)]
            exact holds_write ht hHolds i hi
          · exact Ran.set ((Ran.drewN HR _).trans HR2) _ _
      · have hmt : m ≤ til := by omega
        obtain ⟨off, hoff⟩ : ∃ off, off = (til - m) % c := ⟨_, rfl⟩
        have e0 : ((til : Int) - m) = ((til - m : Nat) : Int) := by omega
        have e2 : ((til : Int) - m) % c = off := by rw [e0, hoff]; rfl
        have hg : gn m c frm ≤ (til - m) / c := gn_le (by have := Htil.out; omega)
        obtain ⟨k, hk⟩ : ∃ k, gn m c frm + k = (til - m) / c := ⟨(til - m) / c - gn m c frm, by omega⟩
        have e1 : ((til : Int) - m) / c = (gn m c frm : Int) + k := by rw [e0]; have : (((til - m : Nat) : Int) / c) = (((til - m) / c : Nat) : Int) := rfl; rw [this, ← hk]; rfl
        have hoc : (off : Int) < c := by have := Nat.mod_lt (til - m) (show 0 < c by omega); omega
        have hgk : gn m c frm + k ≤ 1000000000000 := by rw [hk]; have := Nat.div_le_self (til - m) c; omega
        obtain ⟨n, hn⟩ : ∃ n, n = min rest.length (c - off) := ⟨_, rfl⟩
        have hn1 : (1 : Int) ≤ n := by omega
        have hn2 : (n : Int) ≤ rest.length := by omega
        have hn3 : (off : Int) + n ≤ c := by omega
        have Hn := Lib.hid hn
        have Hoff := Lib.hid hoff
        have Hk := Lib.hid hk
        clear hn hoff hk e0
        by_cases hB : off = 0
        · have hB' : ((off : Int) == 0) = true := by simp [hB]
          have HB0 := Lib.hid hB
          clear hB
          have HQ : Sat wr (pool bp q m c (held + dl.length) u opn p cap F * (pts bb (bf bp false (.slice (some ⟨fb, 0, none⟩) m m) (.slice p' L.length cap') (gn m c frm) frm til) * (arr 58 1 p' L.length cap' (L.map (bs c)) * (fact (fs.length = m) * pts fb (.cells fs.toArray 5 (0, 0)) * all (chunk c) L * R)))) := HP.perm (by unfold bufO; ac_rfl)
          have hu1 : u ≤ 1000000000000 := by have h1 := Hu.out; have h2 := cl_le (m := m) (a := til) (show 0 < c by omega); omega
          have hLn : L.length ≤ 1000000000000 := by have h1 := HL.out; have h2 := cl_le (m := m) (a := til) (show 0 < c by omega); omega
          go_wp2_with fail
          go_quiet (fail)
          go_upto_region 10 with (fail)
          go_cut [] (fun wx => Took bp bb q m c (held + dl.length) u opn fb (gn m c frm) frm til fs F L R w wx)
          case first =>
            go_region_law (first
              | (go_simp; go_at_call 29; refine (take_calls bp q m c (held + dl.length) u opn cap p F _ _ hu1 hc2 (HQ.drewN _)).mono ?_; rintro e w1 ⟨x, pp, pc, F', rfl, hF', HT, HRT⟩; obtain ⟨k0, k3, kz⟩ := keepB HT.right.right; have kx0 := fun o => (World.cell?_alloc_lt w1 o _ (World.block_lt_of_cell? w1 _ k0)).trans k0; have kx3 := fun o => (World.cell?_alloc_lt w1 o _ (World.block_lt_of_cell? w1 _ k3)).trans k3)
              | (refine stepapp58 (by rfl) _ _ (by rfl) p' L.length cap' (L.map (bs c)) (by rfl) w1.heap.size (.slice (some ⟨x.1, 0, none⟩) c c) (by rfl) (((HT.old _).perm (show _ = arr 58 1 p' L.length cap' (L.map (bs c)) * (pts bb (bf bp false (.slice (some ⟨fb, 0, none⟩) m m) (.slice p' L.length cap') (gn m c frm) frm til) * (pool bp q m c (held + dl.length) (u + 1) opn pp pc F' * (chunk c x * (fact (fs.length = m) * pts fb (.cells fs.toArray 5 (0, 0)) * all (chunk c) L * R)))) by ac_rfl))) (by simp) (by rfl) hLn ?_; intro p2 cap2 w2 HS' HR2'; obtain ⟨j0, j3, jz⟩ := keepB HS'.right))
            all_goals (go_wp2_with (fail); go_meet; exact took_in hF' ((Ran.new (Below.trans (Ran.drewN HR _) HRT) _).trans HR2') HS')
          case rest =>
            clear HQ HP H1 H2 HS HR b0 b1 b2 b3 b4 b5 b6 bz c0 c1 c2 c3 c4 c5 cf
            obtain ⟨x, pp, pc, F', p2, cap2, hF', HP, HR⟩ := hcut
            have hFt' : u + 1 + F'.length ≤ tot + done.length + 1 := by omega
            have hLk0 : L.length = k := by have h1 := HL.out; have h2 := cl_on (m := m) (til := til) (show 0 < c by omega) (by have h4 := Hoff.out; have h5 := HB0.out; omega); have h3 := Hk.out; omega
            have hHolds' : Holds m c (gn m c frm) frm fs (L ++ [x]) (data ++ done) := fun i hi => by
              rw [atp_snoc _ (by rw [hHolds i hi]; simp [bytes] at hi ⊢; omega)]; exact hHolds i hi
            have hLk : (L ++ [x]).length = k + 1 := by simp [hLk0]
            generalize L ++ [x] = L2 at *
            clear hLk0 hHolds L hLn HL hFt hF' F
            have hHolds := hHolds'; clear hHolds'
            obtain ⟨⟨c0, c1, c2, c3, c4, c5, cf⟩, ⟨b0, b1, b2, b3, b4, b5, b6, bz⟩, hne⟩ := facts HP
            have hkL : k < L2.length := by omega
            have HF : Sat wc (pts L2[k].1 (.cells L2[k].2.toArray 5 (0, 0)) * (pts bb (bf bp false (.slice (some ⟨fb, 0, none⟩) m m) (.slice p2 L2.length cap2) (gn m c frm) frm til) * (fact (L2[k].2.length = c) * (bufR m c fb p2 cap2 fs L2 k * (pool bp q m c (held + dl.length) (u + 1) opn pp pc F' * R))))) := HP.perm (by rw [buf_focus bb bp m c fb p2 cap2 _ _ _ fs L2 k hkL]; ac_rfl)
            have hxl := (HF.right.perm (show _ = fact (L2[k].2.length = c) * (pts bb (bf bp false (.slice (some ⟨fb, 0, none⟩) m m) (.slice p2 L2.length cap2) (gn m c frm) frm til) * (bufR m c fb p2 cap2 fs L2 k * (pool bp q m c (held + dl.length) (u + 1) opn pp pc F' * R))) by ac_rfl)).fact_out.1
            have HAr : Sat wc (arr 58 1 p2 L2.length cap2 (L2.map (bs c)) * (pts bb (bf bp false (.slice (some ⟨fb, 0, none⟩) m m) (.slice p2 L2.length cap2) (gn m c frm) frm til) * (fact (fs.length = m) * pts fb (.cells fs.toArray 5 (0, 0)) * all (chunk c) L2 * (pool bp q m c (held + dl.length) (u + 1) opn pp pc F' * R)))) := HP.perm (by unfold bufO; ac_rfl)
            obtain ⟨g, o, rfl⟩ := HAr.arr_addr (by have := HAr.arr_len; omega)
            have hcell : wc.cell? ⟨g, o + k, none⟩ = some (.slice (some ⟨L2[k].1, 0, none⟩) c c) := by
              rw [HAr.arr_cell k (by simpa using hkL)]; simp [bs]
            have hkn : (k : Int) < L2.length := by omega
            have HLk := Lib.hid hLk
            have Hxl := Lib.hid hxl
            obtain ⟨xb, hxb⟩ : ∃ xb, xb = L2[k].1 := ⟨_, rfl⟩
            obtain ⟨xs, hxs⟩ : ∃ xs, xs = L2[k].2 := ⟨_, rfl⟩
            rw [← hxb] at hcell
            rw [← hxb, ← hxs] at HF
            have Hxb := Lib.hid hxb
            have Hxs := Lib.hid hxs
            have Hfit : Hid (off + n ≤ xs.length) := by show off + n ≤ xs.length; have h1 := Hxl.out; have h2 := Hxs.out; rw [h2, h1]; omega
            clear hLk hxl hxb hxs hg
            go_wp2_with (first
              | (go_at_call 30; refine (at_chunk _ bb bp m c xb g o L2.length cap2 (gn m c frm) k off til (by exact b0) (by exact b3) (by exact b4) (by exact c1) (by exact c2) (by exact hcell) hkn hoc hc2 (by omega) (by omega) e1 e2 hgk).mono ?_; rintro e w' ⟨rfl, nq2, rfl⟩)
              | (with_reducible refine wpList_copy_str (o := ⟨some 92, _, _, _, _, _⟩) rfl _ _ rfl xb off (c - off) (c - off) rest rfl rfl xs (Sat.drewN HF _) n Hn.out Hfit.out ?_; intro w2 HS2 HR2; have HB := HS2.perm (show _ = pts bb (bf bp false (.slice (some ⟨fb, 0, none⟩) m m) (.slice (some ⟨g, o, none⟩) L2.length cap2) (gn m c frm) frm til) * (pts xb (.cells (splice xs off (bytes (rest.take n))).toArray 5 (0, 0)) * (fact (xs.length = c) * (bufR m c fb (some ⟨g, o, none⟩) cap2 fs L2 k * (pool bp q m c (held + dl.length) (u + 1) opn pp pc F' * R)))) by ac_rfl); obtain ⟨d0, d1, d2, d3, d4, d5, d6, dz⟩ := cells7 HB.get))
            go_roundg (rest.length - n)
            case measure => omega
            case rel =>
              have HB2 : Sat (w2.setCell ⟨bb, 6, none⟩ (.int .i64 ((til : Int) + n))) (pts bb (bf bp false (.slice (some ⟨fb, 0, none⟩) m m) (.slice (some ⟨g, o, none⟩) L2.length cap2) (gn m c frm) frm (til + n : Nat)) * (pts xb (.cells (splice xs off (bytes (rest.take n))).toArray 5 (0, 0)) * (fact (xs.length = c) * (bufR m c fb (some ⟨g, o, none⟩) cap2 fs L2 k * (pool bp q m c (held + dl.length) (u + 1) opn pp pc F' * R))))) := HB.set (i := 6) (.int .i64 ((til : Int) + n))
              rw [Hxb.out, Hxs.out, Hoff.out] at HB2
              have HB3 := (HB2.perm (show _ = fact (L2[k].2.length = c) * (pts bb (bf bp false (.slice (some ⟨fb, 0, none⟩) m m) (.slice (some ⟨g, o, none⟩) L2.length cap2) (gn m c frm) frm (til + n : Nat)) * (pts L2[k].1 (.cells (splice L2[k].2 ((til - m) % c) (bytes (rest.take n))).toArray 5 (0, 0)) * (bufR m c fb (some ⟨g, o, none⟩) cap2 fs L2 k * (pool bp q m c (held + dl.length) (u + 1) opn pp pc F' * R)))) by ac_rfl)).fact_out.2
              have ht := Htil.out
              have ho := Hoff.out
              have hl1 : cl m c (til + n) = (til - m) / c + 1 := cl_step (by omega) hmt (by omega) (by omega)
              have ht2 : frm + (data ++ (done ++ rest.take n)).length = til + n := by rw [← ht]; simp; omega
              have hb0 := HB0.out
              have hl2 : cl m c til = (til - m) / c := cl_on (by omega) (by omega)
              have hkk := Hk.out
              have hu := Hu.out
              refine ⟨done ++ rest.take n, rest.drop n, ?_, by simp, by rw [str_drop], ?_, Ran.set ((Ran.drewN HR _).trans HR2) _ _⟩
              · rw [Hdl.out, List.append_assoc, List.take_append_drop]
              · rw [ht2, hl1, show U + ((til - m) / c + 1 - gn m c frm) = u + 1 by omega, ← List.append_assoc]
                refine close_chunk (by omega) hkL hmt ht (by rw [List.length_take]; omega) (by omega) (by omega) Hk.out ?_ Hxl.out hHolds (by rw [List.length_append, List.length_take]; omega) HB3
                rw [hl1]; have := HLk.out; omega
        · have hB' : ((off : Int) == 0) = false := by simpa using hB
          have hLk : L.length = k + 1 := by have h1 := HL.out; have h2 := cl_in (show 0 < c by omega) hmt (by rw [← Hoff.out]; exact hB); have h3 := Hk.out; omega
          have hkL : k < L.length := by omega
          have HF : Sat wr (pts L[k].1 (.cells L[k].2.toArray 5 (0, 0)) * (pts bb (bf bp false (.slice (some ⟨fb, 0, none⟩) m m) (.slice p' L.length cap') (gn m c frm) frm til) * (fact (L[k].2.length = c) * (bufR m c fb p' cap' fs L k * (pool bp q m c (held + dl.length) u opn p cap F * R))))) := HP.perm (by rw [buf_focus bb bp m c fb p' cap' _ _ _ fs L k hkL]; ac_rfl)
          have hxl := (HF.right.perm (show _ = fact (L[k].2.length = c) * (pts bb (bf bp false (.slice (some ⟨fb, 0, none⟩) m m) (.slice p' L.length cap') (gn m c frm) frm til) * (bufR m c fb p' cap' fs L k * (pool bp q m c (held + dl.length) u opn p cap F * R))) by ac_rfl)).fact_out.1
          have HAr : Sat wr (arr 58 1 p' L.length cap' (L.map (bs c)) * (pts bb (bf bp false (.slice (some ⟨fb, 0, none⟩) m m) (.slice p' L.length cap') (gn m c frm) frm til) * (fact (fs.length = m) * pts fb (.cells fs.toArray 5 (0, 0)) * all (chunk c) L * (pool bp q m c (held + dl.length) u opn p cap F * R)))) := HP.perm (by unfold bufO; ac_rfl)
          obtain ⟨g, o, rfl⟩ := HAr.arr_addr (by have := HAr.arr_len; omega)
          have hcell : wr.cell? ⟨g, o + k, none⟩ = some (.slice (some ⟨L[k].1, 0, none⟩) c c) := by
            rw [HAr.arr_cell k (by simpa using hkL)]; simp [bs]
          have hkn : (k : Int) < L.length := by omega
          have HLk := Lib.hid hLk
          have Hxl := Lib.hid hxl
          obtain ⟨xb, hxb⟩ : ∃ xb, xb = L[k].1 := ⟨_, rfl⟩
          obtain ⟨xs, hxs⟩ : ∃ xs, xs = L[k].2 := ⟨_, rfl⟩
          rw [← hxb] at hcell
          rw [← hxb, ← hxs] at HF
          have Hxb := Lib.hid hxb
          have Hxs := Lib.hid hxs
          have Hfit : Hid (off + n ≤ xs.length) := by show off + n ≤ xs.length; have h1 := Hxl.out; have h2 := Hxs.out; rw [h2, h1]; omega
          clear hLk hxl hxb hxs hg
          go_wp2_with fail
          go_quiet (fail)
          go_wp2_with (first
            | (go_at_call 30; refine (at_chunk _ bb bp m c xb g o L.length cap' (gn m c frm) k off til (by exact b0) (by exact b3) (by exact b4) (by exact c1) (by exact c2) (by exact hcell) hkn hoc hc2 (by omega) (by omega) e1 e2 hgk).mono ?_; rintro e w' ⟨rfl, nq2, rfl⟩)
            | (with_reducible refine wpList_copy_str (o := ⟨some 92, _, _, _, _, _⟩) rfl _ _ rfl xb off (c - off) (c - off) rest rfl rfl xs (Sat.drewN HF _) n Hn.out Hfit.out ?_; intro w2 HS2 HR2; have HB := HS2.perm (show _ = pts bb (bf bp false (.slice (some ⟨fb, 0, none⟩) m m) (.slice (some ⟨g, o, none⟩) L.length cap') (gn m c frm) frm til) * (pts xb (.cells (splice xs off (bytes (rest.take n))).toArray 5 (0, 0)) * (fact (xs.length = c) * (bufR m c fb (some ⟨g, o, none⟩) cap' fs L k * (pool bp q m c (held + dl.length) u opn p cap F * R)))) by ac_rfl); obtain ⟨d0, d1, d2, d3, d4, d5, d6, dz⟩ := cells7 HB.get))
          go_roundg (rest.length - n)
          case measure => omega
          case rel =>
            have HB2 : Sat (w2.setCell ⟨bb, 6, none⟩ (.int .i64 ((til : Int) + n))) (pts bb (bf bp false (.slice (some ⟨fb, 0, none⟩) m m) (.slice (some ⟨g, o, none⟩) L.length cap') (gn m c frm) frm (til + n : Nat)) * (pts xb (.cells (splice xs off (bytes (rest.take n))).toArray 5 (0, 0)) * (fact (xs.length = c) * (bufR m c fb (some ⟨g, o, none⟩) cap' fs L k * (pool bp q m c (held + dl.length) u opn p cap F * R))))) := HB.set (i := 6) (.int .i64 ((til : Int) + n))
            rw [Hxb.out, Hxs.out, Hoff.out] at HB2
            have HB3 := (HB2.perm (show _ = fact (L[k].2.length = c) * (pts bb (bf bp false (.slice (some ⟨fb, 0, none⟩) m m) (.slice (some ⟨g, o, none⟩) L.length cap') (gn m c frm) frm (til + n : Nat)) * (pts L[k].1 (.cells (splice L[k].2 ((til - m) % c) (bytes (rest.take n))).toArray 5 (0, 0)) * (bufR m c fb (some ⟨g, o, none⟩) cap' fs L k * (pool bp q m c (held + dl.length) u opn p cap F * R)))) by ac_rfl)).fact_out.2
            have ht := Htil.out
            have ho := Hoff.out
            have hl1 : cl m c (til + n) = (til - m) / c + 1 := cl_step (by omega) hmt (by omega) (by omega)
            have ht2 : frm + (data ++ (done ++ rest.take n)).length = til + n := by rw [← ht]; simp; omega
            have hl2 : cl m c til = (til - m) / c + 1 := cl_in (by omega) hmt (by omega)
            refine ⟨done ++ rest.take n, rest.drop n, ?_, by simp, by rw [str_drop], ?_, Ran.set ((Ran.drewN HR _).trans HR2) _ _⟩
            · rw [Hdl.out, List.append_assoc, List.take_append_drop]
            · rw [ht2, hl1, ← hl2, ← Hu.out, ← List.append_assoc]
              refine close_chunk (by omega) hkL hmt ht (by rw [List.length_take]; omega) (by omega) (by omega) Hk.out ?_ Hxl.out hHolds (by rw [List.length_append]; omega) HB3
              rw [hl1, ← hl2]; exact HL.out
end Go.Proofs.Ytgaeafhkepfgjaa.Spill
