/- A map of at most one float key: what its iterator hands on. -/
import Derived.Test.YtibgpkcklneloaaUnP
import Derived.Maps.RangeRun
namespace Go.Proofs.Ytibgpkcklneloaa.Undo
open Go.RowKit Go.ChangeMaps Go.Proofs.Ytibgpkcklneloaa Go.Proofs.Ytibgpkcklneloaa.Hp
set_option linter.unusedVariables false
attribute [local go_sem] Oper.semAt_some

abbrev fV (x : Nat) : Value := .float .f64 x
def fEs : Option Nat → Array MapEntry
  | none => #[]
  | some x => #[⟨fV x, .int .i64 1, 0⟩]
abbrev fMap (mb : Nat) (o : Option Nat) : Hp := pts mb (.map (fEs o) (fEs o).size)
def fKeys (o : Option Nat) : List Value := o.toList.map fV
abbrev itO (mb n : Nat) (seen : Array Nat) : Obj := .mapIter (some mb) n seen n
theorem fset_put {w : World} {b : Nat} {o : Obj} {R : Hp} (h : Sat w (pts b o * R)) (o' : Obj) : Sat (setBlock w b o') (pts b o' * R) := by
  have hl := h.lt
  refine h.put ?_ fun k hk hne => ?_
  · simp [setBlock, hl]
  · simp [setBlock, Ne.symm hne]
theorem Ran.block' {a w : World} (h : Ran a w) (b : Nat) (o : Obj) : Ran a (setBlock w b o) := h.trans ⟨rfl, rfl, rfl, by simp [setBlock], fun k hk => absurd hk (Nat.not_lt_zero _)⟩
def KiRel (mb rb bb : Nat) (o : Option Nat) (J : List Value → Hp) (W : World) (g : Nat) (wr : World) : Prop :=
  (g = (fEs o).size ∧ Sat wr (pts rb (itO mb (fEs o).size #[]) * (J [] * (pts bb (.cells #[.map (some mb)] 95 (0, 0)) * fMap mb o))) ∧ Ran W wr) ∨
  (g = 0 ∧ Sat wr (pts rb (itO mb (fEs o).size ((fEs o).map (·.born))) * (J (fKeys o) * (pts bb (.cells #[.map (some mb)] 95 (0, 0)) * fMap mb o))) ∧ Ran W wr)
theorem next_over {w : World} {mb rb : Nat} {o : Option Nat} {S : Hp} (h : Sat w (pts rb (itO mb (fEs o).size ((fEs o).map (·.born))) * (fMap mb o * S))) (ty : TypeId) : (Instr.next (.pointer (some ⟨rb, 0, none⟩)) false ty).run Try.prog w = .ok (.tuple #[.bool false]) w := by
  have hb := h.right.get
  rcases run_next_at (P := Try.prog) w ty rb mb _ _ _ (fEs o) _ h.get hb (by cases o <;> simp [fEs]) (Nat.le_refl _) with ⟨_, h2⟩ | ⟨e, he, _⟩
  · exact h2
  · exfalso
    cases o <;> simp [fEs, leftOf] at he
theorem next_one {w : World} {mb rb x : Nat} {S : Hp} (h : Sat w (pts rb (itO mb 1 #[]) * (fMap mb (some x) * S))) (ty : TypeId) :
    ∃ w1, (w1 = w ∨ w1 = w.drew) ∧ (Instr.next (.pointer (some ⟨rb, 0, none⟩)) false ty).run Try.prog w = .ok (.tuple #[.bool true, fV x, .int .i64 1]) (setBlock w1 rb (itO mb 1 #[0])) ∧ (Instr.entry (.pointer (some ⟨rb, 0, none⟩))).run Try.prog (setBlock w1 rb (itO mb 1 #[0])) = .ok (.tuple #[fV x, .int .i64 1]) (setBlock w1 rb (itO mb 1 #[0])) := by
  have hb := h.right.get
  rcases run_next_at (P := Try.prog) w ty rb mb 1 1 #[] (fEs (some x)) 1 h.get hb (by simp [fEs]) (Nat.le_refl _) with ⟨h1, _⟩ | ⟨e, he, w1, hw, hrun⟩
  · exfalso
    simp [fEs, leftOf] at h1
  · have hee : e = ⟨fV x, .int .i64 1, 0⟩ := by simpa [fEs, leftOf] using he
    subst hee
    refine ⟨w1, hw, hrun, ?_⟩
    have h1 : Sat w1 (pts rb (itO mb 1 #[]) * (fMap mb (some x) * S)) := by rcases hw with rfl | rfl; exact h; exact h.drew
    have h2 := fset_put h1 (itO mb 1 #[0])
    exact run_entry_at (P := Try.prog) _ rb mb 1 #[] (fEs (some x)) 1 ⟨fV x, .int .i64 1, 0⟩ h2.get h2.right.get (by simp [fEs]) (by simp [fEs])
set_option maxRecDepth 100000 in
set_option maxHeartbeats 2000000 in
theorem fkeys_iter (mb bb m : Nat) (o : Option Nat) :
    IterSat Try.prog m 61 #[.pointer (some ⟨bb, 0, none⟩)] (fun x : Value => #[x]) (fKeys o)
      (pts bb (.cells #[.map (some mb)] 95 (0, 0)) * fMap mb o) := by
  intro l J W hW hY
  refine callsIn_wide.2 ?_
  have HY := Lib.hid hY
  have hsb := (hW.perm (show _ = pts bb (.cells #[.map (some mb)] 95 (0, 0)) * (fMap mb o * J []) by ac_rfl))
  have c0 : W.cell? ⟨bb, 0, none⟩ = some (.map (some mb)) := by rw [cell_at hsb.get]; rfl
  have hrg := run_range_map (P := Try.prog) W 95 _ _ mb _ _ Try.underlying95 hsb.right.get
  obtain ⟨rb, hrb⟩ : ∃ b, b = W.heap.size := ⟨_, rfl⟩
  obtain ⟨W1, hW1⟩ : ∃ w, w = W.alloc (.mapIter (some mb) (fEs o).size #[] (fEs o).size) := ⟨_, rfl⟩
  have H1 : Sat W1 (pts rb (itO mb (fEs o).size #[]) * (J [] * (pts bb (.cells #[.map (some mb)] 95 (0, 0)) * fMap mb o))) := by rw [hW1, hrb]; exact hW.alloc _
  have R1 : Ran W W1 := by rw [hW1]; exact Ran.new (Below.refl _ _) _
  rw [← hrb, ← hW1] at hrg
  have H1 := Lib.hid H1
  clear hY hsb hW hrb hW1
  go_enter Try.func61, Try.ntmps61
  go_wp2_with fail
  go_loopg [3] (fEs o).size (fun (g : Nat) (_ : Value) (wr : World) => KiRel mb rb bb o J W g wr)
  case atStart => exact .inl ⟨rfl, H1.out, R1⟩
  case round =>
    clear c0 H1 R1 hrg
    have hover : ∀ wr : World, Sat wr (pts rb (itO mb (fEs o).size ((fEs o).map (·.born))) * (J (fKeys o) * (pts bb (.cells #[.map (some mb)] 95 (0, 0)) * fMap mb o))) → (Instr.next (.pointer (some ⟨rb, 0, none⟩)) false 0).run Try.prog wr = .ok (.tuple #[.bool false]) wr := fun wr h =>
      next_over (h.perm (show _ = pts rb (itO mb (fEs o).size ((fEs o).map (·.born))) * (fMap mb o * (J (fKeys o) * pts bb (.cells #[.map (some mb)] 95 (0, 0)))) by ac_rfl)) 0
    have hend : ∀ wr : World, Sat wr (pts rb (itO mb (fEs o).size ((fEs o).map (·.born))) * (J (fKeys o) * (pts bb (.cells #[.map (some mb)] 95 (0, 0)) * fMap mb o))) → Ran W wr → KiRel mb rb bb o J W 0 wr := fun wr h r => .inr ⟨rfl, h, r⟩
    have fin : ∀ HS : Sat wr (pts rb (itO mb (fEs o).size ((fEs o).map (·.born))) * (J (fKeys o) * (pts bb (.cells #[.map (some mb)] 95 (0, 0)) * fMap mb o))), (Instr.next (.pointer (some ⟨rb, 0, none⟩)) false 0).run Try.prog wr = .ok (.tuple #[.bool false]) wr ∧ Sat wr (J (fKeys o) * (pts bb (.cells #[.map (some mb)] 95 (0, 0)) * fMap mb o)) := fun HS => ⟨hover wr HS, HS.right⟩
    rcases hrel with ⟨hg, HS, HR⟩ | ⟨rfl, HS, HR⟩
    · cases o with
      | none =>
        obtain ⟨hn, HJ⟩ := fin (by rw [show (fEs none).map (·.born) = #[] by simp [fEs]]; exact HS)
        have HJ := Lib.hid HJ
        clear hover hend fin HS hg
        go_wp2_with fail
        go_end0
        exact ⟨⟨_, rfl⟩, HJ.out, HR⟩
      | some x =>
        have hg1 : gk = 1 := hg
        subst hg1
        have HS1 := HS.perm (show _ = pts rb (itO mb 1 #[]) * (fMap mb (some x) * (J [] * pts bb (.cells #[.map (some mb)] 95 (0, 0)))) by show pts rb (itO mb 1 #[]) * _ = _; ac_rfl)
        obtain ⟨w1, hw1, hn, he⟩ := next_one HS1 0
        have HSw : Sat w1 (pts rb (itO mb 1 #[]) * (fMap mb (some x) * (J [] * pts bb (.cells #[.map (some mb)] 95 (0, 0))))) := by rcases hw1 with rfl | rfl; exact HS1; exact HS1.drew
        have HRw : Ran W w1 := by rcases hw1 with rfl | rfl; exact HR; exact Below.drew HR
        have HS2 := fset_put HSw (itO mb 1 #[0])
        have HR2 : Ran W (setBlock w1 rb (itO mb 1 #[0])) := Ran.block' HRw _ _
        obtain ⟨w2, hw2⟩ : ∃ w, setBlock w1 rb (itO mb 1 #[0]) = w := ⟨_, rfl⟩
        rw [hw2] at hn he HS2 HR2
        obtain ⟨fn, tmps, assign, body, hy, hRd⟩ := HY.out [] (fV x) [] (pts rb (itO mb 1 #[0]) * (fMap mb (some x) * pts bb (.cells #[.map (some mb)] 95 (0, 0)))) w2 rfl (HS2.perm (by ac_rfl))
        have HRd := Lib.hid hRd
        have Hend := Lib.hid (hend)
        clear hover hend fin HS HS1 HSw HS2 HR HRw hw2 hRd hg
        go_upto_region 3 with fail
        refine (wpIn_wide (n := m)).1 ?_
        gi_wp2
        refine ⟨fun h => (by cases h), HRd.out.mono ?_⟩
        rintro e w3 ⟨rfl, hs3, hr3⟩
        have Hrel := Lib.hid (Hend.out w3 (by rw [show (fEs (some x)).map (·.born) = #[0] by simp [fEs]]; exact hs3.perm (show J [fV x] * (pts rb (itO mb 1 #[0]) * (fMap mb (some x) * pts bb (.cells #[.map (some mb)] 95 (0, 0)))) = pts rb (itO mb 1 #[0]) * (J [fV x] * (pts bb (.cells #[.map (some mb)] 95 (0, 0)) * fMap mb (some x))) by ac_rfl)) (Below.trans HR2 hr3))
        clear hs3 hr3 HR2 hy HRd hn he
        gi_wp2
        go_wp2_with fail
        go_roundg 0
        case measure => exact Nat.zero_lt_one
        case rel => exact Hrel.out
    · obtain ⟨hn, HJ⟩ := fin HS
      have HJ := Lib.hid HJ
      clear hover hend fin HS
      go_wp2_with fail
      go_end0
      exact ⟨⟨_, rfl⟩, HJ.out, HR⟩
end Go.Proofs.Ytibgpkcklneloaa.Undo
