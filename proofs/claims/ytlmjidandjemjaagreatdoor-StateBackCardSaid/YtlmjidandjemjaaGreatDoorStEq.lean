/- A variable that is nothing. -/
import Derived.Test.YtlmjidandjemjaaGreatDoorStTa
import Derived.Laws.StructEq
import Derived.ChangeKeysEq
namespace Go.Proofs.YtlmjidandjemjaaGreatDoor.State
open Go.RowKit Go.Proofs.YtlmjidandjemjaaGreatDoor Go.Proofs.YtlmjidandjemjaaGreatDoor.Hp Go.Proofs.YtlmjidandjemjaaGreatDoor.Undo
set_option linter.unusedVariables false
attribute [local go_sem] Oper.semAt_some
theorem fieldsVar : Tryz.prog.underlying 44 = some (.struct (Tryz.prog.fieldsOf 44)) := by kernel_rfl
theorem eql_nil (x : VM.T) (w : World) : (binOp .eql 44 (VM.enc x) (VM.enc VM.zt)).run Tryz.prog w = .ok (.bool (nilVar x)) w := by
  have hF : (Tryz.prog.fieldsOf 44).toList.map (fun f => (f.type, f.offset, f.name == "_")) = [(9, 0, false), (4, 1, false), (4, 2, false), (4, 3, false)] := by kernel_rfl
  rw [run_eql_struct, run_equalIn_struct _ _ _ _ _ fieldsVar (by kernel_rfl)]
  generalize (Tryz.prog.fieldsOf 44).toList = l at hF
  obtain ⟨f0, l, rfl, h0, hF⟩ := List.map_eq_cons_iff.1 hF
  obtain ⟨f1, l, rfl, h1, hF⟩ := List.map_eq_cons_iff.1 hF
  obtain ⟨f2, l, rfl, h2, hF⟩ := List.map_eq_cons_iff.1 hF
  obtain ⟨f3, l, rfl, h3, hF⟩ := List.map_eq_cons_iff.1 hF
  obtain rfl := List.map_eq_nil_iff.1 hF
  simp only [Prod.mk.injEq] at h0 h1 h2 h3
  obtain ⟨h01, h02, h03⟩ := h0
  obtain ⟨h11, h12, h13⟩ := h1
  obtain ⟨h21, h22, h23⟩ := h2
  obtain ⟨h31, h32, h33⟩ := h3
  have n0 : f0.name ≠ "_" := by simpa using h03
  have n1 : f1.name ≠ "_" := by simpa using h13
  have n2 : f2.name ≠ "_" := by simpa using h23
  have n3 : f3.name ≠ "_" := by simpa using h33
  have p0 : ∀ (a : ByteArray) (b c d : Bool) (W : World), (part 9 #[.string a, .bool b, .bool c, .bool d] 0).run Tryz.prog W = .ok (.string a) W := fun a b c d W => run_part_plain (P := Tryz.prog) W (by kernel_rfl) rfl
  have p1 : ∀ (a : ByteArray) (b c d : Bool) (W : World), (part 4 #[.string a, .bool b, .bool c, .bool d] 1).run Tryz.prog W = .ok (.bool b) W := fun a b c d W => run_part_plain (P := Tryz.prog) W (by kernel_rfl) rfl
  have p2 : ∀ (a : ByteArray) (b c d : Bool) (W : World), (part 4 #[.string a, .bool b, .bool c, .bool d] 2).run Tryz.prog W = .ok (.bool c) W := fun a b c d W => run_part_plain (P := Tryz.prog) W (by kernel_rfl) rfl
  have p3 : ∀ (a : ByteArray) (b c d : Bool) (W : World), (part 4 #[.string a, .bool b, .bool c, .bool d] 3).run Tryz.prog W = .ok (.bool d) W := fun a b c d W => run_part_plain (P := Tryz.prog) W (by kernel_rfl) rfl
  unfold nilVar VM.zt
  simp only [Op.eqFields, if_pos n0, if_pos n1, if_pos n2, if_pos n3, h01, h02, h11, h12, h21, h22, h31, h32, Sem.run_bind]
  have he : (ByteArray.toList ⟨#[]⟩) = ([] : List UInt8) := by rw [ByteArray.toList_eq]
  obtain ⟨a, b, c, d⟩ := x
  simp only [p0, Result.andThen_ok, run_equalIn_string _ _ _ _ _ Tryz.underlying9, he, beq_nil]
  by_cases hq : a.size = 0
  · cases b <;> cases c <;> cases d <;> simp [hq, p1, p2, p3, run_equalIn_bool' _ _ _ _ _ Tryz.underlying4]
  · simp [hq]
end Go.Proofs.YtlmjidandjemjaaGreatDoor.State
