/- SetOption walked. -/
import Derived.Test.YtlmjidandjemjaaGreatDoorStTi
import Derived.Test.YtlmjidandjemjaaGreatDoorStSo
import Derived.Lib.ReplaceLaws
namespace Go.Proofs.YtlmjidandjemjaaGreatDoor.State
open Go.RowKit Go.Proofs.YtlmjidandjemjaaGreatDoor Go.Proofs.YtlmjidandjemjaaGreatDoor.Hp Go.Proofs.YtlmjidandjemjaaGreatDoor.Undo
set_option linter.unusedVariables false
attribute [local go_sem] Oper.semAt_some

open Now (optL optS)
def subs : List UInt8 → List (List UInt8)
  | [] => [[]]
  | x :: l => subs l ++ (subs l).map (x :: ·)
theorem filter_subs (p : UInt8 → Bool) : ∀ l : List UInt8, l.filter p ∈ subs l
  | [] => List.mem_singleton.2 rfl
  | x :: l => by
    unfold subs
    rw [List.mem_append]
    cases h : p x with
    | true => right; rw [List.filter_cons_of_pos h]; exact List.mem_map.2 ⟨_, filter_subs p l, rfl⟩
    | false => left; rw [List.filter_cons_of_neg (by rw [h]; decide)]; exact filter_subs p l
/-- Options as they stand: each once, rising. -/
def OOk (o : ByteArray) : Prop := bs o = optL.filter fun c => decide (c ∈ bs o)
theorem OOk.subs {o : ByteArray} (h : OOk o) : bs o ∈ subs optL := by
  rw [h]; exact filter_subs _ _
theorem opt_rest : ∀ l ∈ subs optL, ∀ b ∈ optL, Lib.replaceAll l [b] [] = optS l b false := by decide +kernel
theorem opt_perm : ∀ l ∈ subs optL, ∀ b ∈ optL, ((optS l b true).map fun c => (c.toNat : Int)).isPerm ((optS l b false ++ [b]).map fun c => (c.toNat : Int)) = true := by decide +kernel
theorem opt_rise : ∀ l ∈ subs optL, ∀ b ∈ optL, ((optS l b true).map fun c => (c.toNat : Int)).Pairwise (· ≤ ·) := by decide +kernel
theorem opt_len : ∀ l ∈ subs optL, ∀ b ∈ optL, (optS l b true).length = (optS l b false).length + 1 ∧ (optS l b true).length ≤ 6 ∧ l.length ≤ 6 := by decide +kernel
theorem optS_ok (l : List UInt8) (b : UInt8) (on : Bool) : OOk ⟨(optS l b on).toArray⟩ := by
  unfold OOk
  rw [bs_mk]
  show optL.filter _ = _
  have h : ∀ c ∈ optL, (if c = b then on else decide (c ∈ l)) = decide (c ∈ optS l b on) := by
    intro c hc
    unfold optS
    rw [Bool.eq_iff_iff, decide_eq_true_eq, List.mem_filter]
    exact ⟨fun h => ⟨hc, h⟩, fun h => h.2⟩
  exact List.filter_congr h
/-- The variable that the library's search asks. -/
def Glob (R : Hp) : Prop := ∃ m : Int, ∀ (w : World) (S : Hp), Sat w (S * R) → w.cell? ⟨0, 0, none⟩ = some (.int .i64 m)
theorem Glob.more {R S : Hp} (h : Glob R) : Glob (S * R) := by
  obtain ⟨m, h⟩ := h
  exact ⟨m, fun w S' hS => h w (S' * S) (hS.perm (by ac_rfl))⟩
theorem Glob.at {K : Ctx} {w : World} {n : Now} {R : Hp} (h : SAt K w n R) (hg : Glob R) : ∃ m : Int, w.cell? ⟨0, 0, none⟩ = some (.int .i64 m) := by
  obtain ⟨X, h1, _⟩ := h.frame
  obtain ⟨m, hm⟩ := hg
  exact ⟨m, hm _ _ h1⟩
theorem replace_calls (o : ByteArray) (b : UInt8) (m : Int) (w : World) (ho : OOk o) (hb : b ∈ optL) (hm : w.cell? ⟨0, 0, none⟩ = some (.int .i64 m)) :
    Calls Tryz.prog 95 #[.string o, .string ⟨#[b]⟩, .string ⟨#[]⟩] w fun e w' => e = .returned (.string ⟨(optS (bs o) b false).toArray⟩) ∧ Below w.heap.size w w' := by
  have hsz : o.size ≤ 6 := by rw [← bs_length]; exact (opt_len _ ho.subs b hb).2.2
  refine (Tryz.strings_ReplaceAll o ⟨#[b]⟩ ⟨#[]⟩ m w (by omega) hm (show 1 ≤ 1 from Nat.le_refl 1) (by show o.size + _ * 0 ≤ _; omega)).mono ?_
  rintro e w' ⟨rfl, hB⟩
  refine ⟨?_, hB⟩
  have := opt_rest _ ho.subs b hb
  show Ending.returned (.string ⟨(Lib.replaceAll (bs o) [b] []).toArray⟩) = _
  rw [this]
end Go.Proofs.YtlmjidandjemjaaGreatDoor.State
