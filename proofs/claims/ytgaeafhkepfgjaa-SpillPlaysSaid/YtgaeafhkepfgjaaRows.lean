/-
  No cell of these rows narrows 'for every input' (looked for: loops, veiled, ifaces, maps, wideKeys, modest, calm, conditions, laid).
  DERIVED. THE GIVEN ROWS OF THIS SEAT. 4 by the template 'for every input the law returns true; each argument reads behind the call as it read before'; 0 by the template 'total and deterministic' (their statements: YtgaeafhkepfgjaaTotals.lean).
  GIVEN WITH THE SEED: the statements are not yours to turn. If you find one false, say at which input.
  Laid BY PROGRAM, IN A SANDBOX (cutbox-rows.mjs): the forced cells as the released guide's own fill.sh prints them over the translation 1a33124d966bfe59… (all of the seat's roots in one cut). By AI agents, Wed Nov 11 2026. No macro, syntax, notation, axiom, sorry.
-/
import Derived.Test.YtgaeafhkepfgjaaChecked
import GoSem.Claim
import GoSem.ClaimJoined
import GoSem.ClaimMapViews
import Derived.JoinedTies
import Derived.KernelRfl
namespace Go.Proofs.Ytgaeafhkepfgjaa
/- THE CELL 'sum', in the pinned program and in every row, IS THE sha256 OF THE DUMP (.gsa) THAT YtgaeafhkepfgjaaProg.lean LOADS. Nothing in Lean hashes anything: it is a label: what it is worth is what the hold of that sum in a sandbox is worth. -/
noncomputable def Try.pinned : Pinned := { name := "ytgaeafhkepfgjaa", sum := "1a33124d966bfe59c78df4d243919f96665c144e47bed2e86e93aede55abcb49", checked := Try.checked }
namespace Rows
def none {H : Type} : Left H := { results := [], args := [] }

/-- 'whelklaw06.SpillQuota': WHATEVER THE INPUT: true; the input reads as it did. -/
def spillQuotaSpec : ChangeSpec := { name := "spillQuota", fn := fun _ => fun
  | [d1, d2] => { results := [.lit (.bool true)], args := [d1, d2] }
  | _ => none }
def spillQuotaRow : OpenClaim := { program := "ytgaeafhkepfgjaa", sum := "1a33124d966bfe59c78df4d243919f96665c144e47bed2e86e93aede55abcb49", func := "whelk/whelklaw06.SpillQuota", spec := "spillQuota", apart := false }
def SpillQuotaSaid : Prop := spillQuotaRow.holds Try.pinned (OpenSpec.ofChange spillQuotaSpec)

/-- ITS FALSE NEIGHBOUR: 'it returns false'. Refute it at one input. -/
def spillQuotaWrong : ChangeSpec := { name := "spillQuota", fn := fun _ => fun
  | [d1, d2] => { results := [.lit (.bool false)], args := [d1, d2] }
  | _ => none }
def SpillQuotaWrongFalsely : Prop := spillQuotaRow.holds Try.pinned (OpenSpec.ofChange spillQuotaWrong)

/-- 'whelklaw06.SpillPlays': WHATEVER THE INPUT: true; the input reads as it did. -/
def spillPlaysSpec : ChangeSpec := { name := "spillPlays", fn := fun _ => fun
  | [d1, d2] => { results := [.lit (.bool true)], args := [d1, d2] }
  | _ => none }
def spillPlaysRow : OpenClaim := { program := "ytgaeafhkepfgjaa", sum := "1a33124d966bfe59c78df4d243919f96665c144e47bed2e86e93aede55abcb49", func := "whelk/whelklaw06.SpillPlays", spec := "spillPlays", apart := false }
def SpillPlaysSaid : Prop := spillPlaysRow.holds Try.pinned (OpenSpec.ofChange spillPlaysSpec)

/-- ITS FALSE NEIGHBOUR: 'it returns false'. Refute it at one input. -/
def spillPlaysWrong : ChangeSpec := { name := "spillPlays", fn := fun _ => fun
  | [d1, d2] => { results := [.lit (.bool false)], args := [d1, d2] }
  | _ => none }
def SpillPlaysWrongFalsely : Prop := spillPlaysRow.holds Try.pinned (OpenSpec.ofChange spillPlaysWrong)

/-- 'whelklaw06.SpillRow': WHATEVER THE INPUT: true; the input reads as it did. -/
def spillRowSpec : ChangeSpec := { name := "spillRow", fn := fun _ => fun
  | [d1, d2] => { results := [.lit (.bool true)], args := [d1, d2] }
  | _ => none }
def spillRowRow : OpenClaim := { program := "ytgaeafhkepfgjaa", sum := "1a33124d966bfe59c78df4d243919f96665c144e47bed2e86e93aede55abcb49", func := "whelk/whelklaw06.SpillRow", spec := "spillRow", apart := false }
def SpillRowSaid : Prop := spillRowRow.holds Try.pinned (OpenSpec.ofChange spillRowSpec)

/-- ITS FALSE NEIGHBOUR: 'it returns false'. Refute it at one input. -/
def spillRowWrong : ChangeSpec := { name := "spillRow", fn := fun _ => fun
  | [d1, d2] => { results := [.lit (.bool false)], args := [d1, d2] }
  | _ => none }
def SpillRowWrongFalsely : Prop := spillRowRow.holds Try.pinned (OpenSpec.ofChange spillRowWrong)

/-- 'whelklaw06.SpillNil': WHATEVER THE INPUT: true; the input reads as it did. -/
def spillNilSpec : ChangeSpec := { name := "spillNil", fn := fun _ => fun
  | [d1, d2] => { results := [.lit (.bool true)], args := [d1, d2] }
  | _ => none }
def spillNilRow : OpenClaim := { program := "ytgaeafhkepfgjaa", sum := "1a33124d966bfe59c78df4d243919f96665c144e47bed2e86e93aede55abcb49", func := "whelk/whelklaw06.SpillNil", spec := "spillNil", apart := false }
def SpillNilSaid : Prop := spillNilRow.holds Try.pinned (OpenSpec.ofChange spillNilSpec)

/-- ITS FALSE NEIGHBOUR: 'it returns false'. Refute it at one input. -/
def spillNilWrong : ChangeSpec := { name := "spillNil", fn := fun _ => fun
  | [d1, d2] => { results := [.lit (.bool false)], args := [d1, d2] }
  | _ => none }
def SpillNilWrongFalsely : Prop := spillNilRow.holds Try.pinned (OpenSpec.ofChange spillNilWrong)

/- THE SECOND FORM. 'bulk': how many values and letters a reading holds, each counted each time it is reached (what is shared counts as often as it is met; a slice's spare places count too). A statement '..UptoSaid' is the law's where the arguments, and the package variables that the reading takes, are together of bulk at most 1048576: NARROWER than '..Said'. Prove '..Said' where nothing that the law and all that it calls make is longer than what came in: it says more and counts as full. Else prove '..UptoSaid'. A law counts once. -/
mutual
def uptoBulk {H : Type} : DataW H → Nat
  | .lit (.string bytes) => bytes.length + 1
  | .lit _ => 1
  | .nil => 1
  | .ptr d => uptoBulk d + 1
  | .slice elems spare => uptoBulkAll elems + uptoBulkAll spare + 1
  | .agg parts => uptoBulkAll parts + 1
  | .iface _ d => uptoBulk d + 1
  | .map entries => uptoBulkEntries entries + 1
  | .held _ => 1
def uptoBulkAll {H : Type} : List (DataW H) → Nat
  | [] => 0
  | d :: r => uptoBulk d + uptoBulkAll r
def uptoBulkEntries {H : Type} : List (Lit × DataW H) → Nat
  | [] => 0
  | x :: r => uptoBulkEntry x + uptoBulkEntries r
def uptoBulkEntry {H : Type} : Lit × DataW H → Nat
  | (.string bytes, d) => bytes.length + uptoBulk d + 1
  | (_, d) => uptoBulk d + 1
 end
def uptoSmall : (H : Type) → List (DataW H) → Bool := fun _ ds => decide (uptoBulkAll ds ≤ 1048576)
def OpenSpec.upto (s : _root_.Go.ChangeSpec) : _root_.Go.OpenSpec := { _root_.Go.OpenSpec.ofChange s with cond := some uptoSmall }

/-- 'whelklaw06.SpillQuota', WHERE WHAT IT READS IS OF BULK AT MOST 1048576: true; the input reads as it did. -/
def spillQuotaUptoRow : OpenClaim := { program := "ytgaeafhkepfgjaa", sum := "1a33124d966bfe59c78df4d243919f96665c144e47bed2e86e93aede55abcb49", func := "whelk/whelklaw06.SpillQuota", spec := "spillQuota", apart := false, narrowed := true }
def SpillQuotaUptoSaid : Prop := spillQuotaUptoRow.holds Try.pinned (OpenSpec.upto spillQuotaSpec)

/-- 'whelklaw06.SpillPlays', WHERE WHAT IT READS IS OF BULK AT MOST 1048576: true; the input reads as it did. -/
def spillPlaysUptoRow : OpenClaim := { program := "ytgaeafhkepfgjaa", sum := "1a33124d966bfe59c78df4d243919f96665c144e47bed2e86e93aede55abcb49", func := "whelk/whelklaw06.SpillPlays", spec := "spillPlays", apart := false, narrowed := true }
def SpillPlaysUptoSaid : Prop := spillPlaysUptoRow.holds Try.pinned (OpenSpec.upto spillPlaysSpec)

/-- 'whelklaw06.SpillRow', WHERE WHAT IT READS IS OF BULK AT MOST 1048576: true; the input reads as it did. -/
def spillRowUptoRow : OpenClaim := { program := "ytgaeafhkepfgjaa", sum := "1a33124d966bfe59c78df4d243919f96665c144e47bed2e86e93aede55abcb49", func := "whelk/whelklaw06.SpillRow", spec := "spillRow", apart := false, narrowed := true }
def SpillRowUptoSaid : Prop := spillRowUptoRow.holds Try.pinned (OpenSpec.upto spillRowSpec)

/-- 'whelklaw06.SpillNil', WHERE WHAT IT READS IS OF BULK AT MOST 1048576: true; the input reads as it did. -/
def spillNilUptoRow : OpenClaim := { program := "ytgaeafhkepfgjaa", sum := "1a33124d966bfe59c78df4d243919f96665c144e47bed2e86e93aede55abcb49", func := "whelk/whelklaw06.SpillNil", spec := "spillNil", apart := false, narrowed := true }
def SpillNilUptoSaid : Prop := spillNilUptoRow.holds Try.pinned (OpenSpec.upto spillNilSpec)

end Rows
end Go.Proofs.Ytgaeafhkepfgjaa
