/-
  No cell of these rows narrows 'for every input' (looked for: loops, veiled, ifaces, maps, wideKeys, modest, calm, conditions, laid).
  DERIVED. THE GIVEN ROWS OF THIS SEAT. 4 by the template 'for every input the law returns true; each argument reads behind the call as it read before'; 0 by the template 'total and deterministic' (their statements: YtacncgpnimdfbaaTotals.lean).
  GIVEN WITH THE SEED: the statements are not yours to turn. If you find one false, say at which input.
  Laid BY PROGRAM, IN A SANDBOX (cutbox-rows.mjs): the forced cells as the released guide's own fill.sh prints them over the translation 8da2830f0cab1c2b… (all of the seat's roots in one cut). By AI agents, Wed Nov 11 2026. No macro, syntax, notation, axiom, sorry.
-/
import Derived.Test.YtacncgpnimdfbaaChecked
import GoSem.Claim
import GoSem.ClaimJoined
import GoSem.ClaimMapViews
import Derived.JoinedTies
import Derived.KernelRfl
namespace Go.Proofs.Ytacncgpnimdfbaa
/- THE CELL 'sum', in the pinned program and in every row, IS THE sha256 OF THE DUMP (.gsa) THAT YtacncgpnimdfbaaProg.lean LOADS. Nothing in Lean hashes anything: it is a label: what it is worth is what the hold of that sum in a sandbox is worth. -/
noncomputable def Try.pinned : Pinned := { name := "ytacncgpnimdfbaa", sum := "8da2830f0cab1c2b4fb160d19a5bb9881850b6281885cdc7c090e19a2c9f969d", checked := Try.checked }
namespace Rows
def none {H : Type} : Left H := { results := [], args := [] }

/-- 'hopperlaw08.PipeTells': WHATEVER THE INPUT: true; the input reads as it did. -/
def pipeTellsSpec : ChangeSpec := { name := "pipeTells", fn := fun _ => fun
  | [d1, d2, d3] => { results := [.lit (.bool true)], args := [d1, d2, d3] }
  | _ => none }
def pipeTellsRow : OpenClaim := { program := "ytacncgpnimdfbaa", sum := "8da2830f0cab1c2b4fb160d19a5bb9881850b6281885cdc7c090e19a2c9f969d", func := "hopper/hopperlaw08.PipeTells", spec := "pipeTells", apart := false }
def PipeTellsSaid : Prop := pipeTellsRow.holds Try.pinned (OpenSpec.ofChange pipeTellsSpec)

/-- ITS FALSE NEIGHBOUR: 'it returns false'. Refute it at one input. -/
def pipeTellsWrong : ChangeSpec := { name := "pipeTells", fn := fun _ => fun
  | [d1, d2, d3] => { results := [.lit (.bool false)], args := [d1, d2, d3] }
  | _ => none }
def PipeTellsWrongFalsely : Prop := pipeTellsRow.holds Try.pinned (OpenSpec.ofChange pipeTellsWrong)

/-- 'hopperlaw08.PipeRows': WHATEVER THE INPUT: true; the input reads as it did. -/
def pipeRowsSpec : ChangeSpec := { name := "pipeRows", fn := fun _ => fun
  | [d1, d2] => { results := [.lit (.bool true)], args := [d1, d2] }
  | _ => none }
def pipeRowsRow : OpenClaim := { program := "ytacncgpnimdfbaa", sum := "8da2830f0cab1c2b4fb160d19a5bb9881850b6281885cdc7c090e19a2c9f969d", func := "hopper/hopperlaw08.PipeRows", spec := "pipeRows", apart := false }
def PipeRowsSaid : Prop := pipeRowsRow.holds Try.pinned (OpenSpec.ofChange pipeRowsSpec)

/-- ITS FALSE NEIGHBOUR: 'it returns false'. Refute it at one input. -/
def pipeRowsWrong : ChangeSpec := { name := "pipeRows", fn := fun _ => fun
  | [d1, d2] => { results := [.lit (.bool false)], args := [d1, d2] }
  | _ => none }
def PipeRowsWrongFalsely : Prop := pipeRowsRow.holds Try.pinned (OpenSpec.ofChange pipeRowsWrong)

/-- 'hopperlaw08.PipeCounts': WHATEVER THE INPUT: true; the input reads as it did. -/
def pipeCountsSpec : ChangeSpec := { name := "pipeCounts", fn := fun _ => fun
  | [d1, d2] => { results := [.lit (.bool true)], args := [d1, d2] }
  | _ => none }
def pipeCountsRow : OpenClaim := { program := "ytacncgpnimdfbaa", sum := "8da2830f0cab1c2b4fb160d19a5bb9881850b6281885cdc7c090e19a2c9f969d", func := "hopper/hopperlaw08.PipeCounts", spec := "pipeCounts", apart := false }
def PipeCountsSaid : Prop := pipeCountsRow.holds Try.pinned (OpenSpec.ofChange pipeCountsSpec)

/-- ITS FALSE NEIGHBOUR: 'it returns false'. Refute it at one input. -/
def pipeCountsWrong : ChangeSpec := { name := "pipeCounts", fn := fun _ => fun
  | [d1, d2] => { results := [.lit (.bool false)], args := [d1, d2] }
  | _ => none }
def PipeCountsWrongFalsely : Prop := pipeCountsRow.holds Try.pinned (OpenSpec.ofChange pipeCountsWrong)

/-- 'hopperlaw08.PipeThrough': WHATEVER THE INPUT: true; the input reads as it did. -/
def pipeThroughSpec : ChangeSpec := { name := "pipeThrough", fn := fun _ => fun
  | [d1, d2] => { results := [.lit (.bool true)], args := [d1, d2] }
  | _ => none }
def pipeThroughRow : OpenClaim := { program := "ytacncgpnimdfbaa", sum := "8da2830f0cab1c2b4fb160d19a5bb9881850b6281885cdc7c090e19a2c9f969d", func := "hopper/hopperlaw08.PipeThrough", spec := "pipeThrough", apart := false }
def PipeThroughSaid : Prop := pipeThroughRow.holds Try.pinned (OpenSpec.ofChange pipeThroughSpec)

/-- ITS FALSE NEIGHBOUR: 'it returns false'. Refute it at one input. -/
def pipeThroughWrong : ChangeSpec := { name := "pipeThrough", fn := fun _ => fun
  | [d1, d2] => { results := [.lit (.bool false)], args := [d1, d2] }
  | _ => none }
def PipeThroughWrongFalsely : Prop := pipeThroughRow.holds Try.pinned (OpenSpec.ofChange pipeThroughWrong)

/- THE SECOND FORM. 'bulk': how many values and letters a reading holds, each counted each time it is reached (what is shared counts as often as it is met; a slice's spare places count too). A statement '..UptoSaid' is the law's where the arguments, and the package variables that the reading takes, are together of bulk at most 1048576: NARROWER than '..Said'. Prove '..Said' where nothing that the law and all that it calls make is longer than what came in: it says more and counts as full. Else prove '..UptoSaid'. A law counts once. -/
mutual
def uptoBulk {H : Type} : DataW H → Nat
  | .lit (.string bytes) => bytes.length + 1
  | .lit _ => 1
  | .nil => 1
  | .ptr d => uptoBulk d + 1
  | .slice elems spare => uptoBulkAll elems + uptoBulkAll spare + 1
  | .agg parts => uptoBulkAll parts + 1
  | .iface _ d => uptoBulk d + 1
  | .map entries => uptoBulkEntries entries + 1
  | .held _ => 1
def uptoBulkAll {H : Type} : List (DataW H) → Nat
  | [] => 0
  | d :: r => uptoBulk d + uptoBulkAll r
def uptoBulkEntries {H : Type} : List (Lit × DataW H) → Nat
  | [] => 0
  | x :: r => uptoBulkEntry x + uptoBulkEntries r
def uptoBulkEntry {H : Type} : Lit × DataW H → Nat
  | (.string bytes, d) => bytes.length + uptoBulk d + 1
  | (_, d) => uptoBulk d + 1
 end
def uptoSmall : (H : Type) → List (DataW H) → Bool := fun _ ds => decide (uptoBulkAll ds ≤ 1048576)
def OpenSpec.upto (s : _root_.Go.ChangeSpec) : _root_.Go.OpenSpec := { _root_.Go.OpenSpec.ofChange s with cond := some uptoSmall }

/-- 'hopperlaw08.PipeTells', WHERE WHAT IT READS IS OF BULK AT MOST 1048576: true; the input reads as it did. -/
def pipeTellsUptoRow : OpenClaim := { program := "ytacncgpnimdfbaa", sum := "8da2830f0cab1c2b4fb160d19a5bb9881850b6281885cdc7c090e19a2c9f969d", func := "hopper/hopperlaw08.PipeTells", spec := "pipeTells", apart := false, narrowed := true }
def PipeTellsUptoSaid : Prop := pipeTellsUptoRow.holds Try.pinned (OpenSpec.upto pipeTellsSpec)

/-- 'hopperlaw08.PipeRows', WHERE WHAT IT READS IS OF BULK AT MOST 1048576: true; the input reads as it did. -/
def pipeRowsUptoRow : OpenClaim := { program := "ytacncgpnimdfbaa", sum := "8da2830f0cab1c2b4fb160d19a5bb9881850b6281885cdc7c090e19a2c9f969d", func := "hopper/hopperlaw08.PipeRows", spec := "pipeRows", apart := false, narrowed := true }
def PipeRowsUptoSaid : Prop := pipeRowsUptoRow.holds Try.pinned (OpenSpec.upto pipeRowsSpec)

/-- 'hopperlaw08.PipeCounts', WHERE WHAT IT READS IS OF BULK AT MOST 1048576: true; the input reads as it did. -/
def pipeCountsUptoRow : OpenClaim := { program := "ytacncgpnimdfbaa", sum := "8da2830f0cab1c2b4fb160d19a5bb9881850b6281885cdc7c090e19a2c9f969d", func := "hopper/hopperlaw08.PipeCounts", spec := "pipeCounts", apart := false, narrowed := true }
def PipeCountsUptoSaid : Prop := pipeCountsUptoRow.holds Try.pinned (OpenSpec.upto pipeCountsSpec)

/-- 'hopperlaw08.PipeThrough', WHERE WHAT IT READS IS OF BULK AT MOST 1048576: true; the input reads as it did. -/
def pipeThroughUptoRow : OpenClaim := { program := "ytacncgpnimdfbaa", sum := "8da2830f0cab1c2b4fb160d19a5bb9881850b6281885cdc7c090e19a2c9f969d", func := "hopper/hopperlaw08.PipeThrough", spec := "pipeThrough", apart := false, narrowed := true }
def PipeThroughUptoSaid : Prop := pipeThroughUptoRow.holds Try.pinned (OpenSpec.upto pipeThroughSpec)

end Rows
end Go.Proofs.Ytacncgpnimdfbaa
