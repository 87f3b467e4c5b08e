/-
  No cell of these rows narrows 'for every input' (looked for: loops, veiled, ifaces, maps, wideKeys, modest, calm, conditions, laid).
  DERIVED. THE GIVEN ROWS OF THIS SEAT. 5 by the template 'for every input the law returns true; each argument reads behind the call as it read before'; 0 by the template 'total and deterministic' (their statements: YtnjjgaahkbemmaaTotals.lean).
  GIVEN WITH THE SEED: the statements are not yours to turn. If you find one false, say at which input.
  Laid BY PROGRAM, IN A SANDBOX (cutbox-rows.mjs): the forced cells as the released guide's own fill.sh prints them over the translation 8c5fc6aa65bd85ff… (all of the seat's roots in one cut). By AI agents, Wed Nov 11 2026. No macro, syntax, notation, axiom, sorry.
-/
import Derived.Test.YtnjjgaahkbemmaaChecked
import GoSem.Claim
import GoSem.ClaimJoined
import GoSem.ClaimMapViews
import Derived.JoinedTies
import Derived.KernelRfl
namespace Go.Proofs.Ytnjjgaahkbemmaa
/- THE CELL 'sum', in the pinned program and in every row, IS THE sha256 OF THE DUMP (.gsa) THAT YtnjjgaahkbemmaaProg.lean LOADS. Nothing in Lean hashes anything: it is a label: what it is worth is what the hold of that sum in a sandbox is worth. -/
noncomputable def Try.pinned : Pinned := { name := "ytnjjgaahkbemmaa", sum := "8c5fc6aa65bd85ff29028d72b45de3dabcf44f897c463f995a9ef5c45d29f8dc", checked := Try.checked }
namespace Rows
def none {H : Type} : Left H := { results := [], args := [] }

/-- 'hopperlaw10.TurnTells': WHATEVER THE INPUT: true; the input reads as it did. -/
def turnTellsSpec : ChangeSpec := { name := "turnTells", fn := fun _ => fun
  | [d1, d2, d3] => { results := [.lit (.bool true)], args := [d1, d2, d3] }
  | _ => none }
def turnTellsRow : OpenClaim := { program := "ytnjjgaahkbemmaa", sum := "8c5fc6aa65bd85ff29028d72b45de3dabcf44f897c463f995a9ef5c45d29f8dc", func := "hopper/hopperlaw10.TurnTells", spec := "turnTells", unfollowed := true, recurses := true, apart := false }
def TurnTellsSaid : Prop := turnTellsRow.holds Try.pinned (OpenSpec.ofChange turnTellsSpec)

/-- ITS FALSE NEIGHBOUR: 'it returns false'. Refute it at one input. -/
def turnTellsWrong : ChangeSpec := { name := "turnTells", fn := fun _ => fun
  | [d1, d2, d3] => { results := [.lit (.bool false)], args := [d1, d2, d3] }
  | _ => none }
def TurnTellsWrongFalsely : Prop := turnTellsRow.holds Try.pinned (OpenSpec.ofChange turnTellsWrong)

/-- 'hopperlaw10.TurnMay': WHATEVER THE INPUT: true; the input reads as it did. -/
def turnMaySpec : ChangeSpec := { name := "turnMay", fn := fun _ => fun
  | [d1, d2, d3] => { results := [.lit (.bool true)], args := [d1, d2, d3] }
  | _ => none }
def turnMayRow : OpenClaim := { program := "ytnjjgaahkbemmaa", sum := "8c5fc6aa65bd85ff29028d72b45de3dabcf44f897c463f995a9ef5c45d29f8dc", func := "hopper/hopperlaw10.TurnMay", spec := "turnMay", unfollowed := true, recurses := true, apart := false }
def TurnMaySaid : Prop := turnMayRow.holds Try.pinned (OpenSpec.ofChange turnMaySpec)

/-- ITS FALSE NEIGHBOUR: 'it returns false'. Refute it at one input. -/
def turnMayWrong : ChangeSpec := { name := "turnMay", fn := fun _ => fun
  | [d1, d2, d3] => { results := [.lit (.bool false)], args := [d1, d2, d3] }
  | _ => none }
def TurnMayWrongFalsely : Prop := turnMayRow.holds Try.pinned (OpenSpec.ofChange turnMayWrong)

/-- 'hopperlaw10.TurnRounds': WHATEVER THE INPUT: true; the input reads as it did. -/
def turnRoundsSpec : ChangeSpec := { name := "turnRounds", fn := fun _ => fun
  | [d1, d2] => { results := [.lit (.bool true)], args := [d1, d2] }
  | _ => none }
def turnRoundsRow : OpenClaim := { program := "ytnjjgaahkbemmaa", sum := "8c5fc6aa65bd85ff29028d72b45de3dabcf44f897c463f995a9ef5c45d29f8dc", func := "hopper/hopperlaw10.TurnRounds", spec := "turnRounds", unfollowed := true, recurses := true, apart := false }
def TurnRoundsSaid : Prop := turnRoundsRow.holds Try.pinned (OpenSpec.ofChange turnRoundsSpec)

/-- ITS FALSE NEIGHBOUR: 'it returns false'. Refute it at one input. -/
def turnRoundsWrong : ChangeSpec := { name := "turnRounds", fn := fun _ => fun
  | [d1, d2] => { results := [.lit (.bool false)], args := [d1, d2] }
  | _ => none }
def TurnRoundsWrongFalsely : Prop := turnRoundsRow.holds Try.pinned (OpenSpec.ofChange turnRoundsWrong)

/-- 'hopperlaw10.TurnNext': WHATEVER THE INPUT: true; the input reads as it did. -/
def turnNextSpec : ChangeSpec := { name := "turnNext", fn := fun _ => fun
  | [d1, d2] => { results := [.lit (.bool true)], args := [d1, d2] }
  | _ => none }
def turnNextRow : OpenClaim := { program := "ytnjjgaahkbemmaa", sum := "8c5fc6aa65bd85ff29028d72b45de3dabcf44f897c463f995a9ef5c45d29f8dc", func := "hopper/hopperlaw10.TurnNext", spec := "turnNext", unfollowed := true, recurses := true, apart := false }
def TurnNextSaid : Prop := turnNextRow.holds Try.pinned (OpenSpec.ofChange turnNextSpec)

/-- ITS FALSE NEIGHBOUR: 'it returns false'. Refute it at one input. -/
def turnNextWrong : ChangeSpec := { name := "turnNext", fn := fun _ => fun
  | [d1, d2] => { results := [.lit (.bool false)], args := [d1, d2] }
  | _ => none }
def TurnNextWrongFalsely : Prop := turnNextRow.holds Try.pinned (OpenSpec.ofChange turnNextWrong)

/-- 'hopperlaw10.TurnCount': WHATEVER THE INPUT: true; the input reads as it did. -/
def turnCountSpec : ChangeSpec := { name := "turnCount", fn := fun _ => fun
  | [d1, d2] => { results := [.lit (.bool true)], args := [d1, d2] }
  | _ => none }
def turnCountRow : OpenClaim := { program := "ytnjjgaahkbemmaa", sum := "8c5fc6aa65bd85ff29028d72b45de3dabcf44f897c463f995a9ef5c45d29f8dc", func := "hopper/hopperlaw10.TurnCount", spec := "turnCount", unfollowed := true, recurses := true, apart := false }
def TurnCountSaid : Prop := turnCountRow.holds Try.pinned (OpenSpec.ofChange turnCountSpec)

/-- ITS FALSE NEIGHBOUR: 'it returns false'. Refute it at one input. -/
def turnCountWrong : ChangeSpec := { name := "turnCount", fn := fun _ => fun
  | [d1, d2] => { results := [.lit (.bool false)], args := [d1, d2] }
  | _ => none }
def TurnCountWrongFalsely : Prop := turnCountRow.holds Try.pinned (OpenSpec.ofChange turnCountWrong)

/- THE SECOND FORM. 'bulk': how many values and letters a reading holds, each counted each time it is reached (what is shared counts as often as it is met; a slice's spare places count too). A statement '..UptoSaid' is the law's where the arguments, and the package variables that the reading takes, are together of bulk at most 1048576: NARROWER than '..Said'. Prove '..Said' where nothing that the law and all that it calls make is longer than what came in: it says more and counts as full. Else prove '..UptoSaid'. A law counts once. -/
mutual
def uptoBulk {H : Type} : DataW H → Nat
  | .lit (.string bytes) => bytes.length + 1
  | .lit _ => 1
  | .nil => 1
  | .ptr d => uptoBulk d + 1
  | .slice elems spare => uptoBulkAll elems + uptoBulkAll spare + 1
  | .agg parts => uptoBulkAll parts + 1
  | .iface _ d => uptoBulk d + 1
  | .map entries => uptoBulkEntries entries + 1
  | .held _ => 1
def uptoBulkAll {H : Type} : List (DataW H) → Nat
  | [] => 0
  | d :: r => uptoBulk d + uptoBulkAll r
def uptoBulkEntries {H : Type} : List (Lit × DataW H) → Nat
  | [] => 0
  | x :: r => uptoBulkEntry x + uptoBulkEntries r
def uptoBulkEntry {H : Type} : Lit × DataW H → Nat
  | (.string bytes, d) => bytes.length + uptoBulk d + 1
  | (_, d) => uptoBulk d + 1
 end
def uptoSmall : (H : Type) → List (DataW H) → Bool := fun _ ds => decide (uptoBulkAll ds ≤ 1048576)
def OpenSpec.upto (s : _root_.Go.ChangeSpec) : _root_.Go.OpenSpec := { _root_.Go.OpenSpec.ofChange s with cond := some uptoSmall }

/-- 'hopperlaw10.TurnTells', WHERE WHAT IT READS IS OF BULK AT MOST 1048576: true; the input reads as it did. -/
def turnTellsUptoRow : OpenClaim := { program := "ytnjjgaahkbemmaa", sum := "8c5fc6aa65bd85ff29028d72b45de3dabcf44f897c463f995a9ef5c45d29f8dc", func := "hopper/hopperlaw10.TurnTells", spec := "turnTells", unfollowed := true, recurses := true, apart := false, narrowed := true }
def TurnTellsUptoSaid : Prop := turnTellsUptoRow.holds Try.pinned (OpenSpec.upto turnTellsSpec)

/-- 'hopperlaw10.TurnMay', WHERE WHAT IT READS IS OF BULK AT MOST 1048576: true; the input reads as it did. -/
def turnMayUptoRow : OpenClaim := { program := "ytnjjgaahkbemmaa", sum := "8c5fc6aa65bd85ff29028d72b45de3dabcf44f897c463f995a9ef5c45d29f8dc", func := "hopper/hopperlaw10.TurnMay", spec := "turnMay", unfollowed := true, recurses := true, apart := false, narrowed := true }
def TurnMayUptoSaid : Prop := turnMayUptoRow.holds Try.pinned (OpenSpec.upto turnMaySpec)

/-- 'hopperlaw10.TurnRounds', WHERE WHAT IT READS IS OF BULK AT MOST 1048576: true; the input reads as it did. -/
def turnRoundsUptoRow : OpenClaim := { program := "ytnjjgaahkbemmaa", sum := "8c5fc6aa65bd85ff29028d72b45de3dabcf44f897c463f995a9ef5c45d29f8dc", func := "hopper/hopperlaw10.TurnRounds", spec := "turnRounds", unfollowed := true, recurses := true, apart := false, narrowed := true }
def TurnRoundsUptoSaid : Prop := turnRoundsUptoRow.holds Try.pinned (OpenSpec.upto turnRoundsSpec)

/-- 'hopperlaw10.TurnNext', WHERE WHAT IT READS IS OF BULK AT MOST 1048576: true; the input reads as it did. -/
def turnNextUptoRow : OpenClaim := { program := "ytnjjgaahkbemmaa", sum := "8c5fc6aa65bd85ff29028d72b45de3dabcf44f897c463f995a9ef5c45d29f8dc", func := "hopper/hopperlaw10.TurnNext", spec := "turnNext", unfollowed := true, recurses := true, apart := false, narrowed := true }
def TurnNextUptoSaid : Prop := turnNextUptoRow.holds Try.pinned (OpenSpec.upto turnNextSpec)

/-- 'hopperlaw10.TurnCount', WHERE WHAT IT READS IS OF BULK AT MOST 1048576: true; the input reads as it did. -/
def turnCountUptoRow : OpenClaim := { program := "ytnjjgaahkbemmaa", sum := "8c5fc6aa65bd85ff29028d72b45de3dabcf44f897c463f995a9ef5c45d29f8dc", func := "hopper/hopperlaw10.TurnCount", spec := "turnCount", unfollowed := true, recurses := true, apart := false, narrowed := true }
def TurnCountUptoSaid : Prop := turnCountUptoRow.holds Try.pinned (OpenSpec.upto turnCountSpec)

end Rows
end Go.Proofs.Ytnjjgaahkbemmaa
