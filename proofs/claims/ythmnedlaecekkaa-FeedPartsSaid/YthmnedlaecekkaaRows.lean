/-
  No cell of these rows narrows 'for every input' (looked for: loops, veiled, ifaces, maps, wideKeys, modest, calm, conditions, laid).
  DERIVED. THE GIVEN ROWS OF THIS SEAT. 6 by the template 'for every input the law returns true; each argument reads behind the call as it read before'; 0 by the template 'total and deterministic' (their statements: YthmnedlaecekkaaTotals.lean).
  GIVEN WITH THE SEED: the statements are not yours to turn. If you find one false, say at which input.
  Laid BY PROGRAM, IN A SANDBOX (cutbox-rows.mjs): the forced cells as the released guide's own fill.sh prints them over the translation 9762e9564fea56a7… (all of the seat's roots in one cut). By AI agents, Wed Nov 11 2026. No macro, syntax, notation, axiom, sorry.
-/
import Derived.Test.YthmnedlaecekkaaChecked
import GoSem.Claim
import GoSem.ClaimJoined
import GoSem.ClaimMapViews
import Derived.JoinedTies
import Derived.KernelRfl
namespace Go.Proofs.Ythmnedlaecekkaa
/- THE CELL 'sum', in the pinned program and in every row, IS THE sha256 OF THE DUMP (.gsa) THAT YthmnedlaecekkaaProg.lean LOADS. Nothing in Lean hashes anything: it is a label: what it is worth is what the hold of that sum in a sandbox is worth. -/
noncomputable def Try.pinned : Pinned := { name := "ythmnedlaecekkaa", sum := "9762e9564fea56a791958793735d60611fbae83321facc59ade4b6ead6785e92", checked := Try.checked }
namespace Rows
def none {H : Type} : Left H := { results := [], args := [] }

/-- 'hopperlaw14.FeedTells': WHATEVER THE INPUT: true; the input reads as it did. -/
def feedTellsSpec : ChangeSpec := { name := "feedTells", fn := fun _ => fun
  | [d1, d2, d3] => { results := [.lit (.bool true)], args := [d1, d2, d3] }
  | _ => none }
def feedTellsRow : OpenClaim := { program := "ythmnedlaecekkaa", sum := "9762e9564fea56a791958793735d60611fbae83321facc59ade4b6ead6785e92", func := "hopper/hopperlaw14.FeedTells", spec := "feedTells", apart := false }
def FeedTellsSaid : Prop := feedTellsRow.holds Try.pinned (OpenSpec.ofChange feedTellsSpec)

/-- ITS FALSE NEIGHBOUR: 'it returns false'. Refute it at one input. -/
def feedTellsWrong : ChangeSpec := { name := "feedTells", fn := fun _ => fun
  | [d1, d2, d3] => { results := [.lit (.bool false)], args := [d1, d2, d3] }
  | _ => none }
def FeedTellsWrongFalsely : Prop := feedTellsRow.holds Try.pinned (OpenSpec.ofChange feedTellsWrong)

/-- 'hopperlaw14.FeedCovers': WHATEVER THE INPUT: true; the input reads as it did. -/
def feedCoversSpec : ChangeSpec := { name := "feedCovers", fn := fun _ => fun
  | [d1, d2] => { results := [.lit (.bool true)], args := [d1, d2] }
  | _ => none }
def feedCoversRow : OpenClaim := { program := "ythmnedlaecekkaa", sum := "9762e9564fea56a791958793735d60611fbae83321facc59ade4b6ead6785e92", func := "hopper/hopperlaw14.FeedCovers", spec := "feedCovers", apart := false }
def FeedCoversSaid : Prop := feedCoversRow.holds Try.pinned (OpenSpec.ofChange feedCoversSpec)

/-- ITS FALSE NEIGHBOUR: 'it returns false'. Refute it at one input. -/
def feedCoversWrong : ChangeSpec := { name := "feedCovers", fn := fun _ => fun
  | [d1, d2] => { results := [.lit (.bool false)], args := [d1, d2] }
  | _ => none }
def FeedCoversWrongFalsely : Prop := feedCoversRow.holds Try.pinned (OpenSpec.ofChange feedCoversWrong)

/-- 'hopperlaw14.FeedAtOnce': WHATEVER THE INPUT: true; the input reads as it did. -/
def feedAtOnceSpec : ChangeSpec := { name := "feedAtOnce", fn := fun _ => fun
  | [d1, d2, d3] => { results := [.lit (.bool true)], args := [d1, d2, d3] }
  | _ => none }
def feedAtOnceRow : OpenClaim := { program := "ythmnedlaecekkaa", sum := "9762e9564fea56a791958793735d60611fbae83321facc59ade4b6ead6785e92", func := "hopper/hopperlaw14.FeedAtOnce", spec := "feedAtOnce", apart := false }
def FeedAtOnceSaid : Prop := feedAtOnceRow.holds Try.pinned (OpenSpec.ofChange feedAtOnceSpec)

/-- ITS FALSE NEIGHBOUR: 'it returns false'. Refute it at one input. -/
def feedAtOnceWrong : ChangeSpec := { name := "feedAtOnce", fn := fun _ => fun
  | [d1, d2, d3] => { results := [.lit (.bool false)], args := [d1, d2, d3] }
  | _ => none }
def FeedAtOnceWrongFalsely : Prop := feedAtOnceRow.holds Try.pinned (OpenSpec.ofChange feedAtOnceWrong)

/-- 'hopperlaw14.FeedLost': WHATEVER THE INPUT: true; the input reads as it did. -/
def feedLostSpec : ChangeSpec := { name := "feedLost", fn := fun _ => fun
  | [d1, d2] => { results := [.lit (.bool true)], args := [d1, d2] }
  | _ => none }
def feedLostRow : OpenClaim := { program := "ythmnedlaecekkaa", sum := "9762e9564fea56a791958793735d60611fbae83321facc59ade4b6ead6785e92", func := "hopper/hopperlaw14.FeedLost", spec := "feedLost", apart := false }
def FeedLostSaid : Prop := feedLostRow.holds Try.pinned (OpenSpec.ofChange feedLostSpec)

/-- ITS FALSE NEIGHBOUR: 'it returns false'. Refute it at one input. -/
def feedLostWrong : ChangeSpec := { name := "feedLost", fn := fun _ => fun
  | [d1, d2] => { results := [.lit (.bool false)], args := [d1, d2] }
  | _ => none }
def FeedLostWrongFalsely : Prop := feedLostRow.holds Try.pinned (OpenSpec.ofChange feedLostWrong)

/-- 'hopperlaw14.FeedParts': WHATEVER THE INPUT: true; the input reads as it did. -/
def feedPartsSpec : ChangeSpec := { name := "feedParts", fn := fun _ => fun
  | [d1, d2, d3] => { results := [.lit (.bool true)], args := [d1, d2, d3] }
  | _ => none }
def feedPartsRow : OpenClaim := { program := "ythmnedlaecekkaa", sum := "9762e9564fea56a791958793735d60611fbae83321facc59ade4b6ead6785e92", func := "hopper/hopperlaw14.FeedParts", spec := "feedParts", apart := false }
def FeedPartsSaid : Prop := feedPartsRow.holds Try.pinned (OpenSpec.ofChange feedPartsSpec)

/-- ITS FALSE NEIGHBOUR: 'it returns false'. Refute it at one input. -/
def feedPartsWrong : ChangeSpec := { name := "feedParts", fn := fun _ => fun
  | [d1, d2, d3] => { results := [.lit (.bool false)], args := [d1, d2, d3] }
  | _ => none }
def FeedPartsWrongFalsely : Prop := feedPartsRow.holds Try.pinned (OpenSpec.ofChange feedPartsWrong)

/-- 'hopperlaw14.FeedReads': WHATEVER THE INPUT: true; the input reads as it did. -/
def feedReadsSpec : ChangeSpec := { name := "feedReads", fn := fun _ => fun
  | [d1, d2] => { results := [.lit (.bool true)], args := [d1, d2] }
  | _ => none }
def feedReadsRow : OpenClaim := { program := "ythmnedlaecekkaa", sum := "9762e9564fea56a791958793735d60611fbae83321facc59ade4b6ead6785e92", func := "hopper/hopperlaw14.FeedReads", spec := "feedReads", apart := false }
def FeedReadsSaid : Prop := feedReadsRow.holds Try.pinned (OpenSpec.ofChange feedReadsSpec)

/-- ITS FALSE NEIGHBOUR: 'it returns false'. Refute it at one input. -/
def feedReadsWrong : ChangeSpec := { name := "feedReads", fn := fun _ => fun
  | [d1, d2] => { results := [.lit (.bool false)], args := [d1, d2] }
  | _ => none }
def FeedReadsWrongFalsely : Prop := feedReadsRow.holds Try.pinned (OpenSpec.ofChange feedReadsWrong)

/- THE SECOND FORM. 'bulk': how many values and letters a reading holds, each counted each time it is reached (what is shared counts as often as it is met; a slice's spare places count too). A statement '..UptoSaid' is the law's where the arguments, and the package variables that the reading takes, are together of bulk at most 1048576: NARROWER than '..Said'. Prove '..Said' where nothing that the law and all that it calls make is longer than what came in: it says more and counts as full. Else prove '..UptoSaid'. A law counts once. -/
mutual
def uptoBulk {H : Type} : DataW H → Nat
  | .lit (.string bytes) => bytes.length + 1
  | .lit _ => 1
  | .nil => 1
  | .ptr d => uptoBulk d + 1
  | .slice elems spare => uptoBulkAll elems + uptoBulkAll spare + 1
  | .agg parts => uptoBulkAll parts + 1
  | .iface _ d => uptoBulk d + 1
  | .map entries => uptoBulkEntries entries + 1
  | .held _ => 1
def uptoBulkAll {H : Type} : List (DataW H) → Nat
  | [] => 0
  | d :: r => uptoBulk d + uptoBulkAll r
def uptoBulkEntries {H : Type} : List (Lit × DataW H) → Nat
  | [] => 0
  | x :: r => uptoBulkEntry x + uptoBulkEntries r
def uptoBulkEntry {H : Type} : Lit × DataW H → Nat
  | (.string bytes, d) => bytes.length + uptoBulk d + 1
  | (_, d) => uptoBulk d + 1
 end
def uptoSmall : (H : Type) → List (DataW H) → Bool := fun _ ds => decide (uptoBulkAll ds ≤ 1048576)
def OpenSpec.upto (s : _root_.Go.ChangeSpec) : _root_.Go.OpenSpec := { _root_.Go.OpenSpec.ofChange s with cond := some uptoSmall }

/-- 'hopperlaw14.FeedTells', WHERE WHAT IT READS IS OF BULK AT MOST 1048576: true; the input reads as it did. -/
def feedTellsUptoRow : OpenClaim := { program := "ythmnedlaecekkaa", sum := "9762e9564fea56a791958793735d60611fbae83321facc59ade4b6ead6785e92", func := "hopper/hopperlaw14.FeedTells", spec := "feedTells", apart := false, narrowed := true }
def FeedTellsUptoSaid : Prop := feedTellsUptoRow.holds Try.pinned (OpenSpec.upto feedTellsSpec)

/-- 'hopperlaw14.FeedCovers', WHERE WHAT IT READS IS OF BULK AT MOST 1048576: true; the input reads as it did. -/
def feedCoversUptoRow : OpenClaim := { program := "ythmnedlaecekkaa", sum := "9762e9564fea56a791958793735d60611fbae83321facc59ade4b6ead6785e92", func := "hopper/hopperlaw14.FeedCovers", spec := "feedCovers", apart := false, narrowed := true }
def FeedCoversUptoSaid : Prop := feedCoversUptoRow.holds Try.pinned (OpenSpec.upto feedCoversSpec)

/-- 'hopperlaw14.FeedAtOnce', WHERE WHAT IT READS IS OF BULK AT MOST 1048576: true; the input reads as it did. -/
def feedAtOnceUptoRow : OpenClaim := { program := "ythmnedlaecekkaa", sum := "9762e9564fea56a791958793735d60611fbae83321facc59ade4b6ead6785e92", func := "hopper/hopperlaw14.FeedAtOnce", spec := "feedAtOnce", apart := false, narrowed := true }
def FeedAtOnceUptoSaid : Prop := feedAtOnceUptoRow.holds Try.pinned (OpenSpec.upto feedAtOnceSpec)

/-- 'hopperlaw14.FeedLost', WHERE WHAT IT READS IS OF BULK AT MOST 1048576: true; the input reads as it did. -/
def feedLostUptoRow : OpenClaim := { program := "ythmnedlaecekkaa", sum := "9762e9564fea56a791958793735d60611fbae83321facc59ade4b6ead6785e92", func := "hopper/hopperlaw14.FeedLost", spec := "feedLost", apart := false, narrowed := true }
def FeedLostUptoSaid : Prop := feedLostUptoRow.holds Try.pinned (OpenSpec.upto feedLostSpec)

/-- 'hopperlaw14.FeedParts', WHERE WHAT IT READS IS OF BULK AT MOST 1048576: true; the input reads as it did. -/
def feedPartsUptoRow : OpenClaim := { program := "ythmnedlaecekkaa", sum := "9762e9564fea56a791958793735d60611fbae83321facc59ade4b6ead6785e92", func := "hopper/hopperlaw14.FeedParts", spec := "feedParts", apart := false, narrowed := true }
def FeedPartsUptoSaid : Prop := feedPartsUptoRow.holds Try.pinned (OpenSpec.upto feedPartsSpec)

/-- 'hopperlaw14.FeedReads', WHERE WHAT IT READS IS OF BULK AT MOST 1048576: true; the input reads as it did. -/
def feedReadsUptoRow : OpenClaim := { program := "ythmnedlaecekkaa", sum := "9762e9564fea56a791958793735d60611fbae83321facc59ade4b6ead6785e92", func := "hopper/hopperlaw14.FeedReads", spec := "feedReads", apart := false, narrowed := true }
def FeedReadsUptoSaid : Prop := feedReadsUptoRow.holds Try.pinned (OpenSpec.upto feedReadsSpec)

end Rows
end Go.Proofs.Ythmnedlaecekkaa
