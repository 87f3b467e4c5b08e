/-
  No cell of these rows narrows 'for every input' (looked for: loops, veiled, ifaces, maps, wideKeys, modest, calm, conditions, laid).
  DERIVED. THE GIVEN ROWS OF THIS SEAT. 4 by the template 'for every input the law returns true; each argument reads behind the call as it read before'; 0 by the template 'total and deterministic' (their statements: YtjbhjjdahakjmaaTotals.lean).
  GIVEN WITH THE SEED: the statements are not yours to turn. If you find one false, say at which input.
  Laid BY PROGRAM, IN A SANDBOX (cutbox-rows.mjs): the forced cells as the released guide's own fill.sh prints them over the translation e17202f7e739b4b2… (all of the seat's roots in one cut). By AI agents, Wed Nov 11 2026. No macro, syntax, notation, axiom, sorry.
-/
import Derived.Test.YtjbhjjdahakjmaaChecked
import GoSem.Claim
import GoSem.ClaimJoined
import GoSem.ClaimMapViews
import Derived.JoinedTies
import Derived.KernelRfl
namespace Go.Proofs.Ytjbhjjdahakjmaa
/- THE CELL 'sum', in the pinned program and in every row, IS THE sha256 OF THE DUMP (.gsa) THAT YtjbhjjdahakjmaaProg.lean LOADS. Nothing in Lean hashes anything: it is a label: what it is worth is what the hold of that sum in a sandbox is worth. -/
noncomputable def Try.pinned : Pinned := { name := "ytjbhjjdahakjmaa", sum := "e17202f7e739b4b236826add05630be010bcf9963cb6d93122528a400c916513", checked := Try.checked }
namespace Rows
def none {H : Type} : Left H := { results := [], args := [] }

/-- 'hopperlaw09.LockTells': WHATEVER THE INPUT: true; the input reads as it did. -/
def lockTellsSpec : ChangeSpec := { name := "lockTells", fn := fun _ => fun
  | [d1, d2, d3] => { results := [.lit (.bool true)], args := [d1, d2, d3] }
  | _ => none }
def lockTellsRow : OpenClaim := { program := "ytjbhjjdahakjmaa", sum := "e17202f7e739b4b236826add05630be010bcf9963cb6d93122528a400c916513", func := "hopper/hopperlaw09.LockTells", spec := "lockTells", unfollowed := true, recurses := true, apart := false }
def LockTellsSaid : Prop := lockTellsRow.holds Try.pinned (OpenSpec.ofChange lockTellsSpec)

/-- ITS FALSE NEIGHBOUR: 'it returns false'. Refute it at one input. -/
def lockTellsWrong : ChangeSpec := { name := "lockTells", fn := fun _ => fun
  | [d1, d2, d3] => { results := [.lit (.bool false)], args := [d1, d2, d3] }
  | _ => none }
def LockTellsWrongFalsely : Prop := lockTellsRow.holds Try.pinned (OpenSpec.ofChange lockTellsWrong)

/-- 'hopperlaw09.LockRuns': WHATEVER THE INPUT: true; the input reads as it did. -/
def lockRunsSpec : ChangeSpec := { name := "lockRuns", fn := fun _ => fun
  | [d1, d2] => { results := [.lit (.bool true)], args := [d1, d2] }
  | _ => none }
def lockRunsRow : OpenClaim := { program := "ytjbhjjdahakjmaa", sum := "e17202f7e739b4b236826add05630be010bcf9963cb6d93122528a400c916513", func := "hopper/hopperlaw09.LockRuns", spec := "lockRuns", unfollowed := true, recurses := true, apart := false }
def LockRunsSaid : Prop := lockRunsRow.holds Try.pinned (OpenSpec.ofChange lockRunsSpec)

/-- ITS FALSE NEIGHBOUR: 'it returns false'. Refute it at one input. -/
def lockRunsWrong : ChangeSpec := { name := "lockRuns", fn := fun _ => fun
  | [d1, d2] => { results := [.lit (.bool false)], args := [d1, d2] }
  | _ => none }
def LockRunsWrongFalsely : Prop := lockRunsRow.holds Try.pinned (OpenSpec.ofChange lockRunsWrong)

/-- 'hopperlaw09.LockOwn': WHATEVER THE INPUT: true; the input reads as it did. -/
def lockOwnSpec : ChangeSpec := { name := "lockOwn", fn := fun _ => fun
  | [d1, d2, d3] => { results := [.lit (.bool true)], args := [d1, d2, d3] }
  | _ => none }
def lockOwnRow : OpenClaim := { program := "ytjbhjjdahakjmaa", sum := "e17202f7e739b4b236826add05630be010bcf9963cb6d93122528a400c916513", func := "hopper/hopperlaw09.LockOwn", spec := "lockOwn", unfollowed := true, recurses := true, apart := false }
def LockOwnSaid : Prop := lockOwnRow.holds Try.pinned (OpenSpec.ofChange lockOwnSpec)

/-- ITS FALSE NEIGHBOUR: 'it returns false'. Refute it at one input. -/
def lockOwnWrong : ChangeSpec := { name := "lockOwn", fn := fun _ => fun
  | [d1, d2, d3] => { results := [.lit (.bool false)], args := [d1, d2, d3] }
  | _ => none }
def LockOwnWrongFalsely : Prop := lockOwnRow.holds Try.pinned (OpenSpec.ofChange lockOwnWrong)

/-- 'hopperlaw09.LockFirst': WHATEVER THE INPUT: true; the input reads as it did. -/
def lockFirstSpec : ChangeSpec := { name := "lockFirst", fn := fun _ => fun
  | [d1, d2] => { results := [.lit (.bool true)], args := [d1, d2] }
  | _ => none }
def lockFirstRow : OpenClaim := { program := "ytjbhjjdahakjmaa", sum := "e17202f7e739b4b236826add05630be010bcf9963cb6d93122528a400c916513", func := "hopper/hopperlaw09.LockFirst", spec := "lockFirst", unfollowed := true, recurses := true, apart := false }
def LockFirstSaid : Prop := lockFirstRow.holds Try.pinned (OpenSpec.ofChange lockFirstSpec)

/-- ITS FALSE NEIGHBOUR: 'it returns false'. Refute it at one input. -/
def lockFirstWrong : ChangeSpec := { name := "lockFirst", fn := fun _ => fun
  | [d1, d2] => { results := [.lit (.bool false)], args := [d1, d2] }
  | _ => none }
def LockFirstWrongFalsely : Prop := lockFirstRow.holds Try.pinned (OpenSpec.ofChange lockFirstWrong)

/- THE SECOND FORM. 'bulk': how many values and letters a reading holds, each counted each time it is reached (what is shared counts as often as it is met; a slice's spare places count too). A statement '..UptoSaid' is the law's where the arguments, and the package variables that the reading takes, are together of bulk at most 1048576: NARROWER than '..Said'. Prove '..Said' where nothing that the law and all that it calls make is longer than what came in: it says more and counts as full. Else prove '..UptoSaid'. A law counts once. -/
mutual
def uptoBulk {H : Type} : DataW H → Nat
  | .lit (.string bytes) => bytes.length + 1
  | .lit _ => 1
  | .nil => 1
  | .ptr d => uptoBulk d + 1
  | .slice elems spare => uptoBulkAll elems + uptoBulkAll spare + 1
  | .agg parts => uptoBulkAll parts + 1
  | .iface _ d => uptoBulk d + 1
  | .map entries => uptoBulkEntries entries + 1
  | .held _ => 1
def uptoBulkAll {H : Type} : List (DataW H) → Nat
  | [] => 0
  | d :: r => uptoBulk d + uptoBulkAll r
def uptoBulkEntries {H : Type} : List (Lit × DataW H) → Nat
  | [] => 0
  | x :: r => uptoBulkEntry x + uptoBulkEntries r
def uptoBulkEntry {H : Type} : Lit × DataW H → Nat
  | (.string bytes, d) => bytes.length + uptoBulk d + 1
  | (_, d) => uptoBulk d + 1
 end
def uptoSmall : (H : Type) → List (DataW H) → Bool := fun _ ds => decide (uptoBulkAll ds ≤ 1048576)
def OpenSpec.upto (s : _root_.Go.ChangeSpec) : _root_.Go.OpenSpec := { _root_.Go.OpenSpec.ofChange s with cond := some uptoSmall }

/-- 'hopperlaw09.LockTells', WHERE WHAT IT READS IS OF BULK AT MOST 1048576: true; the input reads as it did. -/
def lockTellsUptoRow : OpenClaim := { program := "ytjbhjjdahakjmaa", sum := "e17202f7e739b4b236826add05630be010bcf9963cb6d93122528a400c916513", func := "hopper/hopperlaw09.LockTells", spec := "lockTells", unfollowed := true, recurses := true, apart := false, narrowed := true }
def LockTellsUptoSaid : Prop := lockTellsUptoRow.holds Try.pinned (OpenSpec.upto lockTellsSpec)

/-- 'hopperlaw09.LockRuns', WHERE WHAT IT READS IS OF BULK AT MOST 1048576: true; the input reads as it did. -/
def lockRunsUptoRow : OpenClaim := { program := "ytjbhjjdahakjmaa", sum := "e17202f7e739b4b236826add05630be010bcf9963cb6d93122528a400c916513", func := "hopper/hopperlaw09.LockRuns", spec := "lockRuns", unfollowed := true, recurses := true, apart := false, narrowed := true }
def LockRunsUptoSaid : Prop := lockRunsUptoRow.holds Try.pinned (OpenSpec.upto lockRunsSpec)

/-- 'hopperlaw09.LockOwn', WHERE WHAT IT READS IS OF BULK AT MOST 1048576: true; the input reads as it did. -/
def lockOwnUptoRow : OpenClaim := { program := "ytjbhjjdahakjmaa", sum := "e17202f7e739b4b236826add05630be010bcf9963cb6d93122528a400c916513", func := "hopper/hopperlaw09.LockOwn", spec := "lockOwn", unfollowed := true, recurses := true, apart := false, narrowed := true }
def LockOwnUptoSaid : Prop := lockOwnUptoRow.holds Try.pinned (OpenSpec.upto lockOwnSpec)

/-- 'hopperlaw09.LockFirst', WHERE WHAT IT READS IS OF BULK AT MOST 1048576: true; the input reads as it did. -/
def lockFirstUptoRow : OpenClaim := { program := "ytjbhjjdahakjmaa", sum := "e17202f7e739b4b236826add05630be010bcf9963cb6d93122528a400c916513", func := "hopper/hopperlaw09.LockFirst", spec := "lockFirst", unfollowed := true, recurses := true, apart := false, narrowed := true }
def LockFirstUptoSaid : Prop := lockFirstUptoRow.holds Try.pinned (OpenSpec.upto lockFirstSpec)

end Rows
end Go.Proofs.Ytjbhjjdahakjmaa
