/- The law LockRuns as the given row says it: for every input true, and each argument reads as it read; out of the contract and the pure statement. -/
import Derived.Test.YtjbhjjdahakjmaaRows
import Derived.Test.YtjbhjjdahakjmaaRead
import Derived.Test.YtjbhjjdahakjmaaPureLockRuns
import Derived.WalkKit
import Derived.ProofKit
import Derived.OpenShut
import Derived.ShutString
import Derived.ChangeOld
import Derived.Below
import Derived.SizedLaws
import Derived.Test.YtjbhjjdahakjmaaWSized
namespace Go.Proofs.Ytjbhjjdahakjmaa.lockRuns
open Go.ChangeShapes Go.WideShapes Go.ChangeAt Go.RowKit Go.Proofs.YtjbhjjdahakjmaaW.PrintWords Go.Proofs.YtjbhjjdahakjmaaW.PrintLast Go.Proofs.YtjbhjjdahakjmaaW.PrintMore
open Go.ChangeMaps (open_string shut_string)
set_option linter.unusedVariables false

/-- An array of two numbers, read. -/
theorem reads_pair : Read.Reads Try.prog 41 PLockRuns.k41 (fun x => (Lit.int .i64 x.f0).wf = true ∧ (Lit.int .i64 x.f1).wf = true) := by
  intro H enc w fuel cs x h
  obtain ⟨hl, he⟩ := Read.array_elems Try.underlying41 h
  rw [show Try.prog.cellsOf 41 = 2 by kernel_rfl] at hl
  match cs, hl with
  | [c0, c1], _ =>
    obtain ⟨n0, y0, h0⟩ := he 0 (by decide)
    obtain ⟨n1, y1, h1⟩ := he 1 (by decide)
    rw [show Try.prog.cellsOf 3 = 1 by kernel_rfl] at h0 h1
    obtain ⟨v0, e0, w0⟩ := Read.reads_int Try.underlying3 H enc w n0 _ y0 h0
    obtain ⟨v1, e1, w1⟩ := Read.reads_int Try.underlying3 H enc w n1 _ y1 h1
    have q0 : c0 = .int .i64 v0 := List.head_eq_of_cons_eq e0
    have q1 : c1 = .int .i64 v1 := List.head_eq_of_cons_eq e1
    subst q0 q1
    exact ⟨⟨v0, v1⟩, PLockRuns.k41_mk w ⟨v0, v1⟩, w0, w1⟩
theorem own : ownKnob Try.prog.godebug = none := by kernel_rfl
theorem laidOut : laidOutB Try.prog = true := by kernel_rfl
set_option maxRecDepth 100000 in
set_option maxHeartbeats 1000000 in
theorem lifted (os : Os) (started : os.Started) (H : Type) (enc : TypeId × Value → H) :
    ReturnsInHanded {} Try.checked os 4 .any (Rows.lockRunsSpec.pre6 enc Try.prog Try.f4 Rows.lockRunsRow.domain false) (Rows.lockRunsSpec.post enc Try.prog Try.f4 false true false false) := by
  refine returnsInHanded_of_change_sized (C := Try.checked) own started (by kernel_rfl) Try.func4
    (ChangeSpec.witness6 (enc := enc) (C := Try.checked) false ⟨#[], #[.int .i64 0, .slice none 0 0], []⟩ 8 (by kernel_rfl) (by kernel_rfl) (by kernel_rfl) (by kernel_rfl)) ?_
  intro W base args ds gs before hval0 hW hcnd hsz0 _
  have hval : ∀ (j : Nat) t v, Try.f4.params[j]? = some t → args[j]? = some v → Value.okWide Try.prog W .any base t v := hval0
  have hW' := hW
  obtain ⟨p, q, hA0, hV, rfl, hfz, hnd⟩ := hW
  have hA : DataW.TrodAll enc Try.prog W 0 (fun _ => true) true Try.f4.params.toList args.toList ds p := hA0
  rw [Try.params4] at hA hval
  obtain ⟨v0, vs0, d0, ds0, p0, q0, hargs, rfl, rfl, h0, r0⟩ := trodAll_cons hA
  obtain ⟨v1, vs1, d1, ds1, p1, q1, rfl, rfl, rfl, h1, r1⟩ := trodAll_cons r0
  obtain ⟨rfl, rfl, rfl⟩ := trodAll_nil r1
  obtain rfl : args = #[v0, v1] := by cases args; simp_all
  obtain ⟨rfl, rfl⟩ := trodVars_none hV
  obtain ⟨a0, rfl, rfl, rfl, w0⟩ := open_int Try.underlying3 (hval 0 3 v0 rfl rfl) h0
  obtain ⟨a1, len1, cap1, rfl⟩ := okWide_slice Try.underlying40 (hval 1 40 v1 rfl rfl)
  have k1 := h1
  have lt1 : ∀ x ∈ p1, x.block < W.heap.size := by obtain ⟨m, hm⟩ := k1; exact DataW.trod_lt m _ _ _ hm
  obtain ⟨l1, rfl, hc1, hr1, hw1⟩ := Read.slice_arg (Read.reads_slice Try.underlying40 reads_pair (by kernel_rfl)) k1
  obtain ⟨k, hk⟩ := PLockRuns.pure_ a0 l1 hw1
  refine (PLockRuns.hopperlaw09_LockRuns.calls k a0 _ _ l1 true W hr1 hc1 hk).mono fun e W' ⟨he, bel0⟩ => ?_
  have bel : Below W.heap.size W W' := bel0
  subst he
  exact ⟨_, rfl, _, _, _, [], _, [], hW', trodAll_mk1 (shut_bool Try.underlying4 _), (trodAll_cons_mk (shut_int Try.underlying3 w0) (trodAll_cons_mk (Below.trod laidOut (by kernel_rfl) (of_decide_eq_true (by kernel_rfl)) k1 bel lt1) trodAll_mk0)), rfl, bel.frame _, fun h => by cases h⟩
theorem over : Rows.lockRunsRow.holds Try.pinned (OpenSpec.ofChange Rows.lockRunsSpec) :=
  OpenClaim.holds_of_wide 4 Try.f4 rfl rfl rfl rfl rfl rfl rfl ⟨rfl, rfl, rfl, rfl, rfl⟩ rfl rfl rfl rfl rfl (by kernel_rfl) Try.func4 (by kernel_rfl)
    (of_decide_eq_true (by kernel_rfl)) (by unfold Func.isWrapper; first | (rw [if_pos (by decide +kernel)]; kernel_rfl) | (rw [if_neg (by decide +kernel)]; exact ⟨rfl, rfl⟩))
    (fun os started H enc _ => lifted os started H enc)
theorem proved : Rows.LockRunsSaid := over
#print axioms proved
end Go.Proofs.Ytjbhjjdahakjmaa.lockRuns
namespace Go.Proofs.Ytjbhjjdahakjmaa
/-- The row, under a short name, for the claim. -/
theorem lockRuns_holds : Rows.LockRunsSaid := lockRuns.proved
end Go.Proofs.Ytjbhjjdahakjmaa
