/- The law PipeThrough as the given row says it: for every input true, and each argument reads as it read; out of the contract and the pure statement. -/
import Derived.Test.YtacncgpnimdfbaaRows
import Derived.Test.YtacncgpnimdfbaaRead
import Derived.Test.YtacncgpnimdfbaaPurePipeThrough
import Derived.WalkKit
import Derived.ProofKit
import Derived.OpenShut
import Derived.ShutString
import Derived.ChangeOld
import Derived.Below
import Derived.SizedLaws
import Derived.Test.YtacncgpnimdfbaaWSized
namespace Go.Proofs.Ytacncgpnimdfbaa.pipeThrough
open Go.ChangeShapes Go.WideShapes Go.ChangeAt Go.RowKit Go.Proofs.YtacncgpnimdfbaaW.PrintWords Go.Proofs.YtacncgpnimdfbaaW.PrintLast Go.Proofs.YtacncgpnimdfbaaW.PrintMore
open Go.ChangeMaps (open_string shut_string)
set_option linter.unusedVariables false

/-- An item, read. -/
theorem reads_item : Read.Reads Try.prog 26 PPipeThrough.k26 (fun _ => True) := by
  intro H enc w fuel cs x h
  obtain ⟨hl, he⟩ := Read.struct_fields Try.underlying26 h
  rw [show Try.prog.cellsOf 26 = 3 by kernel_rfl] at hl
  match cs, hl with
  | [c0, c1, c2], _ =>
    obtain ⟨n0, y0, h0⟩ := he 0 _ rfl
    obtain ⟨n1, y1, h1⟩ := he 1 _ rfl
    obtain ⟨n2, y2, h2⟩ := he 2 _ rfl
    change DataW.trod enc Try.prog w 0 (fun _ => true) true n0 3 (List.take (Try.prog.cellsOf 3) (List.drop 0 [c0, c1, c2])) = some y0 at h0
    change DataW.trod enc Try.prog w 0 (fun _ => true) true n1 3 (List.take (Try.prog.cellsOf 3) (List.drop 1 [c0, c1, c2])) = some y1 at h1
    change DataW.trod enc Try.prog w 0 (fun _ => true) true n2 9 (List.take (Try.prog.cellsOf 9) (List.drop 2 [c0, c1, c2])) = some y2 at h2
    rw [show Try.prog.cellsOf 3 = 1 by kernel_rfl] at h0 h1
    rw [show Try.prog.cellsOf 9 = 1 by kernel_rfl] at h2
    obtain ⟨v0, e0, _⟩ := Read.reads_int Try.underlying3 H enc w n0 _ y0 h0
    obtain ⟨v1, e1, _⟩ := Read.reads_int Try.underlying3 H enc w n1 _ y1 h1
    obtain ⟨v2, e2, _⟩ := Read.reads_string Try.underlying9 H enc w n2 _ y2 h2
    have q0 : c0 = .int .i64 v0 := List.head_eq_of_cons_eq e0
    have q1 : c1 = .int .i64 v1 := List.head_eq_of_cons_eq e1
    have q2 : c2 = .string v2 := List.head_eq_of_cons_eq e2
    subst q0 q1 q2
    exact ⟨⟨v0, v1, v2⟩, PPipeThrough.k26_mk w ⟨v0, v1, v2⟩, trivial⟩
theorem own : ownKnob Try.prog.godebug = none := by kernel_rfl
theorem laidOut : laidOutB Try.prog = true := by kernel_rfl
set_option maxRecDepth 100000 in
set_option maxHeartbeats 1000000 in
theorem lifted (os : Os) (started : os.Started) (H : Type) (enc : TypeId × Value → H) :
    ReturnsInHanded {} Try.checked os 6 .any (Rows.pipeThroughSpec.pre6 enc Try.prog Try.f6 Rows.pipeThroughRow.domain false) (Rows.pipeThroughSpec.post enc Try.prog Try.f6 false true false false) := by
  refine returnsInHanded_of_change_sized (C := Try.checked) own started (by kernel_rfl) Try.func6
    (ChangeSpec.witness6 (enc := enc) (C := Try.checked) false ⟨#[], #[.int .i64 0, .slice none 0 0], []⟩ 8 (by kernel_rfl) (by kernel_rfl) (by kernel_rfl) (by kernel_rfl)) ?_
  intro W base args ds gs before hval0 hW hcnd hsz0 _
  have hval : ∀ (j : Nat) t v, Try.f6.params[j]? = some t → args[j]? = some v → Value.okWide Try.prog W .any base t v := hval0
  have hW' := hW
  obtain ⟨p, q, hA0, hV, rfl, hfz, hnd⟩ := hW
  have hA : DataW.TrodAll enc Try.prog W 0 (fun _ => true) true Try.f6.params.toList args.toList ds p := hA0
  rw [Try.params6] at hA hval
  obtain ⟨v0, vs0, d0, ds0, p0, q0, hargs, rfl, rfl, h0, r0⟩ := trodAll_cons hA
  obtain ⟨v1, vs1, d1, ds1, p1, q1, rfl, rfl, rfl, h1, r1⟩ := trodAll_cons r0
  obtain ⟨rfl, rfl, rfl⟩ := trodAll_nil r1
  obtain rfl : args = #[v0, v1] := by cases args; simp_all
  obtain ⟨rfl, rfl⟩ := trodVars_none hV
  obtain ⟨a0, rfl, rfl, rfl, w0⟩ := open_int Try.underlying3 (hval 0 3 v0 rfl rfl) h0
  obtain ⟨a1, len1, cap1, rfl⟩ := okWide_slice Try.underlying22 (hval 1 22 v1 rfl rfl)
  have k1 := h1
  have lt1 : ∀ x ∈ p1, x.block < W.heap.size := by obtain ⟨m, hm⟩ := k1; exact DataW.trod_lt m _ _ _ hm
  obtain ⟨l1, rfl, hc1, hr1, hw1⟩ := Read.slice_arg (Read.reads_slice Try.underlying22 reads_item (by kernel_rfl)) k1
  obtain ⟨k, hk⟩ := PPipeThrough.pure_ a0 l1
  refine (PPipeThrough.hopperlaw08_PipeThrough.callsT k a0 _ _ l1 W hr1 hc1 hk).mono fun e W' ⟨he, bel0⟩ => ?_
  have bel : Below W.heap.size W W' := bel0
  subst he
  exact ⟨_, rfl, _, _, _, [], _, [], hW', trodAll_mk1 (shut_bool Try.underlying4 _), (trodAll_cons_mk (shut_int Try.underlying3 w0) (trodAll_cons_mk (Below.trod laidOut (by kernel_rfl) (of_decide_eq_true (by kernel_rfl)) k1 bel lt1) trodAll_mk0)), rfl, bel.frame _, fun h => by cases h⟩
theorem over : Rows.pipeThroughRow.holds Try.pinned (OpenSpec.ofChange Rows.pipeThroughSpec) :=
  OpenClaim.holds_of_wide 6 Try.f6 rfl rfl rfl rfl rfl rfl rfl ⟨rfl, rfl, rfl, rfl, rfl⟩ rfl rfl rfl rfl rfl (by kernel_rfl) Try.func6 (by kernel_rfl)
    (of_decide_eq_true (by kernel_rfl)) (by unfold Func.isWrapper; first | (rw [if_pos (by decide +kernel)]; kernel_rfl) | (rw [if_neg (by decide +kernel)]; exact ⟨rfl, rfl⟩))
    (fun os started H enc _ => lifted os started H enc)
theorem proved : Rows.PipeThroughSaid := over
#print axioms proved
end Go.Proofs.Ytacncgpnimdfbaa.pipeThrough
namespace Go.Proofs.Ytacncgpnimdfbaa
/-- The row, under a short name, for the claim. -/
theorem pipeThrough_holds : Rows.PipeThroughSaid := pipeThrough.proved
end Go.Proofs.Ytacncgpnimdfbaa
