/- The law FeedParts as the given row says it: for every input true, and each argument reads as it read; out of the contract and the pure statement. -/
import Derived.Test.YthmnedlaecekkaaRows
import Derived.Test.YthmnedlaecekkaaRead
import Derived.Test.YthmnedlaecekkaaPureFeedParts
import Derived.WalkKit
import Derived.ProofKit
import Derived.OpenShut
import Derived.ShutString
import Derived.ChangeOld
import Derived.Below
import Derived.SizedLaws
import Derived.Test.YthmnedlaecekkaaWSized
namespace Go.Proofs.Ythmnedlaecekkaa.feedParts
open Go.ChangeShapes Go.WideShapes Go.ChangeAt Go.RowKit Go.Proofs.YthmnedlaecekkaaW.PrintWords Go.Proofs.YthmnedlaecekkaaW.PrintLast Go.Proofs.YthmnedlaecekkaaW.PrintMore
open Go.ChangeMaps (open_string shut_string)
set_option linter.unusedVariables false

/-- A transaction, read. -/
theorem reads_tx : Read.Reads Try.prog 34 PFeedParts.k34 (fun _ => True) := by
  intro H enc w fuel cs x h
  obtain ⟨hl, he⟩ := Read.struct_fields Try.underlying34 h
  rw [show Try.prog.cellsOf 34 = 6 by kernel_rfl] at hl
  match cs, hl with
  | [c0, c1, c2, c3, c4, c5], _ =>
    obtain ⟨n0, y0, h0⟩ := he 0 _ rfl
    obtain ⟨n1, y1, h1⟩ := he 1 _ rfl
    obtain ⟨n2, y2, h2⟩ := he 2 _ rfl
    obtain ⟨n3, y3, h3⟩ := he 3 _ rfl
    obtain ⟨n4, y4, h4⟩ := he 4 _ rfl
    obtain ⟨n5, y5, h5⟩ := he 5 _ rfl
    change DataW.trod enc Try.prog w 0 (fun _ => true) true n0 3 (List.take (Try.prog.cellsOf 3) (List.drop 0 [c0, c1, c2, c3, c4, c5])) = some y0 at h0
    change DataW.trod enc Try.prog w 0 (fun _ => true) true n1 3 (List.take (Try.prog.cellsOf 3) (List.drop 1 [c0, c1, c2, c3, c4, c5])) = some y1 at h1
    change DataW.trod enc Try.prog w 0 (fun _ => true) true n2 3 (List.take (Try.prog.cellsOf 3) (List.drop 2 [c0, c1, c2, c3, c4, c5])) = some y2 at h2
    change DataW.trod enc Try.prog w 0 (fun _ => true) true n3 3 (List.take (Try.prog.cellsOf 3) (List.drop 3 [c0, c1, c2, c3, c4, c5])) = some y3 at h3
    change DataW.trod enc Try.prog w 0 (fun _ => true) true n4 3 (List.take (Try.prog.cellsOf 3) (List.drop 4 [c0, c1, c2, c3, c4, c5])) = some y4 at h4
    change DataW.trod enc Try.prog w 0 (fun _ => true) true n5 9 (List.take (Try.prog.cellsOf 9) (List.drop 5 [c0, c1, c2, c3, c4, c5])) = some y5 at h5
    rw [show Try.prog.cellsOf 3 = 1 by kernel_rfl] at h0 h1 h2 h3 h4
    rw [show Try.prog.cellsOf 9 = 1 by kernel_rfl] at h5
    obtain ⟨v0, e0, _⟩ := Read.reads_int Try.underlying3 H enc w n0 _ y0 h0
    obtain ⟨v1, e1, _⟩ := Read.reads_int Try.underlying3 H enc w n1 _ y1 h1
    obtain ⟨v2, e2, _⟩ := Read.reads_int Try.underlying3 H enc w n2 _ y2 h2
    obtain ⟨v3, e3, _⟩ := Read.reads_int Try.underlying3 H enc w n3 _ y3 h3
    obtain ⟨v4, e4, _⟩ := Read.reads_int Try.underlying3 H enc w n4 _ y4 h4
    obtain ⟨v5, e5, _⟩ := Read.reads_string Try.underlying9 H enc w n5 _ y5 h5
    have q0 : c0 = .int .i64 v0 := List.head_eq_of_cons_eq e0
    have q1 : c1 = .int .i64 v1 := List.head_eq_of_cons_eq e1
    have q2 : c2 = .int .i64 v2 := List.head_eq_of_cons_eq e2
    have q3 : c3 = .int .i64 v3 := List.head_eq_of_cons_eq e3
    have q4 : c4 = .int .i64 v4 := List.head_eq_of_cons_eq e4
    have q5 : c5 = .string v5 := List.head_eq_of_cons_eq e5
    subst q0 q1 q2 q3 q4 q5
    exact ⟨⟨v0, v1, v2, v3, v4, v5⟩, PFeedParts.k34_mk w ⟨v0, v1, v2, v3, v4, v5⟩, trivial⟩
/-- An event, read. -/
theorem reads_event : Read.Reads Try.prog 36 PFeedParts.k36 (fun _ => True) := by
  intro H enc w fuel cs x h
  obtain ⟨hl, he⟩ := Read.struct_fields Try.underlying36 h
  rw [show Try.prog.cellsOf 36 = 8 by kernel_rfl] at hl
  match cs, hl with
  | [c0, c1, c2, c3, c4, c5, c6, c7], _ =>
    obtain ⟨n0, y0, h0⟩ := he 0 _ rfl
    obtain ⟨n1, y1, h1⟩ := he 1 _ rfl
    obtain ⟨n2, y2, h2⟩ := he 2 _ rfl
    change DataW.trod enc Try.prog w 0 (fun _ => true) true n0 3 (List.take (Try.prog.cellsOf 3) (List.drop 0 [c0, c1, c2, c3, c4, c5, c6, c7])) = some y0 at h0
    change DataW.trod enc Try.prog w 0 (fun _ => true) true n1 34 (List.take (Try.prog.cellsOf 34) (List.drop 1 [c0, c1, c2, c3, c4, c5, c6, c7])) = some y1 at h1
    change DataW.trod enc Try.prog w 0 (fun _ => true) true n2 3 (List.take (Try.prog.cellsOf 3) (List.drop 7 [c0, c1, c2, c3, c4, c5, c6, c7])) = some y2 at h2
    rw [show Try.prog.cellsOf 3 = 1 by kernel_rfl] at h0 h2
    rw [show Try.prog.cellsOf 34 = 6 by kernel_rfl] at h1
    obtain ⟨v0, e0, _⟩ := Read.reads_int Try.underlying3 H enc w n0 _ y0 h0
    obtain ⟨v1, e1, _⟩ := reads_tx H enc w n1 _ y1 h1
    obtain ⟨v2, e2, _⟩ := Read.reads_int Try.underlying3 H enc w n2 _ y2 h2
    have q0 : c0 = .int .i64 v0 := List.head_eq_of_cons_eq e0
    have q7 : c7 = .int .i64 v2 := List.head_eq_of_cons_eq e2
    have q1 : [c1, c2, c3, c4, c5, c6] = [.int .i64 v1.f0, .int .i64 v1.f1, .int .i64 v1.f2, .int .i64 v1.f3, .int .i64 v1.f4, .string v1.f5] := PFeedParts.k34_open e1
    simp only [List.cons.injEq, and_true] at q1
    obtain ⟨rfl, rfl, rfl, rfl, rfl, rfl⟩ := q1
    subst q0 q7
    exact ⟨⟨v0, v1, v2⟩, PFeedParts.k36_mk w ⟨v0, v1, v2⟩, trivial⟩
/-- Two rows that came in by value. -/
theorem open_parts {H : Type} {enc : TypeId × Value → H} {w : World} {fuel : Nat} {cs : List Value} {x : DataW H × List MemPlace} (h : DataW.trod enc Try.prog w 0 (fun _ => true) true fuel 54 cs = some x) :
    ∃ (A : Option Addr) (c : Nat) (l : List PFeedParts.S36) (B : Option Addr) (d : Nat) (m : List PFeedParts.S36), cs = [.slice A l.length c, .slice B m.length d] ∧ Kd.C PFeedParts.k36 w A l.length l ∧ l.length ≤ c ∧ Kd.C PFeedParts.k36 w B m.length m ∧ m.length ≤ d := by
  obtain ⟨hl, he⟩ := Read.array_elems Try.underlying54 h
  rw [show Try.prog.cellsOf 54 = 2 by kernel_rfl] at hl
  rw [show Try.prog.cellsOf 22 = 1 by kernel_rfl] at he
  match cs, hl with
  | [c0, c1], _ =>
    obtain ⟨n0, y0, h0⟩ := he 0 (by decide)
    obtain ⟨n1, y1, h1⟩ := he 1 (by decide)
    obtain ⟨v0, ⟨A, c, e0, hc, hC⟩, _⟩ := Read.reads_slice Try.underlying22 reads_event (by kernel_rfl) H enc w n0 _ y0 h0
    obtain ⟨v1, ⟨B, d, e1, hd, hD⟩, _⟩ := Read.reads_slice Try.underlying22 reads_event (by kernel_rfl) H enc w n1 _ y1 h1
    have q0 : c0 = .slice A v0.length c := List.head_eq_of_cons_eq e0
    have q1 : c1 = .slice B v1.length d := List.head_eq_of_cons_eq e1
    subst q0 q1
    exact ⟨A, c, v0, B, d, v1, rfl, hC, hc, hD, hd⟩
theorem own : ownKnob Try.prog.godebug = none := by kernel_rfl
theorem laidOut : laidOutB Try.prog = true := by kernel_rfl
set_option maxRecDepth 100000 in
set_option maxHeartbeats 1000000 in
theorem lifted (os : Os) (started : os.Started) (H : Type) (enc : TypeId × Value → H) :
    ReturnsInHanded {} Try.checked os 7 .any (Rows.feedPartsSpec.pre6 enc Try.prog Try.f7 Rows.feedPartsRow.domain false) (Rows.feedPartsSpec.post enc Try.prog Try.f7 false true false false) := by
  refine returnsInHanded_of_change_sized (C := Try.checked) own started (by kernel_rfl) Try.func7
    (ChangeSpec.witness6 (enc := enc) (C := Try.checked) false ⟨#[], #[.agg #[.slice none 0 0, .slice none 0 0], .slice none 0 0, .int .i64 0], []⟩ 8 (by kernel_rfl) (by kernel_rfl) (by kernel_rfl) (by kernel_rfl)) ?_
  intro W base args ds gs before hval0 hW hcnd hsz0 _
  have hval : ∀ (j : Nat) t v, Try.f7.params[j]? = some t → args[j]? = some v → Value.okWide Try.prog W .any base t v := hval0
  have hW' := hW
  obtain ⟨p, q, hA0, hV, rfl, hfz, hnd⟩ := hW
  have hA : DataW.TrodAll enc Try.prog W 0 (fun _ => true) true Try.f7.params.toList args.toList ds p := hA0
  rw [Try.params7] at hA hval
  obtain ⟨v0, vs0, d0, ds0, p0, q0, hargs, rfl, rfl, h0, r0⟩ := trodAll_cons hA
  obtain ⟨v1, vs1, d1, ds1, p1, q1, rfl, rfl, rfl, h1, r1⟩ := trodAll_cons r0
  obtain ⟨v2, vs2, d2, ds2, p2, q2, rfl, rfl, rfl, h2, r2⟩ := trodAll_cons r1
  obtain ⟨rfl, rfl, rfl⟩ := trodAll_nil r2
  obtain rfl : args = #[v0, v1, v2] := by cases args; simp_all
  obtain ⟨rfl, rfl⟩ := trodVars_none hV
  have k0 := h0
  have lt0 : ∀ x ∈ p0, x.block < W.heap.size := by obtain ⟨m, hm⟩ := k0; exact DataW.trod_lt m _ _ _ hm
  obtain ⟨cs0, rfl, hl0, fu0, ht0⟩ := Read.agg_array (n := 2) (by decide) Try.underlying54 (by kernel_rfl) k0
  obtain ⟨A0_0, c0_0, l0_0, A0_1, c0_1, l0_1, rfl, hr0_0, hc0_0, hr0_1, hc0_1⟩ := open_parts ht0
  obtain ⟨a1, len1, cap1, rfl⟩ := okWide_slice Try.underlying22 (hval 1 22 v1 rfl rfl)
  have k1 := h1
  have lt1 : ∀ x ∈ p1, x.block < W.heap.size := by obtain ⟨m, hm⟩ := k1; exact DataW.trod_lt m _ _ _ hm
  obtain ⟨l1, rfl, hc1, hr1, hw1⟩ := Read.slice_arg (Read.reads_slice Try.underlying22 reads_event (by kernel_rfl)) k1
  obtain ⟨a2, rfl, rfl, rfl, w2⟩ := open_int Try.underlying3 (hval 2 3 v2 rfl rfl) h2
  obtain ⟨k, hk⟩ := PFeedParts.pure_ l0_0 l0_1 l1 a2 hr0_0.2.1 hr0_1.2.1 hr1.2.1
  refine (PFeedParts.hopperlaw14_FeedParts.callsT k _ _ l0_0 _ _ l0_1 _ _ l1 a2 W hr0_0 hc0_0 hr0_1 hc0_1 hr1 hc1 hk).mono fun e W' ⟨he, bel0⟩ => ?_
  have bel : Below W.heap.size W W' := bel0
  subst he
  exact ⟨_, rfl, _, _, _, [], _, [], hW', trodAll_mk1 (shut_bool Try.underlying4 _), (trodAll_cons_mk (Below.trod laidOut (by kernel_rfl) (of_decide_eq_true (by kernel_rfl)) k0 bel lt0) (trodAll_cons_mk (Below.trod laidOut (by kernel_rfl) (of_decide_eq_true (by kernel_rfl)) k1 bel lt1) (trodAll_cons_mk (shut_int Try.underlying3 w2) trodAll_mk0))), rfl, bel.frame _, fun h => by cases h⟩
theorem over : Rows.feedPartsRow.holds Try.pinned (OpenSpec.ofChange Rows.feedPartsSpec) :=
  OpenClaim.holds_of_wide 7 Try.f7 rfl rfl rfl rfl rfl rfl rfl ⟨rfl, rfl, rfl, rfl, rfl⟩ rfl rfl rfl rfl rfl (by kernel_rfl) Try.func7 (by kernel_rfl)
    (of_decide_eq_true (by kernel_rfl)) (by unfold Func.isWrapper; first | (rw [if_pos (by decide +kernel)]; kernel_rfl) | (rw [if_neg (by decide +kernel)]; exact ⟨rfl, rfl⟩))
    (fun os started H enc _ => lifted os started H enc)
theorem proved : Rows.FeedPartsSaid := over
#print axioms proved
end Go.Proofs.Ythmnedlaecekkaa.feedParts
namespace Go.Proofs.Ythmnedlaecekkaa
/-- The row, under a short name, for the claim. -/
theorem feedParts_holds : Rows.FeedPartsSaid := feedParts.proved
end Go.Proofs.Ythmnedlaecekkaa
