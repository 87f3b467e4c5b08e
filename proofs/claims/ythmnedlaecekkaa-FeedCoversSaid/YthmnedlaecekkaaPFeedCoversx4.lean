/- What the functions that the law reaches answer, each as a plain Lean function, with a proof that the call in memory comes to that answer. Written by wip/tools/given.py of this session out of the print.py of the kit, with stand-ins for some functions. -/
import Derived.Test.YthmnedlaecekkaaPFeedCoversx0
namespace Go.Proofs.Ythmnedlaecekkaa.PFeedCovers
open Go.RowKit Go.Proofs.YthmnedlaecekkaaW.PrintWords Go.Proofs.YthmnedlaecekkaaW.PrintLast Go.Proofs.YthmnedlaecekkaaW.PrintMore
attribute [local go_sem] max2_int min2_int max_two min_two max_three min_three max_four min_four   -- for this text's walks alone
set_option linter.unusedVariables false
set_option linter.unusedSimpArgs false

/-! ### hopperlaw14_event: function 23 -/
def hopperlaw14_event.f (a0 : Int) : Option (Int × Int × Int × Int × Int × Int × ByteArray × Int) := some (1, 0, a0, 0, 0, 0, (⟨#[]⟩ : ByteArray), 0)
set_option maxHeartbeats 8000000 in
set_option maxRecDepth 100000 in
theorem hopperlaw14_event.calls (a0 : Int) (r1 : Int) (r2 : Int) (r3 : Int) (r4 : Int) (r5 : Int) (r6 : Int) (r7 : ByteArray) (r8 : Int) (w : World) (h : hopperlaw14_event.f a0 = some (r1, r2, r3, r4, r5, r6, r7, r8)) :
    Calls Try.prog 23 #[.int .i64 a0] w fun e w' => e = .returned (.agg #[.int .i64 r1, .int .i64 r2, .int .i64 r3, .int .i64 r4, .int .i64 r5, .int .i64 r6, .string r7, .int .i64 r8]) ∧ Below w.heap.size w w' := by
  have hu36 := Try.underlying36
  have hu34 := Try.underlying34
  have HB := Aside0.mk (Below.refl w.heap.size w)
  have H : (some (1, 0, a0, 0, 0, 0, (⟨#[]⟩ : ByteArray), 0)) = some (r1, r2, r3, r4, r5, r6, r7, r8) := h
  clear h
  simp only [Option.some.injEq, Prod.mk.injEq] at H
  obtain ⟨rfl, rfl, rfl, rfl, rfl, rfl, rfl, rfl⟩ := H
  go_enter Try.func23, Try.ntmps23
  go_wp2_with (first | ((with_reducible refine gate_dst (N := 2) rfl ?_); refine box_event ?hg (N := 2) ?hd (cs := #[.int .i64 0, .int .i64 0, .int .i64 0, .int .i64 0, .int .i64 0, .int .i64 0, .string (⟨#[]⟩ : ByteArray), .int .i64 0]) (t := 36) ?hr ?_; (case hd => rfl); (case hg => rfl); (case hr => first | (go_simp; done) | (go_simp; rfl)); intro gb166 hg w2 hbox hb; have BK166 := Aside0.mk (hbox); have GE166 := Aside0.mk (ge1 hg (LA HB.out)); replace HB := Aside0.mk (below_step (LA HB.out) hb); clear hb hbox hg; obtain ⟨hcz3_0, hcz3_1, hcz3_2, hcz3_3, hcz3_4, hcz3_5, hcz3_6, hcz3_7, hfz3_0, hfz3_1, hfz3_2, hfz3_3, hfz3_4, hfz3_5, hfz3_6, hfz3_7⟩ := cz8 BK166.out))
  refine bodyPost_ret (results_cell_row rfl _ _ gb166 36 #[.int .i64 1, .int .i64 0, .int .i64 a0, .int .i64 0, .int .i64 0, .int .i64 0, .string (⟨#[]⟩ : ByteArray), .int .i64 0] (0, 0) _ rfl (BP BK166.out (by rfl)) Try.underlying36 rfl (by kernel_rfl)) rfl ?_
  exact ⟨by first | rfl | (simp [errW_none, errW_some] <;> rfl) | (simp [*, errW_none, errW_some] <;> rfl), LG HB.out (G1 GE166.out G0)⟩

end Go.Proofs.Ythmnedlaecekkaa.PFeedCovers
