/- What the functions that the law reaches answer, each as a plain Lean function, with a proof that the call in memory comes to that answer. Written by wip/tools/given.py of this session out of the print.py of the kit, with stand-ins for some functions. -/
import Derived.Test.YthmnedlaecekkaaPFeedPartsx0
import Derived.Test.YthmnedlaecekkaaPFeedPartsx2
import Derived.Test.YthmnedlaecekkaaGoto
namespace Go.Proofs.Ythmnedlaecekkaa.PFeedParts
open Go.RowKit Go.Proofs.YthmnedlaecekkaaW.PrintWords Go.Proofs.YthmnedlaecekkaaW.PrintLast Go.Proofs.YthmnedlaecekkaaW.PrintMore
attribute [local go_sem] max2_int min2_int max_two min_two max_three min_three max_four min_four   -- for this text's walks alone
set_option linter.unusedVariables false
set_option linter.unusedSimpArgs false

/-! ### feed_All: function 15 -/
def feed_All.l0 : Nat → List (S36) → Int → List (S36) → Int → Option (Int × (List (S36)) × Int × (List (S36)))
  | 0, _, _, _, _ => none
  | k + 1, x4, x124000, x124001, x124002 => (feed_Read.f x124000 x124001 x124002).bind fun bt125 => (if bt125.2.2.2.2.2.2.2.2.2.2.2 = 0 then (if x4.length < 1954687338268 then (feed_All.l0 k (x4 ++ [(⟨bt125.2.2.2.1, (⟨bt125.2.2.2.2.1, bt125.2.2.2.2.2.1, bt125.2.2.2.2.2.2.1, bt125.2.2.2.2.2.2.2.1, bt125.2.2.2.2.2.2.2.2.1, bt125.2.2.2.2.2.2.2.2.2.1⟩ : S34), bt125.2.2.2.2.2.2.2.2.2.2.1⟩ : S36)]) bt125.1 bt125.2.1 bt125.2.2.1) else (none)) else (some (x124000, x124001, x124002, x4)))
def feed_All.f (k : Nat) (a0_0 : Int) (l0_1 : List (S36)) (a0_2 : Int) : Option (Int × (List (S36)) × Int × (List (S36))) := feed_All.l0 k ([] : List (S36)) a0_0 l0_1 a0_2
theorem feed_All.mono_l : ∀ k, (∀ y0 y1 y2 y3, LeO (feed_All.l0 k y0 y1 y2 y3) (feed_All.l0 (k + 1) y0 y1 y2 y3))
  | 0 => fun _ _ _ _ r h => by simp [feed_All.l0] at h
  | k + 1 => by
    have ih0 := feed_All.mono_l k
    · intro y0 y1 y2 y3
      unfold feed_All.l0
      repeat' first
      | (with_reducible exact ih0 _ _ _ _)
      | (with_reducible exact LeO.refl _)
      | (with_reducible exact LeO.none _)
      | (with_reducible refine LeO.ite ?_ ?_)
      | (with_reducible refine LeO.bind ?_ (fun _ => ?_))
      | exact ih0 _ _ _ _
      | exact LeO.none _
      | refine LeO.ite ?_ ?_
      | refine LeO.bind ?_ (fun _ => ?_)
theorem feed_All.mono : ∀ a0 a1 a2 k, LeO (feed_All.f k a0 a1 a2) (feed_All.f (k + 1) a0 a1 a2) := by
  intro a0 a1 a2 k
  have ih0 := feed_All.mono_l k
  unfold feed_All.f
  repeat' first
      | (with_reducible exact ih0 _ _ _ _)
      | (with_reducible exact LeO.refl _)
      | (with_reducible exact LeO.none _)
      | (with_reducible refine LeO.ite ?_ ?_)
      | (with_reducible refine LeO.bind ?_ (fun _ => ?_))
      | exact ih0 _ _ _ _
      | exact LeO.none _
      | refine LeO.ite ?_ ?_
      | refine LeO.bind ?_ (fun _ => ?_)
attribute [local go_sem] jump_ret
set_option maxHeartbeats 8000000 in
set_option maxRecDepth 100000 in
theorem feed_All.calls (k : Nat) (a0_0 : Int) (P0_1_ : Nat → Prop) (A0_1 : Option Addr) (c0_1 : Nat) (l0_1 : List (S36)) (a0_2 : Int) (r1 : Int) (r2 : List (S36)) (r3 : Int) (r4 : List (S36)) (w : World) (hs0_1 : Kd.V k36 36 w w.heap.size (fun k_ => P0_1_ k_) (.slice A0_1 l0_1.length c0_1) l0_1) (h : feed_All.f k a0_0 l0_1 a0_2 = some (r1, r2, r3, r4)) :
    Calls Try.prog 15 #[.agg #[.int .i64 a0_0, .slice A0_1 l0_1.length c0_1, .int .i64 a0_2]] w fun e w' => ∃ v1_ v3_ : Value, e = .returned (.tuple #[.agg #[.int .i64 r1, v1_, .int .i64 r3], v3_]) ∧ Kd.V k36 36 w' w.heap.size (fun k_ => (P0_1_ k_ ∨ w.heap.size ≤ k_) ∧ some k_ ≠ (v3_ : Value).ownBlock) v1_ r2 ∧ Kd.R k36 36 w' w.heap.size (fun k_ => (w.heap.size ≤ k_)) v3_ r4 ∧ Below w.heap.size w w' := by
  have hu27 := Try.underlying27
  have hu36 := Try.underlying36
  have HO0_1 := Aside0.mk (show Kd.V k36 36 w w.heap.size (fun k_ => (P0_1_ k_ ∨ w.heap.size ≤ k_)) (.slice A0_1 l0_1.length c0_1) l0_1 from Kd.V_mono hs0_1 (fun k_ hk => .inl hk))
  have HB := Aside0.mk (Below.refl w.heap.size w)
  have H : (feed_All.l0 k ([] : List (S36)) a0_0 l0_1 a0_2) = some (r1, r2, r3, r4) := h
  clear h
  have H' := Aside0.mk H
  clear H
  go_enter Try.func15, Try.ntmps15
  go_wp2_with (first | ((with_reducible refine gate_dst (N := 1) rfl ?_); refine box_event ?hg (N := 1) ?hd (cs := #[.int .i64 a0_0, .slice A0_1 l0_1.length c0_1, .int .i64 a0_2]) (t := 27) ?hr ?_; (case hd => rfl); (case hg => rfl); (case hr => first | (go_simp; done) | (go_simp; rfl)); intro gb123 hg w2 hbox hb; replace HO0_1 := Aside0.mk (Kd.V_below (Kd.V_elderB (Kd.VA HO0_1.out) gb123 (Nat.le_of_eq hg.symm)) hb); have BK123 := Aside0.mk (hbox); have GE123 := Aside0.mk (ge1 hg (LA HB.out)); replace HB := Aside0.mk (below_step (LA HB.out) hb); clear hb hbox hg) | ((with_reducible refine gate_dst (N := 2) rfl ?_); refine box_event ?hg (N := 2) ?hd (cs := #[.int .i64 0, .slice none 0 0, .int .i64 0]) (t := 27) ?hr ?_; (case hd => rfl); (case hg => rfl); (case hr => first | (go_simp; done) | (go_simp; rfl)); intro gb124 hg w3 hbox hb; replace HO0_1 := Aside0.mk (Kd.V_below (Kd.V_elderB (Kd.VA HO0_1.out) gb124 (Nat.le_of_eq hg.symm)) hb); have BK124 := Aside0.mk (hbox); have GE124 := Aside0.mk (ge1 hg (LA HB.out)); replace HB := Aside0.mk (below_step (LA HB.out) hb); have NB123_124 := Aside0.mk ((by rw [hg]; exact Nat.ne_of_lt (blk_lt (g := gb123) (o := .cells #[.int .i64 a0_0, .slice A0_1 l0_1.length c0_1, .int .i64 a0_2] 27 (0, 0)) (BA BK123.out)) : gb123 ≠ gb124)); have NB124_123 := Aside0.mk ((by rw [hg]; exact Nat.ne_of_gt (blk_lt (g := gb123) (o := .cells #[.int .i64 a0_0, .slice A0_1 l0_1.length c0_1, .int .i64 a0_2] 27 (0, 0)) (BA BK123.out)) : gb124 ≠ gb123)); replace BK123 := Aside0.mk (blk_below (BA BK123.out) hb); clear hb hbox hg))
  refine wp_scope_goto 0 (by rfl) ?_
  refine wp_seq_k fun K9_ hK9_ => ?_
  suffices hend_ : K9_ (⟨#[.agg #[.int .i64 a0_0, .slice A0_1 l0_1.length c0_1, .int .i64 a0_2], .pointer (some ⟨gb123, 0, none⟩), .pointer (some ⟨gb124, 0, none⟩), .slice none 0 0, .slice none 0 0, undef, undef, undef, undef, undef, undef, undef, undef, undef, undef, undef, undef, undef, undef, undef, undef, undef, undef], []⟩ : Act) w3 by
    clear hK9_
    go_wp2
    all_goals exact hend_
  refine hK9_ _ _ (wp_seq (wp_label ?_))
  show Code.wp _ _ _ _ _
  refine wp_label_ghost_k (fun kq a' w' => ∃ u3 u4 u5 u6 u7 u8 u9 u10 u11 u12 u13 u14 u15 u16 u17 u18 u19 u20 u21 u22 : Value, (fun kq v4 w' => ∃ (x4_1 : List (S36)) (x124000_1 : Int) (x124001_1 : List (S36)) (x124002_1 : Int) (x125000_1 : Int) (x125002_1 : Int) (u124001 : Value), Aside0 (feed_All.l0 kq x4_1 x124000_1 x124001_1 x124002_1 = some (r1, r2, r3, r4)) ∧ Aside0 (kq ≤ k) ∧ Aside0 (Kd.R k36 36 w' w.heap.size (fun k_ => (w.heap.size ≤ k_)) v4 x4_1) ∧ Aside0 (Kd.V k36 36 w' w.heap.size (fun k_ => (P0_1_ k_ ∨ w.heap.size ≤ k_) ∧ some k_ ≠ (v4 : Value).ownBlock ∧ k_ ≠ gb123 ∧ k_ ≠ gb124) u124001 x124001_1) ∧ Aside0 (w'.heap[gb123]? = some (.cells #[.int .i64 x124000_1, u124001, .int .i64 x124002_1] 27 (0, 0))) ∧ Aside0 (w'.heap[gb124]? = some (.cells #[.int .i64 x125000_1, (.slice none 0 0), .int .i64 x125002_1] 27 (0, 0))) ∧ Aside0 (Below w.heap.size w w')) kq u4 w' ∧ a' = (⟨#[.agg #[.int .i64 a0_0, .slice A0_1 l0_1.length c0_1, .int .i64 a0_2], .pointer (some ⟨gb123, 0, none⟩), .pointer (some ⟨gb124, 0, none⟩), u3, u4, u5, u6, u7, u8, u9, u10, u11, u12, u13, u14, u15, u16, u17, u18, u19, u20, u21, u22], []⟩ : Act)) k ?atStart ?round
  case atStart => (repeat apply Exists.intro); refine ⟨?_, rfl⟩; exact ⟨(([] : List (S36))), (a0_0), (l0_1), (a0_2), (0), (0), (.slice A0_1 l0_1.length c0_1), H', ⟨Nat.le_refl _⟩, ⟨by first | exact Kd.R_nil _ _ _ _ _ | exact Kd.N_nil _ _ _ _ _ | exact Kd.V_nil _ _ _ _ _ | exact Kd.Q_nil _ _ _ _ _ | exact Kd.S_nil _ _ _ _ _⟩, ⟨by (with_reducible repeat (first | apply Kd.V_alloc | apply Kd.V_drewN | apply Kd.V_drew)); exact Kd.V_mono HO0_1.out (fun _ hk => ⟨hk.1.1, ⟨(by simp [Value.ownBlock]), ⟨hk.1.2, hk.2⟩⟩⟩)⟩, ⟨by (with_reducible repeat (first | refine blk_drewN ?_ _ | refine blk_drew ?_ | refine blk_alloc ?_ _)); exact BK123.out⟩, ⟨by (with_reducible repeat (first | refine blk_drewN ?_ _ | refine blk_drew ?_ | refine blk_alloc ?_ _)); exact BK124.out⟩, ⟨LG HB.out (G1 GE123.out (G1 GE124.out G0))⟩⟩
  case round =>
    intro gk _ wr hinv
    obtain ⟨u3, u4, u5, u6, u7, u8, u9, u10, u11, u12, u13, u14, u15, u16, u17, u18, u19, u20, u21, u22, hrel, ha_⟩ := hinv
    subst ha_
    try dsimp only
    intro J9_ L9_ hJ9_ hL9_
    clear H'
    try clear c1
    try clear p2
    obtain ⟨x4_1, x124000_1, x124001_1, x124002_1, x125000_1, x125002_1, u124001, HA, HK1, HO_4, HO_124001, BK123, BK124, HB⟩ := hrel
    cases gk with
    | zero => exact absurd HA.out (by simp [feed_All.l0])
    | succ k1 =>
      have H := HA.out
      clear HA
      simp only [feed_All.l0] at H
      replace H := Option.bind_eq_some_iff.mp H
      obtain ⟨⟨t125, t126, t129, t130, t131, t132, t133, t134, t135, t136, t137, t138⟩, A40, H⟩ := H
      replace H : (if t138 = 0 then (if x4_1.length < 1954687338268 then (feed_All.l0 k1 (x4_1 ++ [(⟨t130, (⟨t131, t132, t133, t134, t135, t136⟩ : S34), t137⟩ : S36)]) t125 t126 t129) else (none)) else (some (x124000_1, x124001_1, x124002_1, x4_1))) = some (r1, r2, r3, r4) := H
      have A4 := Aside0.mk A40
      clear A40
      by_cases c5 : t138 = 0
      · rw [if_pos c5] at H
        have c5b0 : (t138 == 0) = true := beq_iff_eq.mpr c5
        have c5b1 : (t138 != 0) = false := bne_eq_false_iff_eq.mpr c5
        clear c5
        by_cases c6 : x4_1.length < 1954687338268
        rotate_left
        · rw [if_neg c6] at H
          exact absurd H (by simp)
        rw [if_pos c6] at H
        have LMc6 := Aside0.mk c6
        clear c6
        obtain ⟨y141, hy141⟩ : ∃ y_ : List (S36), y_ = (x4_1 ++ [(⟨t130, (⟨t131, t132, t133, t134, t135, t136⟩ : S34), t137⟩ : S36)]) := ⟨_, rfl⟩
        replace H : (feed_All.l0 k1 y141 t125 t126 t129) = some (r1, r2, r3, r4) := by first | (rw [hy141]; with_reducible exact H) | (have H2_ := (Option.bind_some _ _).symm.trans H; rw [hy141]; with_reducible exact H2_) | (have H2_ := (Option.bind_some _ _).symm.trans H; with_reducible exact H2_) | with_reducible exact H | (rw [hy141]; exact H) | exact H
        have Ny141 := Aside0.mk hy141
        clear hy141
        have H' := Aside0.mk H
        clear H
        have hnb7 := NB123_124.out
        have hnc7 := NB124_123.out
        have hcz8_0 : wr.cell? ⟨gb123, 0, none⟩ = some (.int .i64 x124000_1) := (blk_cell BK123.out 0).trans rfl
        have hcz8_1 : wr.cell? ⟨gb123, 1, none⟩ = some (u124001) := (blk_cell BK123.out 1).trans rfl
        have hcz8_2 : wr.cell? ⟨gb123, 2, none⟩ = some (.int .i64 x124002_1) := (blk_cell BK123.out 2).trans rfl
        have hfz8_0 := blk_frozen BK123.out 0
        have hfz8_1 := blk_frozen BK123.out 1
        have hfz8_2 := blk_frozen BK123.out 2
        obtain ⟨Ao9, co9, eo9⟩ := Kd.V_slice HO_124001.out
        subst eo9
        try go_wp2_with (first | ((with_reducible refine gate_callee (f := 13) rfl ?_); refine goesL_ (some 10) rfl rfl Try.func13 (by kernel_rfl) rfl #[.agg #[.int .i64 x124000_1, .slice Ao9 x124001_1.length co9, .int .i64 x124002_1]] rfl (by (try simp only [List.map_toArray, List.map_cons, List.map_nil]); first | done | rfl | (simp only [List.length_drop, List.length_take]; rfl)) ?_; (with_reducible refine (feed_Read.calls x124000_1 (fun k_ => ((P0_1_ k_ ∨ w.heap.size ≤ k_) ∧ (some k_ ≠ (u4 : Value).ownBlock ∧ (k_ ≠ gb123 ∧ k_ ≠ gb124)))) _ _ x124001_1 x124002_1 t125 t126 t129 t130 t131 t132 t133 t134 t135 t136 t137 t138 _ ?side1 A4.out).mono ?_); (case side1 => exact HO_124001.out); rintro e w10 ⟨v127, rfl, ho0, hb⟩; refine ⟨_, rfl, ?_⟩; replace HO_124001 := Aside0.mk (Kd.V_below (Kd.VA HO_124001.out) hb); have HO128 := Aside0.mk (Kd.V_lower (Kd.V_mono (ok' := fun k_ => (P0_1_ k_ ∨ w.heap.size ≤ k_) ∧ some k_ ≠ (u4 : Value).ownBlock ∧ k_ ≠ gb123 ∧ k_ ≠ gb124) ho0 (fun k_ hk_ => ⟨Or.elim hk_ (fun hs_ => hs_.1) (fun hn_ => (.inr (Nat.le_trans (below_size (LA HB.out)) hn_))), Or.elim hk_ (fun hs_ => hs_.2.1) (fun hn_ => (Kd.fresh' (Kd.R_lt (Kd.RA HO_4.out)) k_ hn_)), Or.elim hk_ (fun hs_ => hs_.2.2.1) (fun hn_ => (Kd.freshB (g := gb123) (o := .cells #[.int .i64 x124000_1, .slice Ao9 x124001_1.length co9, .int .i64 x124002_1] 27 (0, 0)) (BA BK123.out) k_ hn_)), Or.elim hk_ (fun hs_ => hs_.2.2.2) (fun hn_ => (Kd.freshB (g := gb124) (o := .cells #[.int .i64 x125000_1, .slice none 0 0, .int .i64 x125002_1] 27 (0, 0)) (BA BK124.out) k_ hn_))⟩)) (below_size (LA HB.out))); replace HO_4 := Aside0.mk (Kd.R_below (Kd.RA HO_4.out) hb); replace BK123 := Aside0.mk (blk_below (BA BK123.out) hb); replace BK124 := Aside0.mk (blk_below (BA BK124.out) hb); replace HB := Aside0.mk (below_step (LA HB.out) hb); (try clear hb); (try clear hb2); (try clear hk); (try clear hi); (try clear ho0)) | ((with_reducible refine gate_dst (N := 5) rfl ?_); refine box_event ?hg (N := 5) ?hd (cs := #[.int .i64 0, .slice none 0 0, .int .i64 0]) (t := 27) ?hr ?_; (case hd => rfl); (case hg => rfl); (case hr => first | (go_simp; done) | (go_simp; rfl)); intro gb139 hg w11 hbox hb; replace HO_4 := Aside0.mk (Kd.R_below (Kd.RA HO_4.out) hb); replace HO_124001 := Aside0.mk (Kd.V_below (Kd.V_elderB (Kd.VA HO_124001.out) gb139 (Nat.le_of_eq hg.symm)) hb); replace HO128 := Aside0.mk (Kd.V_below (Kd.V_elderB (Kd.VA HO128.out) gb139 (Nat.le_of_eq hg.symm)) hb); have BK139 := Aside0.mk (hbox); have GE139 := Aside0.mk (ge1 hg (LA HB.out)); replace HB := Aside0.mk (below_step (LA HB.out) hb); have NB123_139 := Aside0.mk ((by rw [hg]; exact Nat.ne_of_lt (blk_lt (g := gb123) (o := .cells #[.int .i64 x124000_1, .slice Ao9 x124001_1.length co9, .int .i64 x124002_1] 27 (0, 0)) (BA BK123.out)) : gb123 ≠ gb139)); have NB139_123 := Aside0.mk ((by rw [hg]; exact Nat.ne_of_gt (blk_lt (g := gb123) (o := .cells #[.int .i64 x124000_1, .slice Ao9 x124001_1.length co9, .int .i64 x124002_1] 27 (0, 0)) (BA BK123.out)) : gb139 ≠ gb123)); replace BK123 := Aside0.mk (blk_below (BA BK123.out) hb); have NB124_139 := Aside0.mk ((by rw [hg]; exact Nat.ne_of_lt (blk_lt (g := gb124) (o := .cells #[.int .i64 x125000_1, .slice none 0 0, .int .i64 x125002_1] 27 (0, 0)) (BA BK124.out)) : gb124 ≠ gb139)); have NB139_124 := Aside0.mk ((by rw [hg]; exact Nat.ne_of_gt (blk_lt (g := gb124) (o := .cells #[.int .i64 x125000_1, .slice none 0 0, .int .i64 x125002_1] 27 (0, 0)) (BA BK124.out)) : gb139 ≠ gb124)); replace BK124 := Aside0.mk (blk_below (BA BK124.out) hb); clear hb hbox hg) | ((with_reducible refine gate_dst (N := 6) rfl ?_); refine box_event ?hg (N := 6) ?hd (cs := #[.int .i64 0, .int .i64 0, .int .i64 0, .int .i64 0, .int .i64 0, .int .i64 0, .string (⟨#[]⟩ : ByteArray), .int .i64 0]) (t := 36) ?hr ?_; (case hd => rfl); (case hg => rfl); (case hr => first | (go_simp; done) | (go_simp; rfl)); intro gb140 hg w12 hbox hb; replace HO_4 := Aside0.mk (Kd.R_below (Kd.R_elderB (Kd.RA HO_4.out) gb140 (Nat.le_of_eq hg.symm)) hb); replace HO_124001 := Aside0.mk (Kd.V_below (Kd.V_elderB (Kd.VA HO_124001.out) gb140 (Nat.le_of_eq hg.symm)) hb); replace HO128 := Aside0.mk (Kd.V_below (Kd.V_elderB (Kd.VA HO128.out) gb140 (Nat.le_of_eq hg.symm)) hb); have BK140 := Aside0.mk (hbox); have GE140 := Aside0.mk (ge1 hg (LA HB.out)); replace HB := Aside0.mk (below_step (LA HB.out) hb); have NB123_140 := Aside0.mk ((by rw [hg]; exact Nat.ne_of_lt (blk_lt (g := gb123) (o := .cells #[.int .i64 x124000_1, .slice Ao9 x124001_1.length co9, .int .i64 x124002_1] 27 (0, 0)) (BA BK123.out)) : gb123 ≠ gb140)); have NB140_123 := Aside0.mk ((by rw [hg]; exact Nat.ne_of_gt (blk_lt (g := gb123) (o := .cells #[.int .i64 x124000_1, .slice Ao9 x124001_1.length co9, .int .i64 x124002_1] 27 (0, 0)) (BA BK123.out)) : gb140 ≠ gb123)); replace BK123 := Aside0.mk (blk_below (BA BK123.out) hb); have NB124_140 := Aside0.mk ((by rw [hg]; exact Nat.ne_of_lt (blk_lt (g := gb124) (o := .cells #[.int .i64 x125000_1, .slice none 0 0, .int .i64 x125002_1] 27 (0, 0)) (BA BK124.out)) : gb124 ≠ gb140)); have NB140_124 := Aside0.mk ((by rw [hg]; exact Nat.ne_of_gt (blk_lt (g := gb124) (o := .cells #[.int .i64 x125000_1, .slice none 0 0, .int .i64 x125002_1] 27 (0, 0)) (BA BK124.out)) : gb140 ≠ gb124)); replace BK124 := Aside0.mk (blk_below (BA BK124.out) hb); have NB139_140 := Aside0.mk ((by rw [hg]; exact Nat.ne_of_lt (blk_lt (g := gb139) (o := .cells #[.int .i64 0, .slice none 0 0, .int .i64 0] 27 (0, 0)) (BA BK139.out)) : gb139 ≠ gb140)); have NB140_139 := Aside0.mk ((by rw [hg]; exact Nat.ne_of_gt (blk_lt (g := gb139) (o := .cells #[.int .i64 0, .slice none 0 0, .int .i64 0] 27 (0, 0)) (BA BK139.out)) : gb140 ≠ gb139)); replace BK139 := Aside0.mk (blk_below (BA BK139.out) hb); clear hb hbox hg; have hnb13 := NB139_123.out; have hnc13 := NB123_139.out; have hnb14 := NB139_124.out; have hnc14 := NB124_139.out; have hnb15 := NB139_140.out; have hnc15 := NB140_139.out; obtain ⟨hcz16_0, hcz16_1, hcz16_2, hfz16_0, hfz16_1, hfz16_2⟩ := cz3 BK139.out; obtain ⟨Ao17, co17, eo17⟩ := Kd.V_slice HO128.out; subst eo17; have hnb18 := NB140_123.out; have hnc18 := NB123_140.out; have hnb19 := NB140_124.out; have hnc19 := NB124_140.out; obtain ⟨hcz20_0, hcz20_1, hcz20_2, hcz20_3, hcz20_4, hcz20_5, hcz20_6, hcz20_7, hfz20_0, hfz20_1, hfz20_2, hfz20_3, hfz20_4, hfz20_5, hfz20_6, hfz20_7⟩ := cz8 BK140.out))
        have n0_ : Aside0 (Kd.R k36 36 (((((((((((w12.setCell ⟨gb139, 0, none⟩ (.int .i64 t125)).setCell ⟨gb139, 1, none⟩ (.slice Ao17 t126.length co17)).setCell ⟨gb139, 2, none⟩ (.int .i64 t129)).setCell ⟨gb140, 0, none⟩ (.int .i64 t130)).setCell ⟨gb140, 1, none⟩ (.int .i64 t131)).setCell ⟨gb140, 2, none⟩ (.int .i64 t132)).setCell ⟨gb140, 3, none⟩ (.int .i64 t133)).setCell ⟨gb140, 4, none⟩ (.int .i64 t134)).setCell ⟨gb140, 5, none⟩ (.int .i64 t135)).setCell ⟨gb140, 6, none⟩ (.string t136)).setCell ⟨gb140, 7, none⟩ (.int .i64 t137)) w.heap.size (fun k_ => (w.heap.size ≤ k_) ∧ k_ ≠ gb140) u4 x4_1) := ⟨by (with_reducible repeat (first | apply Kd.R_alloc | apply Kd.R_drewN | apply Kd.R_drew)); exact Kd.R_mono (Kd.R_ms (gs := [gb140, gb139]) (Kd.R_mono (Kd.R_types HO_4.out BK139.out (by decide)) (fun k_ hk => (⟨hk, hk.1.2⟩ : _ ∧ k_ ≠ gb140))) (fun _ hk => N1 (hk.2) (N1 (hk.1.2) (N0)))) (fun _ hk => ⟨hk.1.1.1, hk.1.1.2⟩)⟩
        have n1_ : Aside0 (Kd.V k36 36 (((((((((((w12.setCell ⟨gb139, 0, none⟩ (.int .i64 t125)).setCell ⟨gb139, 1, none⟩ (.slice Ao17 t126.length co17)).setCell ⟨gb139, 2, none⟩ (.int .i64 t129)).setCell ⟨gb140, 0, none⟩ (.int .i64 t130)).setCell ⟨gb140, 1, none⟩ (.int .i64 t131)).setCell ⟨gb140, 2, none⟩ (.int .i64 t132)).setCell ⟨gb140, 3, none⟩ (.int .i64 t133)).setCell ⟨gb140, 4, none⟩ (.int .i64 t134)).setCell ⟨gb140, 5, none⟩ (.int .i64 t135)).setCell ⟨gb140, 6, none⟩ (.string t136)).setCell ⟨gb140, 7, none⟩ (.int .i64 t137)) w.heap.size (fun k_ => (P0_1_ k_ ∨ w.heap.size ≤ k_) ∧ some k_ ≠ (u4 : Value).ownBlock ∧ k_ ≠ gb123 ∧ k_ ≠ gb124 ∧ k_ ≠ gb139 ∧ k_ ≠ gb140) (.slice Ao9 x124001_1.length co9) x124001_1) := ⟨by (with_reducible repeat (first | apply Kd.V_alloc | apply Kd.V_drewN | apply Kd.V_drew)); exact Kd.V_mono (Kd.V_ms (gs := [gb140, gb139]) (Kd.V_mono (Kd.V_mono HO_124001.out (fun k_ hk => (⟨hk, hk.1.2⟩ : _ ∧ k_ ≠ gb139))) (fun k_ hk => (⟨hk, hk.1.2⟩ : _ ∧ k_ ≠ gb140))) (fun _ hk => N1 (hk.2) (N1 (hk.1.2) (N0)))) (fun _ hk => ⟨hk.1.1.1.1.1, ⟨hk.1.1.1.1.2.1, ⟨hk.1.1.1.1.2.2.1, ⟨hk.1.1.1.1.2.2.2, ⟨hk.1.1.1.2, hk.1.1.2⟩⟩⟩⟩⟩)⟩
        have n2_ : Aside0 (Kd.V k36 36 (((((((((((w12.setCell ⟨gb139, 0, none⟩ (.int .i64 t125)).setCell ⟨gb139, 1, none⟩ (.slice Ao17 t126.length co17)).setCell ⟨gb139, 2, none⟩ (.int .i64 t129)).setCell ⟨gb140, 0, none⟩ (.int .i64 t130)).setCell ⟨gb140, 1, none⟩ (.int .i64 t131)).setCell ⟨gb140, 2, none⟩ (.int .i64 t132)).setCell ⟨gb140, 3, none⟩ (.int .i64 t133)).setCell ⟨gb140, 4, none⟩ (.int .i64 t134)).setCell ⟨gb140, 5, none⟩ (.int .i64 t135)).setCell ⟨gb140, 6, none⟩ (.string t136)).setCell ⟨gb140, 7, none⟩ (.int .i64 t137)) w.heap.size (fun k_ => (P0_1_ k_ ∨ w.heap.size ≤ k_) ∧ some k_ ≠ (u4 : Value).ownBlock ∧ k_ ≠ gb123 ∧ k_ ≠ gb124 ∧ k_ ≠ gb139 ∧ k_ ≠ gb140) (.slice Ao17 t126.length co17) t126) := ⟨by (with_reducible repeat (first | apply Kd.V_alloc | apply Kd.V_drewN | apply Kd.V_drew)); exact Kd.V_mono (Kd.V_ms (gs := [gb140, gb139]) (Kd.V_mono (Kd.V_mono HO128.out (fun k_ hk => (⟨hk, hk.1.2⟩ : _ ∧ k_ ≠ gb139))) (fun k_ hk => (⟨hk, hk.1.2⟩ : _ ∧ k_ ≠ gb140))) (fun _ hk => N1 (hk.2) (N1 (hk.1.2) (N0)))) (fun _ hk => ⟨hk.1.1.1.1.1, ⟨hk.1.1.1.1.2.1, ⟨hk.1.1.1.1.2.2.1, ⟨hk.1.1.1.1.2.2.2, ⟨hk.1.1.1.2, hk.1.1.2⟩⟩⟩⟩⟩)⟩
        have n3_ : Aside0 ((((((((((((w12.setCell ⟨gb139, 0, none⟩ (.int .i64 t125)).setCell ⟨gb139, 1, none⟩ (.slice Ao17 t126.length co17)).setCell ⟨gb139, 2, none⟩ (.int .i64 t129)).setCell ⟨gb140, 0, none⟩ (.int .i64 t130)).setCell ⟨gb140, 1, none⟩ (.int .i64 t131)).setCell ⟨gb140, 2, none⟩ (.int .i64 t132)).setCell ⟨gb140, 3, none⟩ (.int .i64 t133)).setCell ⟨gb140, 4, none⟩ (.int .i64 t134)).setCell ⟨gb140, 5, none⟩ (.int .i64 t135)).setCell ⟨gb140, 6, none⟩ (.string t136)).setCell ⟨gb140, 7, none⟩ (.int .i64 t137)).heap[gb123]? = some (.cells #[.int .i64 x124000_1, .slice Ao9 x124001_1.length co9, .int .i64 x124002_1] 27 (0, 0))) := ⟨by exact BM BK123.out (N1 NB123_140.out (N1 NB123_139.out N0))⟩
        have n4_ : Aside0 ((((((((((((w12.setCell ⟨gb139, 0, none⟩ (.int .i64 t125)).setCell ⟨gb139, 1, none⟩ (.slice Ao17 t126.length co17)).setCell ⟨gb139, 2, none⟩ (.int .i64 t129)).setCell ⟨gb140, 0, none⟩ (.int .i64 t130)).setCell ⟨gb140, 1, none⟩ (.int .i64 t131)).setCell ⟨gb140, 2, none⟩ (.int .i64 t132)).setCell ⟨gb140, 3, none⟩ (.int .i64 t133)).setCell ⟨gb140, 4, none⟩ (.int .i64 t134)).setCell ⟨gb140, 5, none⟩ (.int .i64 t135)).setCell ⟨gb140, 6, none⟩ (.string t136)).setCell ⟨gb140, 7, none⟩ (.int .i64 t137)).heap[gb124]? = some (.cells #[.int .i64 x125000_1, .slice none 0 0, .int .i64 x125002_1] 27 (0, 0))) := ⟨by exact BM BK124.out (N1 NB124_140.out (N1 NB124_139.out N0))⟩
        have n5_ : Aside0 ((((((((((((w12.setCell ⟨gb139, 0, none⟩ (.int .i64 t125)).setCell ⟨gb139, 1, none⟩ (.slice Ao17 t126.length co17)).setCell ⟨gb139, 2, none⟩ (.int .i64 t129)).setCell ⟨gb140, 0, none⟩ (.int .i64 t130)).setCell ⟨gb140, 1, none⟩ (.int .i64 t131)).setCell ⟨gb140, 2, none⟩ (.int .i64 t132)).setCell ⟨gb140, 3, none⟩ (.int .i64 t133)).setCell ⟨gb140, 4, none⟩ (.int .i64 t134)).setCell ⟨gb140, 5, none⟩ (.int .i64 t135)).setCell ⟨gb140, 6, none⟩ (.string t136)).setCell ⟨gb140, 7, none⟩ (.int .i64 t137)).heap[gb139]? = some (.cells #[.int .i64 t125, .slice Ao17 t126.length co17, .int .i64 t129] 27 (0, 0))) := ⟨by (with_reducible repeat (first | refine blk_drewN ?_ _ | refine blk_drew ?_ | refine blk_alloc ?_ _)); refine blk_far ?_ NB139_140.out _; (with_reducible repeat (first | refine blk_drewN ?_ _ | refine blk_drew ?_ | refine blk_alloc ?_ _)); refine blk_far ?_ NB139_140.out _; (with_reducible repeat (first | refine blk_drewN ?_ _ | refine blk_drew ?_ | refine blk_alloc ?_ _)); refine blk_far ?_ NB139_140.out _; (with_reducible repeat (first | refine blk_drewN ?_ _ | refine blk_drew ?_ | refine blk_alloc ?_ _)); refine blk_far ?_ NB139_140.out _; (with_reducible repeat (first | refine blk_drewN ?_ _ | refine blk_drew ?_ | refine blk_alloc ?_ _)); refine blk_far ?_ NB139_140.out _; (with_reducible repeat (first | refine blk_drewN ?_ _ | refine blk_drew ?_ | refine blk_alloc ?_ _)); refine blk_far ?_ NB139_140.out _; (with_reducible repeat (first | refine blk_drewN ?_ _ | refine blk_drew ?_ | refine blk_alloc ?_ _)); refine blk_far ?_ NB139_140.out _; (with_reducible repeat (first | refine blk_drewN ?_ _ | refine blk_drew ?_ | refine blk_alloc ?_ _)); refine blk_far ?_ NB139_140.out _; exact BP BK139.out (by rfl)⟩
        have n6_ : Aside0 ((((((((((((w12.setCell ⟨gb139, 0, none⟩ (.int .i64 t125)).setCell ⟨gb139, 1, none⟩ (.slice Ao17 t126.length co17)).setCell ⟨gb139, 2, none⟩ (.int .i64 t129)).setCell ⟨gb140, 0, none⟩ (.int .i64 t130)).setCell ⟨gb140, 1, none⟩ (.int .i64 t131)).setCell ⟨gb140, 2, none⟩ (.int .i64 t132)).setCell ⟨gb140, 3, none⟩ (.int .i64 t133)).setCell ⟨gb140, 4, none⟩ (.int .i64 t134)).setCell ⟨gb140, 5, none⟩ (.int .i64 t135)).setCell ⟨gb140, 6, none⟩ (.string t136)).setCell ⟨gb140, 7, none⟩ (.int .i64 t137)).heap[gb140]? = some (.cells #[.int .i64 t130, .int .i64 t131, .int .i64 t132, .int .i64 t133, .int .i64 t134, .int .i64 t135, .string t136, .int .i64 t137] 36 (0, 0))) := ⟨by (with_reducible repeat (first | refine blk_drewN ?_ _ | refine blk_drew ?_ | refine blk_alloc ?_ _)); refine blk_put (cs := #[.int .i64 t130, .int .i64 t131, .int .i64 t132, .int .i64 t133, .int .i64 t134, .int .i64 t135, .string t136, .int .i64 0]) ?_ 7 _ rfl; (with_reducible repeat (first | refine blk_drewN ?_ _ | refine blk_drew ?_ | refine blk_alloc ?_ _)); refine blk_put (cs := #[.int .i64 t130, .int .i64 t131, .int .i64 t132, .int .i64 t133, .int .i64 t134, .int .i64 t135, .string (⟨#[]⟩ : ByteArray), .int .i64 0]) ?_ 6 _ rfl; (with_reducible repeat (first | refine blk_drewN ?_ _ | refine blk_drew ?_ | refine blk_alloc ?_ _)); refine blk_put (cs := #[.int .i64 t130, .int .i64 t131, .int .i64 t132, .int .i64 t133, .int .i64 t134, .int .i64 0, .string (⟨#[]⟩ : ByteArray), .int .i64 0]) ?_ 5 _ rfl; (with_reducible repeat (first | refine blk_drewN ?_ _ | refine blk_drew ?_ | refine blk_alloc ?_ _)); refine blk_put (cs := #[.int .i64 t130, .int .i64 t131, .int .i64 t132, .int .i64 t133, .int .i64 0, .int .i64 0, .string (⟨#[]⟩ : ByteArray), .int .i64 0]) ?_ 4 _ rfl; (with_reducible repeat (first | refine blk_drewN ?_ _ | refine blk_drew ?_ | refine blk_alloc ?_ _)); refine blk_put (cs := #[.int .i64 t130, .int .i64 t131, .int .i64 t132, .int .i64 0, .int .i64 0, .int .i64 0, .string (⟨#[]⟩ : ByteArray), .int .i64 0]) ?_ 3 _ rfl; (with_reducible repeat (first | refine blk_drewN ?_ _ | refine blk_drew ?_ | refine blk_alloc ?_ _)); refine blk_put (cs := #[.int .i64 t130, .int .i64 t131, .int .i64 0, .int .i64 0, .int .i64 0, .int .i64 0, .string (⟨#[]⟩ : ByteArray), .int .i64 0]) ?_ 2 _ rfl; (with_reducible repeat (first | refine blk_drewN ?_ _ | refine blk_drew ?_ | refine blk_alloc ?_ _)); refine blk_put (cs := #[.int .i64 t130, .int .i64 0, .int .i64 0, .int .i64 0, .int .i64 0, .int .i64 0, .string (⟨#[]⟩ : ByteArray), .int .i64 0]) ?_ 1 _ rfl; (with_reducible repeat (first | refine blk_drewN ?_ _ | refine blk_drew ?_ | refine blk_alloc ?_ _)); refine blk_put (cs := #[.int .i64 0, .int .i64 0, .int .i64 0, .int .i64 0, .int .i64 0, .int .i64 0, .string (⟨#[]⟩ : ByteArray), .int .i64 0]) ?_ 0 _ rfl; exact BF BK140.out NB140_139.out⟩
        have n7_ : Aside0 (Below w.heap.size w (((((((((((w12.setCell ⟨gb139, 0, none⟩ (.int .i64 t125)).setCell ⟨gb139, 1, none⟩ (.slice Ao17 t126.length co17)).setCell ⟨gb139, 2, none⟩ (.int .i64 t129)).setCell ⟨gb140, 0, none⟩ (.int .i64 t130)).setCell ⟨gb140, 1, none⟩ (.int .i64 t131)).setCell ⟨gb140, 2, none⟩ (.int .i64 t132)).setCell ⟨gb140, 3, none⟩ (.int .i64 t133)).setCell ⟨gb140, 4, none⟩ (.int .i64 t134)).setCell ⟨gb140, 5, none⟩ (.int .i64 t135)).setCell ⟨gb140, 6, none⟩ (.string t136)).setCell ⟨gb140, 7, none⟩ (.int .i64 t137))) := ⟨LG HB.out (G1 GE123.out (G1 GE124.out (G1 GE139.out (G1 GE140.out G0))))⟩
        (try clear HO_4)
        (try clear HO_124001)
        (try clear HO128)
        (try clear BK123)
        (try clear BK124)
        (try clear BK139)
        (try clear BK140)
        (try clear HB)
        generalize (((((((((((w12.setCell ⟨gb139, 0, none⟩ (.int .i64 t125)).setCell ⟨gb139, 1, none⟩ (.slice Ao17 t126.length co17)).setCell ⟨gb139, 2, none⟩ (.int .i64 t129)).setCell ⟨gb140, 0, none⟩ (.int .i64 t130)).setCell ⟨gb140, 1, none⟩ (.int .i64 t131)).setCell ⟨gb140, 2, none⟩ (.int .i64 t132)).setCell ⟨gb140, 3, none⟩ (.int .i64 t133)).setCell ⟨gb140, 4, none⟩ (.int .i64 t134)).setCell ⟨gb140, 5, none⟩ (.int .i64 t135)).setCell ⟨gb140, 6, none⟩ (.string t136)).setCell ⟨gb140, 7, none⟩ (.int .i64 t137)) = w21 at n0_ n1_ n2_ n3_ n4_ n5_ n6_ n7_ ⊢
        have HO_4 := n0_
        have HO_124001 := n1_
        have HO128 := n2_
        have BK123 := n3_
        have BK124 := n4_
        have BK139 := n5_
        have BK140 := n6_
        have HB := n7_
        clear n0_ n1_ n2_ n3_ n4_ n5_ n6_ n7_
        have n0_ := Aside0.mk (Kd.R_drew HO_4.out)
        have n1_ := Aside0.mk (Kd.V_drew HO_124001.out)
        have n2_ := Aside0.mk (Kd.V_drew HO128.out)
        have n3_ := Aside0.mk (blk_drew BK123.out)
        have n4_ := Aside0.mk (blk_drew BK124.out)
        have n5_ := Aside0.mk (blk_drew BK139.out)
        have n6_ := Aside0.mk (blk_drew BK140.out)
        have n7_ := Aside0.mk (below_drew1 HB.out)
        clear HO_4
        clear HO_124001
        clear HO128
        clear BK123
        clear BK124
        clear BK139
        clear BK140
        clear HB
        have HO_4 := n0_
        have HO_124001 := n1_
        have HO128 := n2_
        have BK123 := n3_
        have BK124 := n4_
        have BK139 := n5_
        have BK140 := n6_
        have HB := n7_
        clear n0_ n1_ n2_ n3_ n4_ n5_ n6_ n7_
        refine start_ (n := 7) (S := fun w' => w'.cell? ⟨gb139, 0, none⟩ = some (.int .i64 t125) ∧ w'.cell? ⟨gb139, 1, none⟩ = some (.slice Ao17 t126.length co17) ∧ w'.cell? ⟨gb139, 2, none⟩ = some (.int .i64 t129) ∧ w'.cell? ⟨gb140, 0, none⟩ = some (.int .i64 t130) ∧ w'.cell? ⟨gb140, 1, none⟩ = some (.int .i64 t131) ∧ w'.cell? ⟨gb140, 2, none⟩ = some (.int .i64 t132) ∧ w'.cell? ⟨gb140, 3, none⟩ = some (.int .i64 t133) ∧ w'.cell? ⟨gb140, 4, none⟩ = some (.int .i64 t134) ∧ w'.cell? ⟨gb140, 5, none⟩ = some (.int .i64 t135) ∧ w'.cell? ⟨gb140, 6, none⟩ = some (.string t136) ∧ w'.cell? ⟨gb140, 7, none⟩ = some (.int .i64 t137)) (ds := []) #[false, false, false, false, false, false, false] (by kernel_rfl) rfl rfl ⟨(blk_cell BK139.out 0).trans rfl, (blk_cell BK139.out 1).trans rfl, (blk_cell BK139.out 2).trans rfl, (blk_cell BK140.out 0).trans rfl, (blk_cell BK140.out 1).trans rfl, (blk_cell BK140.out 2).trans rfl, (blk_cell BK140.out 3).trans rfl, (blk_cell BK140.out 4).trans rfl, (blk_cell BK140.out 5).trans rfl, (blk_cell BK140.out 6).trans rfl, (blk_cell BK140.out 7).trans rfl⟩ (fun hHeld => ?_)
        generalize w21.drew = w22 at HO_4 HO_124001 HO128 BK123 BK124 BK139 BK140 HB hHeld ⊢
        refine pure_ (i := 1) (N := some 19) (v := ?_) (a' := ?_) #[false, true, false, false, false, false, false] rfl rfl (by kernel_rfl) (fun _ _ _ h => h) (Or.inl ⟨by rfl, ?_⟩) ?_ ?_
        rotate_left
        · intro w'
          go_simp
          with_reducible rfl
        rotate_left
        · simp only [Act.put, PU, i64_w, i32_w]
          rfl
        refine take_ (i := 0) (N := some 18) (v := ?_) (a' := ?_) #[true, true, false, false, false, false, false] rfl rfl (by kernel_rfl) (fun _ _ _ h => h) (Or.inl ⟨by rfl, ?_⟩) hHeld ?_ ?_
        rotate_left
        · rintro w' ⟨s0, s1, s2, s3, s4, s5, s6, s7, s8, s9, s10⟩
          go_simp
          with_reducible rfl
        rotate_left
        · simp only [Act.put, PU, i64_w, i32_w]
          rfl
        refine take_ (i := 2) (N := some 20) (v := ?_) (a' := ?_) #[true, true, true, false, false, false, false] rfl rfl (by kernel_rfl) (fun _ _ _ h => h) (Or.inl ⟨by rfl, ?_⟩) hHeld ?_ ?_
        rotate_left
        · rintro w' ⟨s0, s1, s2, s3, s4, s5, s6, s7, s8, s9, s10⟩
          go_simp
          with_reducible rfl
        rotate_left
        · simp only [Act.put, PU, i64_w, i32_w]
          rfl
        refine one_ (i := 3) (N := some 21) #[true, true, true, true, false, false, false] rfl rfl (by kernel_rfl) (by decide) (fun K hK => ?_)
        refine value_ (w1 := ?_) (v := ?_) (by rfl) rfl ?_ ?_
        rotate_left 2
        · go_simp
          constructor
          · rfl
          · rfl
        refine hK.out _ _ ⟨(blk_cell (blk_alloc BK139.out _) 0).trans rfl, (blk_cell (blk_alloc BK139.out _) 1).trans rfl, (blk_cell (blk_alloc BK139.out _) 2).trans rfl, (blk_cell (blk_alloc BK140.out _) 0).trans rfl, (blk_cell (blk_alloc BK140.out _) 1).trans rfl, (blk_cell (blk_alloc BK140.out _) 2).trans rfl, (blk_cell (blk_alloc BK140.out _) 3).trans rfl, (blk_cell (blk_alloc BK140.out _) 4).trans rfl, (blk_cell (blk_alloc BK140.out _) 5).trans rfl, (blk_cell (blk_alloc BK140.out _) 6).trans rfl, (blk_cell (blk_alloc BK140.out _) 7).trans rfl⟩ (fun hHeld => ?_)
        clear hK K
        refine norm_ (a' := ?_) ?_ ?_
        rotate_left
        · show Act.put _ (some 21) _ = _
          simp only [Act.put, PU, i64_w, i32_w]
          rfl
        refine one_ (i := 4) (N := some 22) #[true, true, true, true, true, false, false] rfl rfl (by kernel_rfl) (by decide) (fun K hK => ?_)
        refine Kd.R_append_step k36 (w0 := w) w.heap.size (by rfl) (.tmp 19) (.tmp 21) 22 36 (.agg #[(.int .i64 0), (.int .i64 0), (.int .i64 0), (.int .i64 0), (.int .i64 0), (.int .i64 0), (.string ⟨#[]⟩), (.int .i64 0)]) 72 rfl Try.underlying22 info36 rfl (by decide) (by omega) u4 x4_1 (⟨t130, (⟨t131, t132, t133, t134, t135, t136⟩ : S34), t137⟩ : S36) [.int .i64 t130, .int .i64 t131, .int .i64 t132, .int .i64 t133, .int .i64 t134, .int .i64 t135, .string t136, .int .i64 t137] (fun k_ => (w.heap.size ≤ k_) ∧ k_ ≠ gb140) (fun _ => False) rfl rfl ?aP (fun _ hk => hk.elim) ?aF ?aO ?aB ?aS ?aL ?_
        (case aP => exact k36_mkM _ _ _ (⟨t130, (⟨t131, t132, t133, t134, t135, t136⟩ : S34), t137⟩ : S36))
        (case aB => exact (LG HB.out (G1 GE123.out (G1 GE124.out (G1 GE139.out (G1 GE140.out G0))))))
        (case aF => exact (fun k_ hk => ⟨(Nat.le_trans (below_size (LG HB.out (G1 GE123.out (G1 GE124.out (G1 GE139.out (G1 GE140.out G0)))))) hk), Kd.freshB (g := gb140) (o := .cells #[.int .i64 t130, .int .i64 t131, .int .i64 t132, .int .i64 t133, .int .i64 t134, .int .i64 t135, .string t136, .int .i64 t137] 36 (0, 0)) (BA BK140.out) k_ hk⟩))
        (case aO => exact (Kd.RA HO_4.out))
        (case aS => exact (below_size (LG HB.out (G1 GE123.out (G1 GE124.out (G1 GE139.out (G1 GE140.out G0)))))))
        (case aL => have := LMc6.out; omega)
        intro v142 w23 ho hb hg hat
        rw [← Ny141.out] at ho
        have n0_ := Aside0.mk (Kd.V_afterv (ok := (fun k_ => (P0_1_ k_ ∨ w.heap.size ≤ k_) ∧ k_ ≠ gb123 ∧ k_ ≠ gb124 ∧ k_ ≠ gb139 ∧ k_ ≠ gb140)) (Kd.VA (Kd.V_mono HO_124001.out (fun _ hk => ⟨⟨hk.1, ⟨hk.2.2.1, ⟨hk.2.2.2.1, ⟨hk.2.2.2.2.1, hk.2.2.2.2.2⟩⟩⟩⟩, hk.2.1⟩))) hg hat)
        have n1_ := Aside0.mk (blk_grown (g := gb123) (o := .cells #[.int .i64 x124000_1, .slice Ao9 x124001_1.length co9, .int .i64 x124002_1] 27 (0, 0)) (BA BK123.out) hg (Kd.R_ne HO_4.out BK123.out (by decide)))
        have n2_ := Aside0.mk (blk_grown (g := gb124) (o := .cells #[.int .i64 x125000_1, .slice none 0 0, .int .i64 x125002_1] 27 (0, 0)) (BA BK124.out) hg (Kd.R_ne HO_4.out BK124.out (by decide)))
        have n3_ := Aside0.mk (Kd.V_afterv (ok := (fun k_ => (P0_1_ k_ ∨ w.heap.size ≤ k_) ∧ k_ ≠ gb123 ∧ k_ ≠ gb124 ∧ k_ ≠ gb139 ∧ k_ ≠ gb140)) (Kd.VA (Kd.V_mono HO128.out (fun _ hk => ⟨⟨hk.1, ⟨hk.2.2.1, ⟨hk.2.2.2.1, ⟨hk.2.2.2.2.1, hk.2.2.2.2.2⟩⟩⟩⟩, hk.2.1⟩))) hg hat)
        have n4_ := Aside0.mk (blk_grown (g := gb139) (o := .cells #[.int .i64 t125, .slice Ao17 t126.length co17, .int .i64 t129] 27 (0, 0)) (BA BK139.out) hg (Kd.R_ne HO_4.out BK139.out (by decide)))
        have n5_ := Aside0.mk (blk_grown (g := gb140) (o := .cells #[.int .i64 t130, .int .i64 t131, .int .i64 t132, .int .i64 t133, .int .i64 t134, .int .i64 t135, .string t136, .int .i64 t137] 36 (0, 0)) (BA BK140.out) hg (Kd.R_away HO_4.out (fun _ hk => hk.2)))
        have n6_ := Aside0.mk (hb)
        have n7_ := Aside0.mk (ho)
        clear HO_124001
        clear BK123
        clear BK124
        clear HO128
        clear BK139
        clear BK140
        clear HB
        clear HO_4
        have HO_124001 := n0_
        have BK123 := n1_
        have BK124 := n2_
        have HO128 := n3_
        have BK139 := n4_
        have BK140 := n5_
        have HB := n6_
        have HO143 := n7_
        clear n0_ n1_ n2_ n3_ n4_ n5_ n6_ n7_
        clear ho hb hg hat
        refine hK.out _ _ ⟨(blk_cell BK139.out 0).trans rfl, (blk_cell BK139.out 1).trans rfl, (blk_cell BK139.out 2).trans rfl, (blk_cell BK140.out 0).trans rfl, (blk_cell BK140.out 1).trans rfl, (blk_cell BK140.out 2).trans rfl, (blk_cell BK140.out 3).trans rfl, (blk_cell BK140.out 4).trans rfl, (blk_cell BK140.out 5).trans rfl, (blk_cell BK140.out 6).trans rfl, (blk_cell BK140.out 7).trans rfl⟩ (fun hHeld => ?_)
        clear hK K
        refine norm_ (a' := ?_) ?_ ?_
        rotate_left
        · show Act.put _ (some 22) _ = _
          simp only [Act.put, PU, i64_w, i32_w]
          rfl
        refine one_ (i := 5) (N := none) #[true, true, true, true, true, true, false] rfl rfl (by kernel_rfl) (by decide) (fun K hK => ?_)
        have hs24 : w23.cell? ⟨gb123, 0, none⟩ = some (.int .i64 x124000_1) := (blk_cell BK123.out 0).trans rfl
        have hfs24 := blk_frozen BK123.out 0
        have hns24_1 := NB124_123.out
        have hns24_2 := NB139_123.out
        have hns24_3 := NB140_123.out
        have hms24_1 := NB123_124.out
        have hms24_2 := NB123_139.out
        have hms24_3 := NB123_140.out
        have hs25 : w23.cell? ⟨gb123, 1, none⟩ = some (.slice Ao9 x124001_1.length co9) := (blk_cell BK123.out 1).trans rfl
        have hfs25 := blk_frozen BK123.out 1
        have hns25_1 := NB124_123.out
        have hns25_2 := NB139_123.out
        have hns25_3 := NB140_123.out
        have hms25_1 := NB123_124.out
        have hms25_2 := NB123_139.out
        have hms25_3 := NB123_140.out
        have hs26 : w23.cell? ⟨gb123, 2, none⟩ = some (.int .i64 x124002_1) := (blk_cell BK123.out 2).trans rfl
        have hfs26 := blk_frozen BK123.out 2
        have hns26_1 := NB124_123.out
        have hns26_2 := NB139_123.out
        have hns26_3 := NB140_123.out
        have hms26_1 := NB123_124.out
        have hms26_2 := NB123_139.out
        have hms26_3 := NB123_140.out
        refine skip_ (w1 := ?_) (by rfl) rfl ?_ ?_
        rotate_left
        · go_simp
          rfl
        refine hK.out _ _ ⟨((cell_far (p := ⟨gb123, _, none⟩) NB139_123.out _).trans (((cell_far (p := ⟨gb123, _, none⟩) NB139_123.out _).trans (((cell_far (p := ⟨gb123, _, none⟩) NB139_123.out _).trans (hHeld.1)))))), ((cell_far (p := ⟨gb123, _, none⟩) NB139_123.out _).trans (((cell_far (p := ⟨gb123, _, none⟩) NB139_123.out _).trans (((cell_far (p := ⟨gb123, _, none⟩) NB139_123.out _).trans (hHeld.2.1)))))), ((cell_far (p := ⟨gb123, _, none⟩) NB139_123.out _).trans (((cell_far (p := ⟨gb123, _, none⟩) NB139_123.out _).trans (((cell_far (p := ⟨gb123, _, none⟩) NB139_123.out _).trans (hHeld.2.2.1)))))), ((cell_far (p := ⟨gb123, _, none⟩) NB140_123.out _).trans (((cell_far (p := ⟨gb123, _, none⟩) NB140_123.out _).trans (((cell_far (p := ⟨gb123, _, none⟩) NB140_123.out _).trans (hHeld.2.2.2.1)))))), ((cell_far (p := ⟨gb123, _, none⟩) NB140_123.out _).trans (((cell_far (p := ⟨gb123, _, none⟩) NB140_123.out _).trans (((cell_far (p := ⟨gb123, _, none⟩) NB140_123.out _).trans (hHeld.2.2.2.2.1)))))), ((cell_far (p := ⟨gb123, _, none⟩) NB140_123.out _).trans (((cell_far (p := ⟨gb123, _, none⟩) NB140_123.out _).trans (((cell_far (p := ⟨gb123, _, none⟩) NB140_123.out _).trans (hHeld.2.2.2.2.2.1)))))), ((cell_far (p := ⟨gb123, _, none⟩) NB140_123.out _).trans (((cell_far (p := ⟨gb123, _, none⟩) NB140_123.out _).trans (((cell_far (p := ⟨gb123, _, none⟩) NB140_123.out _).trans (hHeld.2.2.2.2.2.2.1)))))), ((cell_far (p := ⟨gb123, _, none⟩) NB140_123.out _).trans (((cell_far (p := ⟨gb123, _, none⟩) NB140_123.out _).trans (((cell_far (p := ⟨gb123, _, none⟩) NB140_123.out _).trans (hHeld.2.2.2.2.2.2.2.1)))))), ((cell_far (p := ⟨gb123, _, none⟩) NB140_123.out _).trans (((cell_far (p := ⟨gb123, _, none⟩) NB140_123.out _).trans (((cell_far (p := ⟨gb123, _, none⟩) NB140_123.out _).trans (hHeld.2.2.2.2.2.2.2.2.1)))))), ((cell_far (p := ⟨gb123, _, none⟩) NB140_123.out _).trans (((cell_far (p := ⟨gb123, _, none⟩) NB140_123.out _).trans (((cell_far (p := ⟨gb123, _, none⟩) NB140_123.out _).trans (hHeld.2.2.2.2.2.2.2.2.2.1)))))), ((cell_far (p := ⟨gb123, _, none⟩) NB140_123.out _).trans (((cell_far (p := ⟨gb123, _, none⟩) NB140_123.out _).trans (((cell_far (p := ⟨gb123, _, none⟩) NB140_123.out _).trans (hHeld.2.2.2.2.2.2.2.2.2.2))))))⟩ (fun hHeld => ?_)
        clear hK K
        refine pure_ (i := 6) (N := some 4) (v := ?_) (a' := ?_) #[true, true, true, true, true, true, true] rfl rfl (by kernel_rfl) (fun _ _ _ h => h) (Or.inl ⟨by rfl, ?_⟩) ?_ ?_
        rotate_left
        · intro w'
          go_simp
          with_reducible rfl
        rotate_left
        · simp only [Act.put, PU, i64_w, i32_w]
          rfl
        refine done_ (by kernel_rfl) ?_
        try go_wp2
        refine wp_goto ⟨rfl, hL9_ _ _ ?_⟩
        go_roundg k1
        case measure => have := HK1.out; omega
        case rel => exact ⟨(y141), (t125), (t126), (t129), (x125000_1), (x125002_1), (.slice Ao17 t126.length co17), H', ⟨by have := HK1.out; omega⟩, ⟨by (with_reducible repeat (first | apply Kd.R_alloc | apply Kd.R_drewN | apply Kd.R_drew)); exact Kd.R_mono (Kd.R_mv (g := gb123) (Kd.R_types HO143.out BK123.out (by decide)) (fun _ hk => hk.2)) (fun _ hk => hk.1.1)⟩, ⟨by (with_reducible repeat (first | apply Kd.V_alloc | apply Kd.V_drewN | apply Kd.V_drew)); exact Kd.V_mono (Kd.V_mv (g := gb123) (Kd.V_mono HO128.out (fun k_ hk => (⟨hk, hk.1.2.1⟩ : _ ∧ k_ ≠ gb123))) (fun _ hk => hk.2)) (fun _ hk => ⟨hk.1.1.1, ⟨hk.1.2, ⟨hk.1.1.2.1, hk.1.1.2.2.1⟩⟩⟩)⟩, ⟨by exact BP BK123.out (by rfl)⟩, ⟨by exact BF BK124.out NB124_123.out⟩, ⟨LG HB.out (G1 GE123.out (G1 GE124.out (G1 GE139.out (G1 GE140.out G0))))⟩⟩
      · rw [if_neg c5] at H
        have c5b0 : (t138 == 0) = false := beq_eq_false_iff_ne.mpr c5
        have c5b1 : (t138 != 0) = true := bne_iff_ne.mpr c5
        simp only [Option.some.injEq, Prod.mk.injEq] at H
        obtain ⟨rfl, rfl, rfl, rfl⟩ := H
        have hnb27 := NB123_124.out
        have hnc27 := NB124_123.out
        have hcz28_0 : wr.cell? ⟨gb123, 0, none⟩ = some (.int .i64 x124000_1) := (blk_cell BK123.out 0).trans rfl
        have hcz28_1 : wr.cell? ⟨gb123, 1, none⟩ = some (u124001) := (blk_cell BK123.out 1).trans rfl
        have hcz28_2 : wr.cell? ⟨gb123, 2, none⟩ = some (.int .i64 x124002_1) := (blk_cell BK123.out 2).trans rfl
        have hfz28_0 := blk_frozen BK123.out 0
        have hfz28_1 := blk_frozen BK123.out 1
        have hfz28_2 := blk_frozen BK123.out 2
        obtain ⟨Ao29, co29, eo29⟩ := Kd.V_slice HO_124001.out
        subst eo29
        go_wp2_with (first | ((with_reducible refine gate_callee (f := 13) rfl ?_); refine goesL_ (some 10) rfl rfl Try.func13 (by kernel_rfl) rfl #[.agg #[.int .i64 x124000_1, .slice Ao29 x124001_1.length co29, .int .i64 x124002_1]] rfl (by (try simp only [List.map_toArray, List.map_cons, List.map_nil]); first | done | rfl | (simp only [List.length_drop, List.length_take]; rfl)) ?_; (with_reducible refine (feed_Read.calls x124000_1 (fun k_ => ((P0_1_ k_ ∨ w.heap.size ≤ k_) ∧ (some k_ ≠ (u4 : Value).ownBlock ∧ (k_ ≠ gb123 ∧ k_ ≠ gb124)))) _ _ x124001_1 x124002_1 t125 t126 t129 t130 t131 t132 t133 t134 t135 t136 t137 t138 _ ?side1 A4.out).mono ?_); (case side1 => exact HO_124001.out); rintro e w30 ⟨v127, rfl, ho0, hb⟩; refine ⟨_, rfl, ?_⟩; replace HO_124001 := Aside0.mk (Kd.V_below (Kd.VA HO_124001.out) hb); have HO128 := Aside0.mk (Kd.V_lower (Kd.V_mono (ok' := fun k_ => (P0_1_ k_ ∨ w.heap.size ≤ k_) ∧ some k_ ≠ (u4 : Value).ownBlock ∧ k_ ≠ gb123 ∧ k_ ≠ gb124) ho0 (fun k_ hk_ => ⟨Or.elim hk_ (fun hs_ => hs_.1) (fun hn_ => (.inr (Nat.le_trans (below_size (LA HB.out)) hn_))), Or.elim hk_ (fun hs_ => hs_.2.1) (fun hn_ => (Kd.fresh' (Kd.R_lt (Kd.RA HO_4.out)) k_ hn_)), Or.elim hk_ (fun hs_ => hs_.2.2.1) (fun hn_ => (Kd.freshB (g := gb123) (o := .cells #[.int .i64 x124000_1, .slice Ao29 x124001_1.length co29, .int .i64 x124002_1] 27 (0, 0)) (BA BK123.out) k_ hn_)), Or.elim hk_ (fun hs_ => hs_.2.2.2) (fun hn_ => (Kd.freshB (g := gb124) (o := .cells #[.int .i64 x125000_1, .slice none 0 0, .int .i64 x125002_1] 27 (0, 0)) (BA BK124.out) k_ hn_))⟩)) (below_size (LA HB.out))); replace HO_4 := Aside0.mk (Kd.R_below (Kd.RA HO_4.out) hb); replace BK123 := Aside0.mk (blk_below (BA BK123.out) hb); replace BK124 := Aside0.mk (blk_below (BA BK124.out) hb); replace HB := Aside0.mk (below_step (LA HB.out) hb); (try clear hb); (try clear hb2); (try clear hk); (try clear hi); (try clear ho0)) | ((with_reducible refine gate_dst (N := 5) rfl ?_); refine box_event ?hg (N := 5) ?hd (cs := #[.int .i64 0, .slice none 0 0, .int .i64 0]) (t := 27) ?hr ?_; (case hd => rfl); (case hg => rfl); (case hr => first | (go_simp; done) | (go_simp; rfl)); intro gb139 hg w31 hbox hb; replace HO_4 := Aside0.mk (Kd.R_below (Kd.RA HO_4.out) hb); replace HO_124001 := Aside0.mk (Kd.V_below (Kd.V_elderB (Kd.VA HO_124001.out) gb139 (Nat.le_of_eq hg.symm)) hb); replace HO128 := Aside0.mk (Kd.V_below (Kd.V_elderB (Kd.VA HO128.out) gb139 (Nat.le_of_eq hg.symm)) hb); have BK139 := Aside0.mk (hbox); have GE139 := Aside0.mk (ge1 hg (LA HB.out)); replace HB := Aside0.mk (below_step (LA HB.out) hb); have NB123_139 := Aside0.mk ((by rw [hg]; exact Nat.ne_of_lt (blk_lt (g := gb123) (o := .cells #[.int .i64 x124000_1, .slice Ao29 x124001_1.length co29, .int .i64 x124002_1] 27 (0, 0)) (BA BK123.out)) : gb123 ≠ gb139)); have NB139_123 := Aside0.mk ((by rw [hg]; exact Nat.ne_of_gt (blk_lt (g := gb123) (o := .cells #[.int .i64 x124000_1, .slice Ao29 x124001_1.length co29, .int .i64 x124002_1] 27 (0, 0)) (BA BK123.out)) : gb139 ≠ gb123)); replace BK123 := Aside0.mk (blk_below (BA BK123.out) hb); have NB124_139 := Aside0.mk ((by rw [hg]; exact Nat.ne_of_lt (blk_lt (g := gb124) (o := .cells #[.int .i64 x125000_1, .slice none 0 0, .int .i64 x125002_1] 27 (0, 0)) (BA BK124.out)) : gb124 ≠ gb139)); have NB139_124 := Aside0.mk ((by rw [hg]; exact Nat.ne_of_gt (blk_lt (g := gb124) (o := .cells #[.int .i64 x125000_1, .slice none 0 0, .int .i64 x125002_1] 27 (0, 0)) (BA BK124.out)) : gb139 ≠ gb124)); replace BK124 := Aside0.mk (blk_below (BA BK124.out) hb); clear hb hbox hg) | ((with_reducible refine gate_dst (N := 6) rfl ?_); refine box_event ?hg (N := 6) ?hd (cs := #[.int .i64 0, .int .i64 0, .int .i64 0, .int .i64 0, .int .i64 0, .int .i64 0, .string (⟨#[]⟩ : ByteArray), .int .i64 0]) (t := 36) ?hr ?_; (case hd => rfl); (case hg => rfl); (case hr => first | (go_simp; done) | (go_simp; rfl)); intro gb140 hg w32 hbox hb; replace HO_4 := Aside0.mk (Kd.R_below (Kd.R_elderB (Kd.RA HO_4.out) gb140 (Nat.le_of_eq hg.symm)) hb); replace HO_124001 := Aside0.mk (Kd.V_below (Kd.V_elderB (Kd.VA HO_124001.out) gb140 (Nat.le_of_eq hg.symm)) hb); replace HO128 := Aside0.mk (Kd.V_below (Kd.V_elderB (Kd.VA HO128.out) gb140 (Nat.le_of_eq hg.symm)) hb); have BK140 := Aside0.mk (hbox); have GE140 := Aside0.mk (ge1 hg (LA HB.out)); replace HB := Aside0.mk (below_step (LA HB.out) hb); have NB123_140 := Aside0.mk ((by rw [hg]; exact Nat.ne_of_lt (blk_lt (g := gb123) (o := .cells #[.int .i64 x124000_1, .slice Ao29 x124001_1.length co29, .int .i64 x124002_1] 27 (0, 0)) (BA BK123.out)) : gb123 ≠ gb140)); have NB140_123 := Aside0.mk ((by rw [hg]; exact Nat.ne_of_gt (blk_lt (g := gb123) (o := .cells #[.int .i64 x124000_1, .slice Ao29 x124001_1.length co29, .int .i64 x124002_1] 27 (0, 0)) (BA BK123.out)) : gb140 ≠ gb123)); replace BK123 := Aside0.mk (blk_below (BA BK123.out) hb); have NB124_140 := Aside0.mk ((by rw [hg]; exact Nat.ne_of_lt (blk_lt (g := gb124) (o := .cells #[.int .i64 x125000_1, .slice none 0 0, .int .i64 x125002_1] 27 (0, 0)) (BA BK124.out)) : gb124 ≠ gb140)); have NB140_124 := Aside0.mk ((by rw [hg]; exact Nat.ne_of_gt (blk_lt (g := gb124) (o := .cells #[.int .i64 x125000_1, .slice none 0 0, .int .i64 x125002_1] 27 (0, 0)) (BA BK124.out)) : gb140 ≠ gb124)); replace BK124 := Aside0.mk (blk_below (BA BK124.out) hb); have NB139_140 := Aside0.mk ((by rw [hg]; exact Nat.ne_of_lt (blk_lt (g := gb139) (o := .cells #[.int .i64 0, .slice none 0 0, .int .i64 0] 27 (0, 0)) (BA BK139.out)) : gb139 ≠ gb140)); have NB140_139 := Aside0.mk ((by rw [hg]; exact Nat.ne_of_gt (blk_lt (g := gb139) (o := .cells #[.int .i64 0, .slice none 0 0, .int .i64 0] 27 (0, 0)) (BA BK139.out)) : gb140 ≠ gb139)); replace BK139 := Aside0.mk (blk_below (BA BK139.out) hb); clear hb hbox hg; have hnb33 := NB139_123.out; have hnc33 := NB123_139.out; have hnb34 := NB139_124.out; have hnc34 := NB124_139.out; have hnb35 := NB139_140.out; have hnc35 := NB140_139.out; obtain ⟨hcz36_0, hcz36_1, hcz36_2, hfz36_0, hfz36_1, hfz36_2⟩ := cz3 BK139.out; obtain ⟨Ao37, co37, eo37⟩ := Kd.V_slice HO128.out; subst eo37; have hnb38 := NB140_123.out; have hnc38 := NB123_140.out; have hnb39 := NB140_124.out; have hnc39 := NB124_140.out; obtain ⟨hcz40_0, hcz40_1, hcz40_2, hcz40_3, hcz40_4, hcz40_5, hcz40_6, hcz40_7, hfz40_0, hfz40_1, hfz40_2, hfz40_3, hfz40_4, hfz40_5, hfz40_6, hfz40_7⟩ := cz8 BK140.out; obtain ⟨hcz41_0, hcz41_1, hcz41_2, hfz41_0, hfz41_1, hfz41_2⟩ := cz3 BK123.out; obtain ⟨hcz42_0, hcz42_1, hcz42_2, hfz42_0, hfz42_1, hfz42_2⟩ := cz3 BK124.out))
        refine of_ret ?_
        refine bodyPost_ret (results_ct rfl _ _ gb124 27 #[.int .i64 x124000_1, .slice Ao29 x124001_1.length co29, .int .i64 x124002_1] (0, 0) _ rfl (by (with_reducible repeat (first | refine blk_drewN ?_ _ | refine blk_drew ?_ | refine blk_alloc ?_ _)); refine blk_put (cs := #[.int .i64 x124000_1, .slice Ao29 x124001_1.length co29, .int .i64 x125002_1]) ?_ 2 _ rfl; (with_reducible repeat (first | refine blk_drewN ?_ _ | refine blk_drew ?_ | refine blk_alloc ?_ _)); refine blk_put (cs := #[.int .i64 x124000_1, .slice none 0 0, .int .i64 x125002_1]) ?_ 1 _ rfl; (with_reducible repeat (first | refine blk_drewN ?_ _ | refine blk_drew ?_ | refine blk_alloc ?_ _)); refine blk_put (cs := #[.int .i64 x125000_1, .slice none 0 0, .int .i64 x125002_1]) ?_ 0 _ rfl; exact BM BK124.out (N1 NB124_140.out (N1 NB124_139.out N0))) Try.underlying27 rfl (by kernel_rfl)) rfl ?_
        exact ⟨_, _, by first | rfl | (simp [errW_none, errW_some] <;> rfl) | (simp [*, errW_none, errW_some] <;> rfl), by (with_reducible repeat (first | apply Kd.V_alloc | apply Kd.V_drewN | apply Kd.V_drew)); exact Kd.V_mono (Kd.V_ms (gs := [gb124, gb140, gb139]) (Kd.V_mono (Kd.V_mono (Kd.V_mono HO_124001.out (fun k_ hk => (⟨hk, hk.1.2⟩ : _ ∧ k_ ≠ gb139))) (fun k_ hk => (⟨hk, hk.1.2⟩ : _ ∧ k_ ≠ gb140))) (fun k_ hk => (⟨hk, hk.1.1.1.1.2.2.2⟩ : _ ∧ k_ ≠ gb124))) (fun _ hk => N1 (hk.2) (N1 (hk.1.2) (N1 (hk.1.1.2) (N0))))) (fun _ hk => ⟨hk.1.1.1.1.1.1, hk.1.1.1.1.1.2.1⟩), by (with_reducible repeat (first | apply Kd.R_alloc | apply Kd.R_drewN | apply Kd.R_drew)); exact Kd.R_mono (Kd.R_ms (gs := [gb124, gb140, gb139]) (Kd.R_types (Kd.R_mono (Kd.R_types HO_4.out BK139.out (by decide)) (fun k_ hk => (⟨hk, hk.1.2⟩ : _ ∧ k_ ≠ gb140))) BK124.out (by decide)) (fun _ hk => N1 (hk.2) (N1 (hk.1.2) (N1 (hk.1.1.2) (N0))))) (fun _ hk => hk.1.1.1.1), LG HB.out (G1 GE123.out (G1 GE124.out (G1 GE139.out (G1 GE140.out G0))))⟩

-- GIVEN feed_All

/-! ### feed_Tell: function 19 -/
def feed_Tell.l0 : Nat → List (S36) → Int → Int → Int → List (S36) → Int → Option (Int × (List (S36)) × Int)
  | 0, _, _, _, _, _, _ => none
  | k + 1, x11, x12, x13, x145000, x145001, x145002 => if x13 < x12 then (if 0 ≤ x13 then (if x13 < (x11.length : Int) then (if x145002 = 0 then (if (x145001.length : Int) < x145000 then (if x145001.length < 1954687338268 then (feed_Tell.l0 k x11 x12 (wrap64 (x13 + 1)) x145000 (x145001 ++ [(⟨(rd_T36 x11 x13).f0, (⟨(rd_T36 x11 x13).f1.f0, (rd_T36 x11 x13).f1.f1, (rd_T36 x11 x13).f1.f2, (rd_T36 x11 x13).f1.f3, (rd_T36 x11 x13).f1.f4, (rd_T36 x11 x13).f1.f5⟩ : S34), (rd_T36 x11 x13).f2⟩ : S36)]) x145002) else (none)) else (feed_Tell.l0 k x11 x12 (wrap64 (x13 + 1)) x145000 x145001 (wrap64 ((mn x145002 1099511627775) + 1)))) else (feed_Tell.l0 k x11 x12 (wrap64 (x13 + 1)) x145000 x145001 (wrap64 ((mn x145002 1099511627775) + 1)))) else (none)) else (none)) else (some (x145000, x145001, x145002))
def feed_Tell.f (k : Nat) (a0_0 : Int) (l0_1 : List (S36)) (a0_2 : Int) (l1 : List (S36)) : Option (Int × (List (S36)) × Int) := (api_Event.f l0_1).bind fun t146 => (feed_Tell.l0 k l1 (l1.length : Int) 0 a0_0 t146 a0_2)
theorem feed_Tell.mono_l : ∀ k, (∀ y0 y1 y2 y3 y4 y5, LeO (feed_Tell.l0 k y0 y1 y2 y3 y4 y5) (feed_Tell.l0 (k + 1) y0 y1 y2 y3 y4 y5))
  | 0 => fun _ _ _ _ _ _ r h => by simp [feed_Tell.l0] at h
  | k + 1 => by
    have ih0 := feed_Tell.mono_l k
    · intro y0 y1 y2 y3 y4 y5
      unfold feed_Tell.l0
      repeat' first
      | (with_reducible exact ih0 _ _ _ _ _ _)
      | (with_reducible exact LeO.refl _)
      | (with_reducible exact LeO.none _)
      | (with_reducible refine LeO.ite ?_ ?_)
      | (with_reducible refine LeO.bind ?_ (fun _ => ?_))
      | exact ih0 _ _ _ _ _ _
      | exact LeO.none _
      | refine LeO.ite ?_ ?_
      | refine LeO.bind ?_ (fun _ => ?_)
theorem feed_Tell.mono : ∀ a0 a1 a2 a3 k, LeO (feed_Tell.f k a0 a1 a2 a3) (feed_Tell.f (k + 1) a0 a1 a2 a3) := by
  intro a0 a1 a2 a3 k
  have ih0 := feed_Tell.mono_l k
  unfold feed_Tell.f
  repeat' first
      | (with_reducible exact ih0 _ _ _ _ _ _)
      | (with_reducible exact LeO.refl _)
      | (with_reducible exact LeO.none _)
      | (with_reducible refine LeO.ite ?_ ?_)
      | (with_reducible refine LeO.bind ?_ (fun _ => ?_))
      | exact ih0 _ _ _ _ _ _
      | exact LeO.none _
      | refine LeO.ite ?_ ?_
      | refine LeO.bind ?_ (fun _ => ?_)
set_option maxHeartbeats 8000000 in
set_option maxRecDepth 100000 in
theorem feed_Tell.calls (k : Nat) (a0_0 : Int) (A0_1 : Option Addr) (c0_1 : Nat) (l0_1 : List (S36)) (a0_2 : Int) (A1 : Option Addr) (c1 : Nat) (l1 : List (S36)) (r1 : Int) (r2 : List (S36)) (r3 : Int) (w : World) (hr0_1 : Kd.C k36 w A0_1 l0_1.length l0_1) (hc0_1 : l0_1.length ≤ c0_1) (hr1 : Kd.C k36 w A1 l1.length l1) (hc1 : l1.length ≤ c1) (h : feed_Tell.f k a0_0 l0_1 a0_2 l1 = some (r1, r2, r3)) :
    Calls Try.prog 19 #[.agg #[.int .i64 a0_0, .slice A0_1 l0_1.length c0_1, .int .i64 a0_2], .slice A1 l1.length c1] w fun e w' => ∃ v1_ : Value, e = .returned (.agg #[.int .i64 r1, v1_, .int .i64 r3]) ∧ Kd.R k36 36 w' w.heap.size (fun _ => True) v1_ r2 ∧ Below w.heap.size w w' := by
  have hu27 := Try.underlying27
  have hu36 := Try.underlying36
  have HR0_1 := Aside0.mk hr0_1
  have HC0_1 := Aside0.mk hc0_1
  clear hr0_1 hc0_1
  have HR1 := Aside0.mk hr1
  have HC1 := Aside0.mk hc1
  clear hr1 hc1
  have HB := Aside0.mk (Below.refl w.heap.size w)
  have H : ((api_Event.f l0_1).bind fun t146 => (feed_Tell.l0 k l1 (l1.length : Int) 0 a0_0 t146 a0_2)) = some (r1, r2, r3) := h
  clear h
  replace H := Option.bind_eq_some_iff.mp H
  obtain ⟨t146, A30, H⟩ := H
  replace H : (feed_Tell.l0 k l1 (l1.length : Int) 0 a0_0 t146 a0_2) = some (r1, r2, r3) := H
  have A3 := Aside0.mk A30
  clear A30
  have H' := Aside0.mk H
  clear H
  go_enter Try.func19, Try.ntmps19
  go_wp2_with (first | ((with_reducible refine gate_dst (N := 2) rfl ?_); (try (refine gate_guard (by rfl) ?_; dsimp only)); refine box_event ?hg (N := 2) ?hd (cs := #[.int .i64 a0_0, .slice A0_1 l0_1.length c0_1, .int .i64 a0_2]) (t := 27) ?hr ?_; (case hd => rfl); (case hg => rfl); (case hr => first | (go_simp; done) | (go_simp; rfl)); intro gb144 hg w4 hbox hb; have BK144 := Aside0.mk (hbox); have GE144 := Aside0.mk (ge1 hg (LA HB.out)); replace HB := Aside0.mk (below_step (LA HB.out) hb); clear hb hbox hg) | ((with_reducible refine gate_dst (N := 4) rfl ?_); (try (refine gate_guard (by rfl) ?_; dsimp only)); refine box_event ?hg (N := 4) ?hd (cs := #[.int .i64 0, .slice none 0 0, .int .i64 0]) (t := 27) ?hr ?_; (case hd => rfl); (case hg => rfl); (case hr => first | (go_simp; done) | (go_simp; rfl)); intro gb145 hg w5 hbox hb; have BK145 := Aside0.mk (hbox); have GE145 := Aside0.mk (ge1 hg (LA HB.out)); replace HB := Aside0.mk (below_step (LA HB.out) hb); have NB144_145 := Aside0.mk ((by rw [hg]; exact Nat.ne_of_lt (blk_lt (g := gb144) (o := .cells #[.int .i64 a0_0, .slice A0_1 l0_1.length c0_1, .int .i64 a0_2] 27 (0, 0)) (BA BK144.out)) : gb144 ≠ gb145)); have NB145_144 := Aside0.mk ((by rw [hg]; exact Nat.ne_of_gt (blk_lt (g := gb144) (o := .cells #[.int .i64 a0_0, .slice A0_1 l0_1.length c0_1, .int .i64 a0_2] 27 (0, 0)) (BA BK144.out)) : gb145 ≠ gb144)); replace BK144 := Aside0.mk (blk_below (BA BK144.out) hb); clear hb hbox hg; have hnb6 := NB144_145.out; have hnc6 := NB145_144.out; obtain ⟨hcz7_0, hcz7_1, hcz7_2, hfz7_0, hfz7_1, hfz7_2⟩ := cz3 BK144.out) | ((with_reducible refine gate_callee (f := 24) rfl ?_); refine goesL_ (some 9) rfl rfl Try.func24 (by kernel_rfl) rfl #[.slice A0_1 l0_1.length c0_1] rfl (by (try simp only [List.map_toArray, List.map_cons, List.map_nil]); first | done | rfl | (simp only [List.length_drop, List.length_take]; rfl)) ?_; (with_reducible refine (api_Event.calls _ _ l0_1 t146 _ ?side1 ?side2 A3.out).mono ?_); (case side1 => exact Kd.CA (Kd.C_below HR0_1.out HB.out)); (case side2 => exact HC0_1.out); rintro e w8 ⟨v147, rfl, ho0, hb⟩; refine ⟨_, rfl, ?_⟩; have HO148 := Aside0.mk (Kd.R_lower ho0 (below_size (LA HB.out))); replace BK144 := Aside0.mk (blk_below (BA BK144.out) hb); replace BK145 := Aside0.mk (blk_below (BA BK145.out) hb); replace HB := Aside0.mk (below_step (LA HB.out) hb); (try clear hb); (try clear hb2); (try clear hk); (try clear hi); (try clear ho0); obtain ⟨Ao9, co9, eo9⟩ := Kd.R_slice HO148.out; subst eo9; obtain ⟨hcz10_0, hcz10_1, hcz10_2, hfz10_0, hfz10_1, hfz10_2⟩ := cz3 BK144.out))
  go_loopg [13] k (fun kq v13 w' => ∃ (x13_1 : Int) (x145001_1 : List (S36)) (x145002_1 : Int) (u145001 : Value), v13 = .int .i64 x13_1 ∧ Aside0 (feed_Tell.l0 kq l1 (l1.length : Int) x13_1 a0_0 x145001_1 x145002_1 = some (r1, r2, r3)) ∧ Aside0 (kq ≤ k) ∧ Aside0 (Kd.R k36 36 w' w.heap.size (fun _ => True) u145001 x145001_1) ∧ Aside0 (w'.heap[gb144]? = some (.cells #[.int .i64 a0_0, u145001, .int .i64 x145002_1] 27 (0, 0))) ∧ Aside0 (w'.heap[gb145]? = some (.cells #[.int .i64 0, (.slice none 0 0), .int .i64 0] 27 (0, 0))) ∧ Aside0 (Below w.heap.size w w'))
  case atStart => exact ⟨(0), (t146), (a0_2), (.slice Ao9 t146.length co9), (by first | rfl | (simp; done) | (simp [*]; done)), H', ⟨Nat.le_refl _⟩, ⟨by (with_reducible repeat (first | apply Kd.R_alloc | apply Kd.R_drewN | apply Kd.R_drew)); exact Kd.R_mono (Kd.R_far (p := ⟨gb144, 1, none⟩) (Kd.R_types HO148.out BK144.out (by decide)) (fun _ hk => hk.2) (.slice Ao9 t146.length co9)) (fun _ hk => trivial)⟩, ⟨by (with_reducible repeat (first | refine blk_drewN ?_ _ | refine blk_drew ?_ | refine blk_alloc ?_ _)); refine blk_put (cs := #[.int .i64 a0_0, .slice A0_1 l0_1.length c0_1, .int .i64 a0_2]) ?_ 1 _ rfl; (with_reducible repeat (first | refine blk_drewN ?_ _ | refine blk_drew ?_ | refine blk_alloc ?_ _)); exact BK144.out⟩, ⟨by exact BF BK145.out NB145_144.out⟩, ⟨LG HB.out (G1 GE144.out (G1 GE145.out G0))⟩⟩
  case round =>
    clear H'
    try clear c1
    try clear c2
    try clear p2
    try clear c6
    try clear hcz10_0
    try clear hcz10_1
    try clear hcz10_2
    try clear hcz7_0
    try clear hcz7_1
    try clear hcz7_2
    try clear hfz10_0
    try clear hfz10_1
    try clear hfz10_2
    try clear hfz7_0
    try clear hfz7_1
    try clear hfz7_2
    obtain ⟨x13_1, x145001_1, x145002_1, u145001, rfl, HA, HK1, HO_145001, BK144, BK145, HB⟩ := hrel
    cases gk with
    | zero => exact absurd HA.out (by simp [feed_Tell.l0])
    | succ k1 =>
      have H := HA.out
      clear HA
      simp only [feed_Tell.l0] at H
      by_cases c11 : x13_1 < (l1.length : Int)
      · rw [if_pos c11] at H
        have c11b0 : decide (x13_1 < (l1.length : Int)) = true := decide_eq_true c11
        clear c11
        by_cases c12 : 0 ≤ x13_1
        rotate_left
        · rw [if_neg c12] at H
          exact absurd H (by simp)
        rw [if_pos c12] at H
        have c12b0 : decide (0 ≤ x13_1) = true := decide_eq_true c12
        clear c12
        by_cases c13 : x13_1 < (l1.length : Int)
        rotate_left
        · rw [if_neg c13] at H
          exact absurd H (by simp)
        rw [if_pos c13] at H
        have c13b0 : decide (x13_1 < (l1.length : Int)) = true := decide_eq_true c13
        clear c13
        by_cases c14 : x145002_1 = 0
        · rw [if_pos c14] at H
          have c14b0 : (x145002_1 == 0) = true := beq_iff_eq.mpr c14
          have c14b1 : (x145002_1 != 0) = false := bne_eq_false_iff_eq.mpr c14
          clear c14
          by_cases c15 : (x145001_1.length : Int) < a0_0
          · rw [if_pos c15] at H
            have c15b0 : decide ((x145001_1.length : Int) < a0_0) = true := decide_eq_true c15
            clear c15
            by_cases c16 : x145001_1.length < 1954687338268
            rotate_left
            · rw [if_neg c16] at H
              exact absurd H (by simp)
            rw [if_pos c16] at H
            have LMc16 := Aside0.mk c16
            clear c16
            obtain ⟨y151, hy151⟩ : ∃ y_ : List (S36), y_ = (x145001_1 ++ [(⟨(rd_T36 l1 x13_1).f0, (⟨(rd_T36 l1 x13_1).f1.f0, (rd_T36 l1 x13_1).f1.f1, (rd_T36 l1 x13_1).f1.f2, (rd_T36 l1 x13_1).f1.f3, (rd_T36 l1 x13_1).f1.f4, (rd_T36 l1 x13_1).f1.f5⟩ : S34), (rd_T36 l1 x13_1).f2⟩ : S36)]) := ⟨_, rfl⟩
            replace H : (feed_Tell.l0 k1 l1 (l1.length : Int) (wrap64 (x13_1 + 1)) a0_0 y151 x145002_1) = some (r1, r2, r3) := by first | (rw [hy151]; with_reducible exact H) | (have H2_ := (Option.bind_some _ _).symm.trans H; rw [hy151]; with_reducible exact H2_) | (have H2_ := (Option.bind_some _ _).symm.trans H; with_reducible exact H2_) | with_reducible exact H | (rw [hy151]; exact H) | exact H
            have Ny151 := Aside0.mk hy151
            clear hy151
            have H' := Aside0.mk H
            clear H
            have p149 : 0 ≤ (x13_1 : Int) := of_decide_eq_true (by first | (with_reducible assumption) | assumption)
            have q149 : x13_1 < (l1.length : Int) := of_decide_eq_true (by first | (with_reducible assumption) | assumption)
            obtain ⟨ad149, e149, hx149_0, hx149_1, hx149_2, hx149_3, hx149_4, hx149_5, hx149_6, hx149_7⟩ := at_T36 HR1.out x13_1 p149 q149
            cases e149
            replace hx149_0 := (HB.out.cell (World.block_lt_of_cell? w _ hx149_0)).trans hx149_0
            replace hx149_1 := (HB.out.cell (World.block_lt_of_cell? w _ hx149_1)).trans hx149_1
            replace hx149_2 := (HB.out.cell (World.block_lt_of_cell? w _ hx149_2)).trans hx149_2
            replace hx149_3 := (HB.out.cell (World.block_lt_of_cell? w _ hx149_3)).trans hx149_3
            replace hx149_4 := (HB.out.cell (World.block_lt_of_cell? w _ hx149_4)).trans hx149_4
            replace hx149_5 := (HB.out.cell (World.block_lt_of_cell? w _ hx149_5)).trans hx149_5
            replace hx149_6 := (HB.out.cell (World.block_lt_of_cell? w _ hx149_6)).trans hx149_6
            replace hx149_7 := (HB.out.cell (World.block_lt_of_cell? w _ hx149_7)).trans hx149_7
            replace p149 := eq_true p149
            replace q149 := eq_true q149
            go_wp2_with (first | ((with_reducible refine gate_dst (N := 6) rfl ?_); (try (refine gate_guard (by rfl) ?_; dsimp only)); refine box_event ?hg (N := 6) ?hd (cs := #[.int .i64 0, .int .i64 0, .int .i64 0, .int .i64 0, .int .i64 0, .int .i64 0, .string (⟨#[]⟩ : ByteArray), .int .i64 0]) (t := 36) ?hr ?_; (case hd => rfl); (case hg => rfl); (case hr => first | (go_simp; done) | (go_simp; rfl)); intro gb150 hg w17 hbox hb; replace HO_145001 := Aside0.mk (Kd.R_below (Kd.R_elderB (Kd.RA HO_145001.out) gb150 (Nat.le_of_eq hg.symm)) hb); have BK150 := Aside0.mk (hbox); have GE150 := Aside0.mk (ge1 hg (LA HB.out)); replace HB := Aside0.mk (below_step (LA HB.out) hb); have NB144_150 := Aside0.mk ((by rw [hg]; exact Nat.ne_of_lt (blk_lt (g := gb144) (o := .cells #[.int .i64 a0_0, u145001, .int .i64 x145002_1] 27 (0, 0)) (BA BK144.out)) : gb144 ≠ gb150)); have NB150_144 := Aside0.mk ((by rw [hg]; exact Nat.ne_of_gt (blk_lt (g := gb144) (o := .cells #[.int .i64 a0_0, u145001, .int .i64 x145002_1] 27 (0, 0)) (BA BK144.out)) : gb150 ≠ gb144)); replace BK144 := Aside0.mk (blk_below (BA BK144.out) hb); have NB145_150 := Aside0.mk ((by rw [hg]; exact Nat.ne_of_lt (blk_lt (g := gb145) (o := .cells #[.int .i64 0, .slice none 0 0, .int .i64 0] 27 (0, 0)) (BA BK145.out)) : gb145 ≠ gb150)); have NB150_145 := Aside0.mk ((by rw [hg]; exact Nat.ne_of_gt (blk_lt (g := gb145) (o := .cells #[.int .i64 0, .slice none 0 0, .int .i64 0] 27 (0, 0)) (BA BK145.out)) : gb150 ≠ gb145)); replace BK145 := Aside0.mk (blk_below (BA BK145.out) hb); clear hb hbox hg; have hnb18 := NB150_144.out; have hnc18 := NB144_150.out; have hnb19 := NB150_145.out; have hnc19 := NB145_150.out; obtain ⟨hcz20_0, hcz20_1, hcz20_2, hcz20_3, hcz20_4, hcz20_5, hcz20_6, hcz20_7, hfz20_0, hfz20_1, hfz20_2, hfz20_3, hfz20_4, hfz20_5, hfz20_6, hfz20_7⟩ := cz8 BK150.out; have hnb21 := NB144_145.out; have hnc21 := NB145_144.out; obtain ⟨hcz22_0, hcz22_1, hcz22_2, hfz22_0, hfz22_1, hfz22_2⟩ := cz3 BK144.out; obtain ⟨Ao23, co23, eo23⟩ := Kd.R_slice HO_145001.out; subst eo23) | ((with_reducible refine gate_builtin (b := .append) (xs := #[.tmp 29, .tmp 31]) rfl ?_); (try (refine gate_guard (by rfl) ?_; dsimp only)); at_builtin; refine Kd.R_append k36 (w0 := w) w.heap.size rfl (.tmp 29) (.tmp 31) 22 36 (.agg #[(.int .i64 0), (.int .i64 0), (.int .i64 0), (.int .i64 0), (.int .i64 0), (.int .i64 0), (.string ⟨#[]⟩), (.int .i64 0)]) 72 rfl Try.underlying22 info36 rfl (by decide) (by omega) (.slice Ao23 x145001_1.length co23) x145001_1 (⟨(rd_T36 l1 x13_1).f0, (⟨(rd_T36 l1 x13_1).f1.f0, (rd_T36 l1 x13_1).f1.f1, (rd_T36 l1 x13_1).f1.f2, (rd_T36 l1 x13_1).f1.f3, (rd_T36 l1 x13_1).f1.f4, (rd_T36 l1 x13_1).f1.f5⟩ : S34), (rd_T36 l1 x13_1).f2⟩ : S36) [.int .i64 ((rd_T36 l1 x13_1).f0), .int .i64 ((rd_T36 l1 x13_1).f1.f0), .int .i64 ((rd_T36 l1 x13_1).f1.f1), .int .i64 ((rd_T36 l1 x13_1).f1.f2), .int .i64 ((rd_T36 l1 x13_1).f1.f3), .int .i64 ((rd_T36 l1 x13_1).f1.f4), .string ((rd_T36 l1 x13_1).f1.f5), .int .i64 ((rd_T36 l1 x13_1).f2)] (fun k_ => k_ ≠ gb150) (fun _ => False) rfl (by first | (go_simp; done) | (go_simp; rfl)) ?aP (fun _ hk => hk.elim) ?aF ?aO ?aB ?aS ?aL ?_; (case aP => exact k36_mkM _ _ _ (⟨(rd_T36 l1 x13_1).f0, (⟨(rd_T36 l1 x13_1).f1.f0, (rd_T36 l1 x13_1).f1.f1, (rd_T36 l1 x13_1).f1.f2, (rd_T36 l1 x13_1).f1.f3, (rd_T36 l1 x13_1).f1.f4, (rd_T36 l1 x13_1).f1.f5⟩ : S34), (rd_T36 l1 x13_1).f2⟩ : S36)); (case aB => exact (LG HB.out (G1 GE150.out G0))); (case aF => exact (fun k_ hk => Kd.freshB (g := gb150) (o := .cells #[.int .i64 ((rd_T36 l1 x13_1).f0), .int .i64 ((rd_T36 l1 x13_1).f1.f0), .int .i64 ((rd_T36 l1 x13_1).f1.f1), .int .i64 ((rd_T36 l1 x13_1).f1.f2), .int .i64 ((rd_T36 l1 x13_1).f1.f3), .int .i64 ((rd_T36 l1 x13_1).f1.f4), .string ((rd_T36 l1 x13_1).f1.f5), .int .i64 ((rd_T36 l1 x13_1).f2)] 36 (0, 0)) (BP BK150.out (by rfl)) k_ hk)); (case aO => exact (Kd.R_mono (Kd.R_mv (g := gb150) (Kd.R_mono HO_145001.out (fun k_ hk => (⟨hk, hk.2⟩ : _ ∧ k_ ≠ gb150))) (fun _ hk => hk.2)) (fun _ hk => hk.1.2))); (case aS => exact (below_size (LG HB.out (G1 GE150.out G0)))); (case aL => have := LMc16.out; omega); intro v152 w24 ho hb hg hat; rw [← Ny151.out] at ho; replace BK144 := Aside0.mk (blk_grown (g := gb144) (o := .cells #[.int .i64 a0_0, .slice Ao23 x145001_1.length co23, .int .i64 x145002_1] 27 (0, 0)) (BF BK144.out NB144_150.out) hg (Kd.R_ne HO_145001.out BK144.out (by decide))); replace BK145 := Aside0.mk (blk_grown (g := gb145) (o := .cells #[.int .i64 0, .slice none 0 0, .int .i64 0] 27 (0, 0)) (BF BK145.out NB145_150.out) hg (Kd.R_ne HO_145001.out BK145.out (by decide))); replace HB := Aside0.mk (hb); have HO153 := Aside0.mk (ho); clear BK150 HO_145001; clear ho hb hg hat; obtain ⟨Ao25, co25, eo25⟩ := Kd.R_slice HO153.out; subst eo25; obtain ⟨hcz26_0, hcz26_1, hcz26_2, hfz26_0, hfz26_1, hfz26_2⟩ := cz3 BK144.out))
            go_roundg k1
            case measure => have := HK1.out; omega
            case rel => exact ⟨(wrap64 (x13_1 + 1)), (y151), (x145002_1), (.slice Ao25 y151.length co25), (by first | rfl | (simp; done) | (simp [*]; done)), H', ⟨by have := HK1.out; omega⟩, ⟨by (with_reducible repeat (first | apply Kd.R_alloc | apply Kd.R_drewN | apply Kd.R_drew)); exact Kd.R_mono (Kd.R_far (p := ⟨gb144, 1, none⟩) (Kd.R_types HO153.out BK144.out (by decide)) (fun _ hk => hk.2) (.slice Ao25 y151.length co25)) (fun _ hk => trivial)⟩, ⟨by (with_reducible repeat (first | refine blk_drewN ?_ _ | refine blk_drew ?_ | refine blk_alloc ?_ _)); refine blk_put (cs := #[.int .i64 a0_0, .slice Ao23 x145001_1.length co23, .int .i64 x145002_1]) ?_ 1 _ rfl; (with_reducible repeat (first | refine blk_drewN ?_ _ | refine blk_drew ?_ | refine blk_alloc ?_ _)); exact BK144.out⟩, ⟨by exact BF BK145.out NB145_144.out⟩, ⟨LG HB.out (G1 GE144.out (G1 GE145.out (G1 GE150.out G0)))⟩⟩
          · rw [if_neg c15] at H
            have c15b0 : decide ((x145001_1.length : Int) < a0_0) = false := decide_eq_false c15
            clear c15
            obtain ⟨ji27, hji27⟩ : ∃ j_ : Int, (mn x145002_1 1099511627775) = j_ := ⟨_, rfl⟩
            replace H : (feed_Tell.l0 k1 l1 (l1.length : Int) (wrap64 (x13_1 + 1)) a0_0 x145001_1 (wrap64 ((ji27) + 1))) = some (r1, r2, r3) := by first | (rw [hji27] at H; exact H) | (simp only [hji27] at H ⊢; exact H)
            have hji27_ : (if 1099511627775 < x145002_1 then 1099511627775 else x145002_1) = ji27 := hji27
            have H' := Aside0.mk H
            clear H
            have p149 : 0 ≤ (x13_1 : Int) := of_decide_eq_true (by first | (with_reducible assumption) | assumption)
            have q149 : x13_1 < (l1.length : Int) := of_decide_eq_true (by first | (with_reducible assumption) | assumption)
            obtain ⟨ad149, e149, hx149_0, hx149_1, hx149_2, hx149_3, hx149_4, hx149_5, hx149_6, hx149_7⟩ := at_T36 HR1.out x13_1 p149 q149
            cases e149
            replace hx149_0 := (HB.out.cell (World.block_lt_of_cell? w _ hx149_0)).trans hx149_0
            replace hx149_1 := (HB.out.cell (World.block_lt_of_cell? w _ hx149_1)).trans hx149_1
            replace hx149_2 := (HB.out.cell (World.block_lt_of_cell? w _ hx149_2)).trans hx149_2
            replace hx149_3 := (HB.out.cell (World.block_lt_of_cell? w _ hx149_3)).trans hx149_3
            replace hx149_4 := (HB.out.cell (World.block_lt_of_cell? w _ hx149_4)).trans hx149_4
            replace hx149_5 := (HB.out.cell (World.block_lt_of_cell? w _ hx149_5)).trans hx149_5
            replace hx149_6 := (HB.out.cell (World.block_lt_of_cell? w _ hx149_6)).trans hx149_6
            replace hx149_7 := (HB.out.cell (World.block_lt_of_cell? w _ hx149_7)).trans hx149_7
            replace p149 := eq_true p149
            replace q149 := eq_true q149
            go_wp2_with (first | ((with_reducible refine gate_dst (N := 6) rfl ?_); (try (refine gate_guard (by rfl) ?_; dsimp only)); refine box_event ?hg (N := 6) ?hd (cs := #[.int .i64 0, .int .i64 0, .int .i64 0, .int .i64 0, .int .i64 0, .int .i64 0, .string (⟨#[]⟩ : ByteArray), .int .i64 0]) (t := 36) ?hr ?_; (case hd => rfl); (case hg => rfl); (case hr => first | (go_simp; done) | (go_simp; rfl)); intro gb150 hg w28 hbox hb; replace HO_145001 := Aside0.mk (Kd.R_below (Kd.R_elderB (Kd.RA HO_145001.out) gb150 (Nat.le_of_eq hg.symm)) hb); have BK150 := Aside0.mk (hbox); have GE150 := Aside0.mk (ge1 hg (LA HB.out)); replace HB := Aside0.mk (below_step (LA HB.out) hb); have NB144_150 := Aside0.mk ((by rw [hg]; exact Nat.ne_of_lt (blk_lt (g := gb144) (o := .cells #[.int .i64 a0_0, u145001, .int .i64 x145002_1] 27 (0, 0)) (BA BK144.out)) : gb144 ≠ gb150)); have NB150_144 := Aside0.mk ((by rw [hg]; exact Nat.ne_of_gt (blk_lt (g := gb144) (o := .cells #[.int .i64 a0_0, u145001, .int .i64 x145002_1] 27 (0, 0)) (BA BK144.out)) : gb150 ≠ gb144)); replace BK144 := Aside0.mk (blk_below (BA BK144.out) hb); have NB145_150 := Aside0.mk ((by rw [hg]; exact Nat.ne_of_lt (blk_lt (g := gb145) (o := .cells #[.int .i64 0, .slice none 0 0, .int .i64 0] 27 (0, 0)) (BA BK145.out)) : gb145 ≠ gb150)); have NB150_145 := Aside0.mk ((by rw [hg]; exact Nat.ne_of_gt (blk_lt (g := gb145) (o := .cells #[.int .i64 0, .slice none 0 0, .int .i64 0] 27 (0, 0)) (BA BK145.out)) : gb150 ≠ gb145)); replace BK145 := Aside0.mk (blk_below (BA BK145.out) hb); clear hb hbox hg; have hnb29 := NB150_144.out; have hnc29 := NB144_150.out; have hnb30 := NB150_145.out; have hnc30 := NB145_150.out; obtain ⟨hcz31_0, hcz31_1, hcz31_2, hcz31_3, hcz31_4, hcz31_5, hcz31_6, hcz31_7, hfz31_0, hfz31_1, hfz31_2, hfz31_3, hfz31_4, hfz31_5, hfz31_6, hfz31_7⟩ := cz8 BK150.out; have hnb32 := NB144_145.out; have hnc32 := NB145_144.out; obtain ⟨hcz33_0, hcz33_1, hcz33_2, hfz33_0, hfz33_1, hfz33_2⟩ := cz3 BK144.out; obtain ⟨Ao34, co34, eo34⟩ := Kd.R_slice HO_145001.out; subst eo34))
            go_roundg k1
            case measure => have := HK1.out; omega
            case rel => exact ⟨(wrap64 (x13_1 + 1)), (x145001_1), (wrap64 ((ji27) + 1)), (.slice Ao34 x145001_1.length co34), (by first | rfl | (simp; done) | (simp [*]; done)), H', ⟨by have := HK1.out; omega⟩, ⟨by (with_reducible repeat (first | apply Kd.R_alloc | apply Kd.R_drewN | apply Kd.R_drew)); exact Kd.R_mono (Kd.R_ms (gs := [gb144, gb150]) (Kd.R_types (Kd.R_mono HO_145001.out (fun k_ hk => (⟨hk, hk.2⟩ : _ ∧ k_ ≠ gb150))) BK144.out (by decide)) (fun _ hk => N1 (hk.2) (N1 (hk.1.2) (N0)))) (fun _ hk => trivial)⟩, ⟨by (with_reducible repeat (first | refine blk_drewN ?_ _ | refine blk_drew ?_ | refine blk_alloc ?_ _)); refine blk_put (cs := #[.int .i64 a0_0, .slice Ao34 x145001_1.length co34, .int .i64 x145002_1]) ?_ 2 _ rfl; exact BF BK144.out NB144_150.out⟩, ⟨by exact BM BK145.out (N1 NB145_150.out (N1 NB145_144.out N0))⟩, ⟨LG HB.out (G1 GE144.out (G1 GE145.out (G1 GE150.out G0)))⟩⟩
        · rw [if_neg c14] at H
          have c14b0 : (x145002_1 == 0) = false := beq_eq_false_iff_ne.mpr c14
          have c14b1 : (x145002_1 != 0) = true := bne_iff_ne.mpr c14
          obtain ⟨ji35, hji35⟩ : ∃ j_ : Int, (mn x145002_1 1099511627775) = j_ := ⟨_, rfl⟩
          replace H : (feed_Tell.l0 k1 l1 (l1.length : Int) (wrap64 (x13_1 + 1)) a0_0 x145001_1 (wrap64 ((ji35) + 1))) = some (r1, r2, r3) := by first | (rw [hji35] at H; exact H) | (simp only [hji35] at H ⊢; exact H)
          have hji35_ : (if 1099511627775 < x145002_1 then 1099511627775 else x145002_1) = ji35 := hji35
          have H' := Aside0.mk H
          clear H
          have p149 : 0 ≤ (x13_1 : Int) := of_decide_eq_true (by first | (with_reducible assumption) | assumption)
          have q149 : x13_1 < (l1.length : Int) := of_decide_eq_true (by first | (with_reducible assumption) | assumption)
          obtain ⟨ad149, e149, hx149_0, hx149_1, hx149_2, hx149_3, hx149_4, hx149_5, hx149_6, hx149_7⟩ := at_T36 HR1.out x13_1 p149 q149
          cases e149
          replace hx149_0 := (HB.out.cell (World.block_lt_of_cell? w _ hx149_0)).trans hx149_0
          replace hx149_1 := (HB.out.cell (World.block_lt_of_cell? w _ hx149_1)).trans hx149_1
          replace hx149_2 := (HB.out.cell (World.block_lt_of_cell? w _ hx149_2)).trans hx149_2
          replace hx149_3 := (HB.out.cell (World.block_lt_of_cell? w _ hx149_3)).trans hx149_3
          replace hx149_4 := (HB.out.cell (World.block_lt_of_cell? w _ hx149_4)).trans hx149_4
          replace hx149_5 := (HB.out.cell (World.block_lt_of_cell? w _ hx149_5)).trans hx149_5
          replace hx149_6 := (HB.out.cell (World.block_lt_of_cell? w _ hx149_6)).trans hx149_6
          replace hx149_7 := (HB.out.cell (World.block_lt_of_cell? w _ hx149_7)).trans hx149_7
          replace p149 := eq_true p149
          replace q149 := eq_true q149
          go_wp2_with (first | ((with_reducible refine gate_dst (N := 6) rfl ?_); (try (refine gate_guard (by rfl) ?_; dsimp only)); refine box_event ?hg (N := 6) ?hd (cs := #[.int .i64 0, .int .i64 0, .int .i64 0, .int .i64 0, .int .i64 0, .int .i64 0, .string (⟨#[]⟩ : ByteArray), .int .i64 0]) (t := 36) ?hr ?_; (case hd => rfl); (case hg => rfl); (case hr => first | (go_simp; done) | (go_simp; rfl)); intro gb150 hg w36 hbox hb; replace HO_145001 := Aside0.mk (Kd.R_below (Kd.R_elderB (Kd.RA HO_145001.out) gb150 (Nat.le_of_eq hg.symm)) hb); have BK150 := Aside0.mk (hbox); have GE150 := Aside0.mk (ge1 hg (LA HB.out)); replace HB := Aside0.mk (below_step (LA HB.out) hb); have NB144_150 := Aside0.mk ((by rw [hg]; exact Nat.ne_of_lt (blk_lt (g := gb144) (o := .cells #[.int .i64 a0_0, u145001, .int .i64 x145002_1] 27 (0, 0)) (BA BK144.out)) : gb144 ≠ gb150)); have NB150_144 := Aside0.mk ((by rw [hg]; exact Nat.ne_of_gt (blk_lt (g := gb144) (o := .cells #[.int .i64 a0_0, u145001, .int .i64 x145002_1] 27 (0, 0)) (BA BK144.out)) : gb150 ≠ gb144)); replace BK144 := Aside0.mk (blk_below (BA BK144.out) hb); have NB145_150 := Aside0.mk ((by rw [hg]; exact Nat.ne_of_lt (blk_lt (g := gb145) (o := .cells #[.int .i64 0, .slice none 0 0, .int .i64 0] 27 (0, 0)) (BA BK145.out)) : gb145 ≠ gb150)); have NB150_145 := Aside0.mk ((by rw [hg]; exact Nat.ne_of_gt (blk_lt (g := gb145) (o := .cells #[.int .i64 0, .slice none 0 0, .int .i64 0] 27 (0, 0)) (BA BK145.out)) : gb150 ≠ gb145)); replace BK145 := Aside0.mk (blk_below (BA BK145.out) hb); clear hb hbox hg; have hnb37 := NB150_144.out; have hnc37 := NB144_150.out; have hnb38 := NB150_145.out; have hnc38 := NB145_150.out; obtain ⟨hcz39_0, hcz39_1, hcz39_2, hcz39_3, hcz39_4, hcz39_5, hcz39_6, hcz39_7, hfz39_0, hfz39_1, hfz39_2, hfz39_3, hfz39_4, hfz39_5, hfz39_6, hfz39_7⟩ := cz8 BK150.out; have hnb40 := NB144_145.out; have hnc40 := NB145_144.out; obtain ⟨hcz41_0, hcz41_1, hcz41_2, hfz41_0, hfz41_1, hfz41_2⟩ := cz3 BK144.out))
          go_roundg k1
          case measure => have := HK1.out; omega
          case rel => exact ⟨(wrap64 (x13_1 + 1)), (x145001_1), (wrap64 ((ji35) + 1)), (u145001), (by first | rfl | (simp; done) | (simp [*]; done)), H', ⟨by have := HK1.out; omega⟩, ⟨by (with_reducible repeat (first | apply Kd.R_alloc | apply Kd.R_drewN | apply Kd.R_drew)); exact Kd.R_mono (Kd.R_ms (gs := [gb144, gb150]) (Kd.R_types (Kd.R_mono HO_145001.out (fun k_ hk => (⟨hk, hk.2⟩ : _ ∧ k_ ≠ gb150))) BK144.out (by decide)) (fun _ hk => N1 (hk.2) (N1 (hk.1.2) (N0)))) (fun _ hk => trivial)⟩, ⟨by (with_reducible repeat (first | refine blk_drewN ?_ _ | refine blk_drew ?_ | refine blk_alloc ?_ _)); refine blk_put (cs := #[.int .i64 a0_0, u145001, .int .i64 x145002_1]) ?_ 2 _ rfl; exact BF BK144.out NB144_150.out⟩, ⟨by exact BM BK145.out (N1 NB145_150.out (N1 NB145_144.out N0))⟩, ⟨LG HB.out (G1 GE144.out (G1 GE145.out (G1 GE150.out G0)))⟩⟩
      · rw [if_neg c11] at H
        have c11b0 : decide (x13_1 < (l1.length : Int)) = false := decide_eq_false c11
        clear c11
        simp only [Option.some.injEq, Prod.mk.injEq] at H
        obtain ⟨rfl, rfl, rfl⟩ := H
        have hnb42 := NB144_145.out
        have hnc42 := NB145_144.out
        have hcz43_0 : wr.cell? ⟨gb144, 0, none⟩ = some (.int .i64 a0_0) := (blk_cell BK144.out 0).trans rfl
        have hcz43_1 : wr.cell? ⟨gb144, 1, none⟩ = some (u145001) := (blk_cell BK144.out 1).trans rfl
        have hcz43_2 : wr.cell? ⟨gb144, 2, none⟩ = some (.int .i64 x145002_1) := (blk_cell BK144.out 2).trans rfl
        have hfz43_0 := blk_frozen BK144.out 0
        have hfz43_1 := blk_frozen BK144.out 1
        have hfz43_2 := blk_frozen BK144.out 2
        have hcz44_0 : wr.cell? ⟨gb145, 0, none⟩ = some (.int .i64 0) := (blk_cell BK145.out 0).trans rfl
        have hcz44_1 : wr.cell? ⟨gb145, 1, none⟩ = some (.slice none 0 0) := (blk_cell BK145.out 1).trans rfl
        have hcz44_2 : wr.cell? ⟨gb145, 2, none⟩ = some (.int .i64 0) := (blk_cell BK145.out 2).trans rfl
        have hfz44_0 := blk_frozen BK145.out 0
        have hfz44_1 := blk_frozen BK145.out 1
        have hfz44_2 := blk_frozen BK145.out 2
        obtain ⟨Ao45, co45, eo45⟩ := Kd.R_slice HO_145001.out
        subst eo45
        go_wp2
        refine bodyPost_ret (results_cell_row rfl _ _ gb145 27 #[.int .i64 a0_0, .slice Ao45 x145001_1.length co45, .int .i64 x145002_1] (0, 0) _ rfl (BP BK145.out (by rfl)) Try.underlying27 rfl (by kernel_rfl)) rfl ?_
        exact ⟨_, by first | rfl | (simp [errW_none, errW_some] <;> rfl) | (simp [*, errW_none, errW_some] <;> rfl), by (with_reducible repeat (first | apply Kd.R_alloc | apply Kd.R_drewN | apply Kd.R_drew)); exact Kd.R_mono (Kd.R_mv (g := gb145) (Kd.R_types HO_145001.out BK145.out (by decide)) (fun _ hk => hk.2)) (fun _ hk => trivial), LG HB.out (G1 GE144.out (G1 GE145.out G0))⟩

end Go.Proofs.Ythmnedlaecekkaa.PFeedParts
