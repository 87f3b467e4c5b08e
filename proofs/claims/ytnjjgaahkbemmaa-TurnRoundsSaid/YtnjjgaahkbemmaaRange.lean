/- Whose turn it is: the iterator 'able' over a slice of bools, and Count, Pick and Next that range over it: each answers what a plain Lean function says, at every slice of at most 2^47 bytes. -/
import Derived.RangeFuncNested
import Derived.RangeFuncBound
import Derived.RangeFuncCalls
import Derived.RangeFuncLeaves
import Derived.Shelf.Abstract
import Derived.Shelf.RegionOpen
import Derived.WalkKit
import Derived.OwnWalkIn
import Derived.TacticsInMore
import Derived.LoopNIn
import Derived.LoopIn
import Derived.Lib.Hide
import Derived.Outline
import Derived.Test.YtnjjgaahkbemmaaWMore
import Derived.Test.YtnjjgaahkbemmaaProg
namespace Go.Proofs.Ytnjjgaahkbemmaa.Hand
set_option linter.unusedVariables false
set_option linter.unusedSimpArgs false
open Go.RowKit Go.Shelf Go.Proofs.YtnjjgaahkbemmaaW.PrintWords Go.Proofs.YtnjjgaahkbemmaaW.PrintLast Go.Proofs.YtnjjgaahkbemmaaW.PrintMore
attribute [local go_sem] Oper.semAt_some

/-- Who may go on, of the first k places from 'from' on, round. -/
def rot (l : List Bool) (fr k : Nat) : List Int := ((List.range k).map (fun (i : Nat) => (((fr : Int) + (i : Int)) % (l.length : Int)))).filter (fun x => rdOf false l x)
theorem rot_zero (l : List Bool) (fr : Nat) : rot l fr 0 = [] := rfl
theorem rot_yes {l : List Bool} {fr k : Nat} (h : rdOf false l (((fr : Int) + (k : Int)) % (l.length : Int)) = true) : rot l fr (k + 1) = rot l fr k ++ [(((fr : Int) + (k : Int)) % (l.length : Int))] := by
  simp [rot, List.range_succ, List.filter_append, h]
theorem rot_no {l : List Bool} {fr k : Nat} (h : rdOf false l (((fr : Int) + (k : Int)) % (l.length : Int)) = false) : rot l fr (k + 1) = rot l fr k := by
  simp [rot, List.range_succ, List.filter_append, h]
theorem rot_len (l : List Bool) (fr k : Nat) : (rot l fr k).length ≤ k := by
  unfold rot
  exact Nat.le_trans (List.length_filter_le _ _) (by simp)

/-- What lay below n₀ lies as it lay, and so do two blocks. -/
def Kp (n₀ a b : Nat) (W W' : World) : Prop := Below n₀ W W' ∧ W'.heap[a]? = W.heap[a]? ∧ W'.heap[b]? = W.heap[b]?
theorem Kp.refl (n₀ a b : Nat) (W : World) : Kp n₀ a b W W := ⟨Below.refl _ _, rfl, rfl⟩
theorem Kp.trans {n₀ a b : Nat} {A B C : World} (h : Kp n₀ a b A B) (k : Kp n₀ a b B C) : Kp n₀ a b A C := ⟨h.1.trans k.1, k.2.1.trans h.2.1, k.2.2.trans h.2.2⟩
theorem kp_put {n₀ a b : Nat} {w : World} (hn : n₀ ≤ w.heap.size) (ha : a < w.heap.size) (hb : b < w.heap.size) :
    ∀ (W : World) (l : Nat) (o o' : Obj), w.heap.size ≤ l → W.heap[l]? = some o → o.isCells = false → o.isWalk = false → Kp n₀ a b W (W.putObj l o') :=
  fun W l o o' hl h1 h2 h3 => ⟨belowK_b (w := w) hn W l o o' hl h1 h2 h3, World.putObj_heap_other (by omega), World.putObj_heap_other (by omega)⟩

set_option maxRecDepth 100000 in
set_option maxHeartbeats 2000000 in
/-- The closure of 'able', for every body that keeps what lay below n₀. -/
theorem able1_in (F : Fence) (n : Nat) (h19 : F.fn 19) (hro : F.round = none) (hn : 1 ≤ n) (l Bs Bf n₀ fr c : Nat) (A : Option Addr) (xs : List Bool) (hlen : xs.length ≤ 140737488351232) (hfr : fr ≤ xs.length) (J Jx : List Int → World → Prop)
    (hY : ∀ pre x W, J pre W → pre.length < xs.length → YieldAt F (n - 1) Try.prog l #[.int .i64 x] W fun e W' =>
      (e = .returned (.bool true) ∧ J (pre ++ [x]) W' ∧ Kp n₀ Bs Bf W W') ∨ (e = .returned (.bool false) ∧ Jx (pre ++ [x]) W'))
    (W : World) (hBs : W.cell? ⟨Bs, 0, none⟩ = some (.slice A xs.length c)) (hBf : W.cell? ⟨Bf, 0, none⟩ = some (.int .i64 fr)) 
    (hC : ∀ W', Below n₀ W W' → Kd.C Kd.bool W' A xs.length xs) (h0 : J [] W) :
    CallsIn F n Try.prog 19 #[.func (.yield l) #[] #[], .pointer (some ⟨Bs, 0, none⟩), .pointer (some ⟨Bf, 0, none⟩)] W fun e W' => (∃ v, e = .returned v) ∧
      ((∃ ys, ys = rot xs fr xs.length ∧ J ys W') ∨ (∃ pre, (∃ k, k ≤ xs.length ∧ pre = rot xs fr k) ∧ Jx pre W')) := by
  refine callsIn_of_wp Try.func19 rfl h19 ?_ hro
  simp only [Try.ntmps19, List.size_toArray, List.length_cons, List.length_nil, Nat.reduceAdd, Nat.reduceSub, Array.replicate_succ, Array.replicate_zero, List.push_toArray, List.append_toArray, List.nil_append, List.cons_append]
  gi_wp2
  gi_loopw [8, 4, 5] (fun i _ _ wr => ∃ k : Nat, k ≤ xs.length ∧ i = .int .i64 k ∧ J (rot xs fr k) wr ∧ Kp n₀ Bs Bf W wr)
    (fun i _ _ _ => xs.length - (intOf i).toNat)
  case atStart => exact ⟨0, Nat.zero_le _, rfl, h0, Kp.refl _ _ _ _⟩
  case round =>
    obtain ⟨k, hk, rfl, hJs, hnx⟩ := hrel
    have hBs' := (World.cell?_of_block (a := ⟨Bs, 0, none⟩) hnx.2.1).trans hBs
    have hBf' := (World.cell?_of_block (a := ⟨Bf, 0, none⟩) hnx.2.2).trans hBf
    by_cases hlt : k < xs.length
    · have hlt' : (k : Int) < xs.length := by omega
      have e0 : 0 ≤ ((fr : Int) + (k : Int)) % (xs.length : Int) := Int.emod_nonneg _ (by omega)
      have e1 : ((fr : Int) + (k : Int)) % (xs.length : Int) < (xs.length : Int) := Int.emod_lt_of_pos _ (by omega)
      have hl0 : ((xs.length : Int) == 0) = false := beq_eq_false_iff_ne.2 (by omega)
      obtain ⟨ad, rfl, hcell⟩ := Kd.at_bool (hC _ hnx.1) _ e0 e1
      rw [show (((fr : Int) + (k : Int)) % (xs.length : Int)).toNat = (fr + k) % xs.length by rw [← Int.natCast_add, ← Int.natCast_emod]; exact Int.toNat_natCast _] at hcell
      obtain ⟨fn, tmps, assign, body, hy, hR⟩ := hY _ (((fr : Int) + (k : Int)) % (xs.length : Int)) wr hJs (by have := rot_len xs fr k; omega)
      cases hb : rdOf false xs (((fr : Int) + (k : Int)) % (xs.length : Int)) with
      | true =>
        rw [hb] at hcell
        have HB := Lib.hid hb
        clear hb
        gi_wp2
        refine hR.mono ?_
        rintro e W3 (⟨rfl, hJ3, hk3⟩ | ⟨rfl, hJx3⟩)
        · gi_wp2
          go_roundw
          case rel => exact ⟨k + 1, by omega, by go_num, by rw [rot_yes HB.out]; exact hJ3, hnx.trans hk3⟩
          case measure => simp [intOf]; omega
        · gi_wp2
          refine bodyPost_ret (results_none rfl _ _ _) rfl ?_
          exact ⟨⟨_, rfl⟩, .inr ⟨_, ⟨k + 1, by omega, (rot_yes HB.out).symm⟩, hJx3⟩⟩
      | false =>
        rw [hb] at hcell
        have HB := Lib.hid hb
        clear hb
        gi_wp2
        refine ⟨fun _ h => (by cases h), ?_⟩
        gi_wp2
        go_roundw
        case rel => exact ⟨k + 1, by omega, by go_num, by rw [rot_no HB.out]; exact hJs, hnx⟩
        case measure => simp [intOf]; omega
    · obtain rfl : k = xs.length := by omega
      gi_wp2
      go_end0
      exact ⟨⟨_, rfl⟩, .inl ⟨_, rfl, hJs⟩⟩

set_option maxHeartbeats 1000000 in
/-- 'able': the slice and the number are boxed; the function value holds both. -/
theorem able_in (F : Fence) (n : Nat) (h18 : F.fn 18) (hro : F.round = none) (a : Option Addr) (len cap : Nat) (fr : Int) (w : World) :
    CallsIn F n Try.prog 18 #[.slice a len cap, .int .i64 fr] w fun e w' => e = .returned (.func (.func 19) #[] #[.pointer (some ⟨w.heap.size, 0, none⟩), .pointer (some ⟨w.heap.size + 1, 0, none⟩)]) ∧ w' = (w.alloc (.cells #[.slice a len cap] 22)).alloc (.cells #[.int .i64 fr] 3) := by
  refine callsIn_of_wp Try.func18 rfl h18 ?_ hro
  simp only [Try.ntmps18, List.size_toArray, List.length_cons, List.length_nil, Nat.reduceAdd, Nat.reduceSub, Array.replicate_succ, Array.replicate_zero, List.push_toArray, List.append_toArray, List.nil_append, List.cons_append]
  gi_wp2
  go_ret
  exact ⟨rfl, rfl⟩

/-- 'able' hands back a value that has the contract of an iterator. -/
theorem able_stops (F : Fence) (n : Nat) (h19 : F.fn 19) (hro : F.round = none) (hn : 1 ≤ n) (Bs Bf n₀ fr c : Nat) (A : Option Addr) (xs : List Bool) (hlen : xs.length ≤ 140737488351232) (hfr : fr ≤ xs.length) (w0 w : World)
    (hBs : w.cell? ⟨Bs, 0, none⟩ = some (.slice A xs.length c)) (hBf : w.cell? ⟨Bf, 0, none⟩ = some (.int .i64 fr)) (hs : Bs < w.heap.size) (hf : Bf < w.heap.size) (hn₀ : n₀ = w0.heap.size) (hb : Below n₀ w0 w)
    (hC : Kd.C Kd.bool w0 A xs.length xs) :
    SeqStopsK F n Try.prog 19 #[.pointer (some ⟨Bs, 0, none⟩), .pointer (some ⟨Bf, 0, none⟩)] (fun x : Int => #[Value.int .i64 x]) (Kp n₀ Bs Bf) (fun ys => ys = rot xs fr xs.length) (fun pre => ∃ k, k ≤ xs.length ∧ pre = rot xs fr k) xs.length w := fun l J Jx W hW _ _ hY h0 => by
  subst hn₀
  exact able1_in F n h19 hro hn l Bs Bf _ fr c A xs hlen hfr J Jx hY W ((hW.cell (p := ⟨Bs, 0, none⟩) hs).trans hBs) ((hW.cell (p := ⟨Bf, 0, none⟩) hf).trans hBf)
    (fun W' h => Kd.C_below hC ((hb.trans (hW.mono hb.size)).trans h)) h0

/-- How many may go on. -/
def cntB (l : List Bool) : Int := ((rot l 0 l.length).length : Nat)

set_option maxRecDepth 100000 in
set_option maxHeartbeats 2000000 in
theorem count_in (F : Fence) (n : Nat) (h9 : F.fn 9) (h18 : F.fn 18) (h19 : F.fn 19) (hro : F.round = none) (hn : 3 ≤ n) (A : Option Addr) (cap : Nat) (xs : List Bool) (hlen : xs.length ≤ 140737488351232) (w : World) (hC : Kd.C Kd.bool w A xs.length xs) :
    CallsIn F n Try.prog 9 #[.slice A xs.length cap] w fun e W' => e = .returned (.int .i64 (cntB xs)) ∧ Below w.heap.size w W' := by
  have h1 : 1 ≤ n := by omega
  refine callsIn_of_wp_marks Try.func9 rfl h9 ?_ hro
  simp only [Try.ntmps9, List.size_toArray, List.length_cons, List.length_nil, Nat.reduceAdd, Nat.reduceSub, Array.replicate_succ, Array.replicate_zero, List.push_toArray, List.append_toArray, List.nil_append, List.cons_append]
  have HC := Lib.hid hC
  clear hC
  gi_wp2_with (gi_at_call 18; refine (able_in F (n - 1) h18 hro _ _ _ _ _).mono ?_; rintro e w' ⟨rfl, rfl⟩)
  have bN := Boxed.new w 3 (.int .i64 0)
  have bS := Boxed.new (w.alloc (.cells #[.int .i64 0] 3)) 22 (.slice A xs.length cap)
  have bF := Boxed.new ((w.alloc (.cells #[.int .i64 0] 3)).alloc (.cells #[.slice A xs.length cap] 22)) 3 (.int .i64 0)
  rw [World.size_alloc] at bS
  rw [World.size_alloc, World.size_alloc] at bF
  have hB0 : Below w.heap.size w (((w.alloc (.cells #[.int .i64 0] 3)).alloc (.cells #[.slice A xs.length cap] 22)).alloc (.cells #[.int .i64 0] 3)) := (((Below.refl _ w).alloc (Nat.le_refl _) _).alloc (by simp) _).alloc (by simp; omega) _
  have hst := able_stops F (n - 1) h19 hro (by omega) (w.heap.size + 1) (w.heap.size + 1 + 1) w.heap.size 0 cap A xs hlen (by omega) w _ (bS.alloc _).cell bF.cell (by simp) (by simp) rfl hB0 HC.out
  refine wpIn_rangeFunc_ownG hro h1 (gf := 19) (lb := #[.pointer (some ⟨w.heap.size + 1, 0, none⟩), .pointer (some ⟨w.heap.size + 1 + 1, 0, none⟩)]) rfl h19 (enters_of Try.func19 (by kernel_rfl) rfl)
    hst (fun h k => h.trans k) (kp_put (by simp; omega) (by simp) (by simp)) (Below.refl _ _) (fun _ => rfl)
    (fun pre W => (W.cell? ⟨w.heap.size, 0, none⟩ = some (.int .i64 (pre.length : Nat)) ∧ W.frozen? ⟨w.heap.size, 0, none⟩ = false) ∧ Below w.heap.size w W)
    (fun _ _ _ => False)
    (OwnFrom.and (Own.from (fun s A B row hs hg hr => ⟨cell_kept hs.1 hg hr, (frozen_kept hs.1 hg hr).trans hs.2⟩) _) (ownFrom_below (Nat.le_refl _) (by simp; omega)))
    (fun _ _ _ _ _ hs _ _ => hs)
    ⟨⟨((bN.alloc _).alloc _).cell, ((bN.alloc _).alloc _).frozen⟩, hB0⟩
    (fun x => { tmps := #[.slice A xs.length cap, undef, .int .i64 0, .pointer (some ⟨w.heap.size, 0, none⟩), .slice A xs.length cap, .func (.func 19) #[] #[.pointer (some ⟨w.heap.size + 1, 0, none⟩), .pointer (some ⟨w.heap.size + 1 + 1, 0, none⟩)], .int .i64 x, undef, undef, undef], defers := [] }) ?assign ?body ?done ?stop
  case assign =>
    intro l x W K hK
    gi_wp2
    simpa using hK
  case body =>
    rintro l pre x W ⟨⟨hc, hf⟩, hB⟩ hpre
    have hpl : (pre.length : Int) < 9223372036854775807 := by omega
    gi_wp2
    exact ⟨(KeepsOthers.setCell _ _ _).from _, ⟨(Below.refl w.heap.size W).setCell (p := ⟨w.heap.size, 0, none⟩) (Nat.le_refl _) _, Below.heap_setCell _ _ _ _ (by simp), Below.heap_setCell _ _ _ _ (by simp; omega)⟩, ⟨by rw [World.cell?_setCell_same' _ _ _ (by rw [hc]; rfl)]; simp, by rw [World.frozen?_setCell]; exact hf⟩, hB.setCell (p := ⟨w.heap.size, 0, none⟩) (Nat.le_refl _) _⟩
  case done =>
    rintro D ys W hD rfl ⟨⟨hc, _⟩, hB⟩ hK
    gi_wp2
    refine ⟨by simp, .inl ⟨_, _, rfl, run_takeDeferred hK, ?_⟩⟩
    exact ⟨_, results_tmp rfl _ _ _, rfl, hB.trans (belowK_b (w := w) (Nat.le_refl _) W D _ _ (by simp at hD; omega) hK rfl rfl)⟩
  case stop =>
    rintro D c pre W _ _ h _
    exact h.elim

theorem count_any (A : Option Addr) (cap : Nat) (xs : List Bool) (hlen : xs.length ≤ 140737488351232) (w : World) (hC : Kd.C Kd.bool w A xs.length xs) :
    Calls Try.prog 9 #[.slice A xs.length cap] w fun e W' => e = .returned (.int .i64 (cntB xs)) ∧ Below w.heap.size w W' :=
  callsIn_wide.1 (count_in Fence.wide 3 trivial trivial trivial rfl (Nat.le_refl _) A cap xs hlen w hC)

theorem rot_prefix (l : List Bool) (fr : Nat) {j k : Nat} (h : j ≤ k) : rot l fr j <+: rot l fr k := by
  obtain ⟨d, rfl⟩ := Nat.exists_eq_add_of_le h
  unfold rot
  rw [List.range_add, List.map_append, List.filter_append]
  exact List.prefix_append _ _
theorem cntB_nonneg (l : List Bool) : 0 ≤ cntB l := by unfold cntB; omega
theorem cntB_le (l : List Bool) : cntB l ≤ l.length := by
  have := rot_len l 0 l.length
  unfold cntB; omega

/-- Who is picked. -/
def pickB (l : List Bool) (n : Int) : Int := if cntB l = 0 ∨ n < 0 then -1 else (rot l 0 l.length).getD (n % cntB l).toNat (-1)
theorem pickB_none {l : List Bool} {n : Int} (h : cntB l = 0 ∨ n < 0) : pickB l n = -1 := by unfold pickB; rw [if_pos h]
theorem pickB_some {l : List Bool} {n : Int} (h1 : cntB l ≠ 0) (h2 : 0 ≤ n) {k : Nat} (hk : k ≤ l.length) {ini : List Int} {x : Int} (e : ini ++ [x] = rot l 0 k) (hm : (ini.length : Int) = n % cntB l) : pickB l n = x := by
  unfold pickB
  rw [if_neg (by omega), ← hm, Int.toNat_natCast]
  obtain ⟨t, ht⟩ := rot_prefix l 0 hk
  rw [← ht, ← e]
  simp

set_option maxRecDepth 100000 in
set_option maxHeartbeats 4000000 in
theorem pick_in (F : Fence) (n : Nat) (h9 : F.fn 9) (h11 : F.fn 11) (h18 : F.fn 18) (h19 : F.fn 19) (hro : F.round = none) (hn : 4 ≤ n) (A : Option Addr) (cap : Nat) (xs : List Bool) (m : Int) (hlen : xs.length ≤ 140737488351232) (w : World) (hC : Kd.C Kd.bool w A xs.length xs) :
    CallsIn F n Try.prog 11 #[.slice A xs.length cap, .int .i64 m] w fun e W' => e = .returned (.int .i64 (pickB xs m)) ∧ Below w.heap.size w W' := by
  have h1 : 1 ≤ n := by omega
  refine callsIn_of_wp_marks Try.func11 rfl h11 ?_ hro
  simp only [Try.ntmps11, List.size_toArray, List.length_cons, List.length_nil, Nat.reduceAdd, Nat.reduceSub, Array.replicate_succ, Array.replicate_zero, List.push_toArray, List.append_toArray, List.nil_append, List.cons_append]
  have c0 := cntB_nonneg xs
  have c1 := cntB_le xs
  have HC := Lib.hid hC
  clear hC
  by_cases hM : cntB xs = 0 ∨ m < 0
  · have hp := pickB_none hM
    by_cases hz : cntB xs = 0
    · have HZ := Lib.hid hz
      have HP := Lib.hid hp
      have hz' : (cntB xs == 0) = true := beq_iff_eq.2 hz
      clear hM hz hp
      gi_wp2_with (gi_at_call 9; refine (count_in F (n - 1) h9 h18 h19 hro (by omega) _ _ _ hlen _ (Kd.C_alloc HC.out _)).mono ?_; rintro e w1 ⟨rfl, hb1⟩; have bR : Boxed w1 w.heap.size 3 (.int .i64 0) := (hb1.block w.heap.size (by simp)).trans (Boxed.new w 3 _); have hcR := bR.cell; have hfR := bR.frozen)
      refine ⟨.int .i64 (-1), ?_, by rw [HP.out], (((Below.refl _ w).alloc (Nat.le_refl _) _).trans (hb1.mono (by simp))).setCell (p := ⟨w.heap.size, 0, none⟩) (Nat.le_refl _) _⟩
      simp [results, Try.f11, go_sem, hcR]
    · have HP := Lib.hid hp
      have hm0 : m < 0 := by omega
      have hz' : (cntB xs == 0) = false := beq_eq_false_iff_ne.2 hz
      have hm1 : decide (m < 0) = true := by simp; omega
      clear hM hz hp
      gi_wp2_with (gi_at_call 9; refine (count_in F (n - 1) h9 h18 h19 hro (by omega) _ _ _ hlen _ (Kd.C_alloc HC.out _)).mono ?_; rintro e w1 ⟨rfl, hb1⟩; have bR : Boxed w1 w.heap.size 3 (.int .i64 0) := (hb1.block w.heap.size (by simp)).trans (Boxed.new w 3 _); have hcR := bR.cell; have hfR := bR.frozen)
      refine ⟨.int .i64 (-1), ?_, by rw [HP.out], (((Below.refl _ w).alloc (Nat.le_refl _) _).trans (hb1.mono (by simp))).setCell (p := ⟨w.heap.size, 0, none⟩) (Nat.le_refl _) _⟩
      simp [results, Try.f11, go_sem, hcR]
  · have hM0 : (cntB xs == 0) = false := beq_eq_false_iff_ne.2 (by omega)
    have hm0 : 0 ≤ m := by omega
    have hpos : 0 < cntB xs := by omega
    have hm1 : decide (m < 0) = false := by simp; omega
    have e0 : 0 ≤ m % cntB xs := Int.emod_nonneg _ (by omega)
    have e1 : m % cntB xs < cntB xs := Int.emod_lt_of_pos _ hpos
    clear hM
    gi_wp2_with (gi_at_call 9; refine (count_in F (n - 1) h9 h18 h19 hro (by omega) _ _ _ hlen _ (Kd.C_alloc HC.out _)).mono ?_; rintro e w1 ⟨rfl, hb1⟩)
    refine (able_in F (n - 1) h18 hro _ _ _ _ _).mono ?_
    rintro e w' ⟨rfl, rfl⟩
    gi_wp2
    have hz1 : w.heap.size + 1 ≤ w1.heap.size := by have := hb1.size; simpa using this
    have hB1 : Below w.heap.size w w1 := ((Below.refl _ w).alloc (Nat.le_refl _) _).trans (hb1.mono (by simp))
    have bR : Boxed w1 w.heap.size 3 (.int .i64 0) := (hb1.block w.heap.size (by simp)).trans (Boxed.new w 3 (.int .i64 0))
    have bL := Boxed.new w1 3 (.int .i64 (m % cntB xs))
    have bS := Boxed.new (w1.alloc (.cells #[.int .i64 (m % cntB xs)] 3)) 22 (.slice A xs.length cap)
    have bF := Boxed.new ((w1.alloc (.cells #[.int .i64 (m % cntB xs)] 3)).alloc (.cells #[.slice A xs.length cap] 22)) 3 (.int .i64 0)
    rw [World.size_alloc] at bS
    rw [World.size_alloc, World.size_alloc] at bF
    have hB0 : Below w.heap.size w (((w1.alloc (.cells #[.int .i64 (m % cntB xs)] 3)).alloc (.cells #[.slice A xs.length cap] 22)).alloc (.cells #[.int .i64 0] 3)) := ((hB1.alloc (by omega) _).alloc (by simp; omega) _).alloc (by simp; omega) _
    have hst := able_stops F (n - 1) h19 hro (by omega) (w1.heap.size + 1) (w1.heap.size + 1 + 1) w.heap.size 0 cap A xs hlen (by omega) w _ (bS.alloc _).cell bF.cell (by simp) (by simp) rfl hB0 HC.out
    refine wpIn_rangeFunc_ownG hro h1 (gf := 19) (lb := #[.pointer (some ⟨w1.heap.size + 1, 0, none⟩), .pointer (some ⟨w1.heap.size + 1 + 1, 0, none⟩)]) rfl h19 (enters_of Try.func19 (by kernel_rfl) rfl)
      hst (fun h k => h.trans k) (kp_put (by simp; omega) (by simp) (by simp)) (Below.refl _ _) (fun _ => rfl)
      (fun pre W => (((pre.length : Int) ≤ m % cntB xs) ∧ W.cell? ⟨w1.heap.size, 0, none⟩ = some (.int .i64 (m % cntB xs - (pre.length : Nat))) ∧ W.frozen? ⟨w1.heap.size, 0, none⟩ = false ∧ (∃ v, W.cell? ⟨w.heap.size, 0, none⟩ = some v) ∧ W.frozen? ⟨w.heap.size, 0, none⟩ = false) ∧ Below w.heap.size w W)
      (fun c pre W => (c = .ret ∧ ∃ ini x, pre = ini ++ [x] ∧ (ini.length : Int) = m % cntB xs ∧ W.cell? ⟨w.heap.size, 0, none⟩ = some (.int .i64 x)) ∧ Below w.heap.size w W)
      (OwnFrom.and (Own.from (fun s A B row hs hg hr => ⟨hs.1, cell_kept hs.2.1 hg hr, (frozen_kept hs.2.1 hg hr).trans hs.2.2.1, (by obtain ⟨v, hv⟩ := hs.2.2.2.1; exact ⟨v, cell_kept hv hg hr⟩), (by obtain ⟨v, hv⟩ := hs.2.2.2.1; exact (frozen_kept hv hg hr).trans hs.2.2.2.2)⟩) _) (ownFrom_below (Nat.le_refl _) (by simp; omega)))
      (fun c => OwnFrom.and (Own.from (fun s A B row hs hg hr => by obtain ⟨hc, ini, last, e1, e2, e4⟩ := hs; exact ⟨hc, ini, last, e1, e2, cell_kept e4 hg hr⟩) _) (ownFrom_below (Nat.le_refl _) (by simp; omega)))
      ⟨⟨e0, by simpa using ((bL.alloc _).alloc _).cell, ((bL.alloc _).alloc _).frozen, ⟨_, (((bR.alloc _).alloc _).alloc _).cell⟩, (((bR.alloc _).alloc _).alloc _).frozen⟩, hB0⟩
      (fun x => { tmps := #[.slice A xs.length cap, .int .i64 m, undef, undef, .pointer (some ⟨w.heap.size, 0, none⟩), .int .i64 (cntB xs), .pointer (some ⟨w1.heap.size, 0, none⟩), .int .i64 x, .slice A xs.length cap, .int .i64 (cntB xs), .int .i64 (cntB xs), .bool false, .bool false, .int .i64 m, .bool false, .bool false, .int .i64 m, .int .i64 (cntB xs), .int .i64 (m % cntB xs), .slice A xs.length cap, .func (.func 19) #[] #[.pointer (some ⟨w1.heap.size + 1, 0, none⟩), .pointer (some ⟨w1.heap.size + 1 + 1, 0, none⟩)], .int .i64 x, undef, undef, undef, undef, undef], defers := [] }) ?assign ?body ?done ?stop
    case assign =>
      intro l x W K hK
      gi_wp2
      simpa using hK
    case body =>
      rintro l pre x W ⟨⟨hle, hcL, hfL, ⟨v, hcR⟩, hfR⟩, hB⟩ hpre
      by_cases hz : m % cntB xs - (pre.length : Nat) = 0
      · have hL := Lib.hid (show (pre.length : Int) = m % cntB xs by omega)
        rw [hz] at hcL
        clear hz
        gi_wp2
        exact ⟨(KeepsOthers.setCell _ _ _).from _, ⟨rfl, pre, x, rfl, hL.out, World.cell?_setCell_same' _ _ _ (by rw [hcR]; rfl)⟩, hB.setCell (p := ⟨w.heap.size, 0, none⟩) (Nat.le_refl _) _⟩
      · have hz' : (m % cntB xs - (pre.length : Nat) == 0) = false := beq_eq_false_iff_ne.2 hz
        have hz2 : 0 ≤ m % cntB xs - (pre.length : Nat) := by omega
        have hz3 : m % cntB xs - (pre.length : Nat) ≤ 9223372036854775807 := by omega
        gi_wp2
        have hR1 : (W.setCell ⟨w1.heap.size, 0, none⟩ (.int .i64 (m % cntB xs - (pre.length : Nat) - 1))).heap[w.heap.size]? = W.heap[w.heap.size]? := Below.heap_setCell _ _ _ _ (by simp; omega)
        exact ⟨(KeepsOthers.setCell _ _ _).from _, ⟨(Below.refl w.heap.size W).setCell (p := ⟨w1.heap.size, 0, none⟩) (by simp; omega) _, Below.heap_setCell _ _ _ _ (by simp), Below.heap_setCell _ _ _ _ (by simp; omega)⟩,
          ⟨by simp; omega, by rw [World.cell?_setCell_same' _ _ _ (by rw [hcL]; rfl)]; simp; omega, by rw [World.frozen?_setCell]; exact hfL, ⟨v, (World.cell?_of_block (a := ⟨w.heap.size, 0, none⟩) hR1).trans hcR⟩, by rw [World.frozen?_setCell]; exact hfR⟩, hB.setCell (p := ⟨w1.heap.size, 0, none⟩) (by simp; omega) _⟩
    case done =>
      rintro D ys W hD rfl ⟨⟨hle, _⟩, _⟩ hK
      exact absurd hle (by have : cntB xs = ((rot xs 0 xs.length).length : Nat) := rfl; omega)
    case stop =>
      rintro D c pre W hD ⟨k, hk, rfl⟩ ⟨⟨rfl, ini, x, he, hl, hcR⟩, hB⟩ hK
      gi_wp2
      refine ⟨by simp, .inl ⟨_, _, rfl, run_takeDeferred hK, ?_⟩⟩
      have hc5 := cell_kept hcR (grownBy_putObj' _ D (.deferred none)) (fun r e => by cases e; exact ⟨_, hK, rfl⟩)
      refine ⟨.int .i64 x, ?_, by rw [pickB_some (by omega) hm0 hk he.symm hl], hB.trans (belowK_b (w := w) (Nat.le_refl _) W D _ _ (by simp at hD; omega) hK rfl rfl)⟩
      simp [results, Try.f11, go_sem, hc5]


theorem pick_any (A : Option Addr) (cap : Nat) (xs : List Bool) (m : Int) (hlen : xs.length ≤ 140737488351232) (w : World) (hC : Kd.C Kd.bool w A xs.length xs) :
    Calls Try.prog 11 #[.slice A xs.length cap, .int .i64 m] w fun e W' => e = .returned (.int .i64 (pickB xs m)) ∧ Below w.heap.size w W' :=
  callsIn_wide.1 (pick_in Fence.wide 4 trivial trivial trivial trivial rfl (Nat.le_refl _) A cap xs m hlen w hC)

/-- From where the next one is sought. -/
def fromB (l : List Bool) (last : Int) : Nat := if 0 ≤ last ∧ last < l.length then (last + 1).toNat else 0
theorem fromB_le (l : List Bool) (last : Int) : fromB l last ≤ l.length := by unfold fromB; split <;> omega
/-- Who is next. -/
def nextB (l : List Bool) (last : Int) : Int := (rot l (fromB l last) l.length).headD (-1)
theorem nextB_none {l : List Bool} {last : Int} (h : rot l (fromB l last) l.length = []) : nextB l last = -1 := by unfold nextB; rw [h]; rfl
theorem nextB_some {l : List Bool} {last : Int} {k : Nat} (hk : k ≤ l.length) {x : Int} (e : [x] = rot l (fromB l last) k) : nextB l last = x := by
  unfold nextB
  obtain ⟨t, ht⟩ := rot_prefix l (fromB l last) hk
  rw [← ht, ← e]
  simp

set_option maxRecDepth 100000 in
set_option maxHeartbeats 4000000 in
/-- Next, from where its number of beginning is known. -/
theorem next_in (F : Fence) (n : Nat) (h13 : F.fn 13) (h18 : F.fn 18) (h19 : F.fn 19) (hro : F.round = none) (hn : 4 ≤ n) (A : Option Addr) (cap : Nat) (xs : List Bool) (last : Int) (hlen : xs.length ≤ 140737488351232) (w : World) (hC : Kd.C Kd.bool w A xs.length xs) :
    CallsIn F n Try.prog 13 #[.slice A xs.length cap, .int .i64 last] w fun e W' => e = .returned (.int .i64 (nextB xs last)) ∧ Below w.heap.size w W' := by
  have h1 : 1 ≤ n := by omega
  refine callsIn_of_wp_marks Try.func13 rfl h13 ?_ hro
  simp only [Try.ntmps13, List.size_toArray, List.length_cons, List.length_nil, Nat.reduceAdd, Nat.reduceSub, Array.replicate_succ, Array.replicate_zero, List.push_toArray, List.append_toArray, List.nil_append, List.cons_append]
  have HC := Lib.hid hC
  clear hC
  by_cases hA : 0 ≤ last
  · by_cases hB : last < xs.length
    · have hA1 : decide (0 ≤ last) = true := by simp; omega
      have hB1 : decide (last < (xs.length : Int)) = true := by simp; omega
      have hmx : last + 1 ≤ 9223372036854775807 := by omega
      obtain ⟨fr, hfr⟩ : ∃ fr : Nat, fr = fromB xs last := ⟨_, rfl⟩
      have hle := fromB_le xs last
      rw [← hfr] at hle
      have hfl : last + 1 = (fr : Int) := by unfold fromB at hfr; rw [if_pos ⟨hA, hB⟩] at hfr; omega
      have HF := Lib.hid hfr
      have HL := Lib.hid hfl
      clear hfr hfl
      gi_wp2_with fail
      rw [HL.out]
      refine (able_in F (n - 1) h18 hro _ _ _ _ _).mono ?_
      rintro e w' ⟨rfl, rfl⟩
      gi_wp2
      have bR := Boxed.new w 3 (.int .i64 0)
      have bS := Boxed.new (w.alloc (.cells #[.int .i64 0] 3)) 22 (.slice A xs.length cap)
      have bF := Boxed.new ((w.alloc (.cells #[.int .i64 0] 3)).alloc (.cells #[.slice A xs.length cap] 22)) 3 (.int .i64 (fr : Int))
      rw [World.size_alloc] at bS
      rw [World.size_alloc, World.size_alloc] at bF
      have hB0 : Below w.heap.size w (((w.alloc (.cells #[.int .i64 0] 3)).alloc (.cells #[.slice A xs.length cap] 22)).alloc (.cells #[.int .i64 (fr : Int)] 3)) := (((Below.refl _ w).alloc (Nat.le_refl _) _).alloc (by simp) _).alloc (by simp; omega) _
      have hst := able_stops F (n - 1) h19 hro (by omega) (w.heap.size + 1) (w.heap.size + 1 + 1) w.heap.size fr cap A xs hlen hle w _ (bS.alloc _).cell bF.cell (by simp) (by simp) rfl hB0 HC.out
      refine wpIn_rangeFunc_ownG hro h1 (gf := 19) (lb := #[.pointer (some ⟨w.heap.size + 1, 0, none⟩), .pointer (some ⟨w.heap.size + 1 + 1, 0, none⟩)]) rfl h19 (enters_of Try.func19 (by kernel_rfl) rfl)
        hst (fun h k => h.trans k) (kp_put (by simp; omega) (by simp) (by simp)) (Below.refl _ _) (fun _ => rfl)
        (fun pre W => (pre = [] ∧ W.cell? ⟨w.heap.size, 0, none⟩ = some (.int .i64 0) ∧ W.frozen? ⟨w.heap.size, 0, none⟩ = false) ∧ Below w.heap.size w W)
        (fun c pre W => (c = .ret ∧ ∃ x, pre = [x] ∧ W.cell? ⟨w.heap.size, 0, none⟩ = some (.int .i64 x)) ∧ Below w.heap.size w W)
        (OwnFrom.and (Own.from (fun s A B row hs hg hr => ⟨hs.1, cell_kept hs.2.1 hg hr, (frozen_kept hs.2.1 hg hr).trans hs.2.2⟩) _) (ownFrom_below (Nat.le_refl _) (by simp; omega)))
        (fun c => OwnFrom.and (Own.from (fun s A B row hs hg hr => by obtain ⟨hc, x, e1, e4⟩ := hs; exact ⟨hc, x, e1, cell_kept e4 hg hr⟩) _) (ownFrom_below (Nat.le_refl _) (by simp; omega)))
        ⟨⟨rfl, ((bR.alloc _).alloc _).cell, ((bR.alloc _).alloc _).frozen⟩, hB0⟩
        (fun x => { tmps := #[.slice A xs.length cap, .int .i64 last, undef, undef, .pointer (some ⟨w.heap.size, 0, none⟩), .int .i64 (fr : Int), .int .i64 x, .int .i64 last, .bool true, .bool true, .int .i64 last, .slice A xs.length cap, .int .i64 (xs.length : Int), .bool true, .bool true, .int .i64 last, .int .i64 (fr : Int), .slice A xs.length cap, .int .i64 (fr : Int), .func (.func 19) #[] #[.pointer (some ⟨w.heap.size + 1, 0, none⟩), .pointer (some ⟨w.heap.size + 1 + 1, 0, none⟩)], .int .i64 x, undef], defers := [] }) ?assign ?body ?done ?stop
      case assign =>
        intro l x W K hK
        gi_wp2
        simpa using hK
      case body =>
        rintro l pre x W ⟨⟨rfl, hcR, hfR⟩, hB⟩ hpre
        gi_wp2
        exact ⟨(KeepsOthers.setCell _ _ _).from _, ⟨rfl, x, rfl, World.cell?_setCell_same' _ _ _ (by rw [hcR]; rfl)⟩, hB.setCell (p := ⟨w.heap.size, 0, none⟩) (Nat.le_refl _) _⟩
      case done =>
        rintro D ys W hD rfl ⟨⟨hne, hcR, hfR⟩, hB⟩ hK
        have HN := Lib.hid hne
        clear hne
        gi_wp2
        have hK' := (KeepsOthers.setCell W ⟨w.heap.size, 0, none⟩ (.int .i64 (-1))).same D _ hK rfl
        refine ⟨by simp, .inl ⟨_, _, rfl, run_takeDeferred hK', ?_⟩⟩
        have hc5 := cell_kept (World.cell?_setCell_same' W ⟨w.heap.size, 0, none⟩ (.int .i64 (-1)) (by rw [hcR]; rfl)) (grownBy_putObj' _ D (.deferred none)) (fun r e => by cases e; exact ⟨_, hK', rfl⟩)
        refine ⟨.int .i64 (-1), ?_, by rw [nextB_none (by rw [← HF.out]; exact HN.out)], (hB.setCell (p := ⟨w.heap.size, 0, none⟩) (Nat.le_refl _) _).trans (belowK_b (w := w) (Nat.le_refl _) _ D _ _ (by simp at hD; omega) hK' rfl rfl)⟩
        simp [results, Try.f13, go_sem, hc5]
      case stop =>
        rintro D c pre W hD ⟨k, hk, rfl⟩ ⟨⟨rfl, x, he, hcR⟩, hB⟩ hK
        have HE := Lib.hid he
        clear he
        gi_wp2
        refine ⟨by simp, .inl ⟨_, _, rfl, run_takeDeferred hK, ?_⟩⟩
        have hc5 := cell_kept hcR (grownBy_putObj' _ D (.deferred none)) (fun r e => by cases e; exact ⟨_, hK, rfl⟩)
        refine ⟨.int .i64 x, ?_, by rw [nextB_some hk (by rw [← HF.out]; exact HE.out.symm)], hB.trans (belowK_b (w := w) (Nat.le_refl _) W D _ _ (by simp at hD; omega) hK rfl rfl)⟩
        simp [results, Try.f13, go_sem, hc5]
    · have hA1 : decide (0 ≤ last) = true := by simp; omega
      have hB1 : decide (last < (xs.length : Int)) = false := by simp; omega
      have hfr : 0 = fromB xs last := by unfold fromB; rw [if_neg (by omega)]
      have hle : 0 ≤ xs.length := Nat.zero_le _
      have HF := Lib.hid hfr
      clear hfr
      gi_wp2_with fail
      refine (able_in F (n - 1) h18 hro _ _ _ _ _).mono ?_
      rintro e w' ⟨rfl, rfl⟩
      gi_wp2
      have bR := Boxed.new w 3 (.int .i64 0)
      have bS := Boxed.new (w.alloc (.cells #[.int .i64 0] 3)) 22 (.slice A xs.length cap)
      have bF := Boxed.new ((w.alloc (.cells #[.int .i64 0] 3)).alloc (.cells #[.slice A xs.length cap] 22)) 3 (.int .i64 0)
      rw [World.size_alloc] at bS
      rw [World.size_alloc, World.size_alloc] at bF
      have hB0 : Below w.heap.size w (((w.alloc (.cells #[.int .i64 0] 3)).alloc (.cells #[.slice A xs.length cap] 22)).alloc (.cells #[.int .i64 0] 3)) := (((Below.refl _ w).alloc (Nat.le_refl _) _).alloc (by simp) _).alloc (by simp; omega) _
      have hst := able_stops F (n - 1) h19 hro (by omega) (w.heap.size + 1) (w.heap.size + 1 + 1) w.heap.size 0 cap A xs hlen hle w _ (bS.alloc _).cell bF.cell (by simp) (by simp) rfl hB0 HC.out
      refine wpIn_rangeFunc_ownG hro h1 (gf := 19) (lb := #[.pointer (some ⟨w.heap.size + 1, 0, none⟩), .pointer (some ⟨w.heap.size + 1 + 1, 0, none⟩)]) rfl h19 (enters_of Try.func19 (by kernel_rfl) rfl)
        hst (fun h k => h.trans k) (kp_put (by simp; omega) (by simp) (by simp)) (Below.refl _ _) (fun _ => rfl)
        (fun pre W => (pre = [] ∧ W.cell? ⟨w.heap.size, 0, none⟩ = some (.int .i64 0) ∧ W.frozen? ⟨w.heap.size, 0, none⟩ = false) ∧ Below w.heap.size w W)
        (fun c pre W => (c = .ret ∧ ∃ x, pre = [x] ∧ W.cell? ⟨w.heap.size, 0, none⟩ = some (.int .i64 x)) ∧ Below w.heap.size w W)
        (OwnFrom.and (Own.from (fun s A B row hs hg hr => ⟨hs.1, cell_kept hs.2.1 hg hr, (frozen_kept hs.2.1 hg hr).trans hs.2.2⟩) _) (ownFrom_below (Nat.le_refl _) (by simp; omega)))
        (fun c => OwnFrom.and (Own.from (fun s A B row hs hg hr => by obtain ⟨hc, x, e1, e4⟩ := hs; exact ⟨hc, x, e1, cell_kept e4 hg hr⟩) _) (ownFrom_below (Nat.le_refl _) (by simp; omega)))
        ⟨⟨rfl, ((bR.alloc _).alloc _).cell, ((bR.alloc _).alloc _).frozen⟩, hB0⟩
        (fun x => { tmps := #[.slice A xs.length cap, .int .i64 last, undef, undef, .pointer (some ⟨w.heap.size, 0, none⟩), .int .i64 0, .int .i64 x, .int .i64 last, .bool true, .bool true, .int .i64 last, .slice A xs.length cap, .int .i64 (xs.length : Int), .bool false, .bool false, undef, undef, .slice A xs.length cap, .int .i64 0, .func (.func 19) #[] #[.pointer (some ⟨w.heap.size + 1, 0, none⟩), .pointer (some ⟨w.heap.size + 1 + 1, 0, none⟩)], .int .i64 x, undef], defers := [] }) ?assign ?body ?done ?stop
      case assign =>
        intro l x W K hK
        gi_wp2
        simpa using hK
      case body =>
        rintro l pre x W ⟨⟨rfl, hcR, hfR⟩, hB⟩ hpre
        gi_wp2
        exact ⟨(KeepsOthers.setCell _ _ _).from _, ⟨rfl, x, rfl, World.cell?_setCell_same' _ _ _ (by rw [hcR]; rfl)⟩, hB.setCell (p := ⟨w.heap.size, 0, none⟩) (Nat.le_refl _) _⟩
      case done =>
        rintro D ys W hD rfl ⟨⟨hne, hcR, hfR⟩, hB⟩ hK
        have HN := Lib.hid hne
        clear hne
        gi_wp2
        have hK' := (KeepsOthers.setCell W ⟨w.heap.size, 0, none⟩ (.int .i64 (-1))).same D _ hK rfl
        refine ⟨by simp, .inl ⟨_, _, rfl, run_takeDeferred hK', ?_⟩⟩
        have hc5 := cell_kept (World.cell?_setCell_same' W ⟨w.heap.size, 0, none⟩ (.int .i64 (-1)) (by rw [hcR]; rfl)) (grownBy_putObj' _ D (.deferred none)) (fun r e => by cases e; exact ⟨_, hK', rfl⟩)
        refine ⟨.int .i64 (-1), ?_, by rw [nextB_none (by rw [← HF.out]; exact HN.out)], (hB.setCell (p := ⟨w.heap.size, 0, none⟩) (Nat.le_refl _) _).trans (belowK_b (w := w) (Nat.le_refl _) _ D _ _ (by simp at hD; omega) hK' rfl rfl)⟩
        simp [results, Try.f13, go_sem, hc5]
      case stop =>
        rintro D c pre W hD ⟨k, hk, rfl⟩ ⟨⟨rfl, x, he, hcR⟩, hB⟩ hK
        have HE := Lib.hid he
        clear he
        gi_wp2
        refine ⟨by simp, .inl ⟨_, _, rfl, run_takeDeferred hK, ?_⟩⟩
        have hc5 := cell_kept hcR (grownBy_putObj' _ D (.deferred none)) (fun r e => by cases e; exact ⟨_, hK, rfl⟩)
        refine ⟨.int .i64 x, ?_, by rw [nextB_some hk (by rw [← HF.out]; exact HE.out.symm)], hB.trans (belowK_b (w := w) (Nat.le_refl _) W D _ _ (by simp at hD; omega) hK rfl rfl)⟩
        simp [results, Try.f13, go_sem, hc5]
  · have hA1 : decide (0 ≤ last) = false := by simp; omega
    have hfr : 0 = fromB xs last := by unfold fromB; rw [if_neg (by omega)]
    have hle : 0 ≤ xs.length := Nat.zero_le _
    have HF := Lib.hid hfr
    clear hfr
    gi_wp2_with fail
    refine (able_in F (n - 1) h18 hro _ _ _ _ _).mono ?_
    rintro e w' ⟨rfl, rfl⟩
    gi_wp2
    have bR := Boxed.new w 3 (.int .i64 0)
    have bS := Boxed.new (w.alloc (.cells #[.int .i64 0] 3)) 22 (.slice A xs.length cap)
    have bF := Boxed.new ((w.alloc (.cells #[.int .i64 0] 3)).alloc (.cells #[.slice A xs.length cap] 22)) 3 (.int .i64 0)
    rw [World.size_alloc] at bS
    rw [World.size_alloc, World.size_alloc] at bF
    have hB0 : Below w.heap.size w (((w.alloc (.cells #[.int .i64 0] 3)).alloc (.cells #[.slice A xs.length cap] 22)).alloc (.cells #[.int .i64 0] 3)) := (((Below.refl _ w).alloc (Nat.le_refl _) _).alloc (by simp) _).alloc (by simp; omega) _
    have hst := able_stops F (n - 1) h19 hro (by omega) (w.heap.size + 1) (w.heap.size + 1 + 1) w.heap.size 0 cap A xs hlen hle w _ (bS.alloc _).cell bF.cell (by simp) (by simp) rfl hB0 HC.out
    refine wpIn_rangeFunc_ownG hro h1 (gf := 19) (lb := #[.pointer (some ⟨w.heap.size + 1, 0, none⟩), .pointer (some ⟨w.heap.size + 1 + 1, 0, none⟩)]) rfl h19 (enters_of Try.func19 (by kernel_rfl) rfl)
      hst (fun h k => h.trans k) (kp_put (by simp; omega) (by simp) (by simp)) (Below.refl _ _) (fun _ => rfl)
      (fun pre W => (pre = [] ∧ W.cell? ⟨w.heap.size, 0, none⟩ = some (.int .i64 0) ∧ W.frozen? ⟨w.heap.size, 0, none⟩ = false) ∧ Below w.heap.size w W)
      (fun c pre W => (c = .ret ∧ ∃ x, pre = [x] ∧ W.cell? ⟨w.heap.size, 0, none⟩ = some (.int .i64 x)) ∧ Below w.heap.size w W)
      (OwnFrom.and (Own.from (fun s A B row hs hg hr => ⟨hs.1, cell_kept hs.2.1 hg hr, (frozen_kept hs.2.1 hg hr).trans hs.2.2⟩) _) (ownFrom_below (Nat.le_refl _) (by simp; omega)))
      (fun c => OwnFrom.and (Own.from (fun s A B row hs hg hr => by obtain ⟨hc, x, e1, e4⟩ := hs; exact ⟨hc, x, e1, cell_kept e4 hg hr⟩) _) (ownFrom_below (Nat.le_refl _) (by simp; omega)))
      ⟨⟨rfl, ((bR.alloc _).alloc _).cell, ((bR.alloc _).alloc _).frozen⟩, hB0⟩
      (fun x => { tmps := #[.slice A xs.length cap, .int .i64 last, undef, undef, .pointer (some ⟨w.heap.size, 0, none⟩), .int .i64 0, .int .i64 x, .int .i64 last, .bool false, .bool false, undef, undef, undef, undef, .bool false, undef, undef, .slice A xs.length cap, .int .i64 0, .func (.func 19) #[] #[.pointer (some ⟨w.heap.size + 1, 0, none⟩), .pointer (some ⟨w.heap.size + 1 + 1, 0, none⟩)], .int .i64 x, undef], defers := [] }) ?assign ?body ?done ?stop
    case assign =>
      intro l x W K hK
      gi_wp2
      simpa using hK
    case body =>
      rintro l pre x W ⟨⟨rfl, hcR, hfR⟩, hB⟩ hpre
      gi_wp2
      exact ⟨(KeepsOthers.setCell _ _ _).from _, ⟨rfl, x, rfl, World.cell?_setCell_same' _ _ _ (by rw [hcR]; rfl)⟩, hB.setCell (p := ⟨w.heap.size, 0, none⟩) (Nat.le_refl _) _⟩
    case done =>
      rintro D ys W hD rfl ⟨⟨hne, hcR, hfR⟩, hB⟩ hK
      have HN := Lib.hid hne
      clear hne
      gi_wp2
      have hK' := (KeepsOthers.setCell W ⟨w.heap.size, 0, none⟩ (.int .i64 (-1))).same D _ hK rfl
      refine ⟨by simp, .inl ⟨_, _, rfl, run_takeDeferred hK', ?_⟩⟩
      have hc5 := cell_kept (World.cell?_setCell_same' W ⟨w.heap.size, 0, none⟩ (.int .i64 (-1)) (by rw [hcR]; rfl)) (grownBy_putObj' _ D (.deferred none)) (fun r e => by cases e; exact ⟨_, hK', rfl⟩)
      refine ⟨.int .i64 (-1), ?_, by rw [nextB_none (by rw [← HF.out]; exact HN.out)], (hB.setCell (p := ⟨w.heap.size, 0, none⟩) (Nat.le_refl _) _).trans (belowK_b (w := w) (Nat.le_refl _) _ D _ _ (by simp at hD; omega) hK' rfl rfl)⟩
      simp [results, Try.f13, go_sem, hc5]
    case stop =>
      rintro D c pre W hD ⟨k, hk, rfl⟩ ⟨⟨rfl, x, he, hcR⟩, hB⟩ hK
      have HE := Lib.hid he
      clear he
      gi_wp2
      refine ⟨by simp, .inl ⟨_, _, rfl, run_takeDeferred hK, ?_⟩⟩
      have hc5 := cell_kept hcR (grownBy_putObj' _ D (.deferred none)) (fun r e => by cases e; exact ⟨_, hK, rfl⟩)
      refine ⟨.int .i64 x, ?_, by rw [nextB_some hk (by rw [← HF.out]; exact HE.out.symm)], hB.trans (belowK_b (w := w) (Nat.le_refl _) W D _ _ (by simp at hD; omega) hK rfl rfl)⟩
      simp [results, Try.f13, go_sem, hc5]

theorem next_any (A : Option Addr) (cap : Nat) (xs : List Bool) (last : Int) (hlen : xs.length ≤ 140737488351232) (w : World) (hC : Kd.C Kd.bool w A xs.length xs) :
    Calls Try.prog 13 #[.slice A xs.length cap, .int .i64 last] w fun e W' => e = .returned (.int .i64 (nextB xs last)) ∧ Below w.heap.size w W' :=
  callsIn_wide.1 (next_in Fence.wide 4 trivial trivial trivial rfl (Nat.le_refl _) A cap xs last hlen w hC)
end Go.Proofs.Ytnjjgaahkbemmaa.Hand
