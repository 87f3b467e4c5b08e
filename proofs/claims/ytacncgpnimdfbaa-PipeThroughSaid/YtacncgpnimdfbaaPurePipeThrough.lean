/- The law PipeThrough as a statement over lists and numbers. -/
import Derived.Test.YtacncgpnimdfbaaPPipeThroughx1
import Derived.Test.YtacncgpnimdfbaaPPipeThroughx2
import Derived.Test.YtacncgpnimdfbaaPPipeThroughx3
import Derived.Test.YtacncgpnimdfbaaPPipeThroughx4
import Derived.Test.YtacncgpnimdfbaaPPipeThroughx5
import Derived.Test.YtacncgpnimdfbaaPPipeThroughx6
namespace Go.Proofs.Ytacncgpnimdfbaa.PPipeThrough
open Go.RowKit Go.Proofs.YtacncgpnimdfbaaW.PrintWords Go.Proofs.YtacncgpnimdfbaaW.PrintMore
set_option linter.unusedVariables false
set_option linter.unusedSimpArgs false

theorem live_true : hopperlaw08_live.f = some true := by decide +kernel
theorem w64 {i : Int} (h0 : -9223372036854775808 ≤ i) (h1 : i < 9223372036854775808) : wrap64 i = i := by unfold wrap64; omega
theorem sendShut (l : List S36) (room : Int) (a b : Int) (c : ByteArray) : pipe_Pipe_Send.f room true l a b c = some (room, true, l, 8) := by
  unfold pipe_Pipe_Send.f; rw [if_pos rfl]
theorem sendFull {l : List S36} {room : Int} (h : (l.length : Int) ≥ room) (a b : Int) (c : ByteArray) : pipe_Pipe_Send.f room false l a b c = some (room, false, l, 6) := by
  unfold pipe_Pipe_Send.f; rw [if_neg (by decide), if_pos h]
theorem sendRoom {l : List S36} (hl : l.length ≤ 1000) {room : Int} (h : ¬ (l.length : Int) ≥ room) (a b : Int) (c : ByteArray) : pipe_Pipe_Send.f room false l a b c = some (room, false, l ++ [⟨a, b, c⟩], 0) := by
  unfold pipe_Pipe_Send.f
  rw [if_neg (by decide), if_neg h, Option.bind_some, if_pos (by rw [List.length_nil]; omega), Option.bind_some, List.nil_append, if_pos (by omega)]
theorem takeNil (room : Int) (shut : Bool) : pipe_Pipe_Take.f room shut [] = some (room, shut, [], 0, 0, ⟨#[]⟩, if shut = true then 8 else 7) := by
  unfold pipe_Pipe_Take.f
  rw [if_pos (show (([] : List S36).length : Int) = 0 from rfl)]
  by_cases h : shut = true
  · rw [if_pos h, if_pos h]
  · rw [if_neg h, if_neg h]
theorem takeCons {l : List S36} (hl : l.length ≤ 1000) (x : S36) (room : Int) (shut : Bool) : pipe_Pipe_Take.f room shut (x :: l) = some (room, shut, l, x.f0, x.f1, x.f2, 0) := by
  unfold pipe_Pipe_Take.f
  have hc : (((x :: l).length : Nat) : Int) = (l.length : Int) + 1 := by simp
  rw [if_neg (by rw [hc]; omega), if_pos (by rw [hc]; omega), Option.bind_some, if_pos (by rw [hc]; omega), Option.bind_some, List.drop_succ_cons, List.drop_zero, if_pos (by rw [List.length_nil]; omega), List.nil_append]
  rfl
theorem newF {room : Int} : pipe_New.f room = if 1 ≤ room ∧ room ≤ 8 then some (room, false, [], 0) else some (0, false, [], 1) := by
  unfold pipe_New.f
  by_cases h : room < 1
  · rw [if_pos h, if_neg (by omega)]
  · rw [if_neg h]
    by_cases h2 : room > 8
    · rw [if_pos h2, if_neg (by omega)]
    · rw [if_neg h2, if_pos (by omega)]
/-- A row is the same as itself. -/
theorem same0 (l : List S26) (hl : l.length ≤ 1000) (r r' : Int) (s s' : Bool) : ∀ (m i k : Nat), i + m = l.length → m + 1 ≤ k → hopperref08_Same.l0 k (i : Int) r s l r' s' l = some true := by
  intro m
  induction m with
  | zero =>
    intro i k hi hk
    obtain ⟨k, rfl⟩ : ∃ n, k = n + 1 := ⟨k - 1, by omega⟩
    rw [hopperref08_Same.l0, if_neg (by omega)]
  | succ m ih =>
    intro i k hi hk
    obtain ⟨k, rfl⟩ : ∃ n, k = n + 1 := ⟨k - 1, by omega⟩
    rw [hopperref08_Same.l0, if_pos (by omega), if_pos (by omega), if_pos (by omega), if_neg (by simp), w64 (by omega) (by omega)]
    exact ih (i + 1) k (by omega) (by omega)
theorem sameF (l : List S26) (hl : l.length ≤ 1000) (r : Int) (s : Bool) {k : Nat} (hk : l.length + 2 ≤ k) : hopperref08_Same.f k r s l r s l = some true := by
  obtain ⟨k, rfl⟩ : ∃ n, k = n + 1 := ⟨k - 1, by omega⟩
  unfold hopperref08_Same.f
  rw [if_pos rfl, if_neg (by simp), hopperref08_Same.j0, if_neg (by simp)]
  exact same0 l hl _ _ _ _ l.length 0 k (by omega) (by omega)
def toS (x : S36) : S26 := ⟨x.f0, x.f1, x.f2⟩
/-- The last takes. -/
theorem ends (l1 : List S26) (hn : l1.length ≤ 60) (R : Nat) (hR : R ≤ 8) : ∀ (m j k : Nat) (out : List S26) (its : List S36), j + m = R + 1 → out ++ its.map toS = l1 → its.length ≤ R - j → m + 80 ≤ k →
    hopperlaw08_PipeThrough.l1 k (R : Int) l1 out (j : Int) (R : Int) false its = some true := by
  intro m
  induction m with
  | zero =>
    intro j k out its hj he hl hk
    obtain ⟨k, rfl⟩ : ∃ n, k = n + 1 := ⟨k - 1, by omega⟩
    have h0 : its = [] := List.eq_nil_of_length_eq_zero (by omega)
    subst h0
    rw [List.map_nil, List.append_nil] at he
    subst he
    rw [hopperlaw08_PipeThrough.l1, if_neg (by omega), if_pos (show (([] : List S36).length : Int) = 0 from rfl), sameF out (by omega) 0 false (by omega), Option.bind_some, if_pos rfl, live_true]
    rfl
  | succ m ih =>
    intro j k out its hj he hl hk
    obtain ⟨k, rfl⟩ : ∃ n, k = n + 1 := ⟨k - 1, by omega⟩
    have hlen : out.length + its.length = l1.length := by rw [← he, List.length_append, List.length_map]
    rw [hopperlaw08_PipeThrough.l1, if_pos (by omega)]
    cases its with
    | nil =>
      rw [takeNil, Option.bind_some]
      dsimp only
      rw [if_neg (by decide), w64 (by omega) (by omega)]
      exact ih (j + 1) k out [] (by omega) he (by simp) (by omega)
    | cons x its =>
      have hx : (x :: its).length = its.length + 1 := by simp
      rw [takeCons (by omega), Option.bind_some]
      dsimp only
      rw [if_pos rfl, if_pos (by omega), w64 (by omega) (by omega)]
      refine ih (j + 1) k _ its (by omega) ?_ (by omega) (by omega)
      rw [← he, List.map_cons, List.append_assoc]
      rfl
/-- The rounds. -/
theorem rounds (l1 : List S26) (hn : l1.length ≤ 60) (R : Nat) (h1 : 1 ≤ R) (hR : R ≤ 8) : ∀ (m i k : Nat) (out : List S26) (its : List S36), i + m = l1.length → out ++ its.map toS = l1.take i → its.length ≤ R → m + 100 ≤ k →
    hopperlaw08_PipeThrough.l0 k (R : Int) l1 out (i : Int) (R : Int) false its = some true := by
  intro m
  induction m with
  | zero =>
    intro i k out its hi he hl hk
    obtain ⟨k, rfl⟩ : ∃ n, k = n + 1 := ⟨k - 1, by omega⟩
    rw [hopperlaw08_PipeThrough.l0, if_neg (by omega)]
    rw [List.take_of_length_le (by omega)] at he
    exact ends l1 hn R hR (R + 1) 0 k out its (by omega) he (by omega) (by omega)
  | succ m ih =>
    intro i k out its hi he hl hk
    obtain ⟨k, rfl⟩ : ∃ n, k = n + 1 := ⟨k - 1, by omega⟩
    have hil : i < l1.length := by omega
    have hlen : out.length + its.length = i := by
      have := congrArg List.length he
      rw [List.length_append, List.length_map, List.length_take] at this; omega
    have hrd : rd_T26 l1 (i : Int) = l1[i] := by simp [rd_T26, List.getElem?_eq_getElem hil]
    have htk : ∀ (o : List S26) (t : List S36), o ++ t.map toS = l1.take i → o ++ (t ++ [(⟨(rd_T26 l1 (i : Int)).f0, (rd_T26 l1 (i : Int)).f1, (rd_T26 l1 (i : Int)).f2⟩ : S36)]).map toS = l1.take (i + 1) := fun o t h => by
      rw [List.map_append, ← List.append_assoc, h, List.take_succ_eq_append_getElem hil, ← hrd]; rfl
    rw [hopperlaw08_PipeThrough.l0, if_pos (by omega), if_pos (by omega)]
    by_cases hf : (its.length : Int) ≥ (R : Int)
    · rw [sendFull hf, Option.bind_some]
      dsimp only
      rw [if_pos rfl]
      cases its with
      | nil => simp at hf; omega
      | cons x its =>
        have hx : (x :: its).length = its.length + 1 := by simp
        rw [takeCons (by omega), Option.bind_some]
        dsimp only
        rw [if_pos (by omega), sendRoom (by omega) (by omega), Option.bind_some]
        dsimp only
        rw [if_pos rfl, w64 (by omega) (by omega)]
        refine ih (i + 1) k _ _ (by omega) (htk _ its ?_) (by rw [List.length_append, List.length_singleton]; omega) (by omega)
        rw [← he, List.map_cons, List.append_assoc]
        rfl
    · rw [sendRoom (by omega) hf, Option.bind_some]
      dsimp only
      rw [if_neg (by decide), if_pos rfl, w64 (by omega) (by omega)]
      exact ih (i + 1) k out _ (by omega) (htk out its he) (by rw [List.length_append, List.length_singleton]; omega) (by omega)
theorem pure_ (a0 : Int) (l1 : List S26) : ∃ k, hopperlaw08_PipeThrough.f k a0 l1 = some true := by
  refine ⟨500, ?_⟩
  unfold hopperlaw08_PipeThrough.f
  rw [newF]
  by_cases hr : 1 ≤ a0 ∧ a0 ≤ 8
  · rw [if_pos hr, Option.bind_some]
    dsimp only
    by_cases hl : (l1.length : Int) > 60
    · rw [if_pos hl, hopperlaw08_PipeThrough.j0, if_pos rfl, live_true]; rfl
    · rw [if_neg hl, hopperlaw08_PipeThrough.j0, if_neg (by decide)]
      obtain ⟨R, rfl⟩ : ∃ R : Nat, a0 = (R : Int) := ⟨a0.toNat, by omega⟩
      exact rounds l1 (by omega) R (by omega) (by omega) l1.length 0 499 [] [] (by omega) rfl (by simp) (by omega)
  · rw [if_neg hr, Option.bind_some]
    dsimp only
    by_cases hl : (l1.length : Int) > 60
    · rw [if_pos hl, hopperlaw08_PipeThrough.j0, if_pos rfl, live_true]; rfl
    · rw [if_neg hl, hopperlaw08_PipeThrough.j0, if_pos (by decide), live_true]; rfl
end Go.Proofs.Ytacncgpnimdfbaa.PPipeThrough
