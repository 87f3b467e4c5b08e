/- The law FeedTells as a statement over lists and numbers. -/
import Derived.Test.YthmnedlaecekkaaPFeedTellsx1
import Derived.Test.YthmnedlaecekkaaPFeedTellsx2
import Derived.Test.YthmnedlaecekkaaPFeedTellsx3
import Derived.Test.YthmnedlaecekkaaPFeedTellsx4
import Derived.Test.YthmnedlaecekkaaPFeedTellsx5
import Derived.Test.YthmnedlaecekkaaPFeedTellsx6
import Derived.Test.YthmnedlaecekkaaPFeedTellsx7
import Derived.Test.YthmnedlaecekkaaPFeedTellsx8
namespace Go.Proofs.Ythmnedlaecekkaa.PFeedTells
open Go.RowKit Go.Proofs.YthmnedlaecekkaaW.PrintWords Go.Proofs.YthmnedlaecekkaaW.PrintMore
set_option linter.unusedVariables false
set_option linter.unusedSimpArgs false

theorem live_true {k : Nat} (hk : 60 ≤ k) : hopperlaw14_live.f k = some true := by
  have h60 : hopperlaw14_live.f 60 = some true := by decide +kernel
  obtain ⟨b, rfl⟩ : ∃ b, k = 60 + b := ⟨k - 60, by omega⟩
  clear hk
  induction b with
  | zero => exact h60
  | succ b ih => exact hopperlaw14_live.mono _ _ ih
theorem w64 {i : Int} (h0 : -9223372036854775808 ≤ i) (h1 : i < 9223372036854775808) : wrap64 i = i := by unfold wrap64; omega
theorem rd_at {l : List S36} {i : Nat} (h : i < l.length) : rd_T36 l (i : Int) = l[i] := by simp [rd_T36, List.getElem?_eq_getElem h]
theorem rd_zero (x : S36) (l : List S36) : rd_T36 (x :: l) 0 = x := rfl
theorem cloneF {l : List S36} (h : l.length ≤ 1000000) : api_Event.f l = some l := by
  unfold api_Event.f
  rw [Option.bind_some, if_pos (by rw [List.length_nil]; omega), List.nil_append]
theorem newF (room : Int) : feed_New.f room = if 1 ≤ room ∧ room ≤ 16 then some (room, [], 0, 0) else some (0, [], 0, 1) := by
  unfold feed_New.f
  by_cases h : room < 1
  · rw [if_pos h, if_neg (by omega)]
  · rw [if_neg h]
    by_cases h2 : room > 16
    · rw [if_pos h2, if_neg (by omega)]
    · rw [if_neg h2, if_pos (by omega)]
theorem readCons {x : S36} {l : List S36} (hl : l.length ≤ 1000000) (room lost : Int) : feed_Read.f room (x :: l) lost = some (room, l, lost, x.f0, x.f1.f0, x.f1.f1, x.f1.f2, x.f1.f3, x.f1.f4, x.f1.f5, x.f2, 0) := by
  unfold feed_Read.f
  have hc : (((x :: l).length : Nat) : Int) = (l.length : Int) + 1 := by simp
  rw [if_pos (by rw [hc]; omega), if_pos (by rw [hc]; omega), if_pos (by rw [hc]; omega), List.drop_succ_cons, List.drop_zero, cloneF hl, Option.bind_some, rd_zero]
theorem readLost (room : Int) {lost : Int} (h : lost > 0) : feed_Read.f room [] lost = some (room, [], 0, 4, 0, 0, 0, 0, 0, ⟨#[]⟩, lost, 0) := by
  unfold feed_Read.f
  rw [if_neg (show ¬ (([] : List S36).length : Int) > 0 by decide), if_pos h]
theorem readNone (room : Int) {lost : Int} (h : ¬ lost > 0) : feed_Read.f room [] lost = some (room, [], lost, 0, 0, 0, 0, 0, 0, ⟨#[]⟩, 0, 7) := by
  unfold feed_Read.f
  rw [if_neg (show ¬ (([] : List S36).length : Int) > 0 by decide), if_neg h]
/-- The word for as many as were lost. -/
def lag (n : Int) : S36 := ⟨4, ⟨0, 0, 0, 0, 0, ⟨#[]⟩⟩, n⟩
def lagL (lost : Int) : List S36 := if lost > 0 then [lag lost] else []
def left (lost : Int) : Int := if lost > 0 then 0 else lost
theorem allNil (acc : List S36) (ha : acc.length ≤ 1000000) (room lost : Int) {k : Nat} (hk : 2 ≤ k) : feed_All.l0 k acc room [] lost = some (room, [], left lost, acc ++ lagL lost) := by
  obtain ⟨k, rfl⟩ : ∃ n, k = n + 2 := ⟨k - 2, by omega⟩
  unfold left lagL
  rw [feed_All.l0]
  by_cases h : lost > 0
  · rw [readLost room h, Option.bind_some]
    dsimp only
    rw [if_pos rfl, if_pos (by omega), feed_All.l0, readNone room (by omega), Option.bind_some]
    dsimp only
    rw [if_neg (by omega), if_pos h, if_pos h]
    rfl
  · rw [readNone room h, Option.bind_some]
    dsimp only
    rw [if_neg (by omega), if_neg h, if_neg h, List.append_nil]
theorem all0 (room lost : Int) : ∀ (l acc : List S36) (k : Nat), l.length + 2 ≤ k → acc.length + l.length ≤ 1000000 → feed_All.l0 k acc room l lost = some (room, [], left lost, acc ++ l ++ lagL lost) := by
  intro l
  induction l with
  | nil => intro acc k hk ha; rw [allNil acc (by omega) room lost (by omega), List.append_nil]
  | cons x l ih =>
    intro acc k hk ha
    have hc : (x :: l).length = l.length + 1 := by simp
    obtain ⟨k, rfl⟩ : ∃ n, k = n + 1 := ⟨k - 1, by omega⟩
    rw [feed_All.l0, readCons (by omega), Option.bind_some]
    dsimp only
    rw [if_pos rfl, if_pos (by omega), ih _ k (by omega) (by rw [List.length_append, List.length_singleton]; omega), List.append_assoc acc [_] l]
    rfl
theorem allF {l : List S36} (hl : l.length ≤ 1000) (room lost : Int) {k : Nat} (hk : 1002 ≤ k) : feed_All.f k room l lost = some (room, [], left lost, l ++ lagL lost) := by
  unfold feed_All.f
  rw [all0 room lost l [] k (by omega) (by rw [List.length_nil]; omega), List.nil_append]
/-- What waits, and how many are lost, behind a run of events. -/
def tl (room : Int) : List S36 → Int → List S36 → List S36 × Int
  | items, lost, [] => (items, lost)
  | items, lost, e :: l => if lost = 0 ∧ (items.length : Int) < room then tl room (items ++ [e]) lost l else tl room items (if lost ≥ 1099511627776 then 1099511627776 else lost + 1) l
theorem mnF {lost : Int} (h0 : -9223372036854775808 ≤ lost) (h1 : lost < 9223372036854775808) : wrap64 (mn lost 1099511627775 + 1) = if lost ≥ 1099511627776 then 1099511627776 else lost + 1 := by
  unfold mn wrap64
  by_cases h : lost ≥ 1099511627776
  · rw [if_pos h]
    first | (rw [if_neg (by omega)]; omega) | (simp only [Int.min_def]; split <;> omega) | (split <;> omega) | omega
  · rw [if_neg h]
    first | (rw [if_pos (by omega)]; omega) | (simp only [Int.min_def]; split <;> omega) | (split <;> omega) | omega
theorem tell0 (l : List S36) (hl : l.length ≤ 1000) (room : Int) : ∀ (m i k : Nat) (items : List S36) (lost : Int), i + m = l.length → m + 1 ≤ k → items.length + m ≤ 10000 → -9223372036854775808 ≤ lost → lost < 9223372036854775808 →
    feed_Tell.l0 k l (l.length : Int) (i : Int) room items lost = some (room, (tl room items lost (l.drop i)).1, (tl room items lost (l.drop i)).2) := by
  intro m
  induction m with
  | zero =>
    intro i k items lost hi hk hm h0 h1
    obtain ⟨k, rfl⟩ : ∃ n, k = n + 1 := ⟨k - 1, by omega⟩
    rw [feed_Tell.l0, if_neg (by omega), List.drop_eq_nil_of_le (by omega)]
    rfl
  | succ m ih =>
    intro i k items lost hi hk hm h0 h1
    obtain ⟨k, rfl⟩ : ∃ n, k = n + 1 := ⟨k - 1, by omega⟩
    have hil : i < l.length := by omega
    rw [feed_Tell.l0, if_pos (by omega), if_pos (by omega), if_pos (by omega), w64 (by omega) (by omega), mnF h0 h1, rd_at hil, List.drop_eq_getElem_cons hil, tl]
    by_cases hz : lost = 0
    · rw [if_pos hz]
      by_cases hr : (items.length : Int) < room
      · rw [if_pos hr, if_pos (by omega), if_pos (show lost = 0 ∧ (items.length : Int) < room from ⟨hz, hr⟩)]
        exact ih (i + 1) k _ _ (by omega) (by omega) (by rw [List.length_append, List.length_singleton]; omega) h0 h1
      · rw [if_neg hr, if_neg (show ¬ (lost = 0 ∧ (items.length : Int) < room) from fun h => hr h.2)]
        exact ih (i + 1) k _ _ (by omega) (by omega) (by omega) (by split <;> omega) (by split <;> omega)
    · rw [if_neg hz, if_neg (show ¬ (lost = 0 ∧ (items.length : Int) < room) from fun h => hz h.1)]
      exact ih (i + 1) k _ _ (by omega) (by omega) (by omega) (by split <;> omega) (by split <;> omega)
theorem tellF {l : List S36} (hl : l.length ≤ 1000) (room : Int) {items : List S36} (hi : items.length ≤ 1000) {lost : Int} (h0 : -9223372036854775808 ≤ lost) (h1 : lost < 9223372036854775808) {k : Nat} (hk : 1001 ≤ k) :
    feed_Tell.f k room items lost l = some (room, (tl room items lost l).1, (tl room items lost l).2) := by
  unfold feed_Tell.f
  rw [cloneF (by omega), Option.bind_some]
  exact tell0 l hl room l.length 0 k items lost (by omega) (by omega) (by omega) h0 h1
theorem tl_append (room : Int) : ∀ (a b : List S36) (items : List S36) (lost : Int), tl room items lost (a ++ b) = tl room (tl room items lost a).1 (tl room items lost a).2 b := by
  intro a
  induction a with
  | nil => intro b items lost; rfl
  | cons e a ih =>
    intro b items lost
    rw [List.cons_append, tl, tl]
    by_cases h : lost = 0 ∧ (items.length : Int) < room
    · rw [if_pos h, if_pos h]; exact ih _ _ _
    · rw [if_neg h, if_neg h]; exact ih _ _ _
theorem tl_bound (room : Int) : ∀ (l items : List S36) (lost : Int), -9223372036854775808 ≤ lost → lost < 9223372036854775808 → items.length ≤ (tl room items lost l).1.length ∧ (tl room items lost l).1.length ≤ items.length + l.length ∧ -9223372036854775808 ≤ (tl room items lost l).2 ∧ (tl room items lost l).2 < 9223372036854775808 := by
  intro l
  induction l with
  | nil => intro items lost h0 h1; rw [tl, List.length_nil]; exact ⟨Nat.le_refl _, Nat.le_refl _, h0, h1⟩
  | cons e l ih =>
    intro items lost h0 h1
    have hc : (e :: l).length = l.length + 1 := by simp
    rw [tl, hc]
    by_cases h : lost = 0 ∧ (items.length : Int) < room
    · rw [if_pos h]
      have := ih (items ++ [e]) lost h0 h1
      rw [List.length_append, List.length_singleton] at this
      omega
    · rw [if_neg h]
      have := ih items (if lost ≥ 1099511627776 then 1099511627776 else lost + 1) (by split <;> omega) (by split <;> omega)
      omega
/-- Whether there are few is told of any run; told so, it is no longer than that. -/
theorem few0 (l : List S36) (hl : l.length ≤ 9223372036854775807) (most : Int) : ∀ (m i k : Nat), i + m = l.length → m + 1 ≤ k → ∃ b, hopperref14_Few.l0 k l most (i : Int) = some b ∧ (b = true → (l.length : Int) ≤ most) := by
  intro m
  induction m with
  | zero =>
    intro i k hi hk
    obtain ⟨k, rfl⟩ : ∃ n, k = n + 1 := ⟨k - 1, by omega⟩
    rw [hopperref14_Few.l0, if_neg (by omega)]
    exact ⟨_, rfl, fun h => of_decide_eq_true h⟩
  | succ m ih =>
    intro i k hi hk
    obtain ⟨k, rfl⟩ : ∃ n, k = n + 1 := ⟨k - 1, by omega⟩
    rw [hopperref14_Few.l0, if_pos (by omega), if_pos (by omega)]
    by_cases h : (((rd_T36 l (i : Int)).f1.f5).size : Int) > 500
    · rw [if_pos h]; exact ⟨false, rfl, fun h => by cases h⟩
    · rw [if_neg h, w64 (by omega) (by omega)]
      exact ih (i + 1) k (by omega) (by omega)
theorem fewF {l : List S36} (hl : l.length ≤ 9223372036854775807) (most : Int) {k : Nat} (hk : l.length + 1 ≤ k) : ∃ b, hopperref14_Few.f k l most = some b ∧ (b = true → (l.length : Int) ≤ most) :=
  few0 l hl most l.length 0 k (by omega) hk
/-- A run of events is the same as itself. -/
theorem events0 (l : List S36) (hl : l.length ≤ 1000000) : ∀ (m i k : Nat), i + m = l.length → m + 1 ≤ k → hopperref13_Events.l0 k l l (i : Int) = some true := by
  intro m
  induction m with
  | zero =>
    intro i k hi hk
    obtain ⟨k, rfl⟩ : ∃ n, k = n + 1 := ⟨k - 1, by omega⟩
    rw [hopperref13_Events.l0, if_neg (by omega)]
  | succ m ih =>
    intro i k hi hk
    obtain ⟨k, rfl⟩ : ∃ n, k = n + 1 := ⟨k - 1, by omega⟩
    rw [hopperref13_Events.l0, if_pos (by omega), if_pos (by omega), if_pos (by omega), if_neg (by simp), w64 (by omega) (by omega)]
    exact ih (i + 1) k (by omega) (by omega)
theorem eventsF {l : List S36} (hl : l.length ≤ 1000) {k : Nat} (hk : 1001 ≤ k) : hopperref13_Events.f k l l = some true := by
  unfold hopperref13_Events.f
  rw [if_pos rfl]
  exact events0 l (by omega) l.length 0 k (by omega) (by omega)
theorem sameF (room lost : Int) {l : List S36} (hl : l.length ≤ 1000) {k : Nat} (hk : 1001 ≤ k) : hopperref14_Same.f k room l lost room l lost = some true := by
  unfold hopperref14_Same.f
  rw [if_pos rfl, if_pos rfl, eventsF hl hk, Option.bind_some]
/-- Whether two events differ, as the code tells it. -/
def ne36 (a b : S36) : Bool := (!((a.f0) == (b.f0)) || ((!((a.f1.f0) == (b.f1.f0)) || (!((a.f1.f1) == (b.f1.f1)) || (!((a.f1.f2) == (b.f1.f2)) || (!((a.f1.f3) == (b.f1.f3)) || (!((a.f1.f4) == (b.f1.f4)) || (!(((a.f1.f5).toList) == ((b.f1.f5).toList)))))))) || (!((a.f2) == (b.f2)))))
theorem ne36_self (a : S36) : ne36 a a = false := by simp [ne36]
/-- Whether a run covers another one. -/
def cov : List S36 → List S36 → Bool
  | [], l => ((l.length : Int) == 0)
  | e :: t, l => if e.f0 = 4 then (if e.f2 < 1 then false else if e.f2 > (l.length : Int) then false else cov t (l.drop e.f2.toNat)) else (if (l.length : Int) = 0 then false else if ne36 (rd_T36 l 0) e = true then false else cov t (l.drop 1))
theorem covers0 (x8 : List S36) (hl : x8.length ≤ 1000000) : ∀ (m i k : Nat) (x1 : List S36), i + m = x8.length → 2 * m + 1 ≤ k → x1.length ≤ 1000000 → feed_Covers.l0 k x1 x8 (x8.length : Int) (i : Int) = some (cov (x8.drop i) x1) := by
  intro m
  induction m with
  | zero =>
    intro i k x1 hi hk hx
    obtain ⟨k, rfl⟩ : ∃ n, k = n + 1 := ⟨k - 1, by omega⟩
    rw [feed_Covers.l0, if_neg (by omega), List.drop_eq_nil_of_le (by omega)]
    rfl
  | succ m ih =>
    intro i k x1 hi hk hx
    obtain ⟨k, rfl⟩ : ∃ n, k = n + 2 := ⟨k - 2, by omega⟩
    have hil : i < x8.length := by omega
    rw [feed_Covers.l0, if_pos (by omega), if_pos (by omega), if_pos (by omega), rd_at hil, List.drop_eq_getElem_cons hil, cov, w64 (by omega) (by omega)]
    generalize x8[i] = e
    by_cases h4 : e.f0 = 4
    · rw [if_pos h4, if_pos h4]
      by_cases h1 : e.f2 < 1
      · rw [if_pos h1, if_pos h1]
      · rw [if_neg h1, if_neg h1]
        by_cases h2 : e.f2 > (x1.length : Int)
        · rw [if_pos h2, if_pos h2]
        · rw [if_neg h2, if_neg h2, if_pos (by omega), if_pos (by omega)]
          exact ih (i + 1) (k + 1) _ (by omega) (by omega) (by rw [List.length_drop]; omega)
    · rw [if_neg h4, if_neg h4]
      by_cases h0 : (x1.length : Int) = 0
      · rw [if_pos h0, if_pos h0, feed_Covers.j1, if_pos rfl]
      · rw [if_neg h0, if_neg h0, if_pos (by omega), feed_Covers.j1]
        by_cases hn : ne36 (rd_T36 x1 0) e = true
        · rw [if_pos hn]
          unfold ne36 at hn
          rw [if_pos hn]
        · rw [if_neg hn]
          unfold ne36 at hn
          rw [if_neg hn, if_neg (by omega), if_neg (by omega), if_pos (by omega), if_pos (by omega), w64 (by omega) (by omega)]
          exact ih (i + 1) k _ (by omega) (by omega) (by rw [List.length_drop]; omega)
theorem coversF {a b : List S36} (ha : a.length ≤ 1000) (hb : b.length ≤ 1000) {k : Nat} (hk : 2001 ≤ k) : feed_Covers.f k a b = some (cov a b) := by
  unfold feed_Covers.f
  exact covers0 a (by omega) a.length 0 k b (by omega) (by omega) (by omega)
theorem refCovers0 (x0 x1 : List S36) (hl : x0.length ≤ 1000000) (hx : x1.length ≤ 1000000) : ∀ (m i k at_ : Nat), i + m = x0.length → 2 * m + 1 ≤ k → at_ ≤ x1.length → hopperref14_Covers.l0 k x0 x1 (at_ : Int) (i : Int) = some (cov (x0.drop i) (x1.drop at_)) := by
  intro m
  induction m with
  | zero =>
    intro i k at_ hi hk ha
    obtain ⟨k, rfl⟩ : ∃ n, k = n + 1 := ⟨k - 1, by omega⟩
    rw [hopperref14_Covers.l0, if_neg (by omega), List.drop_eq_nil_of_le (by omega), cov, List.length_drop]
    congr 1
    rw [Bool.eq_iff_iff, beq_iff_eq, beq_iff_eq]
    omega
  | succ m ih =>
    intro i k at_ hi hk ha
    obtain ⟨k, rfl⟩ : ∃ n, k = n + 2 := ⟨k - 2, by omega⟩
    have hil : i < x0.length := by omega
    rw [hopperref14_Covers.l0, if_pos (by omega), if_pos (by omega), rd_at hil, List.drop_eq_getElem_cons hil, cov, w64 (i := (x1.length : Int) - (at_ : Int)) (by omega) (by omega), w64 (i := (i : Int) + 1) (by omega) (by omega), List.length_drop]
    have he : rd_T36 x0 (i : Int) = x0[i] := rd_at hil
    generalize x0[i] = e at he ⊢
    by_cases h4 : e.f0 = 4
    · rw [if_pos h4, if_pos h4]
      by_cases h1 : e.f2 < 1
      · rw [if_pos h1, if_pos h1, hopperref14_Covers.j1, if_pos rfl]
      · rw [if_neg h1, if_neg h1, hopperref14_Covers.j1]
        by_cases h2 : e.f2 > (x1.length : Int) - (at_ : Int)
        · rw [if_pos (decide_eq_true h2), if_pos (by omega)]
        · have e2 : e.f2 = ((e.f2.toNat : Nat) : Int) := by omega
          have h3 := ih (i + 1) k (at_ + e.f2.toNat) (by omega) (by omega) (by omega)
          rw [show decide (e.f2 > (x1.length : Int) - (at_ : Int)) = false from decide_eq_false h2, if_neg (show ¬ (false = true) by decide), if_pos (show (0 : Int) ≤ (i : Int) by omega), if_pos (show (i : Int) < (x0.length : Int) by omega), he, if_neg (show ¬ e.f2 > ((x1.length - at_ : Nat) : Int) by omega), List.drop_drop, w64 (i := (i : Int) + 1) (by omega) (by omega), w64 (by omega) (by omega)]
          rw [show (at_ : Int) + e.f2 = ((at_ + e.f2.toNat : Nat) : Int) by omega]
          exact h3
    · rw [if_neg h4, if_neg h4]
      by_cases h0 : (at_ : Int) ≥ (x1.length : Int)
      · rw [if_pos h0, if_pos (by omega)]
      · have hat : at_ < x1.length := by omega
        have hr : rd_T36 (x1.drop at_) 0 = x1[at_] := by rw [List.drop_eq_getElem_cons hat]; rfl
        have h3 := ih (i + 1) (k + 1) (at_ + 1) (by omega) (by omega) (by omega)
        rw [if_neg h0, if_neg (show ¬ ((x1.length - at_ : Nat) : Int) = 0 by omega), if_pos (show (0 : Int) ≤ (at_ : Int) by omega), if_pos (show (at_ : Int) < (x1.length : Int) by omega), hr, rd_at hat, List.drop_drop]
        by_cases hn : ne36 x1[at_] e = true
        · rw [if_pos hn]
          unfold ne36 at hn
          rw [if_pos hn]
        · rw [if_neg hn]
          unfold ne36 at hn
          rw [if_neg hn, w64 (by omega) (by omega)]
          exact h3
theorem refCoversF {a b : List S36} (ha : a.length ≤ 1000) (hb : b.length ≤ 1000) {k : Nat} (hk : 2001 ≤ k) : hopperref14_Covers.f k a b = some (cov a b) := by
  unfold hopperref14_Covers.f
  exact refCovers0 a b (by omega) (by omega) a.length 0 k 0 (by omega) (by omega) (by omega)
theorem refNewF (room : Int) : hopperref14_New.f room = feed_New.f room := rfl
theorem refReadF {l : List S36} (hl : l.length ≤ 1000) (room lost : Int) : hopperref14_Read.f room l lost = feed_Read.f room l lost := by
  unfold hopperref14_Read.f feed_Read.f
  by_cases h : (l.length : Int) > 0
  · rw [if_pos h, if_pos h, if_pos h, if_pos h, if_pos (by omega), if_pos (by omega), cloneF (by rw [List.length_drop]; omega), Option.bind_some]
  · rw [if_neg h, if_neg h]
theorem refAll0 (room : Int) : ∀ (k : Nat) (acc l : List S36) (lost : Int), l.length ≤ 1000 → hopperref14_All.l0 k acc room l lost = feed_All.l0 k acc room l lost := by
  intro k
  induction k with
  | zero => intro acc l lost hl; rfl
  | succ k ih =>
    intro acc l lost hl
    rw [hopperref14_All.l0, feed_All.l0, refReadF hl]
    cases l with
    | nil =>
      by_cases h : lost > 0
      · rw [readLost room h, Option.bind_some, Option.bind_some]
        dsimp only
        rw [if_pos rfl, if_pos rfl, ih _ _ _ (by simp)]
      · rw [readNone room h, Option.bind_some, Option.bind_some]
        dsimp only
        rw [if_neg (by omega), if_neg (by omega)]
    | cons x l =>
      have hc : (x :: l).length = l.length + 1 := by simp
      rw [readCons (by omega), Option.bind_some, Option.bind_some]
      dsimp only
      rw [if_pos rfl, if_pos rfl, ih _ _ _ (by omega)]
theorem refAllF {l : List S36} (hl : l.length ≤ 1000) (room lost : Int) (k : Nat) : hopperref14_All.f k room l lost = feed_All.f k room l lost := by
  unfold hopperref14_All.f feed_All.f
  exact refAll0 room k [] l lost hl
theorem refTell0 (l : List S36) (hl : l.length ≤ 1000) (room : Int) : ∀ (m i k : Nat) (items : List S36) (lost : Int), i + m = l.length → 2 * m + 1 ≤ k → items.length + m ≤ 10000 → -9223372036854775808 ≤ lost → lost < 9223372036854775808 →
    hopperref14_Tell.l0 k l (i : Int) room items lost = some (room, (tl room items lost (l.drop i)).1, (tl room items lost (l.drop i)).2) := by
  intro m
  induction m with
  | zero =>
    intro i k items lost hi hk hm h0 h1
    obtain ⟨k, rfl⟩ : ∃ n, k = n + 1 := ⟨k - 1, by omega⟩
    rw [hopperref14_Tell.l0, if_neg (by omega), List.drop_eq_nil_of_le (by omega)]
    rfl
  | succ m ih =>
    intro i k items lost hi hk hm h0 h1
    obtain ⟨k, rfl⟩ : ∃ n, k = n + 2 := ⟨k - 2, by omega⟩
    have hil : i < l.length := by omega
    rw [hopperref14_Tell.l0, if_pos (by omega), List.drop_eq_getElem_cons hil, tl]
    have full : ¬ (lost = 0 ∧ (items.length : Int) < room) → hopperref14_Tell.j1 (k + 1) l (i : Int) false room items lost = some (room, (tl room items (if lost ≥ 1099511627776 then 1099511627776 else lost + 1) (l.drop (i + 1))).1, (tl room items (if lost ≥ 1099511627776 then 1099511627776 else lost + 1) (l.drop (i + 1))).2) := by
      intro hn
      rw [hopperref14_Tell.j1, if_neg (by simp), w64 (i := (i : Int) + 1) (by omega) (by omega)]
      by_cases hb : lost ≥ 1099511627776
      · rw [if_pos hb, if_pos hb]
        exact ih (i + 1) k _ _ (by omega) (by omega) (by omega) (by omega) (by omega)
      · rw [if_neg hb, if_neg hb, w64 (by omega) (by omega)]
        exact ih (i + 1) k _ _ (by omega) (by omega) (by omega) (by omega) (by omega)
    by_cases hz : lost = 0
    · rw [if_pos hz]
      by_cases hr : (items.length : Int) < room
      · rw [show decide ((items.length : Int) < room) = true from decide_eq_true hr, hopperref14_Tell.j1, if_pos rfl, Option.bind_some, if_pos (by rw [List.length_nil]; omega), Option.bind_some, if_pos (by omega), if_pos (by omega), if_pos (by rw [List.nil_append]; omega), w64 (by omega) (by omega), rd_at hil, List.nil_append, if_pos (show lost = 0 ∧ (items.length : Int) < room from ⟨hz, hr⟩)]
        exact ih (i + 1) k _ _ (by omega) (by omega) (by rw [List.length_append, List.length_singleton]; omega) h0 h1
      · rw [show decide ((items.length : Int) < room) = false from decide_eq_false hr, if_neg (show ¬ (lost = 0 ∧ (items.length : Int) < room) from fun h => hr h.2)]
        exact full (fun h => hr h.2)
    · rw [if_neg hz, if_neg (show ¬ (lost = 0 ∧ (items.length : Int) < room) from fun h => hz h.1)]
      exact full (fun h => hz h.1)
theorem refTellF {l : List S36} (hl : l.length ≤ 1000) (room : Int) {items : List S36} (hi : items.length ≤ 1000) {lost : Int} (h0 : -9223372036854775808 ≤ lost) (h1 : lost < 9223372036854775808) {k : Nat} (hk : 2001 ≤ k) :
    hopperref14_Tell.f k room items lost l = some (room, (tl room items lost l).1, (tl room items lost l).2) := by
  unfold hopperref14_Tell.f
  exact refTell0 l hl room l.length 0 k items lost (by omega) (by omega) (by omega) h0 h1
theorem pure_ (a0_0 : Int) (l0_1 : List S36) (a0_2 : Int) (l1 : List S36) (a2 : Int) (hB0 : l0_1.length ≤ 9223372036854775807) (hB1 : l1.length ≤ 9223372036854775807) (h0 : -9223372036854775808 ≤ a0_2) (h1 : a0_2 < 9223372036854775808) :
    ∃ k, hopperlaw14_FeedTells.f k a0_0 l0_1 a0_2 l1 a2 = some true := by
  have main : ∀ (k : Nat) (b : Bool), 3000 ≤ k → (b = false → l0_1.length ≤ 60 ∧ l1.length ≤ 60) → hopperlaw14_FeedTells.j0 k l1 a2 b a0_0 l0_1 a0_2 = some true := by
    intro k b hk hb
    obtain ⟨k, rfl⟩ : ∃ n, k = n + 2 := ⟨k - 2, by omega⟩
    rw [hopperlaw14_FeedTells.j0]
    cases b with
    | true => rw [if_pos rfl, live_true (by omega), Option.bind_some]
    | false =>
      obtain ⟨b0, b1⟩ := hb rfl
      have last : hopperlaw14_FeedTells.j1 (k + 1) l1 false a0_0 l0_1 a0_2 a0_0 l0_1 a0_2 = some true := by
        have hw := tl_bound a0_0 l1 l0_1 a0_2 h0 h1
        rw [hopperlaw14_FeedTells.j1, if_neg (by simp), tellF (by omega) _ (by omega) h0 h1 (by omega), Option.bind_some, refTellF (by omega) _ (by omega) h0 h1 (by omega), Option.bind_some]
        dsimp only
        rw [sameF _ _ (by omega) (by omega), Option.bind_some, if_pos rfl, coversF (by omega) (by omega) (by omega), Option.bind_some, refCoversF (by omega) (by omega) (by omega), Option.bind_some, if_pos (by simp), live_true (by omega)]
        rfl
      obtain ⟨n0, n1, n2, n3, hn, hnl⟩ : ∃ n0 n1 n2 n3, feed_New.f a2 = some (n0, n1, n2, n3) ∧ n1.length ≤ 60 := by
        rw [newF]
        by_cases h : 1 ≤ a2 ∧ a2 ≤ 16
        · rw [if_pos h]; exact ⟨_, _, _, _, rfl, by simp⟩
        · rw [if_neg h]; exact ⟨_, _, _, _, rfl, by simp⟩
      obtain ⟨r0, r1, r2, r3, r4, r5, r6, r7, r8, r9, r10, r11, hr, hrl⟩ : ∃ r0 r1 r2 r3 r4 r5 r6 r7 r8 r9 r10 r11, feed_Read.f a0_0 l0_1 a0_2 = some (r0, r1, r2, r3, r4, r5, r6, r7, r8, r9, r10, r11) ∧ r1.length ≤ 60 := by
        cases l0_1 with
        | nil =>
          by_cases h : a0_2 > 0
          · rw [readLost a0_0 h]; exact ⟨_, _, _, _, _, _, _, _, _, _, _, _, rfl, by simp⟩
          · rw [readNone a0_0 h]; exact ⟨_, _, _, _, _, _, _, _, _, _, _, _, rfl, by simp⟩
        | cons x l =>
          have hc : (x :: l).length = l.length + 1 := by simp
          rw [readCons (by omega)]; exact ⟨_, _, _, _, _, _, _, _, _, _, _, _, rfl, by omega⟩
      have hL : (lagL a0_2).length ≤ 1 := by
        unfold lagL
        split
        · simp
        · simp
      rw [if_neg (by simp), refNewF, hn, Option.bind_some, Option.bind_some, refReadF (by omega), hr, Option.bind_some, Option.bind_some, refAllF (by omega), allF (by omega) _ _ (by omega), Option.bind_some, Option.bind_some]
      dsimp only
      rw [sameF _ _ (by omega) (by omega), Option.bind_some, if_pos rfl, if_pos rfl, sameF _ _ (by omega) (by omega), Option.bind_some, if_pos rfl, if_neg (by simp), if_pos rfl, sameF _ _ (by simp) (by omega), Option.bind_some, if_pos rfl, eventsF (by rw [List.length_append]; omega) (by omega), Option.bind_some]
      exact last
  refine ⟨l0_1.length + l1.length + 3000, ?_⟩
  generalize hk : l0_1.length + l1.length + 3000 = k
  unfold hopperlaw14_FeedTells.f
  obtain ⟨p, hp, hp2⟩ := fewF hB0 60 (k := k) (by omega)
  obtain ⟨q, hq, hq2⟩ := fewF hB1 60 (k := k) (by omega)
  rw [hp, Option.bind_some]
  cases p with
  | false => rw [if_neg (by simp)]; exact main k true (by omega) (fun h => by cases h)
  | true =>
    have p1 := hp2 rfl
    rw [if_pos rfl, hq, Option.bind_some]
    cases q with
    | false => exact main k true (by omega) (fun h => by cases h)
    | true =>
      have q1 := hq2 rfl
      exact main k false (by omega) (fun _ => ⟨by omega, by omega⟩)
end Go.Proofs.Ythmnedlaecekkaa.PFeedTells
