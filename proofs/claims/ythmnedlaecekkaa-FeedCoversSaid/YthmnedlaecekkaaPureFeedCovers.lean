/- The law FeedCovers as a statement over lists and numbers. -/
import Derived.Test.YthmnedlaecekkaaPFeedCoversx1
import Derived.Test.YthmnedlaecekkaaPFeedCoversx2
import Derived.Test.YthmnedlaecekkaaPFeedCoversx3
import Derived.Test.YthmnedlaecekkaaPFeedCoversx4
import Derived.Test.YthmnedlaecekkaaPFeedCoversx5
import Derived.Test.YthmnedlaecekkaaPFeedCoversx6
import Derived.Test.YthmnedlaecekkaaPFeedCoversx7
namespace Go.Proofs.Ythmnedlaecekkaa.PFeedCovers
open Go.RowKit Go.Proofs.YthmnedlaecekkaaW.PrintWords Go.Proofs.YthmnedlaecekkaaW.PrintMore
set_option linter.unusedVariables false
set_option linter.unusedSimpArgs false

theorem live_true {k : Nat} (hk : 60 ≤ k) : hopperlaw14_live.f k = some true := by
  have h60 : hopperlaw14_live.f 60 = some true := by decide +kernel
  obtain ⟨b, rfl⟩ : ∃ b, k = 60 + b := ⟨k - 60, by omega⟩
  clear hk
  induction b with
  | zero => exact h60
  | succ b ih => exact hopperlaw14_live.mono _ _ ih
theorem w64 {i : Int} (h0 : -9223372036854775808 ≤ i) (h1 : i < 9223372036854775808) : wrap64 i = i := by unfold wrap64; omega
theorem rd_at {l : List S36} {i : Nat} (h : i < l.length) : rd_T36 l (i : Int) = l[i] := by simp [rd_T36, List.getElem?_eq_getElem h]
theorem rd_zero (x : S36) (l : List S36) : rd_T36 (x :: l) 0 = x := rfl
theorem cloneF {l : List S36} (h : l.length ≤ 1000000) : api_Event.f l = some l := by
  unfold api_Event.f
  rw [Option.bind_some, if_pos (by rw [List.length_nil]; omega), List.nil_append]
theorem newF (room : Int) : feed_New.f room = if 1 ≤ room ∧ room ≤ 16 then some (room, [], 0, 0) else some (0, [], 0, 1) := by
  unfold feed_New.f
  by_cases h : room < 1
  · rw [if_pos h, if_neg (by omega)]
  · rw [if_neg h]
    by_cases h2 : room > 16
    · rw [if_pos h2, if_neg (by omega)]
    · rw [if_neg h2, if_pos (by omega)]
theorem readCons {x : S36} {l : List S36} (hl : l.length ≤ 1000000) (room lost : Int) : feed_Read.f room (x :: l) lost = some (room, l, lost, x.f0, x.f1.f0, x.f1.f1, x.f1.f2, x.f1.f3, x.f1.f4, x.f1.f5, x.f2, 0) := by
  unfold feed_Read.f
  have hc : (((x :: l).length : Nat) : Int) = (l.length : Int) + 1 := by simp
  rw [if_pos (by rw [hc]; omega), if_pos (by rw [hc]; omega), if_pos (by rw [hc]; omega), List.drop_succ_cons, List.drop_zero, cloneF hl, Option.bind_some, rd_zero]
theorem readLost (room : Int) {lost : Int} (h : lost > 0) : feed_Read.f room [] lost = some (room, [], 0, 4, 0, 0, 0, 0, 0, ⟨#[]⟩, lost, 0) := by
  unfold feed_Read.f
  rw [if_neg (show ¬ (([] : List S36).length : Int) > 0 by decide), if_pos h]
theorem readNone (room : Int) {lost : Int} (h : ¬ lost > 0) : feed_Read.f room [] lost = some (room, [], lost, 0, 0, 0, 0, 0, 0, ⟨#[]⟩, 0, 7) := by
  unfold feed_Read.f
  rw [if_neg (show ¬ (([] : List S36).length : Int) > 0 by decide), if_neg h]
/-- The word for as many as were lost. -/
def lag (n : Int) : S36 := ⟨4, ⟨0, 0, 0, 0, 0, ⟨#[]⟩⟩, n⟩
def lagL (lost : Int) : List S36 := if lost > 0 then [lag lost] else []
def left (lost : Int) : Int := if lost > 0 then 0 else lost
theorem allNil (acc : List S36) (ha : acc.length ≤ 1000000) (room lost : Int) {k : Nat} (hk : 2 ≤ k) : feed_All.l0 k acc room [] lost = some (room, [], left lost, acc ++ lagL lost) := by
  obtain ⟨k, rfl⟩ : ∃ n, k = n + 2 := ⟨k - 2, by omega⟩
  unfold left lagL
  rw [feed_All.l0]
  by_cases h : lost > 0
  · rw [readLost room h, Option.bind_some]
    dsimp only
    rw [if_pos rfl, if_pos (by omega), feed_All.l0, readNone room (by omega), Option.bind_some]
    dsimp only
    rw [if_neg (by omega), if_pos h, if_pos h]
    rfl
  · rw [readNone room h, Option.bind_some]
    dsimp only
    rw [if_neg (by omega), if_neg h, if_neg h, List.append_nil]
theorem all0 (room lost : Int) : ∀ (l acc : List S36) (k : Nat), l.length + 2 ≤ k → acc.length + l.length ≤ 1000000 → feed_All.l0 k acc room l lost = some (room, [], left lost, acc ++ l ++ lagL lost) := by
  intro l
  induction l with
  | nil => intro acc k hk ha; rw [allNil acc (by omega) room lost (by omega), List.append_nil]
  | cons x l ih =>
    intro acc k hk ha
    have hc : (x :: l).length = l.length + 1 := by simp
    obtain ⟨k, rfl⟩ : ∃ n, k = n + 1 := ⟨k - 1, by omega⟩
    rw [feed_All.l0, readCons (by omega), Option.bind_some]
    dsimp only
    rw [if_pos rfl, if_pos (by omega), ih _ k (by omega) (by rw [List.length_append, List.length_singleton]; omega), List.append_assoc acc [_] l]
    rfl
theorem allF {l : List S36} (hl : l.length ≤ 1000) (room lost : Int) {k : Nat} (hk : 1002 ≤ k) : feed_All.f k room l lost = some (room, [], left lost, l ++ lagL lost) := by
  unfold feed_All.f
  rw [all0 room lost l [] k (by omega) (by rw [List.length_nil]; omega), List.nil_append]
/-- What waits, and how many are lost, behind a run of events. -/
def tl (room : Int) : List S36 → Int → List S36 → List S36 × Int
  | items, lost, [] => (items, lost)
  | items, lost, e :: l => if lost = 0 ∧ (items.length : Int) < room then tl room (items ++ [e]) lost l else tl room items (if lost ≥ 1099511627776 then 1099511627776 else lost + 1) l
theorem mnF {lost : Int} (h0 : -9223372036854775808 ≤ lost) (h1 : lost < 9223372036854775808) : wrap64 (mn lost 1099511627775 + 1) = if lost ≥ 1099511627776 then 1099511627776 else lost + 1 := by
  unfold mn wrap64
  by_cases h : lost ≥ 1099511627776
  · rw [if_pos h]
    first | (rw [if_neg (by omega)]; omega) | (simp only [Int.min_def]; split <;> omega) | (split <;> omega) | omega
  · rw [if_neg h]
    first | (rw [if_pos (by omega)]; omega) | (simp only [Int.min_def]; split <;> omega) | (split <;> omega) | omega
theorem tell0 (l : List S36) (hl : l.length ≤ 1000) (room : Int) : ∀ (m i k : Nat) (items : List S36) (lost : Int), i + m = l.length → m + 1 ≤ k → items.length + m ≤ 10000 → -9223372036854775808 ≤ lost → lost < 9223372036854775808 →
    feed_Tell.l0 k l (l.length : Int) (i : Int) room items lost = some (room, (tl room items lost (l.drop i)).1, (tl room items lost (l.drop i)).2) := by
  intro m
  induction m with
  | zero =>
    intro i k items lost hi hk hm h0 h1
    obtain ⟨k, rfl⟩ : ∃ n, k = n + 1 := ⟨k - 1, by omega⟩
    rw [feed_Tell.l0, if_neg (by omega), List.drop_eq_nil_of_le (by omega)]
    rfl
  | succ m ih =>
    intro i k items lost hi hk hm h0 h1
    obtain ⟨k, rfl⟩ : ∃ n, k = n + 1 := ⟨k - 1, by omega⟩
    have hil : i < l.length := by omega
    rw [feed_Tell.l0, if_pos (by omega), if_pos (by omega), if_pos (by omega), w64 (by omega) (by omega), mnF h0 h1, rd_at hil, List.drop_eq_getElem_cons hil, tl]
    by_cases hz : lost = 0
    · rw [if_pos hz]
      by_cases hr : (items.length : Int) < room
      · rw [if_pos hr, if_pos (by omega), if_pos (show lost = 0 ∧ (items.length : Int) < room from ⟨hz, hr⟩)]
        exact ih (i + 1) k _ _ (by omega) (by omega) (by rw [List.length_append, List.length_singleton]; omega) h0 h1
      · rw [if_neg hr, if_neg (show ¬ (lost = 0 ∧ (items.length : Int) < room) from fun h => hr h.2)]
        exact ih (i + 1) k _ _ (by omega) (by omega) (by omega) (by split <;> omega) (by split <;> omega)
    · rw [if_neg hz, if_neg (show ¬ (lost = 0 ∧ (items.length : Int) < room) from fun h => hz h.1)]
      exact ih (i + 1) k _ _ (by omega) (by omega) (by omega) (by split <;> omega) (by split <;> omega)
theorem tellF {l : List S36} (hl : l.length ≤ 1000) (room : Int) {items : List S36} (hi : items.length ≤ 1000) {lost : Int} (h0 : -9223372036854775808 ≤ lost) (h1 : lost < 9223372036854775808) {k : Nat} (hk : 1001 ≤ k) :
    feed_Tell.f k room items lost l = some (room, (tl room items lost l).1, (tl room items lost l).2) := by
  unfold feed_Tell.f
  rw [cloneF (by omega), Option.bind_some]
  exact tell0 l hl room l.length 0 k items lost (by omega) (by omega) (by omega) h0 h1
theorem tl_append (room : Int) : ∀ (a b : List S36) (items : List S36) (lost : Int), tl room items lost (a ++ b) = tl room (tl room items lost a).1 (tl room items lost a).2 b := by
  intro a
  induction a with
  | nil => intro b items lost; rfl
  | cons e a ih =>
    intro b items lost
    rw [List.cons_append, tl, tl]
    by_cases h : lost = 0 ∧ (items.length : Int) < room
    · rw [if_pos h, if_pos h]; exact ih _ _ _
    · rw [if_neg h, if_neg h]; exact ih _ _ _
theorem tl_bound (room : Int) : ∀ (l items : List S36) (lost : Int), -9223372036854775808 ≤ lost → lost < 9223372036854775808 → items.length ≤ (tl room items lost l).1.length ∧ (tl room items lost l).1.length ≤ items.length + l.length ∧ -9223372036854775808 ≤ (tl room items lost l).2 ∧ (tl room items lost l).2 < 9223372036854775808 := by
  intro l
  induction l with
  | nil => intro items lost h0 h1; rw [tl, List.length_nil]; exact ⟨Nat.le_refl _, Nat.le_refl _, h0, h1⟩
  | cons e l ih =>
    intro items lost h0 h1
    have hc : (e :: l).length = l.length + 1 := by simp
    rw [tl, hc]
    by_cases h : lost = 0 ∧ (items.length : Int) < room
    · rw [if_pos h]
      have := ih (items ++ [e]) lost h0 h1
      rw [List.length_append, List.length_singleton] at this
      omega
    · rw [if_neg h]
      have := ih items (if lost ≥ 1099511627776 then 1099511627776 else lost + 1) (by split <;> omega) (by split <;> omega)
      omega
/-- A run of events is the same as itself. -/
theorem events0 (l : List S36) (hl : l.length ≤ 1000000) : ∀ (m i k : Nat), i + m = l.length → m + 1 ≤ k → hopperref13_Events.l0 k l l (i : Int) = some true := by
  intro m
  induction m with
  | zero =>
    intro i k hi hk
    obtain ⟨k, rfl⟩ : ∃ n, k = n + 1 := ⟨k - 1, by omega⟩
    rw [hopperref13_Events.l0, if_neg (by omega)]
  | succ m ih =>
    intro i k hi hk
    obtain ⟨k, rfl⟩ : ∃ n, k = n + 1 := ⟨k - 1, by omega⟩
    rw [hopperref13_Events.l0, if_pos (by omega), if_pos (by omega), if_pos (by omega), if_neg (by simp), w64 (by omega) (by omega)]
    exact ih (i + 1) k (by omega) (by omega)
theorem eventsF {l : List S36} (hl : l.length ≤ 1000) {k : Nat} (hk : 1001 ≤ k) : hopperref13_Events.f k l l = some true := by
  unfold hopperref13_Events.f
  rw [if_pos rfl]
  exact events0 l (by omega) l.length 0 k (by omega) (by omega)
/-- Whether two events differ, as the code tells it. -/
def ne36 (a b : S36) : Bool := (!((a.f0) == (b.f0)) || ((!((a.f1.f0) == (b.f1.f0)) || (!((a.f1.f1) == (b.f1.f1)) || (!((a.f1.f2) == (b.f1.f2)) || (!((a.f1.f3) == (b.f1.f3)) || (!((a.f1.f4) == (b.f1.f4)) || (!(((a.f1.f5).toList) == ((b.f1.f5).toList)))))))) || (!((a.f2) == (b.f2)))))
theorem ne36_self (a : S36) : ne36 a a = false := by simp [ne36]
/-- Whether a run covers another one. -/
def cov : List S36 → List S36 → Bool
  | [], l => ((l.length : Int) == 0)
  | e :: t, l => if e.f0 = 4 then (if e.f2 < 1 then false else if e.f2 > (l.length : Int) then false else cov t (l.drop e.f2.toNat)) else (if (l.length : Int) = 0 then false else if ne36 (rd_T36 l 0) e = true then false else cov t (l.drop 1))
theorem covers0 (x8 : List S36) (hl : x8.length ≤ 1000000) : ∀ (m i k : Nat) (x1 : List S36), i + m = x8.length → 2 * m + 1 ≤ k → x1.length ≤ 1000000 → feed_Covers.l0 k x1 x8 (x8.length : Int) (i : Int) = some (cov (x8.drop i) x1) := by
  intro m
  induction m with
  | zero =>
    intro i k x1 hi hk hx
    obtain ⟨k, rfl⟩ : ∃ n, k = n + 1 := ⟨k - 1, by omega⟩
    rw [feed_Covers.l0, if_neg (by omega), List.drop_eq_nil_of_le (by omega)]
    rfl
  | succ m ih =>
    intro i k x1 hi hk hx
    obtain ⟨k, rfl⟩ : ∃ n, k = n + 2 := ⟨k - 2, by omega⟩
    have hil : i < x8.length := by omega
    rw [feed_Covers.l0, if_pos (by omega), if_pos (by omega), if_pos (by omega), rd_at hil, List.drop_eq_getElem_cons hil, cov, w64 (by omega) (by omega)]
    generalize x8[i] = e
    by_cases h4 : e.f0 = 4
    · rw [if_pos h4, if_pos h4]
      by_cases h1 : e.f2 < 1
      · rw [if_pos h1, if_pos h1]
      · rw [if_neg h1, if_neg h1]
        by_cases h2 : e.f2 > (x1.length : Int)
        · rw [if_pos h2, if_pos h2]
        · rw [if_neg h2, if_neg h2, if_pos (by omega), if_pos (by omega)]
          exact ih (i + 1) (k + 1) _ (by omega) (by omega) (by rw [List.length_drop]; omega)
    · rw [if_neg h4, if_neg h4]
      by_cases h0 : (x1.length : Int) = 0
      · rw [if_pos h0, if_pos h0, feed_Covers.j1, if_pos rfl]
      · rw [if_neg h0, if_neg h0, if_pos (by omega), feed_Covers.j1]
        by_cases hn : ne36 (rd_T36 x1 0) e = true
        · rw [if_pos hn]
          unfold ne36 at hn
          rw [if_pos hn]
        · rw [if_neg hn]
          unfold ne36 at hn
          rw [if_neg hn, if_neg (by omega), if_neg (by omega), if_pos (by omega), if_pos (by omega), w64 (by omega) (by omega)]
          exact ih (i + 1) k _ (by omega) (by omega) (by rw [List.length_drop]; omega)
theorem coversF {a b : List S36} (ha : a.length ≤ 1000) (hb : b.length ≤ 1000) {k : Nat} (hk : 2001 ≤ k) : feed_Covers.f k a b = some (cov a b) := by
  unfold feed_Covers.f
  exact covers0 a (by omega) a.length 0 k b (by omega) (by omega) (by omega)
theorem refCovers0 (x0 x1 : List S36) (hl : x0.length ≤ 1000000) (hx : x1.length ≤ 1000000) : ∀ (m i k at_ : Nat), i + m = x0.length → 2 * m + 1 ≤ k → at_ ≤ x1.length → hopperref14_Covers.l0 k x0 x1 (at_ : Int) (i : Int) = some (cov (x0.drop i) (x1.drop at_)) := by
  intro m
  induction m with
  | zero =>
    intro i k at_ hi hk ha
    obtain ⟨k, rfl⟩ : ∃ n, k = n + 1 := ⟨k - 1, by omega⟩
    rw [hopperref14_Covers.l0, if_neg (by omega), List.drop_eq_nil_of_le (by omega), cov, List.length_drop]
    congr 1
    rw [Bool.eq_iff_iff, beq_iff_eq, beq_iff_eq]
    omega
  | succ m ih =>
    intro i k at_ hi hk ha
    obtain ⟨k, rfl⟩ : ∃ n, k = n + 2 := ⟨k - 2, by omega⟩
    have hil : i < x0.length := by omega
    rw [hopperref14_Covers.l0, if_pos (by omega), if_pos (by omega), rd_at hil, List.drop_eq_getElem_cons hil, cov, w64 (i := (x1.length : Int) - (at_ : Int)) (by omega) (by omega), w64 (i := (i : Int) + 1) (by omega) (by omega), List.length_drop]
    have he : rd_T36 x0 (i : Int) = x0[i] := rd_at hil
    generalize x0[i] = e at he ⊢
    by_cases h4 : e.f0 = 4
    · rw [if_pos h4, if_pos h4]
      by_cases h1 : e.f2 < 1
      · rw [if_pos h1, if_pos h1, hopperref14_Covers.j1, if_pos rfl]
      · rw [if_neg h1, if_neg h1, hopperref14_Covers.j1]
        by_cases h2 : e.f2 > (x1.length : Int) - (at_ : Int)
        · rw [if_pos (decide_eq_true h2), if_pos (by omega)]
        · have e2 : e.f2 = ((e.f2.toNat : Nat) : Int) := by omega
          have h3 := ih (i + 1) k (at_ + e.f2.toNat) (by omega) (by omega) (by omega)
          rw [show decide (e.f2 > (x1.length : Int) - (at_ : Int)) = false from decide_eq_false h2, if_neg (show ¬ (false = true) by decide), if_pos (show (0 : Int) ≤ (i : Int) by omega), if_pos (show (i : Int) < (x0.length : Int) by omega), he, if_neg (show ¬ e.f2 > ((x1.length - at_ : Nat) : Int) by omega), List.drop_drop, w64 (i := (i : Int) + 1) (by omega) (by omega), w64 (by omega) (by omega)]
          rw [show (at_ : Int) + e.f2 = ((at_ + e.f2.toNat : Nat) : Int) by omega]
          exact h3
    · rw [if_neg h4, if_neg h4]
      by_cases h0 : (at_ : Int) ≥ (x1.length : Int)
      · rw [if_pos h0, if_pos (by omega)]
      · have hat : at_ < x1.length := by omega
        have hr : rd_T36 (x1.drop at_) 0 = x1[at_] := by rw [List.drop_eq_getElem_cons hat]; rfl
        have h3 := ih (i + 1) (k + 1) (at_ + 1) (by omega) (by omega) (by omega)
        rw [if_neg h0, if_neg (show ¬ ((x1.length - at_ : Nat) : Int) = 0 by omega), if_pos (show (0 : Int) ≤ (at_ : Int) by omega), if_pos (show (at_ : Int) < (x1.length : Int) by omega), hr, rd_at hat, List.drop_drop]
        by_cases hn : ne36 x1[at_] e = true
        · rw [if_pos hn]
          unfold ne36 at hn
          rw [if_pos hn]
        · rw [if_neg hn]
          unfold ne36 at hn
          rw [if_neg hn, w64 (by omega) (by omega)]
          exact h3
theorem refCoversF {a b : List S36} (ha : a.length ≤ 1000) (hb : b.length ≤ 1000) {k : Nat} (hk : 2001 ≤ k) : hopperref14_Covers.f k a b = some (cov a b) := by
  unfold hopperref14_Covers.f
  exact refCovers0 a b (by omega) (by omega) a.length 0 k 0 (by omega) (by omega) (by omega)
theorem cov_append : ∀ (a b l1 l2 : List S36), cov a l1 = true → cov b l2 = true → cov (a ++ b) (l1 ++ l2) = true := by
  intro a
  induction a with
  | nil =>
    intro b l1 l2 h1 h2
    rw [cov, beq_iff_eq] at h1
    have hz : l1 = [] := List.length_eq_zero_iff.1 (by omega)
    subst hz
    exact h2
  | cons e t ih =>
    intro b l1 l2 h1 h2
    rw [cov] at h1
    rw [List.cons_append, cov]
    by_cases h4 : e.f0 = 4
    · rw [if_pos h4] at h1 ⊢
      by_cases hn : e.f2 < 1
      · rw [if_pos hn] at h1; cases h1
      · rw [if_neg hn] at h1 ⊢
        by_cases hg : e.f2 > (l1.length : Int)
        · rw [if_pos hg] at h1; cases h1
        · rw [if_neg hg] at h1
          rw [if_neg (by rw [List.length_append]; omega), List.drop_append_of_le_length (by omega)]
          exact ih b _ l2 h1 h2
    · rw [if_neg h4] at h1 ⊢
      cases l1 with
      | nil => rw [if_pos (show (([] : List S36).length : Int) = 0 from rfl)] at h1; cases h1
      | cons x l1 =>
        have hc : (x :: l1).length = l1.length + 1 := by simp
        have hc2 : (x :: (l1 ++ l2)).length = (l1 ++ l2).length + 1 := by simp
        rw [if_neg (by omega), rd_zero] at h1
        rw [List.cons_append, if_neg (by omega), rd_zero]
        by_cases hn : ne36 x e = true
        · rw [if_pos hn] at h1; cases h1
        · rw [if_neg hn, List.drop_succ_cons, List.drop_zero] at h1
          rw [if_neg hn, List.drop_succ_cons, List.drop_zero]
          exact ih b l1 l2 h1 h2
theorem cov_split : ∀ (a b l : List S36), cov (a ++ b) l = true → ∃ l1 l2, l = l1 ++ l2 ∧ cov a l1 = true ∧ cov b l2 = true := by
  intro a
  induction a with
  | nil => intro b l h; exact ⟨[], l, rfl, rfl, h⟩
  | cons e t ih =>
    intro b l h
    rw [List.cons_append, cov] at h
    by_cases h4 : e.f0 = 4
    · rw [if_pos h4] at h
      by_cases hn : e.f2 < 1
      · rw [if_pos hn] at h; cases h
      · rw [if_neg hn] at h
        by_cases hg : e.f2 > (l.length : Int)
        · rw [if_pos hg] at h; cases h
        · rw [if_neg hg] at h
          obtain ⟨l1, l2, e1, e2, e3⟩ := ih b _ h
          refine ⟨l.take e.f2.toNat ++ l1, l2, by rw [List.append_assoc, ← e1, List.take_append_drop], ?_, e3⟩
          have ht : (l.take e.f2.toNat).length = e.f2.toNat := by rw [List.length_take]; omega
          rw [cov, if_pos h4, if_neg hn, if_neg (by rw [List.length_append]; omega), List.drop_left' ht]
          exact e2
    · rw [if_neg h4] at h
      cases l with
      | nil => rw [if_pos (show (([] : List S36).length : Int) = 0 from rfl)] at h; cases h
      | cons x l =>
        have hc : (x :: l).length = l.length + 1 := by simp
        rw [if_neg (by omega), rd_zero] at h
        by_cases hn : ne36 x e = true
        · rw [if_pos hn] at h; cases h
        · rw [if_neg hn, List.drop_succ_cons, List.drop_zero] at h
          obtain ⟨l1, l2, e1, e2, e3⟩ := ih b _ h
          subst e1
          have hc1 : (x :: l1).length = l1.length + 1 := by simp
          refine ⟨x :: l1, l2, rfl, ?_, e3⟩
          rw [cov, if_neg h4, if_neg (by omega), rd_zero, if_neg hn, List.drop_succ_cons, List.drop_zero]
          exact e2
theorem cov_one {e : S36} (h : e.f0 ≠ 4) : cov [e] [e] = true := by
  rw [cov, if_neg h, if_neg (by simp), rd_zero, ne36_self, if_neg (by simp)]
  rfl
theorem cov_lag (n : Int) (l : List S36) : cov [lag n] l = true ↔ 1 ≤ n ∧ n = (l.length : Int) := by
  rw [cov, if_pos (show (lag n).f0 = 4 from rfl), show (lag n).f2 = n from rfl]
  by_cases h1 : n < 1
  · rw [if_pos h1]
    constructor
    · intro h; cases h
    · intro h; omega
  · rw [if_neg h1]
    by_cases h2 : n > (l.length : Int)
    · rw [if_pos h2]
      constructor
      · intro h; cases h
      · intro h; omega
    · rw [if_neg h2, cov, beq_iff_eq, List.length_drop]
      omega
/-- What was read, and waits, and is lost, covers one event more when one more is told. -/
def ev (n : Int) : S36 := ⟨1, ⟨0, n, 0, 0, 0, ⟨#[]⟩⟩, 0⟩
theorem told_one {read items told : List S36} {lost room : Int} {e : S36} (he : e.f0 ≠ 4) (h0 : 0 ≤ lost) (h1 : lost ≤ 1000) (h : cov (read ++ items ++ lagL lost) told = true) :
    cov (read ++ (tl room items lost [e]).1 ++ lagL (tl room items lost [e]).2) (told ++ [e]) = true ∧ 0 ≤ (tl room items lost [e]).2 ∧ (tl room items lost [e]).2 ≤ lost + 1 ∧ (tl room items lost [e]).1.length ≤ items.length + 1 ∧ ((items.length : Int) ≤ room → ((tl room items lost [e]).1.length : Int) ≤ room) ∧
    (lost = 0 → ¬ (tl room items lost [e]).2 > 0 → (tl room items lost [e]).2 = 0 ∧ (tl room items lost [e]).1 = items ++ [e]) ∧ (lost > 0 → (tl room items lost [e]).2 > 0) := by
  rw [tl]
  by_cases hc : lost = 0 ∧ (items.length : Int) < room
  · rw [if_pos hc, tl]
    obtain ⟨rfl, hc⟩ := hc
    refine ⟨?_, by omega, by omega, by simp, fun _ => by simp; omega, fun _ _ => ⟨rfl, rfl⟩, fun h => absurd h (by omega)⟩
    have hL : lagL 0 = [] := rfl
    rw [hL, List.append_nil] at h ⊢
    rw [← List.append_assoc]
    exact cov_append _ _ _ _ h (cov_one he)
  · rw [if_neg hc, if_neg (show ¬ lost ≥ 1099511627776 by omega), tl]
    refine ⟨?_, by omega, by omega, by simp, fun h => h, fun _ hn => absurd (show lost + 1 > 0 by omega) hn, fun _ => by omega⟩
    have hL : lagL (lost + 1) = [lag (lost + 1)] := if_pos (by omega)
    rw [hL]
    by_cases hz : lost = 0
    · subst hz
      have hL0 : lagL 0 = [] := rfl
      rw [hL0, List.append_nil] at h
      exact cov_append _ _ _ _ h ((cov_lag _ _).2 ⟨by omega, by simp⟩)
    · have hL0 : lagL lost = [lag lost] := if_pos (by omega)
      rw [hL0] at h
      obtain ⟨t1, t2, rfl, c1, c2⟩ := cov_split _ _ _ h
      rw [List.append_assoc t1 t2 [e]]
      refine cov_append _ _ _ _ c1 ((cov_lag _ _).2 ⟨by omega, ?_⟩)
      have := ((cov_lag _ _).1 c2).2
      rw [List.length_append, List.length_singleton]
      omega
theorem loop (room : Int) (hr : 1 ≤ room ∧ room ≤ 16) (l1 : List Int) (hl : l1.length ≤ 100) : ∀ (m i k : Nat) (told read items : List S36) (full : Bool) (lost : Int), i + m = l1.length → 3 * m + 3000 ≤ k → told.length ≤ i → read.length ≤ i → (items.length : Int) ≤ room → 0 ≤ lost → lost ≤ (i : Int) →
    cov (read ++ items ++ lagL lost) told = true → (full = false → lost = 0 ∧ read ++ items = told) → hopperlaw14_FeedCovers.l0 k room l1 told read full (i : Int) room items lost = some true := by
  intro m
  induction m with
  | zero =>
    intro i k told read items full lost hi hk ht hrd hit h0 h1 hc hf
    obtain ⟨k, rfl⟩ : ∃ n, k = n + 3 := ⟨k - 3, by omega⟩
    have hL : (lagL lost).length ≤ 1 := by
      unfold lagL
      split
      · simp
      · simp
    have hz : left lost = 0 := by unfold left; split <;> omega
    rw [hopperlaw14_FeedCovers.l0, if_neg (by omega), if_neg (by omega), show decide (lost < 0) = false from decide_eq_false (by omega), hopperlaw14_FeedCovers.j4, if_neg (by simp), allF (by omega) _ _ (by omega), Option.bind_some]
    dsimp only
    rw [if_pos (by rw [List.length_append]; omega), Option.bind_some, ← List.append_assoc, coversF (by rw [List.length_append, List.length_append]; omega) (by omega) (by omega), Option.bind_some, hc, if_pos rfl, refCoversF (by rw [List.length_append, List.length_append]; omega) (by omega) (by omega), Option.bind_some, hc, if_pos rfl, if_neg (by simp), hz, hopperlaw14_FeedCovers.j5, if_neg (by simp)]
    cases full with
    | true => rw [if_pos rfl, live_true (by omega)]; rfl
    | false =>
      obtain ⟨hz0, he⟩ := hf rfl
      subst hz0
      have hL0 : lagL 0 = [] := rfl
      rw [if_neg (by simp), hL0, List.append_nil, he, eventsF (by omega) (by omega), Option.bind_some, if_pos rfl, live_true (by omega)]
      rfl
  | succ m ih =>
    intro i k told read items full lost hi hk ht hrd hit h0 h1 hc hf
    obtain ⟨k, rfl⟩ : ∃ n, k = n + 3 := ⟨k - 3, by omega⟩
    rw [hopperlaw14_FeedCovers.l0, if_pos (by omega), if_pos (by omega)]
    generalize rd l1 (i : Int) = n
    by_cases hn : n = 0
    · rw [if_pos hn]
      cases items with
      | cons x items =>
        have hcl : (x :: items).length = items.length + 1 := by simp
        rw [readCons (by omega), Option.bind_some]
        dsimp only
        rw [if_pos rfl, if_pos (by omega), hopperlaw14_FeedCovers.j2, if_pos rfl, hopperlaw14_FeedCovers.j3, if_neg (by simp), w64 (by omega) (by omega)]
        have ee : read ++ (x :: items) = (read ++ [x]) ++ items := by simp
        rw [ee] at hc hf
        exact ih (i + 1) k told (read ++ [x]) items full lost (by omega) (by omega) (by omega) (by rw [List.length_append, List.length_singleton]; omega) (by omega) h0 (by omega) hc hf
      | nil =>
        by_cases hp : lost > 0
        · rw [readLost room hp, Option.bind_some]
          dsimp only
          rw [if_pos rfl, if_pos (by omega), hopperlaw14_FeedCovers.j2, if_pos rfl, hopperlaw14_FeedCovers.j3, if_neg (by simp), w64 (by omega) (by omega)]
          have hL : lagL lost = [lag lost] := if_pos hp
          rw [hL, List.append_nil] at hc
          refine ih (i + 1) k told (read ++ [lag lost]) [] full 0 (by omega) (by omega) (by omega) (by rw [List.length_append, List.length_singleton]; omega) hit (by omega) (by omega) ?_ (fun h => absurd (hf h).1 (by omega))
          rw [List.append_nil, show lagL 0 = [] from rfl, List.append_nil]
          exact hc
        · rw [readNone room hp, Option.bind_some]
          dsimp only
          rw [if_neg (by decide), hopperlaw14_FeedCovers.j2, if_neg (by decide), hopperlaw14_FeedCovers.j3, if_neg (by simp), w64 (by omega) (by omega)]
          exact ih (i + 1) k told read [] full lost (by omega) (by omega) (by omega) (by omega) hit h0 (by omega) hc hf
    · have key := told_one (room := room) (e := ev n) (show (1 : Int) ≠ 4 by decide) h0 (by omega) hc
      obtain ⟨k1, k2, k3, k4, k5, k6, k7⟩ := key
      rw [if_neg hn, hopperlaw14_event.f, Option.bind_some]
      dsimp only
      rw [if_pos (by omega), Option.bind_some, Option.bind_some]
      dsimp only
      rw [show (⟨1, ⟨0, n, 0, 0, 0, ⟨#[]⟩⟩, 0⟩ : S36) = ev n from rfl, tellF (by simp) _ (by omega) (by omega) (by omega) (by omega), Option.bind_some, w64 (by omega) (by omega)]
      dsimp only
      have hlt : (told ++ [ev n]).length ≤ i + 1 := by rw [List.length_append, List.length_singleton]; omega
      cases full with
      | true =>
        rw [if_pos rfl]
        exact ih (i + 1) (k + 2) _ read _ true _ (by omega) (by omega) hlt (by omega) (k5 hit) k2 (by omega) k1 (fun h => by cases h)
      | false =>
        obtain ⟨hz0, he⟩ := hf rfl
        rw [if_neg (by simp)]
        refine ih (i + 1) (k + 2) _ read _ _ _ (by omega) (by omega) hlt (by omega) (k5 hit) k2 (by omega) k1 (fun h => ?_)
        obtain ⟨g1, g2⟩ := k6 hz0 (of_decide_eq_false h)
        exact ⟨g1, by rw [g2, ← he, List.append_assoc]⟩
theorem pure_ (a0 : Int) (l1 : List Int) : ∃ k, hopperlaw14_FeedCovers.f k a0 l1 = some true := by
  refine ⟨5000, ?_⟩
  unfold hopperlaw14_FeedCovers.f
  rw [newF]
  by_cases hr : 1 ≤ a0 ∧ a0 ≤ 16
  · rw [if_pos hr, Option.bind_some]
    dsimp only
    by_cases hl : (l1.length : Int) > 100
    · rw [if_pos hl, hopperlaw14_FeedCovers.j0, if_pos rfl, live_true (by omega)]; rfl
    · rw [if_neg hl, hopperlaw14_FeedCovers.j0, if_neg (by decide)]
      exact loop a0 hr l1 (by omega) l1.length 0 4999 [] [] [] false 0 (by omega) (by omega) (by simp) (by simp) (by simp; omega) (by omega) (by omega) rfl (fun _ => ⟨rfl, rfl⟩)
  · rw [if_neg hr, Option.bind_some]
    dsimp only
    by_cases hl : (l1.length : Int) > 100
    · rw [if_pos hl, hopperlaw14_FeedCovers.j0, if_pos rfl, live_true (by omega)]; rfl
    · rw [if_neg hl, hopperlaw14_FeedCovers.j0, if_pos (by decide), live_true (by omega)]; rfl
end Go.Proofs.Ythmnedlaecekkaa.PFeedCovers
