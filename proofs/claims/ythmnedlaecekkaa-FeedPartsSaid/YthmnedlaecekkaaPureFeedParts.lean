/- The law FeedParts as a statement over lists and numbers. -/
import Derived.Test.YthmnedlaecekkaaPFeedPartsx1
import Derived.Test.YthmnedlaecekkaaPFeedPartsx2
import Derived.Test.YthmnedlaecekkaaPFeedPartsx3
import Derived.Test.YthmnedlaecekkaaPFeedPartsx4
import Derived.Test.YthmnedlaecekkaaPFeedPartsx5
import Derived.Test.YthmnedlaecekkaaPFeedPartsx6
namespace Go.Proofs.Ythmnedlaecekkaa.PFeedParts
open Go.RowKit Go.Proofs.YthmnedlaecekkaaW.PrintWords Go.Proofs.YthmnedlaecekkaaW.PrintMore
set_option linter.unusedVariables false
set_option linter.unusedSimpArgs false

theorem live_true {k : Nat} (hk : 60 ≤ k) : hopperlaw14_live.f k = some true := by
  have h60 : hopperlaw14_live.f 60 = some true := by decide +kernel
  obtain ⟨b, rfl⟩ : ∃ b, k = 60 + b := ⟨k - 60, by omega⟩
  clear hk
  induction b with
  | zero => exact h60
  | succ b ih => exact hopperlaw14_live.mono _ _ ih
theorem w64 {i : Int} (h0 : -9223372036854775808 ≤ i) (h1 : i < 9223372036854775808) : wrap64 i = i := by unfold wrap64; omega
theorem rd_at {l : List S36} {i : Nat} (h : i < l.length) : rd_T36 l (i : Int) = l[i] := by simp [rd_T36, List.getElem?_eq_getElem h]
theorem rd_zero (x : S36) (l : List S36) : rd_T36 (x :: l) 0 = x := rfl
theorem cloneF {l : List S36} (h : l.length ≤ 1000000) : api_Event.f l = some l := by
  unfold api_Event.f
  rw [Option.bind_some, if_pos (by rw [List.length_nil]; omega), List.nil_append]
theorem newF (room : Int) : feed_New.f room = if 1 ≤ room ∧ room ≤ 16 then some (room, [], 0, 0) else some (0, [], 0, 1) := by
  unfold feed_New.f
  by_cases h : room < 1
  · rw [if_pos h, if_neg (by omega)]
  · rw [if_neg h]
    by_cases h2 : room > 16
    · rw [if_pos h2, if_neg (by omega)]
    · rw [if_neg h2, if_pos (by omega)]
theorem readCons {x : S36} {l : List S36} (hl : l.length ≤ 1000000) (room lost : Int) : feed_Read.f room (x :: l) lost = some (room, l, lost, x.f0, x.f1.f0, x.f1.f1, x.f1.f2, x.f1.f3, x.f1.f4, x.f1.f5, x.f2, 0) := by
  unfold feed_Read.f
  have hc : (((x :: l).length : Nat) : Int) = (l.length : Int) + 1 := by simp
  rw [if_pos (by rw [hc]; omega), if_pos (by rw [hc]; omega), if_pos (by rw [hc]; omega), List.drop_succ_cons, List.drop_zero, cloneF hl, Option.bind_some, rd_zero]
theorem readLost (room : Int) {lost : Int} (h : lost > 0) : feed_Read.f room [] lost = some (room, [], 0, 4, 0, 0, 0, 0, 0, ⟨#[]⟩, lost, 0) := by
  unfold feed_Read.f
  rw [if_neg (show ¬ (([] : List S36).length : Int) > 0 by decide), if_pos h]
theorem readNone (room : Int) {lost : Int} (h : ¬ lost > 0) : feed_Read.f room [] lost = some (room, [], lost, 0, 0, 0, 0, 0, 0, ⟨#[]⟩, 0, 7) := by
  unfold feed_Read.f
  rw [if_neg (show ¬ (([] : List S36).length : Int) > 0 by decide), if_neg h]
/-- The word for as many as were lost. -/
def lag (n : Int) : S36 := ⟨4, ⟨0, 0, 0, 0, 0, ⟨#[]⟩⟩, n⟩
def lagL (lost : Int) : List S36 := if lost > 0 then [lag lost] else []
def left (lost : Int) : Int := if lost > 0 then 0 else lost
theorem allNil (acc : List S36) (ha : acc.length ≤ 1000000) (room lost : Int) {k : Nat} (hk : 2 ≤ k) : feed_All.l0 k acc room [] lost = some (room, [], left lost, acc ++ lagL lost) := by
  obtain ⟨k, rfl⟩ : ∃ n, k = n + 2 := ⟨k - 2, by omega⟩
  unfold left lagL
  rw [feed_All.l0]
  by_cases h : lost > 0
  · rw [readLost room h, Option.bind_some]
    dsimp only
    rw [if_pos rfl, if_pos (by omega), feed_All.l0, readNone room (by omega), Option.bind_some]
    dsimp only
    rw [if_neg (by omega), if_pos h, if_pos h]
    rfl
  · rw [readNone room h, Option.bind_some]
    dsimp only
    rw [if_neg (by omega), if_neg h, if_neg h, List.append_nil]
theorem all0 (room lost : Int) : ∀ (l acc : List S36) (k : Nat), l.length + 2 ≤ k → acc.length + l.length ≤ 1000000 → feed_All.l0 k acc room l lost = some (room, [], left lost, acc ++ l ++ lagL lost) := by
  intro l
  induction l with
  | nil => intro acc k hk ha; rw [allNil acc (by omega) room lost (by omega), List.append_nil]
  | cons x l ih =>
    intro acc k hk ha
    have hc : (x :: l).length = l.length + 1 := by simp
    obtain ⟨k, rfl⟩ : ∃ n, k = n + 1 := ⟨k - 1, by omega⟩
    rw [feed_All.l0, readCons (by omega), Option.bind_some]
    dsimp only
    rw [if_pos rfl, if_pos (by omega), ih _ k (by omega) (by rw [List.length_append, List.length_singleton]; omega), List.append_assoc acc [_] l]
    rfl
theorem allF {l : List S36} (hl : l.length ≤ 1000) (room lost : Int) {k : Nat} (hk : 1002 ≤ k) : feed_All.f k room l lost = some (room, [], left lost, l ++ lagL lost) := by
  unfold feed_All.f
  rw [all0 room lost l [] k (by omega) (by rw [List.length_nil]; omega), List.nil_append]
/-- What waits, and how many are lost, behind a run of events. -/
def tl (room : Int) : List S36 → Int → List S36 → List S36 × Int
  | items, lost, [] => (items, lost)
  | items, lost, e :: l => if lost = 0 ∧ (items.length : Int) < room then tl room (items ++ [e]) lost l else tl room items (if lost ≥ 1099511627776 then 1099511627776 else lost + 1) l
theorem mnF {lost : Int} (h0 : -9223372036854775808 ≤ lost) (h1 : lost < 9223372036854775808) : wrap64 (mn lost 1099511627775 + 1) = if lost ≥ 1099511627776 then 1099511627776 else lost + 1 := by
  unfold mn wrap64
  by_cases h : lost ≥ 1099511627776
  · rw [if_pos h]
    first | (rw [if_neg (by omega)]; omega) | (simp only [Int.min_def]; split <;> omega) | (split <;> omega) | omega
  · rw [if_neg h]
    first | (rw [if_pos (by omega)]; omega) | (simp only [Int.min_def]; split <;> omega) | (split <;> omega) | omega
theorem tell0 (l : List S36) (hl : l.length ≤ 1000) (room : Int) : ∀ (m i k : Nat) (items : List S36) (lost : Int), i + m = l.length → m + 1 ≤ k → items.length + m ≤ 10000 → -9223372036854775808 ≤ lost → lost < 9223372036854775808 →
    feed_Tell.l0 k l (l.length : Int) (i : Int) room items lost = some (room, (tl room items lost (l.drop i)).1, (tl room items lost (l.drop i)).2) := by
  intro m
  induction m with
  | zero =>
    intro i k items lost hi hk hm h0 h1
    obtain ⟨k, rfl⟩ : ∃ n, k = n + 1 := ⟨k - 1, by omega⟩
    rw [feed_Tell.l0, if_neg (by omega), List.drop_eq_nil_of_le (by omega)]
    rfl
  | succ m ih =>
    intro i k items lost hi hk hm h0 h1
    obtain ⟨k, rfl⟩ : ∃ n, k = n + 1 := ⟨k - 1, by omega⟩
    have hil : i < l.length := by omega
    rw [feed_Tell.l0, if_pos (by omega), if_pos (by omega), if_pos (by omega), w64 (by omega) (by omega), mnF h0 h1, rd_at hil, List.drop_eq_getElem_cons hil, tl]
    by_cases hz : lost = 0
    · rw [if_pos hz]
      by_cases hr : (items.length : Int) < room
      · rw [if_pos hr, if_pos (by omega), if_pos (show lost = 0 ∧ (items.length : Int) < room from ⟨hz, hr⟩)]
        exact ih (i + 1) k _ _ (by omega) (by omega) (by rw [List.length_append, List.length_singleton]; omega) h0 h1
      · rw [if_neg hr, if_neg (show ¬ (lost = 0 ∧ (items.length : Int) < room) from fun h => hr h.2)]
        exact ih (i + 1) k _ _ (by omega) (by omega) (by omega) (by split <;> omega) (by split <;> omega)
    · rw [if_neg hz, if_neg (show ¬ (lost = 0 ∧ (items.length : Int) < room) from fun h => hz h.1)]
      exact ih (i + 1) k _ _ (by omega) (by omega) (by omega) (by split <;> omega) (by split <;> omega)
theorem tellF {l : List S36} (hl : l.length ≤ 1000) (room : Int) {items : List S36} (hi : items.length ≤ 1000) {lost : Int} (h0 : -9223372036854775808 ≤ lost) (h1 : lost < 9223372036854775808) {k : Nat} (hk : 1001 ≤ k) :
    feed_Tell.f k room items lost l = some (room, (tl room items lost l).1, (tl room items lost l).2) := by
  unfold feed_Tell.f
  rw [cloneF (by omega), Option.bind_some]
  exact tell0 l hl room l.length 0 k items lost (by omega) (by omega) (by omega) h0 h1
theorem tl_append (room : Int) : ∀ (a b : List S36) (items : List S36) (lost : Int), tl room items lost (a ++ b) = tl room (tl room items lost a).1 (tl room items lost a).2 b := by
  intro a
  induction a with
  | nil => intro b items lost; rfl
  | cons e a ih =>
    intro b items lost
    rw [List.cons_append, tl, tl]
    by_cases h : lost = 0 ∧ (items.length : Int) < room
    · rw [if_pos h, if_pos h]; exact ih _ _ _
    · rw [if_neg h, if_neg h]; exact ih _ _ _
theorem tl_bound (room : Int) : ∀ (l items : List S36) (lost : Int), -9223372036854775808 ≤ lost → lost < 9223372036854775808 → items.length ≤ (tl room items lost l).1.length ∧ (tl room items lost l).1.length ≤ items.length + l.length ∧ -9223372036854775808 ≤ (tl room items lost l).2 ∧ (tl room items lost l).2 < 9223372036854775808 := by
  intro l
  induction l with
  | nil => intro items lost h0 h1; rw [tl, List.length_nil]; exact ⟨Nat.le_refl _, Nat.le_refl _, h0, h1⟩
  | cons e l ih =>
    intro items lost h0 h1
    have hc : (e :: l).length = l.length + 1 := by simp
    rw [tl, hc]
    by_cases h : lost = 0 ∧ (items.length : Int) < room
    · rw [if_pos h]
      have := ih (items ++ [e]) lost h0 h1
      rw [List.length_append, List.length_singleton] at this
      omega
    · rw [if_neg h]
      have := ih items (if lost ≥ 1099511627776 then 1099511627776 else lost + 1) (by split <;> omega) (by split <;> omega)
      omega
/-- Whether there are few is told of any run; told so, it is no longer than that. -/
theorem few0 (l : List S36) (hl : l.length ≤ 9223372036854775807) (most : Int) : ∀ (m i k : Nat), i + m = l.length → m + 1 ≤ k → ∃ b, hopperref14_Few.l0 k l most (i : Int) = some b ∧ (b = true → (l.length : Int) ≤ most) := by
  intro m
  induction m with
  | zero =>
    intro i k hi hk
    obtain ⟨k, rfl⟩ : ∃ n, k = n + 1 := ⟨k - 1, by omega⟩
    rw [hopperref14_Few.l0, if_neg (by omega)]
    exact ⟨_, rfl, fun h => of_decide_eq_true h⟩
  | succ m ih =>
    intro i k hi hk
    obtain ⟨k, rfl⟩ : ∃ n, k = n + 1 := ⟨k - 1, by omega⟩
    rw [hopperref14_Few.l0, if_pos (by omega), if_pos (by omega)]
    by_cases h : (((rd_T36 l (i : Int)).f1.f5).size : Int) > 500
    · rw [if_pos h]; exact ⟨false, rfl, fun h => by cases h⟩
    · rw [if_neg h, w64 (by omega) (by omega)]
      exact ih (i + 1) k (by omega) (by omega)
theorem fewF {l : List S36} (hl : l.length ≤ 9223372036854775807) (most : Int) {k : Nat} (hk : l.length + 1 ≤ k) : ∃ b, hopperref14_Few.f k l most = some b ∧ (b = true → (l.length : Int) ≤ most) :=
  few0 l hl most l.length 0 k (by omega) hk
/-- Whether two events differ, as the code tells it. -/
def ne36 (a b : S36) : Bool := (!((a.f0) == (b.f0)) || ((!((a.f1.f0) == (b.f1.f0)) || (!((a.f1.f1) == (b.f1.f1)) || (!((a.f1.f2) == (b.f1.f2)) || (!((a.f1.f3) == (b.f1.f3)) || (!((a.f1.f4) == (b.f1.f4)) || (!(((a.f1.f5).toList) == ((b.f1.f5).toList)))))))) || (!((a.f2) == (b.f2)))))
theorem ne36_self (a : S36) : ne36 a a = false := by simp [ne36]
/-- Whether a run covers another one. -/
def cov : List S36 → List S36 → Bool
  | [], l => ((l.length : Int) == 0)
  | e :: t, l => if e.f0 = 4 then (if e.f2 < 1 then false else if e.f2 > (l.length : Int) then false else cov t (l.drop e.f2.toNat)) else (if (l.length : Int) = 0 then false else if ne36 (rd_T36 l 0) e = true then false else cov t (l.drop 1))
theorem covers0 (x8 : List S36) (hl : x8.length ≤ 1000000) : ∀ (m i k : Nat) (x1 : List S36), i + m = x8.length → 2 * m + 1 ≤ k → x1.length ≤ 1000000 → feed_Covers.l0 k x1 x8 (x8.length : Int) (i : Int) = some (cov (x8.drop i) x1) := by
  intro m
  induction m with
  | zero =>
    intro i k x1 hi hk hx
    obtain ⟨k, rfl⟩ : ∃ n, k = n + 1 := ⟨k - 1, by omega⟩
    rw [feed_Covers.l0, if_neg (by omega), List.drop_eq_nil_of_le (by omega)]
    rfl
  | succ m ih =>
    intro i k x1 hi hk hx
    obtain ⟨k, rfl⟩ : ∃ n, k = n + 2 := ⟨k - 2, by omega⟩
    have hil : i < x8.length := by omega
    rw [feed_Covers.l0, if_pos (by omega), if_pos (by omega), if_pos (by omega), rd_at hil, List.drop_eq_getElem_cons hil, cov, w64 (by omega) (by omega)]
    generalize x8[i] = e
    by_cases h4 : e.f0 = 4
    · rw [if_pos h4, if_pos h4]
      by_cases h1 : e.f2 < 1
      · rw [if_pos h1, if_pos h1]
      · rw [if_neg h1, if_neg h1]
        by_cases h2 : e.f2 > (x1.length : Int)
        · rw [if_pos h2, if_pos h2]
        · rw [if_neg h2, if_neg h2, if_pos (by omega), if_pos (by omega)]
          exact ih (i + 1) (k + 1) _ (by omega) (by omega) (by rw [List.length_drop]; omega)
    · rw [if_neg h4, if_neg h4]
      by_cases h0 : (x1.length : Int) = 0
      · rw [if_pos h0, if_pos h0, feed_Covers.j1, if_pos rfl]
      · rw [if_neg h0, if_neg h0, if_pos (by omega), feed_Covers.j1]
        by_cases hn : ne36 (rd_T36 x1 0) e = true
        · rw [if_pos hn]
          unfold ne36 at hn
          rw [if_pos hn]
        · rw [if_neg hn]
          unfold ne36 at hn
          rw [if_neg hn, if_neg (by omega), if_neg (by omega), if_pos (by omega), if_pos (by omega), w64 (by omega) (by omega)]
          exact ih (i + 1) k _ (by omega) (by omega) (by rw [List.length_drop]; omega)
theorem coversF {a b : List S36} (ha : a.length ≤ 1000) (hb : b.length ≤ 1000) {k : Nat} (hk : 2001 ≤ k) : feed_Covers.f k a b = some (cov a b) := by
  unfold feed_Covers.f
  exact covers0 a (by omega) a.length 0 k b (by omega) (by omega) (by omega)
theorem cov_append : ∀ (a b l1 l2 : List S36), cov a l1 = true → cov b l2 = true → cov (a ++ b) (l1 ++ l2) = true := by
  intro a
  induction a with
  | nil =>
    intro b l1 l2 h1 h2
    rw [cov, beq_iff_eq] at h1
    have hz : l1 = [] := List.length_eq_zero_iff.1 (by omega)
    subst hz
    exact h2
  | cons e t ih =>
    intro b l1 l2 h1 h2
    rw [cov] at h1
    rw [List.cons_append, cov]
    by_cases h4 : e.f0 = 4
    · rw [if_pos h4] at h1 ⊢
      by_cases hn : e.f2 < 1
      · rw [if_pos hn] at h1; cases h1
      · rw [if_neg hn] at h1 ⊢
        by_cases hg : e.f2 > (l1.length : Int)
        · rw [if_pos hg] at h1; cases h1
        · rw [if_neg hg] at h1
          rw [if_neg (by rw [List.length_append]; omega), List.drop_append_of_le_length (by omega)]
          exact ih b _ l2 h1 h2
    · rw [if_neg h4] at h1 ⊢
      cases l1 with
      | nil => rw [if_pos (show (([] : List S36).length : Int) = 0 from rfl)] at h1; cases h1
      | cons x l1 =>
        have hc : (x :: l1).length = l1.length + 1 := by simp
        have hc2 : (x :: (l1 ++ l2)).length = (l1 ++ l2).length + 1 := by simp
        rw [if_neg (by omega), rd_zero] at h1
        rw [List.cons_append, if_neg (by omega), rd_zero]
        by_cases hn : ne36 x e = true
        · rw [if_pos hn] at h1; cases h1
        · rw [if_neg hn, List.drop_succ_cons, List.drop_zero] at h1
          rw [if_neg hn, List.drop_succ_cons, List.drop_zero]
          exact ih b l1 l2 h1 h2
theorem cov_split : ∀ (a b l : List S36), cov (a ++ b) l = true → ∃ l1 l2, l = l1 ++ l2 ∧ cov a l1 = true ∧ cov b l2 = true := by
  intro a
  induction a with
  | nil => intro b l h; exact ⟨[], l, rfl, rfl, h⟩
  | cons e t ih =>
    intro b l h
    rw [List.cons_append, cov] at h
    by_cases h4 : e.f0 = 4
    · rw [if_pos h4] at h
      by_cases hn : e.f2 < 1
      · rw [if_pos hn] at h; cases h
      · rw [if_neg hn] at h
        by_cases hg : e.f2 > (l.length : Int)
        · rw [if_pos hg] at h; cases h
        · rw [if_neg hg] at h
          obtain ⟨l1, l2, e1, e2, e3⟩ := ih b _ h
          refine ⟨l.take e.f2.toNat ++ l1, l2, by rw [List.append_assoc, ← e1, List.take_append_drop], ?_, e3⟩
          have ht : (l.take e.f2.toNat).length = e.f2.toNat := by rw [List.length_take]; omega
          rw [cov, if_pos h4, if_neg hn, if_neg (by rw [List.length_append]; omega), List.drop_left' ht]
          exact e2
    · rw [if_neg h4] at h
      cases l with
      | nil => rw [if_pos (show (([] : List S36).length : Int) = 0 from rfl)] at h; cases h
      | cons x l =>
        have hc : (x :: l).length = l.length + 1 := by simp
        rw [if_neg (by omega), rd_zero] at h
        by_cases hn : ne36 x e = true
        · rw [if_pos hn] at h; cases h
        · rw [if_neg hn, List.drop_succ_cons, List.drop_zero] at h
          obtain ⟨l1, l2, e1, e2, e3⟩ := ih b _ h
          subst e1
          have hc1 : (x :: l1).length = l1.length + 1 := by simp
          refine ⟨x :: l1, l2, rfl, ?_, e3⟩
          rw [cov, if_neg h4, if_neg (by omega), rd_zero, if_neg hn, List.drop_succ_cons, List.drop_zero]
          exact e2
theorem cov_one {e : S36} (h : e.f0 ≠ 4) : cov [e] [e] = true := by
  rw [cov, if_neg h, if_neg (by simp), rd_zero, ne36_self, if_neg (by simp)]
  rfl
theorem cov_lag (n : Int) (l : List S36) : cov [lag n] l = true ↔ 1 ≤ n ∧ n = (l.length : Int) := by
  rw [cov, if_pos (show (lag n).f0 = 4 from rfl), show (lag n).f2 = n from rfl]
  by_cases h1 : n < 1
  · rw [if_pos h1]
    constructor
    · intro h; cases h
    · intro h; omega
  · rw [if_neg h1]
    by_cases h2 : n > (l.length : Int)
    · rw [if_pos h2]
      constructor
      · intro h; cases h
      · intro h; omega
    · rw [if_neg h2, cov, beq_iff_eq, List.length_drop]
      omega
theorem pure_ (l0_0 l0_1 l1 : List S36) (a2 : Int) (hB0 : l0_0.length ≤ 9223372036854775807) (hB1 : l0_1.length ≤ 9223372036854775807) (hB2 : l1.length ≤ 9223372036854775807) : ∃ k, hopperlaw14_FeedParts.f k l0_0 l0_1 l1 a2 = some true := by
  have main : ∀ (k : Nat) (b : Bool), 3000 ≤ k → (b = false → l0_0.length ≤ 40 ∧ l0_1.length ≤ 40 ∧ l1.length ≤ 40 ∧ 0 ≤ a2 ∧ a2 ≤ (l1.length : Int)) → hopperlaw14_FeedParts.j0 k l1 a2 l0_0 l0_1 b = some true := by
    intro k b hk hb
    obtain ⟨k, rfl⟩ : ∃ n, k = n + 2 := ⟨k - 2, by omega⟩
    rw [hopperlaw14_FeedParts.j0]
    cases b with
    | true => rw [if_pos rfl, live_true (by omega), Option.bind_some]
    | false =>
      obtain ⟨b0, b1, b2, b3, b4⟩ := hb rfl
      have last : hopperlaw14_FeedParts.j1 (k + 1) l1 false = some true := by
        rw [hopperlaw14_FeedParts.j1, if_neg (by simp), coversF (by simp) (by omega) (by omega), Option.bind_some, if_pos ?_, live_true (by omega)]
        · rfl
        · rw [beq_iff_eq, Bool.eq_iff_iff]
          have := cov_lag (l1.length : Int) l1
          unfold lag at this
          rw [this, decide_eq_true_iff]
          omega
      have ht : (l1.take a2.toNat).length ≤ 40 := by rw [List.length_take]; omega
      have hd : (l1.drop a2.toNat).length ≤ 40 := by rw [List.length_drop]; omega
      rw [if_neg (by simp), Option.bind_some, if_pos (by rw [List.length_nil]; omega), Option.bind_some, List.nil_append, if_pos (by omega), if_pos b3, if_pos b4, coversF (by omega) (by omega) (by omega), Option.bind_some]
      by_cases h1 : cov l0_0 (l1.take a2.toNat) = true
      · rw [if_pos h1, coversF (by omega) (by omega) (by omega), Option.bind_some]
        by_cases h2 : cov l0_1 (l1.drop a2.toNat) = true
        · have h3 := cov_append _ _ _ _ h1 h2
          rw [List.take_append_drop] at h3
          rw [if_pos h2, coversF (by rw [List.length_append]; omega) (by omega) (by omega), Option.bind_some, h3]
          exact last
        · rw [if_neg h2]; exact last
      · rw [if_neg h1]; exact last
  refine ⟨l0_0.length + l0_1.length + l1.length + 3000, ?_⟩
  generalize hk : l0_0.length + l0_1.length + l1.length + 3000 = k
  unfold hopperlaw14_FeedParts.f
  obtain ⟨p, hp, hp2⟩ := fewF hB0 40 (k := k) (by omega)
  obtain ⟨q, hq, hq2⟩ := fewF hB1 40 (k := k) (by omega)
  obtain ⟨r, hr, hr2⟩ := fewF hB2 40 (k := k) (by omega)
  rw [hp, Option.bind_some]
  cases p with
  | false => rw [if_neg (by simp)]; exact main k true (by omega) (fun h => by cases h)
  | true =>
    have p1 := hp2 rfl
    rw [if_pos rfl, hq, Option.bind_some]
    cases q with
    | false => rw [if_neg (by simp)]; exact main k true (by omega) (fun h => by cases h)
    | true =>
      have q1 := hq2 rfl
      rw [if_pos rfl, hr, Option.bind_some]
      cases r with
      | false => rw [if_neg (by simp)]; exact main k true (by omega) (fun h => by cases h)
      | true =>
        have r1 := hr2 rfl
        rw [if_pos rfl]
        by_cases h : a2 < 0
        · rw [if_pos h]; exact main k true (by omega) (fun h => by cases h)
        · rw [if_neg h]
          refine main k _ (by omega) (fun h => ?_)
          have := of_decide_eq_false h
          exact ⟨by omega, by omega, by omega, by omega, by omega⟩
end Go.Proofs.Ythmnedlaecekkaa.PFeedParts
