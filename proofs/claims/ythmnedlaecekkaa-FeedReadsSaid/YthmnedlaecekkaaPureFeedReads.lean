/- The law FeedReads as a statement over lists and numbers. -/
import Derived.Test.YthmnedlaecekkaaPFeedReadsx1
import Derived.Test.YthmnedlaecekkaaPFeedReadsx2
import Derived.Test.YthmnedlaecekkaaPFeedReadsx3
import Derived.Test.YthmnedlaecekkaaPFeedReadsx4
import Derived.Test.YthmnedlaecekkaaPFeedReadsx5
import Derived.Test.YthmnedlaecekkaaPFeedReadsx6
import Derived.Test.YthmnedlaecekkaaPFeedReadsx7
namespace Go.Proofs.Ythmnedlaecekkaa.PFeedReads
open Go.RowKit Go.Proofs.YthmnedlaecekkaaW.PrintWords Go.Proofs.YthmnedlaecekkaaW.PrintMore
set_option linter.unusedVariables false
set_option linter.unusedSimpArgs false

theorem live_true {k : Nat} (hk : 60 ≤ k) : hopperlaw14_live.f k = some true := by
  have h60 : hopperlaw14_live.f 60 = some true := by decide +kernel
  obtain ⟨b, rfl⟩ : ∃ b, k = 60 + b := ⟨k - 60, by omega⟩
  clear hk
  induction b with
  | zero => exact h60
  | succ b ih => exact hopperlaw14_live.mono _ _ ih
theorem w64 {i : Int} (h0 : -9223372036854775808 ≤ i) (h1 : i < 9223372036854775808) : wrap64 i = i := by unfold wrap64; omega
theorem rd_at {l : List S36} {i : Nat} (h : i < l.length) : rd_T36 l (i : Int) = l[i] := by simp [rd_T36, List.getElem?_eq_getElem h]
theorem rd_zero (x : S36) (l : List S36) : rd_T36 (x :: l) 0 = x := rfl
theorem cloneF {l : List S36} (h : l.length ≤ 1000000) : api_Event.f l = some l := by
  unfold api_Event.f
  rw [Option.bind_some, if_pos (by rw [List.length_nil]; omega), List.nil_append]
theorem newF (room : Int) : feed_New.f room = if 1 ≤ room ∧ room ≤ 16 then some (room, [], 0, 0) else some (0, [], 0, 1) := by
  unfold feed_New.f
  by_cases h : room < 1
  · rw [if_pos h, if_neg (by omega)]
  · rw [if_neg h]
    by_cases h2 : room > 16
    · rw [if_pos h2, if_neg (by omega)]
    · rw [if_neg h2, if_pos (by omega)]
theorem readCons {x : S36} {l : List S36} (hl : l.length ≤ 1000000) (room lost : Int) : feed_Read.f room (x :: l) lost = some (room, l, lost, x.f0, x.f1.f0, x.f1.f1, x.f1.f2, x.f1.f3, x.f1.f4, x.f1.f5, x.f2, 0) := by
  unfold feed_Read.f
  have hc : (((x :: l).length : Nat) : Int) = (l.length : Int) + 1 := by simp
  rw [if_pos (by rw [hc]; omega), if_pos (by rw [hc]; omega), if_pos (by rw [hc]; omega), List.drop_succ_cons, List.drop_zero, cloneF hl, Option.bind_some, rd_zero]
theorem readLost (room : Int) {lost : Int} (h : lost > 0) : feed_Read.f room [] lost = some (room, [], 0, 4, 0, 0, 0, 0, 0, ⟨#[]⟩, lost, 0) := by
  unfold feed_Read.f
  rw [if_neg (show ¬ (([] : List S36).length : Int) > 0 by decide), if_pos h]
theorem readNone (room : Int) {lost : Int} (h : ¬ lost > 0) : feed_Read.f room [] lost = some (room, [], lost, 0, 0, 0, 0, 0, 0, ⟨#[]⟩, 0, 7) := by
  unfold feed_Read.f
  rw [if_neg (show ¬ (([] : List S36).length : Int) > 0 by decide), if_neg h]
/-- The word for as many as were lost. -/
def lag (n : Int) : S36 := ⟨4, ⟨0, 0, 0, 0, 0, ⟨#[]⟩⟩, n⟩
def lagL (lost : Int) : List S36 := if lost > 0 then [lag lost] else []
def left (lost : Int) : Int := if lost > 0 then 0 else lost
theorem allNil (acc : List S36) (ha : acc.length ≤ 1000000) (room lost : Int) {k : Nat} (hk : 2 ≤ k) : feed_All.l0 k acc room [] lost = some (room, [], left lost, acc ++ lagL lost) := by
  obtain ⟨k, rfl⟩ : ∃ n, k = n + 2 := ⟨k - 2, by omega⟩
  unfold left lagL
  rw [feed_All.l0]
  by_cases h : lost > 0
  · rw [readLost room h, Option.bind_some]
    dsimp only
    rw [if_pos rfl, if_pos (by omega), feed_All.l0, readNone room (by omega), Option.bind_some]
    dsimp only
    rw [if_neg (by omega), if_pos h, if_pos h]
    rfl
  · rw [readNone room h, Option.bind_some]
    dsimp only
    rw [if_neg (by omega), if_neg h, if_neg h, List.append_nil]
theorem all0 (room lost : Int) : ∀ (l acc : List S36) (k : Nat), l.length + 2 ≤ k → acc.length + l.length ≤ 1000000 → feed_All.l0 k acc room l lost = some (room, [], left lost, acc ++ l ++ lagL lost) := by
  intro l
  induction l with
  | nil => intro acc k hk ha; rw [allNil acc (by omega) room lost (by omega), List.append_nil]
  | cons x l ih =>
    intro acc k hk ha
    have hc : (x :: l).length = l.length + 1 := by simp
    obtain ⟨k, rfl⟩ : ∃ n, k = n + 1 := ⟨k - 1, by omega⟩
    rw [feed_All.l0, readCons (by omega), Option.bind_some]
    dsimp only
    rw [if_pos rfl, if_pos (by omega), ih _ k (by omega) (by rw [List.length_append, List.length_singleton]; omega), List.append_assoc acc [_] l]
    rfl
theorem allF {l : List S36} (hl : l.length ≤ 1000) (room lost : Int) {k : Nat} (hk : 1002 ≤ k) : feed_All.f k room l lost = some (room, [], left lost, l ++ lagL lost) := by
  unfold feed_All.f
  rw [all0 room lost l [] k (by omega) (by rw [List.length_nil]; omega), List.nil_append]
/-- What waits, and how many are lost, behind a run of events. -/
def tl (room : Int) : List S36 → Int → List S36 → List S36 × Int
  | items, lost, [] => (items, lost)
  | items, lost, e :: l => if lost = 0 ∧ (items.length : Int) < room then tl room (items ++ [e]) lost l else tl room items (if lost ≥ 1099511627776 then 1099511627776 else lost + 1) l
theorem mnF {lost : Int} (h0 : -9223372036854775808 ≤ lost) (h1 : lost < 9223372036854775808) : wrap64 (mn lost 1099511627775 + 1) = if lost ≥ 1099511627776 then 1099511627776 else lost + 1 := by
  unfold mn wrap64
  by_cases h : lost ≥ 1099511627776
  · rw [if_pos h]
    first | (rw [if_neg (by omega)]; omega) | (simp only [Int.min_def]; split <;> omega) | (split <;> omega) | omega
  · rw [if_neg h]
    first | (rw [if_pos (by omega)]; omega) | (simp only [Int.min_def]; split <;> omega) | (split <;> omega) | omega
theorem tell0 (l : List S36) (hl : l.length ≤ 1000) (room : Int) : ∀ (m i k : Nat) (items : List S36) (lost : Int), i + m = l.length → m + 1 ≤ k → items.length + m ≤ 10000 → -9223372036854775808 ≤ lost → lost < 9223372036854775808 →
    feed_Tell.l0 k l (l.length : Int) (i : Int) room items lost = some (room, (tl room items lost (l.drop i)).1, (tl room items lost (l.drop i)).2) := by
  intro m
  induction m with
  | zero =>
    intro i k items lost hi hk hm h0 h1
    obtain ⟨k, rfl⟩ : ∃ n, k = n + 1 := ⟨k - 1, by omega⟩
    rw [feed_Tell.l0, if_neg (by omega), List.drop_eq_nil_of_le (by omega)]
    rfl
  | succ m ih =>
    intro i k items lost hi hk hm h0 h1
    obtain ⟨k, rfl⟩ : ∃ n, k = n + 1 := ⟨k - 1, by omega⟩
    have hil : i < l.length := by omega
    rw [feed_Tell.l0, if_pos (by omega), if_pos (by omega), if_pos (by omega), w64 (by omega) (by omega), mnF h0 h1, rd_at hil, List.drop_eq_getElem_cons hil, tl]
    by_cases hz : lost = 0
    · rw [if_pos hz]
      by_cases hr : (items.length : Int) < room
      · rw [if_pos hr, if_pos (by omega), if_pos (show lost = 0 ∧ (items.length : Int) < room from ⟨hz, hr⟩)]
        exact ih (i + 1) k _ _ (by omega) (by omega) (by rw [List.length_append, List.length_singleton]; omega) h0 h1
      · rw [if_neg hr, if_neg (show ¬ (lost = 0 ∧ (items.length : Int) < room) from fun h => hr h.2)]
        exact ih (i + 1) k _ _ (by omega) (by omega) (by omega) (by split <;> omega) (by split <;> omega)
    · rw [if_neg hz, if_neg (show ¬ (lost = 0 ∧ (items.length : Int) < room) from fun h => hz h.1)]
      exact ih (i + 1) k _ _ (by omega) (by omega) (by omega) (by split <;> omega) (by split <;> omega)
theorem tellF {l : List S36} (hl : l.length ≤ 1000) (room : Int) {items : List S36} (hi : items.length ≤ 1000) {lost : Int} (h0 : -9223372036854775808 ≤ lost) (h1 : lost < 9223372036854775808) {k : Nat} (hk : 1001 ≤ k) :
    feed_Tell.f k room items lost l = some (room, (tl room items lost l).1, (tl room items lost l).2) := by
  unfold feed_Tell.f
  rw [cloneF (by omega), Option.bind_some]
  exact tell0 l hl room l.length 0 k items lost (by omega) (by omega) (by omega) h0 h1
theorem tl_append (room : Int) : ∀ (a b : List S36) (items : List S36) (lost : Int), tl room items lost (a ++ b) = tl room (tl room items lost a).1 (tl room items lost a).2 b := by
  intro a
  induction a with
  | nil => intro b items lost; rfl
  | cons e a ih =>
    intro b items lost
    rw [List.cons_append, tl, tl]
    by_cases h : lost = 0 ∧ (items.length : Int) < room
    · rw [if_pos h, if_pos h]; exact ih _ _ _
    · rw [if_neg h, if_neg h]; exact ih _ _ _
theorem tl_bound (room : Int) : ∀ (l items : List S36) (lost : Int), -9223372036854775808 ≤ lost → lost < 9223372036854775808 → items.length ≤ (tl room items lost l).1.length ∧ (tl room items lost l).1.length ≤ items.length + l.length ∧ -9223372036854775808 ≤ (tl room items lost l).2 ∧ (tl room items lost l).2 < 9223372036854775808 := by
  intro l
  induction l with
  | nil => intro items lost h0 h1; rw [tl, List.length_nil]; exact ⟨Nat.le_refl _, Nat.le_refl _, h0, h1⟩
  | cons e l ih =>
    intro items lost h0 h1
    have hc : (e :: l).length = l.length + 1 := by simp
    rw [tl, hc]
    by_cases h : lost = 0 ∧ (items.length : Int) < room
    · rw [if_pos h]
      have := ih (items ++ [e]) lost h0 h1
      rw [List.length_append, List.length_singleton] at this
      omega
    · rw [if_neg h]
      have := ih items (if lost ≥ 1099511627776 then 1099511627776 else lost + 1) (by split <;> omega) (by split <;> omega)
      omega
/-- Whether there are few is told of any run; told so, it is no longer than that. -/
theorem few0 (l : List S36) (hl : l.length ≤ 9223372036854775807) (most : Int) : ∀ (m i k : Nat), i + m = l.length → m + 1 ≤ k → ∃ b, hopperref14_Few.l0 k l most (i : Int) = some b ∧ (b = true → (l.length : Int) ≤ most) := by
  intro m
  induction m with
  | zero =>
    intro i k hi hk
    obtain ⟨k, rfl⟩ : ∃ n, k = n + 1 := ⟨k - 1, by omega⟩
    rw [hopperref14_Few.l0, if_neg (by omega)]
    exact ⟨_, rfl, fun h => of_decide_eq_true h⟩
  | succ m ih =>
    intro i k hi hk
    obtain ⟨k, rfl⟩ : ∃ n, k = n + 1 := ⟨k - 1, by omega⟩
    rw [hopperref14_Few.l0, if_pos (by omega), if_pos (by omega)]
    by_cases h : (((rd_T36 l (i : Int)).f1.f5).size : Int) > 500
    · rw [if_pos h]; exact ⟨false, rfl, fun h => by cases h⟩
    · rw [if_neg h, w64 (by omega) (by omega)]
      exact ih (i + 1) k (by omega) (by omega)
theorem fewF {l : List S36} (hl : l.length ≤ 9223372036854775807) (most : Int) {k : Nat} (hk : l.length + 1 ≤ k) : ∃ b, hopperref14_Few.f k l most = some b ∧ (b = true → (l.length : Int) ≤ most) :=
  few0 l hl most l.length 0 k (by omega) hk
/-- A run of events is the same as itself. -/
theorem events0 (l : List S36) (hl : l.length ≤ 1000000) : ∀ (m i k : Nat), i + m = l.length → m + 1 ≤ k → hopperref13_Events.l0 k l l (i : Int) = some true := by
  intro m
  induction m with
  | zero =>
    intro i k hi hk
    obtain ⟨k, rfl⟩ : ∃ n, k = n + 1 := ⟨k - 1, by omega⟩
    rw [hopperref13_Events.l0, if_neg (by omega)]
  | succ m ih =>
    intro i k hi hk
    obtain ⟨k, rfl⟩ : ∃ n, k = n + 1 := ⟨k - 1, by omega⟩
    rw [hopperref13_Events.l0, if_pos (by omega), if_pos (by omega), if_pos (by omega), if_neg (by simp), w64 (by omega) (by omega)]
    exact ih (i + 1) k (by omega) (by omega)
theorem eventsF {l : List S36} (hl : l.length ≤ 1000) {k : Nat} (hk : 1001 ≤ k) : hopperref13_Events.f k l l = some true := by
  unfold hopperref13_Events.f
  rw [if_pos rfl]
  exact events0 l (by omega) l.length 0 k (by omega) (by omega)
theorem tl_fits (room : Int) : ∀ (l items : List S36), ((items.length + l.length : Nat) : Int) ≤ room → tl room items 0 l = (items ++ l, 0) := by
  intro l
  induction l with
  | nil => intro items h; rw [tl, List.append_nil]
  | cons e l ih =>
    intro items h
    have hc : (e :: l).length = l.length + 1 := by simp
    rw [hc] at h
    rw [tl, if_pos (show (0 : Int) = 0 ∧ (items.length : Int) < room from ⟨rfl, by omega⟩), ih _ (by rw [List.length_append, List.length_singleton]; omega), List.append_assoc]
    rfl
theorem tl_full (room : Int) : ∀ (l items : List S36) (lost : Int), 0 < lost ∨ (lost = 0 ∧ room ≤ (items.length : Int)) → lost + (l.length : Int) ≤ 1000000 → tl room items lost l = (items, lost + (l.length : Int)) := by
  intro l
  induction l with
  | nil => intro items lost h hb; rw [tl]; simp
  | cons e l ih =>
    intro items lost h hb
    have hc : (e :: l).length = l.length + 1 := by simp
    rw [hc] at hb ⊢
    rw [tl, if_neg (show ¬ (lost = 0 ∧ (items.length : Int) < room) by omega), if_neg (show ¬ lost ≥ 1099511627776 by omega), ih _ _ (Or.inl (by omega)) (by omega)]
    rw [Prod.mk.injEq]
    exact ⟨rfl, by omega⟩
/-- What a new feed comes to: as many wait as there is room for, the others are lost. -/
theorem tl_new (room : Int) {l : List S36} (hl : l.length ≤ 1000) : tl room [] 0 l = (l.take room.toNat, ((l.length - room.toNat : Nat) : Int)) := by
  by_cases h : room ≤ 0
  · rw [tl_full room l [] 0 (Or.inr ⟨rfl, by rw [List.length_nil]; omega⟩) (by omega), show room.toNat = 0 by omega, List.take_zero]
    rw [Prod.mk.injEq]
    exact ⟨rfl, by omega⟩
  · by_cases h2 : (l.length : Int) ≤ room
    · rw [tl_fits room l [] (by rw [List.length_nil]; omega), List.nil_append, List.take_of_length_le (by omega)]
      rw [Prod.mk.injEq]
      exact ⟨rfl, by omega⟩
    · have e : tl room [] 0 (l.take room.toNat ++ l.drop room.toNat) = (l.take room.toNat, ((l.length - room.toNat : Nat) : Int)) := by
        rw [tl_append, tl_fits room _ [] (by rw [List.length_nil, List.length_take]; omega), List.nil_append]
        rw [tl_full room _ _ 0 (Or.inr ⟨rfl, by rw [List.length_take]; omega⟩) (by rw [List.length_drop]; omega), List.length_drop, Int.zero_add]
      rwa [List.take_append_drop] at e
theorem pure_ (a0_0 : Int) (l0_1 : List S36) (a0_2 : Int) (l1 : List S36) (hB0 : l0_1.length ≤ 9223372036854775807) (hB1 : l1.length ≤ 9223372036854775807) (h0 : -9223372036854775808 ≤ a0_2) (h1 : a0_2 < 9223372036854775808) :
    ∃ k, hopperlaw14_FeedReads.f k a0_0 l0_1 a0_2 l1 = some true := by
  have main : ∀ (k : Nat) (b : Bool), 3000 ≤ k → (b = false → l0_1.length ≤ 60 ∧ l1.length ≤ 60) → hopperlaw14_FeedReads.j0 k l1 b a0_0 l0_1 a0_2 = some true := by
    intro k b hk hb
    obtain ⟨k, rfl⟩ : ∃ n, k = n + 3 := ⟨k - 3, by omega⟩
    rw [hopperlaw14_FeedReads.j0]
    cases b with
    | true => rw [if_pos rfl, live_true (by omega), Option.bind_some]
    | false =>
      obtain ⟨b0, b1⟩ := hb rfl
      have hL : (lagL a0_2).length ≤ 1 := by
        unfold lagL
        split
        · simp
        · simp
      have j2 : hopperlaw14_FeedReads.j2 (k + 1) l1 false a0_0 l0_1 a0_2 a0_0 [] (left a0_2) = some true := by
        have hb : -9223372036854775808 ≤ left a0_2 ∧ left a0_2 < 9223372036854775808 := by unfold left; split <;> omega
        rw [hopperlaw14_FeedReads.j2, if_neg (by simp), tellF (by omega) _ (by simp) hb.1 hb.2 (by omega), Option.bind_some]
        by_cases hn : a0_2 < 0
        · rw [if_pos hn, live_true (by omega)]; rfl
        · rw [if_neg hn, show left a0_2 = 0 by unfold left; split <;> omega, tl_new a0_0 (by omega)]
          have hm : mx 0 (mn a0_0 (l1.length : Int)) = ((min a0_0.toNat l1.length : Nat) : Int) := by unfold mn mx; split <;> split <;> omega
          rw [hm, if_pos (by rw [List.length_take]), live_true (by omega)]
          rfl
      rw [if_neg (by simp), allF (by omega) _ _ (by omega), Option.bind_some]
      dsimp only
      rw [readNone a0_0 (show ¬ left a0_2 > 0 by unfold left; split <;> omega), Option.bind_some]
      dsimp only
      rw [if_neg (by rw [List.length_append]; omega), w64 (by omega) (by omega), if_neg (by rw [List.length_append]; omega), if_pos (by omega), if_pos (by rw [List.length_append]; omega), Int.toNat_natCast, List.take_left' rfl, eventsF (by omega) (by omega), Option.bind_some, if_pos rfl, if_pos rfl, if_pos (show (([] : List S36).length : Int) = 0 from rfl)]
      rw [hopperlaw14_FeedReads.j1, if_neg (by simp), w64 (by omega) (by omega)]
      by_cases hn : a0_2 > 0
      · have hl : lagL a0_2 = [lag a0_2] := if_pos hn
        have hr : rd_T36 (l0_1 ++ [lag a0_2]) (l0_1.length : Int) = lag a0_2 := by
          rw [rd_at (by rw [List.length_append, List.length_singleton]; omega)]
          exact List.getElem_concat_length rfl _
        rw [hl, if_pos (by rw [List.length_append, List.length_singleton]; omega), if_pos (by omega), if_pos (by rw [List.length_append, List.length_singleton]; omega), hr]
        rw [if_neg (by simp [lag]), show decide (a0_2 < 1) = false from decide_eq_false (by omega)]
        exact j2
      · have hl : lagL a0_2 = [] := if_neg hn
        rw [hl, if_neg (by rw [List.length_append, List.length_nil]; omega)]
        exact j2
  refine ⟨l0_1.length + l1.length + 3000, ?_⟩
  generalize hk : l0_1.length + l1.length + 3000 = k
  unfold hopperlaw14_FeedReads.f
  obtain ⟨p, hp, hp2⟩ := fewF hB0 60 (k := k) (by omega)
  obtain ⟨q, hq, hq2⟩ := fewF hB1 60 (k := k) (by omega)
  rw [hp, Option.bind_some]
  cases p with
  | false => rw [if_neg (by simp)]; exact main k true (by omega) (fun h => by cases h)
  | true =>
    have p1 := hp2 rfl
    rw [if_pos rfl, hq, Option.bind_some]
    cases q with
    | false => exact main k true (by omega) (fun h => by cases h)
    | true =>
      have q1 := hq2 rfl
      exact main k false (by omega) (fun _ => ⟨by omega, by omega⟩)
end Go.Proofs.Ythmnedlaecekkaa.PFeedReads
