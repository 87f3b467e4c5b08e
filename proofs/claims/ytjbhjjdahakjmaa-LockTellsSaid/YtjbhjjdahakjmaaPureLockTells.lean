/- The law LockTells as a statement over lists and numbers: the program's answers are the document's, of at most 60 locks. -/
import Derived.Test.YtjbhjjdahakjmaaPLockTellsx1
import Derived.Test.YtjbhjjdahakjmaaPLockTellsx2
import Derived.Test.YtjbhjjdahakjmaaPLockTellsx3
import Derived.Test.YtjbhjjdahakjmaaPlain
namespace Go.Proofs.Ytjbhjjdahakjmaa.PLockTells
open Go.RowKit Go.Proofs.YtjbhjjdahakjmaaW.PrintWords Go.Proofs.YtjbhjjdahakjmaaW.PrintMore Hand
set_option linter.unusedVariables false

theorem live_true {k : Nat} (hk : 10 ≤ k) : hopperlaw09_live.f k = some true := by
  have h : hopperlaw09_live.f 10 = some true := by decide +kernel
  obtain ⟨d, rfl⟩ := Nat.exists_eq_add_of_le hk
  induction d with
  | zero => exact h
  | succ d ih => exact hopperlaw09_live.mono _ _ (ih (by omega))
theorem isF (l : List Int) (i : Int) : lock_Table_is.f l i = some (decide (0 ≤ i ∧ i < l.length)) := by
  unfold lock_Table_is.f
  by_cases h0 : 0 ≤ i
  · rw [if_pos (by omega)]; simp [h0]
  · rw [if_neg (by omega)]; simp [h0]
theorem freeF (l : List Int) (i : Int) : lock_Table_Free.f l i = some (decide (0 ≤ i ∧ i < l.length) && (rd l i == 0)) := by
  unfold lock_Table_Free.f
  rw [isF, Option.bind_some]
  by_cases h : 0 ≤ i ∧ i < l.length
  · rw [if_pos (by simpa using h), if_pos h.1, if_pos h.2]; simp [h]
  · rw [if_neg (by simpa using h)]; simp [h]
theorem setF {l : List Int} (hl : l.length ≤ 1000) {i : Int} (h0 : 0 ≤ i) (h1 : i < l.length) (v : Int) : lock_Table_set.f l i v = some (l.set i.toNat v) := by
  unfold lock_Table_set.f lock_Table_int.f
  rw [Option.bind_some, List.nil_append, if_pos (by rw [List.length_nil]; omega), Option.bind_some, if_pos h0, if_pos h1]
/-- What Take tells. -/
def takeL (l : List Int) (i who : Int) : List Int × Int := if 0 ≤ i ∧ i < l.length ∧ 1 ≤ who then (if rd l i = 0 then (l.set i.toNat who, 0) else (l, 6)) else (l, 1)
theorem takeF {l : List Int} (hl : l.length ≤ 1000) (i who : Int) {k : Nat} (hk : 1 ≤ k) : lock_Table_Take.f k l i who = some (takeL l i who) := by
  obtain ⟨k, rfl⟩ : ∃ m, k = m + 1 := ⟨k - 1, by omega⟩
  unfold lock_Table_Take.f takeL
  rw [isF, Option.bind_some]
  simp only [lock_Table_Take.j0]
  by_cases h : 0 ≤ i ∧ i < l.length
  · rw [if_pos (by simpa using h)]
    by_cases hw : who < 1
    · rw [if_pos (by simpa using hw), if_neg (by omega)]
    · rw [if_neg (by simpa using hw), if_pos (by omega), freeF, Option.bind_some]
      by_cases hr : rd l i = 0
      · rw [if_pos (by simp [h, hr]), setF hl h.1 h.2, Option.bind_some, if_pos hr]
      · rw [if_neg (by simp [hr]), if_neg hr]
  · rw [if_neg (by simpa using h), if_pos trivial, if_neg (by omega)]
/-- What Give tells. -/
def giveL (l : List Int) (i who : Int) : List Int × Int := if 0 ≤ i ∧ i < l.length ∧ 1 ≤ who then (if rd l i = who then (l.set i.toNat 0, 0) else (l, 7)) else (l, 1)
theorem giveF {l : List Int} (hl : l.length ≤ 1000) (i who : Int) {k : Nat} (hk : 1 ≤ k) : lock_Table_Give.f k l i who = some (giveL l i who) := by
  obtain ⟨k, rfl⟩ : ∃ m, k = m + 1 := ⟨k - 1, by omega⟩
  unfold lock_Table_Give.f giveL
  rw [isF, Option.bind_some]
  simp only [lock_Table_Give.j0]
  by_cases h : 0 ≤ i ∧ i < l.length
  · rw [if_pos (by simpa using h)]
    by_cases hw : who < 1
    · rw [if_pos (by simpa using hw), if_neg (by omega)]
    · rw [if_neg (by simpa using hw), if_pos h.1, if_pos h.2, if_pos (show 0 ≤ i ∧ i < (l.length : Int) ∧ 1 ≤ who from ⟨h.1, h.2, by omega⟩)]
      by_cases hr : rd l i = who
      · simp only [if_pos hr, setF hl h.1 h.2, Option.bind_some]
      · simp only [if_neg hr]
  · rw [if_neg (by simpa using h), if_pos trivial, if_neg (by omega)]
theorem holdsF {l : List Int} {i : Nat} (hi : i < l.length) (who : Int) : lock_Table_holds.f l (i : Int) who = some (his l who i) := by
  unfold lock_Table_holds.f his
  by_cases h : 1 ≤ who
  · rw [if_pos (by omega), if_pos (by omega), if_pos (by omega), rd_nat]; simp [h]
  · rw [if_neg (by omega)]; simp [h]
theorem heldW {l : List Int} (hl : l.length ≤ 1000) (who : Int) (d : Nat) : ∀ (i : Nat) (acc : List Int) (k : Nat), i + d = l.length → d < k → acc.length ≤ i → lock_Table_Held.l0 k l who acc (l.length : Int) i = some (acc ++ (H l who i d).map (fun j : Nat => (j : Int))) := by
  induction d with
  | zero =>
    intro i acc k hi hk ha
    obtain ⟨k, rfl⟩ : ∃ m, k = m + 1 := ⟨k - 1, by omega⟩
    simp only [lock_Table_Held.l0]
    rw [if_neg (by omega), H_zero]; simp
  | succ d ih =>
    intro i acc k hi hk ha
    obtain ⟨k, rfl⟩ : ∃ m, k = m + 1 := ⟨k - 1, by omega⟩
    simp only [lock_Table_Held.l0]
    rw [if_pos (by omega), holdsF (by omega), Option.bind_some, w64 (n := (i : Int) + 1) (by omega) (by omega)]
    cases h : his l who i with
    | true =>
      rw [if_pos rfl, if_pos (by omega), H_yes d h]
      have := ih (i + 1) (acc ++ [(i : Int)]) k (by omega) (by omega) (by simp; omega)
      rw [Int.natCast_add, show ((1 : Nat) : Int) = 1 from rfl] at this
      rw [this]; simp
    | false =>
      rw [if_neg (by decide), H_no d h]
      have := ih (i + 1) acc k (by omega) (by omega) (by omega)
      rw [Int.natCast_add, show ((1 : Nat) : Int) = 1 from rfl] at this
      exact this
theorem heldF {l : List Int} (hl : l.length ≤ 1000) (who : Int) {k : Nat} (hk : 1001 < k) : lock_Table_Held.f k l who = some (heldL l who) := by
  unfold lock_Table_Held.f heldL
  have := heldW hl who l.length 0 [] k (by omega) (by omega) (by simp)
  rw [List.nil_append] at this
  exact this
theorem firstW {l : List Int} (hl : l.length ≤ 1000) (who : Int) (d : Nat) : ∀ (i : Nat) (k : Nat), i + d = l.length → d < k → lock_Table_First.l0 k l who (l.length : Int) i = some ((fst l who i d : Nat) : Int) := by
  induction d with
  | zero =>
    intro i k hi hk
    obtain ⟨k, rfl⟩ : ∃ m, k = m + 1 := ⟨k - 1, by omega⟩
    simp only [lock_Table_First.l0]
    rw [if_neg (by omega)]; rfl
  | succ d ih =>
    intro i k hi hk
    obtain ⟨k, rfl⟩ : ∃ m, k = m + 1 := ⟨k - 1, by omega⟩
    simp only [lock_Table_First.l0]
    rw [if_pos (by omega), holdsF (by omega), Option.bind_some, w64 (n := (i : Int) + 1) (by omega) (by omega)]
    unfold fst
    cases h : his l who i with
    | true =>
      rw [if_pos rfl, if_pos rfl]
      have := ih (i + 1) k (by omega) (by omega)
      rw [Int.natCast_add, show ((1 : Nat) : Int) = 1 from rfl] at this
      exact this
    | false => rw [if_neg (by decide), if_neg (by decide)]
theorem firstF {l : List Int} (hl : l.length ≤ 1000) (who : Int) {k : Nat} (hk : 1001 < k) : lock_Table_First.f k l who = some (firstL l who : Int) := by
  unfold lock_Table_First.f firstL
  exact firstW hl who l.length 0 k (by omega) (by omega)
theorem sameW (l : List Int) (hl : l.length ≤ 1000) (d : Nat) : ∀ (i k : Nat), i + d = l.length → d < k → hopperref09_Same.l0 k l l i = some true := by
  induction d with
  | zero =>
    intro i k hi hk
    obtain ⟨k, rfl⟩ : ∃ m, k = m + 1 := ⟨k - 1, by omega⟩
    simp only [hopperref09_Same.l0]
    rw [if_neg (by omega)]
  | succ d ih =>
    intro i k hi hk
    obtain ⟨k, rfl⟩ : ∃ m, k = m + 1 := ⟨k - 1, by omega⟩
    simp only [hopperref09_Same.l0]
    rw [if_pos (by omega), if_pos (by omega), if_pos (by omega), if_pos trivial, w64 (by omega) (by omega)]
    have := ih (i + 1) k (by omega) (by omega)
    rw [Int.natCast_add] at this; exact this
theorem sameF {l : List Int} (hl : l.length ≤ 1000) {k : Nat} (hk : 1001 < k) : hopperref09_Same.f k l l = some true := by
  unfold hopperref09_Same.f
  rw [if_pos rfl]
  exact sameW l hl _ 0 k (Nat.zero_add _) (by omega)
theorem newF (n : Int) : lock_New.f n = some (if 1 ≤ n ∧ n ≤ 8 then (List.replicate n.toNat 0, 0) else ([], 1)) := by
  unfold lock_New.f
  by_cases h1 : n < 1
  · rw [if_pos h1, if_neg (by omega)]
  · rw [if_neg h1]
    by_cases h2 : n > 8
    · rw [if_pos h2, if_neg (by omega)]
    · rw [if_neg h2, if_pos (by omega), if_pos (by omega), if_pos (by omega)]
theorem refTakeF {l : List Int} (hl : l.length ≤ 1000) (i who : Int) {k : Nat} (hk : 1 ≤ k) : hopperref09_Take.f k l i who = some (takeL l i who) := by
  obtain ⟨k, rfl⟩ : ∃ m, k = m + 1 := ⟨k - 1, by omega⟩
  unfold hopperref09_Take.f takeL
  simp only [hopperref09_Take.j0]
  by_cases h0 : i < 0
  · rw [if_pos h0, if_pos trivial, if_neg (by omega)]
  · rw [if_neg h0]
    by_cases h1 : i ≥ l.length
    · rw [if_pos h1, if_pos trivial, if_neg (by omega)]
    · rw [if_neg h1]
      by_cases hw : who < 1
      · rw [if_pos (by simpa using hw), if_neg (by omega)]
      · rw [if_neg (by simpa using hw), if_pos (show 0 ≤ i by omega), if_pos (show i < (l.length : Int) by omega), if_pos (show 0 ≤ i ∧ i < (l.length : Int) ∧ 1 ≤ who by omega)]
        by_cases hr : rd l i = 0
        · simp only [if_pos hr]
          rw [Option.bind_some, List.nil_append, if_pos (by rw [List.length_nil]; omega), Option.bind_some, if_pos (by omega)]
        · simp only [if_neg hr]
theorem refGiveF {l : List Int} (hl : l.length ≤ 1000) (i who : Int) {k : Nat} (hk : 1 ≤ k) : hopperref09_Give.f k l i who = some (giveL l i who) := by
  obtain ⟨k, rfl⟩ : ∃ m, k = m + 1 := ⟨k - 1, by omega⟩
  unfold hopperref09_Give.f giveL
  simp only [hopperref09_Give.j0]
  by_cases h0 : i < 0
  · rw [if_pos h0, if_pos trivial, if_neg (by omega)]
  · rw [if_neg h0]
    by_cases h1 : i ≥ l.length
    · rw [if_pos h1, if_pos trivial, if_neg (by omega)]
    · rw [if_neg h1]
      by_cases hw : who < 1
      · rw [if_pos (by simpa using hw), if_neg (by omega)]
      · rw [if_neg (by simpa using hw), if_pos (show 0 ≤ i by omega), if_pos (show i < (l.length : Int) by omega), if_pos (show 0 ≤ i ∧ i < (l.length : Int) ∧ 1 ≤ who by omega)]
        by_cases hr : rd l i = who
        · simp only [if_pos hr]
          rw [Option.bind_some, List.nil_append, if_pos (by rw [List.length_nil]; omega), Option.bind_some, if_pos (by omega)]
        · simp only [if_neg hr]
theorem refHeldW {l : List Int} (hl : l.length ≤ 1000) (who : Int) (d : Nat) : ∀ (i : Nat) (acc : List Int) (k : Nat), i + d = l.length → d < k → acc.length ≤ i → hopperref09_Held.l0 k l who acc i = some (acc ++ (H l who i d).map (fun j : Nat => (j : Int))) := by
  induction d with
  | zero =>
    intro i acc k hi hk ha
    obtain ⟨k, rfl⟩ : ∃ m, k = m + 1 := ⟨k - 1, by omega⟩
    simp only [hopperref09_Held.l0]
    rw [if_neg (by omega), H_zero]; simp
  | succ d ih =>
    intro i acc k hi hk ha
    obtain ⟨k, rfl⟩ : ∃ m, k = m + 1 := ⟨k - 1, by omega⟩
    simp only [hopperref09_Held.l0]
    rw [if_pos (by omega), w64 (n := (i : Int) + 1) (by omega) (by omega)]
    have hno := ih (i + 1) acc k (by omega) (by omega) (by omega)
    have hyes := ih (i + 1) (acc ++ [(i : Int)]) k (by omega) (by omega) (by simp; omega)
    rw [Int.natCast_add, show ((1 : Nat) : Int) = 1 from rfl] at hno hyes
    by_cases hw : who ≥ 1
    · rw [if_pos hw, if_pos (by omega), rd_nat]
      by_cases hr : l.getD i 0 = who
      · have h : his l who i = true := by unfold his; rw [hr]; simp; omega
        rw [if_pos hr, if_pos (by omega), H_yes d h, hyes]; simp
      · have h : his l who i = false := by unfold his; rw [beq_eq_false_iff_ne.2 hr]; simp
        rw [if_neg hr, H_no d h, hno]
    · have h : his l who i = false := by unfold his; rw [decide_eq_false (by omega)]; rfl
      rw [if_neg hw, H_no d h, hno]
theorem refHeldF {l : List Int} (hl : l.length ≤ 1000) (who : Int) {k : Nat} (hk : 1001 < k) : hopperref09_Held.f k l who = some (heldL l who) := by
  unfold hopperref09_Held.f heldL
  have := refHeldW hl who l.length 0 [] k (by omega) (by omega) (by simp)
  rw [List.nil_append] at this
  exact this
theorem refFirstW {l : List Int} (hl : l.length ≤ 1000) (who : Int) (d : Nat) : ∀ (i : Nat) (k : Nat), i + d = l.length → d < k → hopperref09_First.l0 k l who i = some ((fst l who i d : Nat) : Int) := by
  induction d with
  | zero =>
    intro i k hi hk
    obtain ⟨k, rfl⟩ : ∃ m, k = m + 1 := ⟨k - 1, by omega⟩
    simp only [hopperref09_First.l0]
    rw [if_neg (by omega)]; rfl
  | succ d ih =>
    intro i k hi hk
    obtain ⟨k, rfl⟩ : ∃ m, k = m + 1 := ⟨k - 1, by omega⟩
    simp only [hopperref09_First.l0]
    rw [if_pos (by omega), w64 (n := (i : Int) + 1) (by omega) (by omega)]
    unfold fst
    have hyes := ih (i + 1) k (by omega) (by omega)
    rw [Int.natCast_add, show ((1 : Nat) : Int) = 1 from rfl] at hyes
    by_cases hw : who < 1
    · have h : his l who i = false := by unfold his; rw [decide_eq_false (by omega)]; rfl
      rw [if_pos hw, if_neg (by rw [h]; decide)]
    · rw [if_neg hw, if_pos (by omega), rd_nat]
      by_cases hr : l.getD i 0 = who
      · have h : his l who i = true := by unfold his; rw [hr]; simp; omega
        rw [if_pos hr, if_pos h, hyes]
      · have h : his l who i = false := by unfold his; rw [beq_eq_false_iff_ne.2 hr]; simp
        rw [if_neg hr, if_neg (by rw [h]; decide)]
theorem refFirstF {l : List Int} (hl : l.length ≤ 1000) (who : Int) {k : Nat} (hk : 1001 < k) : hopperref09_First.f k l who = some (firstL l who : Int) := by
  unfold hopperref09_First.f firstL
  exact refFirstW hl who l.length 0 k (by omega) (by omega)
theorem refNewF (n : Int) : hopperref09_New.f n = some (if 1 ≤ n ∧ n ≤ 8 then (List.replicate n.toNat 0, 0) else ([], 1)) := by
  unfold hopperref09_New.f
  by_cases h1 : n < 1
  · rw [if_pos h1, if_neg (by omega)]
  · rw [if_neg h1]
    by_cases h2 : n > 8
    · rw [if_pos h2, if_neg (by omega)]
    · rw [if_neg h2, if_pos (by omega), if_pos (by omega), if_pos (by omega)]
theorem refFreeF (l : List Int) (i : Int) : hopperref09_Free.f l i = some (decide (0 ≤ i ∧ i < l.length) && (rd l i == 0)) := by
  unfold hopperref09_Free.f
  by_cases h0 : 0 ≤ i
  · by_cases h1 : i < l.length
    · rw [if_pos (by omega), if_pos h1, if_pos h0]; simp [h0, h1]
    · rw [if_pos (by omega), if_neg h1]; simp [h1]
  · rw [if_neg (by omega)]; simp [h0]
theorem takeL_len (l : List Int) (i who : Int) : (takeL l i who).1.length = l.length := by unfold takeL; split <;> (try split) <;> simp
theorem giveL_len (l : List Int) (i who : Int) : (giveL l i who).1.length = l.length := by unfold giveL; split <;> (try split) <;> simp

theorem pure_ (l : List Int) (i who : Int) : ∃ k, hopperlaw09_LockTells.f k l i who = some true := by
  obtain ⟨K, hK⟩ : ∃ K : Nat, 5000 ≤ K := ⟨5000, Nat.le_refl _⟩
  refine ⟨K + 1, ?_⟩
  unfold hopperlaw09_LockTells.f
  by_cases hl : (l.length : Int) > 60
  · rw [if_pos hl, live_true (by omega)]; rfl
  · have hl' : l.length ≤ 1000 := by omega
    have hn : ∀ n : Int, (if 1 ≤ n ∧ n ≤ 8 then (List.replicate n.toNat (0 : Int), (0 : Int)) else ([], 1)).1.length ≤ 1000 := fun n => by split <;> simp; omega
    rw [if_neg hl, takeF hl' i who (by omega), refTakeF hl' i who (by omega), giveF hl' i who (by omega), refGiveF hl' i who (by omega), newF, refNewF]
    rw [Option.bind_some, Option.bind_some, Option.bind_some, Option.bind_some, Option.bind_some, Option.bind_some]
    rw [sameF (by rw [takeL_len]; omega) (by omega), Option.bind_some, if_pos rfl, if_pos rfl, sameF (by rw [giveL_len]; omega) (by omega), Option.bind_some, if_pos rfl, if_pos rfl, sameF (hn i) (by omega), Option.bind_some, if_pos rfl]
    simp only [hopperlaw09_LockTells.j0]
    rw [if_neg (by simp), freeF, refFreeF, Option.bind_some, Option.bind_some, if_pos (by simp), heldF hl' who (by omega), refHeldF hl' who (by omega), Option.bind_some, Option.bind_some]
    have hh : (heldL l who).length ≤ 1000 := by unfold heldL; rw [List.length_map]; exact Nat.le_trans (H_len _ _ _ _) hl'
    rw [sameF hh (by omega), Option.bind_some, if_pos rfl, firstF hl' who (by omega), refFirstF hl' who (by omega), Option.bind_some, Option.bind_some, if_pos rfl, live_true (by omega)]; rfl
theorem LockTells : hopperlaw09_LockTells.Pure := fun l i who _ _ _ _ _ => pure_ l i who
end Go.Proofs.Ytjbhjjdahakjmaa.PLockTells
namespace Go.Proofs.Ytjbhjjdahakjmaa.Pure
theorem LockTells : PLockTells.hopperlaw09_LockTells.Pure := PLockTells.LockTells
end Go.Proofs.Ytjbhjjdahakjmaa.Pure
