/- The law LockFirst as a statement over lists and numbers: the least lock that somebody does not hold; of at most 60 locks. -/
import Derived.Test.YtjbhjjdahakjmaaPLockFirstx1
import Derived.Test.YtjbhjjdahakjmaaPLockFirstx2
import Derived.Test.YtjbhjjdahakjmaaPLockFirstx3
import Derived.Test.YtjbhjjdahakjmaaPlain
namespace Go.Proofs.Ytjbhjjdahakjmaa.PLockFirst
open Go.RowKit Go.Proofs.YtjbhjjdahakjmaaW.PrintWords Go.Proofs.YtjbhjjdahakjmaaW.PrintMore Hand
set_option linter.unusedVariables false

theorem live_true {k : Nat} (hk : 10 ≤ k) : hopperlaw09_live.f k = some true := by
  have h : hopperlaw09_live.f 10 = some true := by decide +kernel
  obtain ⟨d, rfl⟩ := Nat.exists_eq_add_of_le hk
  induction d with
  | zero => exact h
  | succ d ih => exact hopperlaw09_live.mono _ _ (ih (by omega))
theorem isF (l : List Int) (i : Int) : lock_Table_is.f l i = some (decide (0 ≤ i ∧ i < l.length)) := by
  unfold lock_Table_is.f
  by_cases h0 : 0 ≤ i
  · rw [if_pos (by omega)]; simp [h0]
  · rw [if_neg (by omega)]; simp [h0]
theorem freeF (l : List Int) (i : Int) : lock_Table_Free.f l i = some (decide (0 ≤ i ∧ i < l.length) && (rd l i == 0)) := by
  unfold lock_Table_Free.f
  rw [isF, Option.bind_some]
  by_cases h : 0 ≤ i ∧ i < l.length
  · rw [if_pos (by simpa using h), if_pos h.1, if_pos h.2]; simp [h]
  · rw [if_neg (by simpa using h)]; simp [h]
theorem setF {l : List Int} (hl : l.length ≤ 1000) {i : Int} (h0 : 0 ≤ i) (h1 : i < l.length) (v : Int) : lock_Table_set.f l i v = some (l.set i.toNat v) := by
  unfold lock_Table_set.f lock_Table_int.f
  rw [Option.bind_some, List.nil_append, if_pos (by rw [List.length_nil]; omega), Option.bind_some, if_pos h0, if_pos h1]
/-- What Take tells. -/
def takeL (l : List Int) (i who : Int) : List Int × Int := if 0 ≤ i ∧ i < l.length ∧ 1 ≤ who then (if rd l i = 0 then (l.set i.toNat who, 0) else (l, 6)) else (l, 1)
theorem takeF {l : List Int} (hl : l.length ≤ 1000) (i who : Int) {k : Nat} (hk : 1 ≤ k) : lock_Table_Take.f k l i who = some (takeL l i who) := by
  obtain ⟨k, rfl⟩ : ∃ m, k = m + 1 := ⟨k - 1, by omega⟩
  unfold lock_Table_Take.f takeL
  rw [isF, Option.bind_some]
  simp only [lock_Table_Take.j0]
  by_cases h : 0 ≤ i ∧ i < l.length
  · rw [if_pos (by simpa using h)]
    by_cases hw : who < 1
    · rw [if_pos (by simpa using hw), if_neg (by omega)]
    · rw [if_neg (by simpa using hw), if_pos (by omega), freeF, Option.bind_some]
      by_cases hr : rd l i = 0
      · rw [if_pos (by simp [h, hr]), setF hl h.1 h.2, Option.bind_some, if_pos hr]
      · rw [if_neg (by simp [hr]), if_neg hr]
  · rw [if_neg (by simpa using h), if_pos trivial, if_neg (by omega)]
/-- What Give tells. -/
def giveL (l : List Int) (i who : Int) : List Int × Int := if 0 ≤ i ∧ i < l.length ∧ 1 ≤ who then (if rd l i = who then (l.set i.toNat 0, 0) else (l, 7)) else (l, 1)
theorem giveF {l : List Int} (hl : l.length ≤ 1000) (i who : Int) {k : Nat} (hk : 1 ≤ k) : lock_Table_Give.f k l i who = some (giveL l i who) := by
  obtain ⟨k, rfl⟩ : ∃ m, k = m + 1 := ⟨k - 1, by omega⟩
  unfold lock_Table_Give.f giveL
  rw [isF, Option.bind_some]
  simp only [lock_Table_Give.j0]
  by_cases h : 0 ≤ i ∧ i < l.length
  · rw [if_pos (by simpa using h)]
    by_cases hw : who < 1
    · rw [if_pos (by simpa using hw), if_neg (by omega)]
    · rw [if_neg (by simpa using hw), if_pos h.1, if_pos h.2, if_pos (show 0 ≤ i ∧ i < (l.length : Int) ∧ 1 ≤ who from ⟨h.1, h.2, by omega⟩)]
      by_cases hr : rd l i = who
      · simp only [if_pos hr, setF hl h.1 h.2, Option.bind_some]
      · simp only [if_neg hr]
  · rw [if_neg (by simpa using h), if_pos trivial, if_neg (by omega)]
theorem holdsF {l : List Int} {i : Nat} (hi : i < l.length) (who : Int) : lock_Table_holds.f l (i : Int) who = some (his l who i) := by
  unfold lock_Table_holds.f his
  by_cases h : 1 ≤ who
  · rw [if_pos (by omega), if_pos (by omega), if_pos (by omega), rd_nat]; simp [h]
  · rw [if_neg (by omega)]; simp [h]
theorem heldW {l : List Int} (hl : l.length ≤ 1000) (who : Int) (d : Nat) : ∀ (i : Nat) (acc : List Int) (k : Nat), i + d = l.length → d < k → acc.length ≤ i → lock_Table_Held.l0 k l who acc (l.length : Int) i = some (acc ++ (H l who i d).map (fun j : Nat => (j : Int))) := by
  induction d with
  | zero =>
    intro i acc k hi hk ha
    obtain ⟨k, rfl⟩ : ∃ m, k = m + 1 := ⟨k - 1, by omega⟩
    simp only [lock_Table_Held.l0]
    rw [if_neg (by omega), H_zero]; simp
  | succ d ih =>
    intro i acc k hi hk ha
    obtain ⟨k, rfl⟩ : ∃ m, k = m + 1 := ⟨k - 1, by omega⟩
    simp only [lock_Table_Held.l0]
    rw [if_pos (by omega), holdsF (by omega), Option.bind_some, w64 (n := (i : Int) + 1) (by omega) (by omega)]
    cases h : his l who i with
    | true =>
      rw [if_pos rfl, if_pos (by omega), H_yes d h]
      have := ih (i + 1) (acc ++ [(i : Int)]) k (by omega) (by omega) (by simp; omega)
      rw [Int.natCast_add, show ((1 : Nat) : Int) = 1 from rfl] at this
      rw [this]; simp
    | false =>
      rw [if_neg (by decide), H_no d h]
      have := ih (i + 1) acc k (by omega) (by omega) (by omega)
      rw [Int.natCast_add, show ((1 : Nat) : Int) = 1 from rfl] at this
      exact this
theorem heldF {l : List Int} (hl : l.length ≤ 1000) (who : Int) {k : Nat} (hk : 1001 < k) : lock_Table_Held.f k l who = some (heldL l who) := by
  unfold lock_Table_Held.f heldL
  have := heldW hl who l.length 0 [] k (by omega) (by omega) (by simp)
  rw [List.nil_append] at this
  exact this
theorem firstW {l : List Int} (hl : l.length ≤ 1000) (who : Int) (d : Nat) : ∀ (i : Nat) (k : Nat), i + d = l.length → d < k → lock_Table_First.l0 k l who (l.length : Int) i = some ((fst l who i d : Nat) : Int) := by
  induction d with
  | zero =>
    intro i k hi hk
    obtain ⟨k, rfl⟩ : ∃ m, k = m + 1 := ⟨k - 1, by omega⟩
    simp only [lock_Table_First.l0]
    rw [if_neg (by omega)]; rfl
  | succ d ih =>
    intro i k hi hk
    obtain ⟨k, rfl⟩ : ∃ m, k = m + 1 := ⟨k - 1, by omega⟩
    simp only [lock_Table_First.l0]
    rw [if_pos (by omega), holdsF (by omega), Option.bind_some, w64 (n := (i : Int) + 1) (by omega) (by omega)]
    unfold fst
    cases h : his l who i with
    | true =>
      rw [if_pos rfl, if_pos rfl]
      have := ih (i + 1) k (by omega) (by omega)
      rw [Int.natCast_add, show ((1 : Nat) : Int) = 1 from rfl] at this
      exact this
    | false => rw [if_neg (by decide), if_neg (by decide)]
theorem firstF {l : List Int} (hl : l.length ≤ 1000) (who : Int) {k : Nat} (hk : 1001 < k) : lock_Table_First.f k l who = some (firstL l who : Int) := by
  unfold lock_Table_First.f firstL
  exact firstW hl who l.length 0 k (by omega) (by omega)
theorem sameW (l : List Int) (hl : l.length ≤ 1000) (d : Nat) : ∀ (i k : Nat), i + d = l.length → d < k → hopperref09_Same.l0 k l l i = some true := by
  induction d with
  | zero =>
    intro i k hi hk
    obtain ⟨k, rfl⟩ : ∃ m, k = m + 1 := ⟨k - 1, by omega⟩
    simp only [hopperref09_Same.l0]
    rw [if_neg (by omega)]
  | succ d ih =>
    intro i k hi hk
    obtain ⟨k, rfl⟩ : ∃ m, k = m + 1 := ⟨k - 1, by omega⟩
    simp only [hopperref09_Same.l0]
    rw [if_pos (by omega), if_pos (by omega), if_pos (by omega), if_pos trivial, w64 (by omega) (by omega)]
    have := ih (i + 1) k (by omega) (by omega)
    rw [Int.natCast_add] at this; exact this
theorem sameF {l : List Int} (hl : l.length ≤ 1000) {k : Nat} (hk : 1001 < k) : hopperref09_Same.f k l l = some true := by
  unfold hopperref09_Same.f
  rw [if_pos rfl]
  exact sameW l hl _ 0 k (Nat.zero_add _) (by omega)
theorem newF (n : Int) : lock_New.f n = some (if 1 ≤ n ∧ n ≤ 8 then (List.replicate n.toNat 0, 0) else ([], 1)) := by
  unfold lock_New.f
  by_cases h1 : n < 1
  · rw [if_pos h1, if_neg (by omega)]
  · rw [if_neg h1]
    by_cases h2 : n > 8
    · rw [if_pos h2, if_neg (by omega)]
    · rw [if_neg h2, if_pos (by omega), if_pos (by omega), if_pos (by omega)]
theorem takenW (l : List Int) (hl : l.length ≤ 60) (who : Int) (hw : 1 ≤ who) (d : Nat) : ∀ (n : Nat) (y : List Int) (k : Nat), n + d = l.length → 2 * d + 3010 < k → y.length = l.length → n ≤ firstL y who → hopperlaw09_LockFirst.l1 k l who y n = some true := by
  have base : ∀ (n : Nat) (y : List Int) (k : Nat), 3000 ≤ k → y.length = l.length → firstL y who = l.length → hopperlaw09_LockFirst.j4 (k + 1) l who y n false = some true := fun n y k hk hy hf => by
    simp only [hopperlaw09_LockFirst.j4]
    rw [if_neg (by simp), firstF (by omega) who (by omega), Option.bind_some, if_pos (by omega), live_true (by omega)]; rfl
  induction d with
  | zero =>
    intro n y k hn hk hy hf
    obtain ⟨k, rfl⟩ : ∃ m, k = m + 1 + 1 := ⟨k - 2, by omega⟩
    have hs := (fst_spec y who y.length 0 (by omega)).1
    simp only [hopperlaw09_LockFirst.l1]
    rw [if_neg (by omega)]
    rw [show fst y who 0 y.length = firstL y who from rfl] at hs
    exact base n y k (by omega) hy (by omega)
  | succ d ih =>
    intro n y k hn hk hy hf
    obtain ⟨k, rfl⟩ : ∃ m, k = m + 1 + 1 := ⟨k - 2, by omega⟩
    obtain ⟨s1, s2, s3, s4⟩ := fst_spec y who y.length 0 (by omega)
    rw [show fst y who 0 y.length = firstL y who from rfl] at s1 s2 s3 s4
    simp only [hopperlaw09_LockFirst.l1]
    rw [if_pos (by omega), firstF (by omega) who (by omega), Option.bind_some]
    by_cases hlt : firstL y who < l.length
    · rw [show decide ((firstL y who : Int) < (l.length : Int)) = true by simp; omega]
      simp only [hopperlaw09_LockFirst.j4]
      rw [if_pos trivial, firstF (by omega) who (by omega), Option.bind_some, takeF (by omega) _ _ (by omega), Option.bind_some]
      unfold takeL
      rw [if_pos (show 0 ≤ (firstL y who : Int) ∧ (firstL y who : Int) < (y.length : Int) ∧ 1 ≤ who by omega), rd_nat]
      by_cases h0 : y.getD (firstL y who) 0 = 0
      · simp only [if_pos h0]
        rw [if_pos trivial, w64 (n := (n : Int) + 1) (by omega) (by omega), Int.toNat_natCast]
        have := ih (n + 1) (y.set (firstL y who) who) k (by omega) (by omega) (by simpa using hy) ?_
        · rw [Int.natCast_add] at this; exact this
        · obtain ⟨t1, t2, t3, t4⟩ := fst_spec (y.set (firstL y who) who) who y.length 0 (by simp)
          have e : firstL (y.set (firstL y who) who) who = fst (y.set (firstL y who) who) who 0 y.length := by unfold firstL; rw [List.length_set]
          rw [e]
          rcases Nat.lt_or_ge n (fst (y.set (firstL y who) who) who 0 y.length) with h | h
          · omega
          · have hb := t3 (by rw [List.length_set]; omega)
            unfold his at hb
            rw [List.getD_eq_getElem?_getD] at hb
            rcases Nat.lt_or_ge (fst (y.set (firstL y who) who) who 0 y.length) (firstL y who) with h' | h'
            · rw [List.getElem?_set_ne (by omega), ← List.getD_eq_getElem?_getD] at hb
              have := s4 _ (Nat.zero_le _) h'
              unfold his at this
              rw [this] at hb; cases hb
            · have e2 : fst (y.set (firstL y who) who) who 0 y.length = firstL y who := by omega
              rw [e2, List.getElem?_set_self (by omega)] at hb
              simp at hb; omega
      · simp only [if_neg h0]
        rw [if_neg (by decide), Option.bind_some, freeF, Option.bind_some, if_neg (by rw [rd_nat, beq_eq_false_iff_ne.2 h0]; simp), live_true (by omega)]; rfl
    · rw [show decide ((firstL y who : Int) < (l.length : Int)) = false by simp; omega]
      exact base n y k (by omega) hy (by omega)

theorem belowW (l : List Int) (hl : l.length ≤ 60) (who : Int) (hw : 1 ≤ who) (f : Nat) (hf : f ≤ l.length) (hall : ∀ j, j < f → l.getD j 0 = who) (d : Nat) : ∀ (n : Nat) (k : Nat), n + d = f → d + 5000 < k → hopperlaw09_LockFirst.l0 k l who l f n = some true := by
  induction d with
  | zero =>
    intro n k hn hk
    obtain ⟨k, rfl⟩ : ∃ m, k = m + 1 := ⟨k - 1, by omega⟩
    simp only [hopperlaw09_LockFirst.l0]
    rw [if_neg (by omega)]
    exact takenW l hl who hw l.length 0 l k (by omega) (by omega) rfl (Nat.zero_le _)
  | succ d ih =>
    intro n k hn hk
    obtain ⟨k, rfl⟩ : ∃ m, k = m + 1 := ⟨k - 1, by omega⟩
    simp only [hopperlaw09_LockFirst.l0]
    rw [if_pos (by omega), if_pos (by omega), if_pos (by omega), rd_nat, if_pos (hall n (by omega)), w64 (by omega) (by omega)]
    have := ih (n + 1) k (by omega) (by omega)
    rw [Int.natCast_add] at this; exact this

theorem pure_ (l : List Int) (who : Int) : ∃ k, hopperlaw09_LockFirst.f k l who = some true := by
  obtain ⟨K, hK⟩ : ∃ K : Nat, 9000 ≤ K := ⟨9000, Nat.le_refl _⟩
  refine ⟨K + 1 + 1, ?_⟩
  unfold hopperlaw09_LockFirst.f
  have done : hopperlaw09_LockFirst.j0 (K + 1 + 1) l who true = some true := by
    simp only [hopperlaw09_LockFirst.j0]
    rw [if_pos trivial, live_true (by omega)]; rfl
  by_cases hl : (l.length : Int) > 60
  · rw [if_pos hl, done]
  · rw [if_neg hl]
    by_cases hw : who < 1
    · rw [show decide (who < 1) = true by simpa using hw, done]
    · have hl' : l.length ≤ 1000 := by omega
      obtain ⟨s1, s2, s3, s4⟩ := fst_spec l who l.length 0 (by omega)
      rw [show fst l who 0 l.length = firstL l who from rfl] at s1 s2 s3 s4
      have hgo : hopperlaw09_LockFirst.j1 (K + 1) l who l (firstL l who : Int) false = some true := by
        simp only [hopperlaw09_LockFirst.j1]
        rw [if_neg (by simp)]
        exact belowW l (by omega) who (by omega) (firstL l who) s1 (fun j hj => by have := s4 j (Nat.zero_le _) hj; unfold his at this; simp at this; exact this.2) _ 0 K (Nat.zero_add _) (by omega)
      have hall : ((heldL l who).length = l.length) ↔ firstL l who = l.length := by
        unfold heldL
        rw [List.length_map, H_all l.length 0]
        refine ⟨fun h => ?_, fun h j h1 h2 => s4 j h1 (by omega)⟩
        rcases Nat.lt_or_ge (firstL l who) l.length with hlt | hge
        · have := s3 hlt; rw [h _ (Nat.zero_le _) (by omega)] at this; cases this
        · omega
      have hb : ((((heldL l who).length : Int) == (l.length : Int)) != ((firstL l who : Int) == (l.length : Int))) = false := by
        by_cases hq : firstL l who = l.length
        · have := hall.2 hq
          simp [hq, this]
        · have : (heldL l who).length ≠ l.length := fun h => hq (hall.1 h)
          rw [show (((heldL l who).length : Int) == (l.length : Int)) = false from beq_eq_false_iff_ne.2 (by omega), show ((firstL l who : Int) == (l.length : Int)) = false from beq_eq_false_iff_ne.2 (by omega)]; rfl
      rw [show decide (who < 1) = false by simpa using hw]
      simp only [hopperlaw09_LockFirst.j0]
      rw [if_neg (by simp), firstF hl' who (by omega), Option.bind_some, if_neg (by omega), if_neg (by omega)]
      by_cases hlt : firstL l who < l.length
      · rw [if_pos (by omega), if_pos (by omega), rd_nat]
        have hne := s3 hlt
        unfold his at hne
        rw [if_neg (by intro e; rw [e] at hne; simp at hne; omega), heldF hl' who (by omega), Option.bind_some, hb]
        exact hgo
      · rw [if_neg (by omega), heldF hl' who (by omega), Option.bind_some, hb]
        exact hgo
end Go.Proofs.Ytjbhjjdahakjmaa.PLockFirst
