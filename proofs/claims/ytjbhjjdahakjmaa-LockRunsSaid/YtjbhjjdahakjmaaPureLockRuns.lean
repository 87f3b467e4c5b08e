/- The law LockRuns as a statement over lists and numbers: whoever takes and gives what, each lock is held by the last one who took it; of at most 200 steps. -/
import Derived.Test.YtjbhjjdahakjmaaPLockRunsx1
import Derived.Test.YtjbhjjdahakjmaaPLockRunsx2
import Derived.Test.YtjbhjjdahakjmaaPLockRunsx3
import Derived.Test.YtjbhjjdahakjmaaPlain
namespace Go.Proofs.Ytjbhjjdahakjmaa.PLockRuns
open Go.RowKit Go.Proofs.YtjbhjjdahakjmaaW.PrintWords Go.Proofs.YtjbhjjdahakjmaaW.PrintMore Hand
set_option linter.unusedVariables false

theorem live_true {k : Nat} (hk : 10 ≤ k) : hopperlaw09_live.f k = some true := by
  have h : hopperlaw09_live.f 10 = some true := by decide +kernel
  obtain ⟨d, rfl⟩ := Nat.exists_eq_add_of_le hk
  induction d with
  | zero => exact h
  | succ d ih => exact hopperlaw09_live.mono _ _ (ih (by omega))
theorem isF (l : List Int) (i : Int) : lock_Table_is.f l i = some (decide (0 ≤ i ∧ i < l.length)) := by
  unfold lock_Table_is.f
  by_cases h0 : 0 ≤ i
  · rw [if_pos (by omega)]; simp [h0]
  · rw [if_neg (by omega)]; simp [h0]
theorem freeF (l : List Int) (i : Int) : lock_Table_Free.f l i = some (decide (0 ≤ i ∧ i < l.length) && (rd l i == 0)) := by
  unfold lock_Table_Free.f
  rw [isF, Option.bind_some]
  by_cases h : 0 ≤ i ∧ i < l.length
  · rw [if_pos (by simpa using h), if_pos h.1, if_pos h.2]; simp [h]
  · rw [if_neg (by simpa using h)]; simp [h]
theorem setF {l : List Int} (hl : l.length ≤ 1000) {i : Int} (h0 : 0 ≤ i) (h1 : i < l.length) (v : Int) : lock_Table_set.f l i v = some (l.set i.toNat v) := by
  unfold lock_Table_set.f lock_Table_int.f
  rw [Option.bind_some, List.nil_append, if_pos (by rw [List.length_nil]; omega), Option.bind_some, if_pos h0, if_pos h1]
/-- What Take tells. -/
def takeL (l : List Int) (i who : Int) : List Int × Int := if 0 ≤ i ∧ i < l.length ∧ 1 ≤ who then (if rd l i = 0 then (l.set i.toNat who, 0) else (l, 6)) else (l, 1)
theorem takeF {l : List Int} (hl : l.length ≤ 1000) (i who : Int) {k : Nat} (hk : 1 ≤ k) : lock_Table_Take.f k l i who = some (takeL l i who) := by
  obtain ⟨k, rfl⟩ : ∃ m, k = m + 1 := ⟨k - 1, by omega⟩
  unfold lock_Table_Take.f takeL
  rw [isF, Option.bind_some]
  simp only [lock_Table_Take.j0]
  by_cases h : 0 ≤ i ∧ i < l.length
  · rw [if_pos (by simpa using h)]
    by_cases hw : who < 1
    · rw [if_pos (by simpa using hw), if_neg (by omega)]
    · rw [if_neg (by simpa using hw), if_pos (by omega), freeF, Option.bind_some]
      by_cases hr : rd l i = 0
      · rw [if_pos (by simp [h, hr]), setF hl h.1 h.2, Option.bind_some, if_pos hr]
      · rw [if_neg (by simp [hr]), if_neg hr]
  · rw [if_neg (by simpa using h), if_pos trivial, if_neg (by omega)]
/-- What Give tells. -/
def giveL (l : List Int) (i who : Int) : List Int × Int := if 0 ≤ i ∧ i < l.length ∧ 1 ≤ who then (if rd l i = who then (l.set i.toNat 0, 0) else (l, 7)) else (l, 1)
theorem giveF {l : List Int} (hl : l.length ≤ 1000) (i who : Int) {k : Nat} (hk : 1 ≤ k) : lock_Table_Give.f k l i who = some (giveL l i who) := by
  obtain ⟨k, rfl⟩ : ∃ m, k = m + 1 := ⟨k - 1, by omega⟩
  unfold lock_Table_Give.f giveL
  rw [isF, Option.bind_some]
  simp only [lock_Table_Give.j0]
  by_cases h : 0 ≤ i ∧ i < l.length
  · rw [if_pos (by simpa using h)]
    by_cases hw : who < 1
    · rw [if_pos (by simpa using hw), if_neg (by omega)]
    · rw [if_neg (by simpa using hw), if_pos h.1, if_pos h.2, if_pos (show 0 ≤ i ∧ i < (l.length : Int) ∧ 1 ≤ who from ⟨h.1, h.2, by omega⟩)]
      by_cases hr : rd l i = who
      · simp only [if_pos hr, setF hl h.1 h.2, Option.bind_some]
      · simp only [if_neg hr]
  · rw [if_neg (by simpa using h), if_pos trivial, if_neg (by omega)]
theorem holdsF {l : List Int} {i : Nat} (hi : i < l.length) (who : Int) : lock_Table_holds.f l (i : Int) who = some (his l who i) := by
  unfold lock_Table_holds.f his
  by_cases h : 1 ≤ who
  · rw [if_pos (by omega), if_pos (by omega), if_pos (by omega), rd_nat]; simp [h]
  · rw [if_neg (by omega)]; simp [h]
theorem heldW {l : List Int} (hl : l.length ≤ 1000) (who : Int) (d : Nat) : ∀ (i : Nat) (acc : List Int) (k : Nat), i + d = l.length → d < k → acc.length ≤ i → lock_Table_Held.l0 k l who acc (l.length : Int) i = some (acc ++ (H l who i d).map (fun j : Nat => (j : Int))) := by
  induction d with
  | zero =>
    intro i acc k hi hk ha
    obtain ⟨k, rfl⟩ : ∃ m, k = m + 1 := ⟨k - 1, by omega⟩
    simp only [lock_Table_Held.l0]
    rw [if_neg (by omega), H_zero]; simp
  | succ d ih =>
    intro i acc k hi hk ha
    obtain ⟨k, rfl⟩ : ∃ m, k = m + 1 := ⟨k - 1, by omega⟩
    simp only [lock_Table_Held.l0]
    rw [if_pos (by omega), holdsF (by omega), Option.bind_some, w64 (n := (i : Int) + 1) (by omega) (by omega)]
    cases h : his l who i with
    | true =>
      rw [if_pos rfl, if_pos (by omega), H_yes d h]
      have := ih (i + 1) (acc ++ [(i : Int)]) k (by omega) (by omega) (by simp; omega)
      rw [Int.natCast_add, show ((1 : Nat) : Int) = 1 from rfl] at this
      rw [this]; simp
    | false =>
      rw [if_neg (by decide), H_no d h]
      have := ih (i + 1) acc k (by omega) (by omega) (by omega)
      rw [Int.natCast_add, show ((1 : Nat) : Int) = 1 from rfl] at this
      exact this
theorem heldF {l : List Int} (hl : l.length ≤ 1000) (who : Int) {k : Nat} (hk : 1001 < k) : lock_Table_Held.f k l who = some (heldL l who) := by
  unfold lock_Table_Held.f heldL
  have := heldW hl who l.length 0 [] k (by omega) (by omega) (by simp)
  rw [List.nil_append] at this
  exact this
theorem firstW {l : List Int} (hl : l.length ≤ 1000) (who : Int) (d : Nat) : ∀ (i : Nat) (k : Nat), i + d = l.length → d < k → lock_Table_First.l0 k l who (l.length : Int) i = some ((fst l who i d : Nat) : Int) := by
  induction d with
  | zero =>
    intro i k hi hk
    obtain ⟨k, rfl⟩ : ∃ m, k = m + 1 := ⟨k - 1, by omega⟩
    simp only [lock_Table_First.l0]
    rw [if_neg (by omega)]; rfl
  | succ d ih =>
    intro i k hi hk
    obtain ⟨k, rfl⟩ : ∃ m, k = m + 1 := ⟨k - 1, by omega⟩
    simp only [lock_Table_First.l0]
    rw [if_pos (by omega), holdsF (by omega), Option.bind_some, w64 (n := (i : Int) + 1) (by omega) (by omega)]
    unfold fst
    cases h : his l who i with
    | true =>
      rw [if_pos rfl, if_pos rfl]
      have := ih (i + 1) k (by omega) (by omega)
      rw [Int.natCast_add, show ((1 : Nat) : Int) = 1 from rfl] at this
      exact this
    | false => rw [if_neg (by decide), if_neg (by decide)]
theorem firstF {l : List Int} (hl : l.length ≤ 1000) (who : Int) {k : Nat} (hk : 1001 < k) : lock_Table_First.f k l who = some (firstL l who : Int) := by
  unfold lock_Table_First.f firstL
  exact firstW hl who l.length 0 k (by omega) (by omega)
theorem sameW (l : List Int) (hl : l.length ≤ 1000) (d : Nat) : ∀ (i k : Nat), i + d = l.length → d < k → hopperref09_Same.l0 k l l i = some true := by
  induction d with
  | zero =>
    intro i k hi hk
    obtain ⟨k, rfl⟩ : ∃ m, k = m + 1 := ⟨k - 1, by omega⟩
    simp only [hopperref09_Same.l0]
    rw [if_neg (by omega)]
  | succ d ih =>
    intro i k hi hk
    obtain ⟨k, rfl⟩ : ∃ m, k = m + 1 := ⟨k - 1, by omega⟩
    simp only [hopperref09_Same.l0]
    rw [if_pos (by omega), if_pos (by omega), if_pos (by omega), if_pos trivial, w64 (by omega) (by omega)]
    have := ih (i + 1) k (by omega) (by omega)
    rw [Int.natCast_add] at this; exact this
theorem sameF {l : List Int} (hl : l.length ≤ 1000) {k : Nat} (hk : 1001 < k) : hopperref09_Same.f k l l = some true := by
  unfold hopperref09_Same.f
  rw [if_pos rfl]
  exact sameW l hl _ 0 k (Nat.zero_add _) (by omega)
theorem newF (n : Int) : lock_New.f n = some (if 1 ≤ n ∧ n ≤ 8 then (List.replicate n.toNat 0, 0) else ([], 1)) := by
  unfold lock_New.f
  by_cases h1 : n < 1
  · rw [if_pos h1, if_neg (by omega)]
  · rw [if_neg h1]
    by_cases h2 : n > 8
    · rw [if_pos h2, if_neg (by omega)]
    · rw [if_neg h2, if_pos (by omega), if_pos (by omega), if_pos (by omega)]
theorem runW (n : Int) (hn : 1 ≤ n ∧ n ≤ 8) (l : List S41) (hl : l.length ≤ 200) (wf : ∀ x ∈ l, (Lit.int .i64 x.f0).wf = true ∧ (Lit.int .i64 x.f1).wf = true) (d : Nat) : ∀ (i : Nat) (t : List Int) (k : Nat), i + d = l.length → 2 * d + 3000 < k → (t.length : Int) = n → hopperlaw09_LockRuns.l0 k n l t t i = some true := by
  induction d with
  | zero =>
    intro i t k hi hk ht
    obtain ⟨k, rfl⟩ : ∃ m, k = m + 1 := ⟨k - 1, by omega⟩
    simp only [hopperlaw09_LockRuns.l0]
    rw [if_neg (by omega), live_true (by omega)]; rfl
  | succ d ih =>
    intro i t k hi hk ht
    obtain ⟨k, rfl⟩ : ∃ m, k = m + 1 + 1 := ⟨k - 2, by omega⟩
    have next : ∀ t' : List Int, (t'.length : Int) = n → hopperlaw09_LockRuns.l0 k n l t' t' (wrap64 ((i : Int) + 1)) = some true := fun t' h' => by
      rw [w64 (by omega) (by omega)]
      have := ih (i + 1) t' k (by omega) (by omega) h'
      rw [Int.natCast_add] at this; exact this
    have skip : ∀ a b, hopperlaw09_LockRuns.j2 (k + 1) n l t t (i : Int) a b true = some true := fun a b => by
      simp only [hopperlaw09_LockRuns.j2]
      rw [if_pos trivial]; exact next t ht
    simp only [hopperlaw09_LockRuns.l0]
    rw [if_pos (by omega), if_pos (by omega)]
    obtain ⟨x, hx⟩ : ∃ x, x = rd_T41 l (i : Int) := ⟨_, rfl⟩
    have hmem : x ∈ l := by
      rw [hx]; unfold rd_T41
      rw [Int.toNat_natCast, List.getD_eq_getElem?_getD, List.getElem?_eq_getElem (by omega)]
      exact List.getElem_mem _
    have hwf := (wf x hmem).2
    simp [Lit.wf, IntKind.min, IntKind.max, IntKind.signed, IntKind.bits] at hwf
    rw [← hx]
    by_cases h0 : x.f0 < 0
    · rw [if_pos h0]; exact skip _ _
    · rw [if_neg h0]
      by_cases h1 : x.f0 ≥ n
      · rw [if_pos h1]; exact skip _ _
      · rw [if_neg h1]
        by_cases h2 : x.f1 = 0
        · rw [if_pos h2]; exact skip _ _
        · rw [if_neg h2]
          by_cases h3 : x.f1 < -1000
          · rw [show decide (x.f1 < -1000) = true by simpa using h3]; exact skip _ _
          · rw [show decide (x.f1 < -1000) = false by simpa using h3]
            simp only [hopperlaw09_LockRuns.j2]
            rw [if_neg (by simp)]
            by_cases h4 : x.f1 > 0
            · have hin : 0 ≤ x.f0 ∧ x.f0 < (t.length : Int) ∧ 1 ≤ x.f1 := by omega
              by_cases h5 : rd t x.f0 = 0
              · have hT : takeL t x.f0 x.f1 = (t.set x.f0.toNat x.f1, 0) := by unfold takeL; rw [if_pos hin, if_pos h5]
                rw [if_pos h4, takeF (by omega) _ _ (by omega), hT, Option.bind_some]
                dsimp only
                rw [if_pos hin.1, if_pos hin.2.1, h5, if_neg (by decide), if_pos rfl, Option.bind_some, sameF (by simp; omega) (by omega), Option.bind_some, if_pos rfl]
                exact next _ (by simpa using ht)
              · have hT : takeL t x.f0 x.f1 = (t, 6) := by unfold takeL; rw [if_pos hin, if_neg h5]
                rw [if_pos h4, takeF (by omega) _ _ (by omega), hT, Option.bind_some]
                dsimp only
                rw [if_pos hin.1, if_pos hin.2.1, if_neg (by rw [beq_eq_false_iff_ne.2 h5]; decide), if_neg (show ¬ ((6 : Int) = 0) by decide), sameF (by omega) (by omega), Option.bind_some, if_pos rfl]
                exact next _ ht
            · have hin : 0 ≤ x.f0 ∧ x.f0 < (t.length : Int) ∧ 1 ≤ -x.f1 := by omega
              by_cases h5 : rd t x.f0 = -x.f1
              · have hT : giveL t x.f0 (-x.f1) = (t.set x.f0.toNat 0, 0) := by unfold giveL; rw [if_pos hin, if_pos h5]
                rw [if_neg h4, w64 (n := -x.f1) (by omega) (by omega), giveF (by omega) _ _ (by omega), hT, Option.bind_some]
                dsimp only
                rw [if_pos hin.1, if_pos hin.2.1, h5, if_neg (by simp), if_pos rfl, Option.bind_some, sameF (by simp; omega) (by omega), Option.bind_some, if_pos rfl]
                exact next _ (by simpa using ht)
              · have hT : giveL t x.f0 (-x.f1) = (t, 7) := by unfold giveL; rw [if_pos hin, if_neg h5]
                rw [if_neg h4, w64 (n := -x.f1) (by omega) (by omega), giveF (by omega) _ _ (by omega), hT, Option.bind_some]
                dsimp only
                rw [if_pos hin.1, if_pos hin.2.1, if_neg (by rw [beq_eq_false_iff_ne.2 h5]; decide), if_neg (show ¬ ((7 : Int) = 0) by decide), sameF (by omega) (by omega), Option.bind_some, if_pos rfl]
                exact next _ ht

theorem pure_ (n : Int) (l : List S41) (wf : ∀ x ∈ l, (Lit.int .i64 x.f0).wf = true ∧ (Lit.int .i64 x.f1).wf = true) : ∃ k, hopperlaw09_LockRuns.f k n l = some true := by
  obtain ⟨K, hK⟩ : ∃ K : Nat, 9000 ≤ K := ⟨9000, Nat.le_refl _⟩
  refine ⟨K + 1, ?_⟩
  unfold hopperlaw09_LockRuns.f
  rw [newF, Option.bind_some]
  simp only [hopperlaw09_LockRuns.j0]
  by_cases hl : (l.length : Int) > 200
  · rw [if_pos hl, if_pos trivial, if_pos hl, live_true (by omega)]; rfl
  · rw [if_neg hl]
    by_cases hn : 1 ≤ n ∧ n ≤ 8
    · rw [if_pos hn]
      dsimp only
      rw [if_neg (by decide), if_pos (by omega), if_pos (by omega)]
      exact runW n hn l (by omega) wf l.length 0 _ K (Nat.zero_add _) (by omega) (by simp; omega)
    · rw [if_neg hn]
      dsimp only
      rw [if_pos (show ((1 : Int) != 0) = true by decide), if_neg hl, if_pos (by rfl), live_true (by omega)]; rfl
end Go.Proofs.Ytjbhjjdahakjmaa.PLockRuns
