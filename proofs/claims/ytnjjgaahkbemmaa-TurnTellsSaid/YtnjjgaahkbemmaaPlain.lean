/- Plain facts on whose turn it is, over lists of bools and numbers alone: the places of those who may, in order; who is picked, who is next, and all turns of a round. -/
import Derived.Test.YtnjjgaahkbemmaaRange
namespace Go.Proofs.Ytnjjgaahkbemmaa.Hand
open Go.RowKit Go.Proofs.YtnjjgaahkbemmaaW.PrintWords

theorem w64 {n : Int} (h0 : -9223372036854775808 ≤ n) (h1 : n ≤ 9223372036854775807) : wrap64 n = n := by unfold wrap64; omega

/-- Of the d places from i on, those of whom may go on. -/
def T (l : List Bool) (i d : Nat) : List Nat := (List.range' i d).filter (fun j => l.getD j false)
theorem T_zero (l : List Bool) (i : Nat) : T l i 0 = [] := rfl
theorem T_yes {l : List Bool} {i : Nat} (d : Nat) (h : l.getD i false = true) : T l i (d + 1) = i :: T l (i + 1) d := by
  unfold T; rw [List.range'_succ, List.filter_cons_of_pos (by simpa using h)]
theorem T_no {l : List Bool} {i : Nat} (d : Nat) (h : l.getD i false = false) : T l i (d + 1) = T l (i + 1) d := by
  unfold T; rw [List.range'_succ, List.filter_cons_of_neg (by rw [h]; simp)]
theorem T_append (l : List Bool) (i d e : Nat) : T l i (d + e) = T l i d ++ T l (i + d) e := by
  unfold T; rw [← List.filter_append, List.range'_append_1]
theorem T_mem {l : List Bool} {i d j : Nat} : j ∈ T l i d ↔ (i ≤ j ∧ j < i + d) ∧ l.getD j false = true := by
  unfold T; rw [List.mem_filter, List.mem_range'_1]
theorem T_len (l : List Bool) (i d : Nat) : (T l i d).length ≤ d := by
  unfold T; exact Nat.le_trans (List.length_filter_le _ _) (by simp)
theorem T_sorted (l : List Bool) (i d : Nat) : (T l i d).Pairwise (· < ·) := by
  unfold T; exact List.Pairwise.filter _ List.pairwise_lt_range'
/-- All who may, in order. -/
abbrev S (l : List Bool) : List Nat := T l 0 l.length
theorem S_nodup (l : List Bool) : (S l).Nodup := (T_sorted l 0 l.length).imp (fun h => Nat.ne_of_lt h)

theorem rdOf_nat (l : List Bool) (j : Nat) : rdOf false l (j : Int) = l.getD j false := by simp [rdOf]

theorem rot_eq (l : List Bool) {fr : Nat} (h : fr ≤ l.length) : rot l fr l.length = (T l fr (l.length - fr) ++ T l 0 fr).map (fun j : Nat => (j : Int)) := by
  obtain ⟨d, hd⟩ := Nat.exists_eq_add_of_le h
  have e : rot l fr l.length = rot l fr (d + fr) := by rw [show l.length = d + fr by omega]
  rw [e, show l.length - fr = d by omega]
  unfold rot T
  rw [List.range_add, List.map_append, List.filter_append, List.map_append]
  congr 1
  · rw [List.range'_eq_map_range, List.filter_map, List.filter_map, List.map_map]
    have hg : ∀ i, i ∈ List.range d → ((fr : Int) + (i : Int)) % (l.length : Int) = ((fr + i : Nat) : Int) := fun i hi => by
      have := List.mem_range.1 hi
      rw [← Int.natCast_add]; exact Int.emod_eq_of_lt (by omega) (by omega)
    rw [List.filter_congr (q := (fun j => l.getD j false) ∘ (fun x => fr + x)) (fun i hi => by simp only [Function.comp]; rw [hg i hi, rdOf_nat])]
    exact List.map_congr_left (fun i hi => by simp only [Function.comp]; exact hg i (List.mem_filter.1 hi).1)
  · rw [List.map_map, List.filter_map, List.range'_eq_map_range, List.filter_map, List.map_map]
    have hg : ∀ i, i ∈ List.range fr → ((fr : Int) + ((d + i : Nat) : Int)) % (l.length : Int) = ((0 + i : Nat) : Int) := fun i hi => by
      have := List.mem_range.1 hi
      have : (fr : Int) + ((d + i : Nat) : Int) = (i : Int) + (l.length : Int) := by omega
      rw [this, Int.add_emod_right, Int.emod_eq_of_lt (by omega) (by omega)]; simp
    rw [List.filter_congr (q := (fun j => l.getD j false) ∘ (fun x => 0 + x)) (fun i hi => by simp only [Function.comp]; rw [hg i hi, rdOf_nat])]
    exact List.map_congr_left (fun i hi => by simp only [Function.comp]; exact hg i (List.mem_filter.1 hi).1)

theorem rot_S (l : List Bool) : rot l 0 l.length = (S l).map (fun j : Nat => (j : Int)) := by
  rw [rot_eq l (Nat.zero_le _)]; simp [S, T_zero]
theorem cntB_S (l : List Bool) : cntB l = ((S l).length : Nat) := by unfold cntB; rw [rot_S, List.length_map]

/-- An element of all: where it stands, and what is behind it. -/
theorem S_at {l : List Bool} {i a : Nat} (h : (S l)[i]? = some a) : T l 0 a = (S l).take i ∧ T l a (l.length - a) = (S l).drop i ∧ T l (a + 1) (l.length - (a + 1)) = (S l).drop (i + 1) ∧ a < l.length ∧ l.getD a false = true := by
  have hm := T_mem.1 (List.mem_of_getElem? h)
  have ha : a < l.length := by omega
  have e1 : S l = T l 0 a ++ T l a (l.length - a) := by
    have := T_append l 0 a (l.length - a); rw [show a + (l.length - a) = l.length by omega, Nat.zero_add] at this; exact this
  have e2 : T l a (l.length - a) = a :: T l (a + 1) (l.length - (a + 1)) := by
    rw [show l.length - a = (l.length - (a + 1)) + 1 by omega]; exact T_yes _ hm.2
  have hk : (S l)[(T l 0 a).length]? = some a := by rw [e1, e2]; simp
  have hi : i = (T l 0 a).length := by
    exact List.getElem?_inj (List.getElem?_eq_some_iff.1 h).1 (S_nodup l) |>.1 (h.trans hk.symm)
  subst hi
  refine ⟨by rw [e1, List.take_left' rfl], by rw [e1, List.drop_left' rfl], ?_, ha, hm.2⟩
  rw [e1, e2, show T l 0 a ++ a :: T l (a + 1) (l.length - (a + 1)) = (T l 0 a ++ [a]) ++ T l (a + 1) (l.length - (a + 1)) by simp]
  exact (List.drop_left' (by simp)).symm

theorem S_split (l : List Bool) {fr : Nat} (h : fr ≤ l.length) : S l = T l 0 fr ++ T l fr (l.length - fr) := by
  have := T_append l 0 fr (l.length - fr); rw [show fr + (l.length - fr) = l.length by omega, Nat.zero_add] at this; exact this
/-- How many of all stand ahead of where the next one is sought. -/
def pB (l : List Bool) (last : Int) : Nat := (T l 0 (fromB l last)).length
theorem pB_le (l : List Bool) (last : Int) : pB l last ≤ (S l).length := by
  rw [S_split l (fromB_le l last), List.length_append]; unfold pB; omega
theorem next_list (l : List Bool) (last : Int) : rot l (fromB l last) l.length = ((S l).drop (pB l last) ++ (S l).take (pB l last)).map (fun j : Nat => (j : Int)) := by
  rw [rot_eq l (fromB_le l last), S_split l (fromB_le l last)]
  unfold pB
  rw [List.drop_left' rfl, List.take_left' rfl]
theorem nextB_nobody {l : List Bool} (h : S l = []) (last : Int) : nextB l last = -1 := by
  unfold nextB; rw [next_list, h]; simp
theorem nextB_eq {l : List Bool} (h : S l ≠ []) (last : Int) : nextB l last = ((S l).getD (pB l last % (S l).length) 0 : Nat) := by
  have hm : 0 < (S l).length := List.length_pos_iff.2 h
  have hp := pB_le l last
  unfold nextB; rw [next_list]
  rcases Nat.lt_or_ge (pB l last) (S l).length with hlt | hge
  · rw [Nat.mod_eq_of_lt hlt, List.drop_eq_getElem_cons hlt]
    simp [List.getD_eq_getElem?_getD, hlt]
  · have e : pB l last = (S l).length := by omega
    rw [e, Nat.mod_self, List.drop_length, List.take_length]
    cases hS : S l with
    | nil => exact absurd hS h
    | cons x r => simp
theorem getD_lt {xs : List Nat} {i : Nat} (h : i < xs.length) : xs[i]? = some (xs.getD i 0) := by simp [List.getD_eq_getElem?_getD, h]
theorem pB_at {l : List Bool} {i a : Nat} (h : (S l)[i]? = some a) : pB l (a : Int) = i + 1 := by
  obtain ⟨h1, h2, h3, h4, h5⟩ := S_at h
  unfold pB
  have : fromB l (a : Int) = a + 1 := by unfold fromB; rw [if_pos (by omega)]; omega
  rw [this, show a + 1 = a + 1 from rfl, T_append l 0 a 1, Nat.zero_add, T_yes 0 h5, h1, T_zero]
  have := (List.getElem?_eq_some_iff.1 h).1
  simp; omega

/-- n turns, one behind the other. -/
def rnds (l : List Bool) : Int → Nat → List Int
  | _, 0 => []
  | last, n + 1 => if nextB l last < 0 then [] else nextB l last :: rnds l (nextB l last) n
theorem rnds_nobody {l : List Bool} (h : S l = []) (last : Int) (n : Nat) : rnds l last n = [] := by
  cases n with
  | zero => rfl
  | succ n => unfold rnds; rw [if_pos (by rw [nextB_nobody h]; omega)]
theorem rnds_len (l : List Bool) : ∀ (last : Int) (n : Nat), (rnds l last n).length ≤ n
  | _, 0 => by simp [rnds]
  | last, n + 1 => by unfold rnds; split <;> simp; exact rnds_len l _ n
theorem rnds_eq {l : List Bool} (h : S l ≠ []) (n : Nat) : ∀ last : Int, rnds l last n = (List.range n).map (fun j => (((S l).getD ((pB l last + j) % (S l).length) 0 : Nat) : Int)) := by
  have hm : 0 < (S l).length := List.length_pos_iff.2 h
  induction n with
  | zero => intro last; rfl
  | succ n ih =>
    intro last
    have hx := nextB_eq h last
    unfold rnds
    rw [if_neg (by rw [hx]; omega), ih, List.range_succ_eq_map, List.map_cons, List.map_map]
    congr 1
    refine List.map_congr_left (fun j _ => ?_)
    have hq : pB l (nextB l last) = pB l last % (S l).length + 1 := by rw [hx]; exact pB_at (getD_lt (Nat.mod_lt _ hm))
    simp only [Function.comp]
    rw [hq, show pB l last % (S l).length + 1 + j = pB l last % (S l).length + (j + 1) by omega, Nat.mod_add_mod]

theorem pickB_nobody {l : List Bool} (h : S l = []) (n : Int) : pickB l n = -1 := pickB_none (.inl (by rw [cntB_S, h]; rfl))
theorem pickB_eq {l : List Bool} (h : S l ≠ []) {n : Int} (h0 : 0 ≤ n) : pickB l n = ((S l).getD (n.toNat % (S l).length) 0 : Nat) := by
  have hm : 0 < (S l).length := List.length_pos_iff.2 h
  unfold pickB
  rw [cntB_S, if_neg (by omega), rot_S]
  obtain ⟨k, rfl⟩ := Int.eq_ofNat_of_zero_le h0
  rw [← Int.natCast_emod, Int.toNat_natCast, Int.toNat_natCast]
  have := Nat.mod_lt k hm
  simp [List.getD_eq_getElem?_getD, this]
end Go.Proofs.Ytnjjgaahkbemmaa.Hand
