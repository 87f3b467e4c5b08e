/- What an argument that came in says: read as numbers, bools, strings, rows of these and structs of these, by the print's own kinds. No program is named here. -/
import Derived.Deep.Slices
import Derived.OpenShut
import Derived.ChangeSame
import Derived.Test.YthmnedlaecekkaaWMore
namespace Go.Proofs.Ythmnedlaecekkaa.Read
open Go.ChangeShapes Go.WideShapes Go.Deep Go.Proofs.YthmnedlaecekkaaW.PrintWords

/-- A type's data, read off cells, is a value of kind d, that meets wf. -/
def Reads {α : Type} (P : Program) (t : TypeId) (d : Kd α) (wf : α → Prop) : Prop :=
  ∀ (H : Type) (enc : TypeId × Value → H) (w : World) (fuel : Nat) (cs : List Value) (x : DataW H × List MemPlace),
    DataW.trod enc P w 0 (fun _ => true) true fuel t cs = some x → ∃ v : α, d.K w v cs ∧ wf v

theorem reads_int {P : Program} {t : TypeId} {k : IntKind} (ht : P.underlying t = some (.int k)) : Reads P t (Kd.int k) (fun x => (Lit.int k x).wf = true) := by
  intro H enc w fuel cs x h
  cases fuel with
  | zero => simp [DataW.trod] at h
  | succ n =>
    unfold DataW.trod at h
    rw [ht] at h
    split at h <;> simp_all
    exact ⟨_, rfl, h.1.2⟩
theorem reads_bool {P : Program} {t : TypeId} (ht : P.underlying t = some .bool) : Reads P t Kd.bool (fun _ => True) := by
  intro H enc w fuel cs x h
  cases fuel with
  | zero => simp [DataW.trod] at h
  | succ n =>
    unfold DataW.trod at h
    rw [ht] at h
    split at h <;> first | (simp at h; done) | skip
    all_goals first | exact ⟨_, rfl, trivial⟩ | simp_all
theorem reads_string {P : Program} {t : TypeId} (ht : P.underlying t = some .string) : Reads P t Kd.string (fun s => s.size ≤ maxLen) := by
  intro H enc w fuel cs x h
  cases fuel with
  | zero => simp [DataW.trod] at h
  | succ n =>
    unfold DataW.trod at h
    rw [ht] at h
    split at h <;> simp_all
    exact ⟨_, rfl, h.1⟩
theorem reads_slice {α : Type} {P : Program} {t e : TypeId} {d : Kd α} {wf : α → Prop} (ht : P.underlying t = some (.slice e)) (he : Reads P e d wf) (hs : P.cellsOf e = d.sz) :
    Reads P t (Kd.slice e d) (fun xs => ∀ x ∈ xs, wf x) := by
  intro H enc w fuel cs x h
  rcases open_slice ht h with ⟨rfl, _⟩ | ⟨a, len, cap, m, n, D, Pl, rfl, hb, hl, hm, hmm, hx, hi⟩
  · exact ⟨[], ⟨none, 0, rfl, Nat.le_refl _, Kd.C_nil d w⟩, by simp⟩
  · have hall : ∀ i, i < len → ∃ v : α, (∃ c, w.cells? 0 (a.add (i * P.cellsOf e)) (P.cellsOf e) = some c ∧ d.K w v c) ∧ wf v := fun i hi' => by
      obtain ⟨c, h1, h2⟩ := hi i (by rw [hmm]; simp; omega)
      obtain ⟨v, h3, h4⟩ := he H enc w n c _ h2
      exact ⟨v, ⟨c, h1, h3⟩, h4⟩
    rcases Nat.eq_zero_or_pos len with h0 | hpos
    · subst h0
      exact ⟨[], ⟨some a, cap, rfl, Nat.zero_le _, ⟨rfl, by simp, fun hlt => absurd hlt (Nat.lt_irrefl 0)⟩⟩, by simp⟩
    · obtain ⟨v0, _⟩ := hall 0 hpos
      haveI : Inhabited α := ⟨v0⟩
      obtain ⟨f, hf⟩ := choose_lt hall
      refine ⟨(List.range len).map f, ⟨some a, cap, by simp, by simpa using hl, ⟨rfl, by simp; unfold maxLen at hm; omega, fun _ => ⟨a, rfl, fun j p hj => ?_⟩⟩⟩, ?_⟩
      · simp only [List.getElem?_map] at hj
        obtain ⟨i, hi1, rfl⟩ := Option.map_eq_some_iff.1 hj
        obtain ⟨hlt, rfl⟩ := List.getElem?_eq_some_iff.1 hi1
        simp only [List.length_range] at hlt
        simp only [List.getElem_range]
        obtain ⟨⟨c, h1, h2⟩, _⟩ := hf j hlt
        obtain ⟨_, hlen, hcell⟩ := World.cells?_some h1
        refine ⟨c, by rw [hlen, hs], h2, fun i u hu => ?_⟩
        have hic : i < P.cellsOf e := by rw [← hlen]; exact (List.getElem?_eq_some_iff.1 hu).1
        have := hcell i hic
        rw [Deep.add_add, hs] at this
        rw [this, hu]
      · intro x hx
        obtain ⟨i, hi1, rfl⟩ := List.mem_map.1 hx
        exact (hf i (List.mem_range.1 hi1)).2

/-- A struct's fields, one by one. -/
theorem struct_fields {H : Type} {enc : TypeId × Value → H} {P : Program} {w : World} {fuel : Nat} {t : TypeId} {fs : Array Field} {cs : List Value} {x : DataW H × List MemPlace} (ht : P.underlying t = some (.struct fs))
    (h : DataW.trod enc P w 0 (fun _ => true) true fuel t cs = some x) :
    cs.length = P.cellsOf t ∧ ∀ (i : Nat) (f : Field), fs[i]? = some f → ∃ (n : Nat) (y : DataW H × List MemPlace), DataW.trod enc P w 0 (fun _ => true) true n f.type ((cs.drop f.offset).take (P.cellsOf f.type)) = some y := by
  obtain ⟨xs, n, _, _, hl, hxl, hf⟩ := DataW.trod_struct ht h
  refine ⟨hl, fun i f hi => ?_⟩
  have hlt : i < fs.size := (Array.getElem?_eq_some_iff.1 hi).1
  have := hf i f hi
  rw [List.getElem?_eq_getElem (by omega)] at this
  exact ⟨n, _, this⟩
/-- An array's elements, one by one. -/
theorem array_elems {H : Type} {enc : TypeId × Value → H} {P : Program} {w : World} {fuel : Nat} {t e : TypeId} {n : Nat} {cs : List Value} {x : DataW H × List MemPlace} (ht : P.underlying t = some (.array n e))
    (h : DataW.trod enc P w 0 (fun _ => true) true fuel t cs = some x) :
    cs.length = P.cellsOf t ∧ ∀ (i : Nat), i < n → ∃ (m : Nat) (y : DataW H × List MemPlace), DataW.trod enc P w 0 (fun _ => true) true m e ((cs.drop (i * P.cellsOf e)).take (P.cellsOf e)) = some y := by
  obtain ⟨xs, m, _, _, hl, hxl, hf⟩ := DataW.trod_array ht h
  refine ⟨hl, fun i hi => ?_⟩
  have := hf i hi
  rw [List.getElem?_eq_getElem (by omega)] at this
  exact ⟨m, _, this⟩

/-- A slice that came in, whole. -/
theorem slice_arg {α : Type} {P : Program} {t e : TypeId} {d : Kd α} {wf : List α → Prop} (hr : Reads P t (Kd.slice e d) wf) {H : Type} {enc : TypeId × Value → H} {w : World} {a : Option Addr} {len cap : Nat} {D : DataW H} {p : List MemPlace}
    (h : DataW.Trod enc P w 0 (fun _ => true) true t (.slice a len cap) D p) : ∃ xs : List α, xs.length = len ∧ len ≤ cap ∧ Kd.C d w a len xs ∧ wf xs := by
  obtain ⟨fuel, hf⟩ := h
  obtain ⟨xs, ⟨A, c, e1, e2, e3⟩, hw⟩ := hr H enc w fuel _ _ hf
  simp only [Value.cells, List.cons.injEq, Value.slice.injEq, and_true] at e1
  obtain ⟨rfl, rfl, rfl⟩ := e1
  exact ⟨xs, rfl, e2, e3, hw⟩
/-- A struct that came in by value. -/
theorem agg_arg {P : Program} {t : TypeId} {n : Nat} (hn : n ≠ 1) {H : Type} {enc : TypeId × Value → H} {w : World} {v : Value} {D : DataW H} {p : List MemPlace} {fs : Array Field} (ht : P.underlying t = some (.struct fs)) (hs : P.cellsOf t = n)
    (h : DataW.Trod enc P w 0 (fun _ => true) true t v D p) : ∃ cs : List Value, v = .agg cs.toArray ∧ cs.length = n ∧ ∃ fuel, DataW.trod enc P w 0 (fun _ => true) true fuel t cs = some (D, p) := by
  obtain ⟨fuel, hf⟩ := h
  have hl := (struct_fields ht hf).1
  rw [hs] at hl
  cases v with
  | agg cs => exact ⟨cs.toList, by simp, by simpa [Value.cells] using hl, fuel, by simpa [Value.cells] using hf⟩
  | _ => exact absurd hl (by simp [Value.cells]; omega)
/-- An array that came in by value. -/
theorem agg_array {P : Program} {t : TypeId} {n : Nat} (hn : n ≠ 1) {H : Type} {enc : TypeId × Value → H} {w : World} {v : Value} {D : DataW H} {p : List MemPlace} {e : TypeId} {m : Nat} (ht : P.underlying t = some (.array m e)) (hs : P.cellsOf t = n)
    (h : DataW.Trod enc P w 0 (fun _ => true) true t v D p) : ∃ cs : List Value, v = .agg cs.toArray ∧ cs.length = n ∧ ∃ fuel, DataW.trod enc P w 0 (fun _ => true) true fuel t cs = some (D, p) := by
  obtain ⟨fuel, hf⟩ := h
  have hl := (array_elems ht hf).1
  rw [hs] at hl
  cases v with
  | agg cs => exact ⟨cs.toList, by simp, by simpa [Value.cells] using hl, fuel, by simpa [Value.cells] using hf⟩
  | _ => exact absurd hl (by simp [Value.cells]; omega)
end Go.Proofs.Ythmnedlaecekkaa.Read
