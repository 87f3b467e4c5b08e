/- Short forms of what the print's words say at length: what is told of rows and variables stays true over steps that make memory or draw, and over stores into one block. -/
import Derived.Test.YthmnedlaecekkaaWMore
namespace Go.Proofs.YthmnedlaecekkaaW.PrintMore
open Go.RowKit Go.Proofs.YthmnedlaecekkaaW.PrintWords Go.Proofs.YthmnedlaecekkaaW.PrintLast

/-- w1 is w behind some plain steps. -/
class St (w w1 : World) : Prop where
  out : Below w.heap.size w w1
instance St.same (w : World) : St w w := ⟨Below.refl _ _⟩
instance St.made {w w1 : World} [h : St w w1] (o : Obj) : St w (w1.alloc o) := ⟨below_alloc h.out o⟩
instance St.drawn {w w1 : World} [h : St w w1] : St w w1.drew := ⟨below_drew1 h.out⟩
instance St.drawnN {w w1 : World} [h : St w w1] (m : Nat) : St w (w1.drewN m) := ⟨pw_below_drewN h.out m⟩
/-- w1 is w behind some plain steps, and stores into block g. -/
class Mv (g : Nat) (w w1 : World) : Prop where
  out : w.heap.size ≤ w1.heap.size ∧ ∀ k, k < w.heap.size → k ≠ g → w1.heap[k]? = w.heap[k]?
instance Mv.same (g : Nat) (w : World) : Mv g w w := ⟨Nat.le_refl _, fun _ _ _ => rfl⟩
instance Mv.stored {g : Nat} {w w1 : World} [h : Mv g w w1] (i : Nat) (u : Value) : Mv g w (w1.setCell ⟨g, i, none⟩ u) :=
  ⟨by rw [World.size_setCell]; exact h.out.1, fun k hk hg => (Below.heap_setCell w1 ⟨g, i, none⟩ u k hg).trans (h.out.2 k hk hg)⟩
instance Mv.made {g : Nat} {w w1 : World} [h : Mv g w w1] (o : Obj) : Mv g w (w1.alloc o) :=
  ⟨by rw [World.size_alloc]; have := h.out.1; omega, fun k hk hg => (Below.heap_alloc w1 o k (Nat.lt_of_lt_of_le hk h.out.1)).trans (h.out.2 k hk hg)⟩
instance Mv.drawn {g : Nat} {w w1 : World} [h : Mv g w w1] : Mv g w w1.drew := ⟨h.out.1, h.out.2⟩
instance Mv.drawnN {g : Nat} {w w1 : World} [h : Mv g w w1] (m : Nat) : Mv g w (w1.drewN m) := ⟨h.out.1, h.out.2⟩

/-- w1 is w behind some plain steps, and stores into block g: what its cells turn into. -/
class Pc (g : Nat) (w w1 : World) (f : outParam (Array Value → Array Value)) : Prop where
  out : ∀ cs t, w.heap[g]? = some (.cells cs t (0, 0)) → w1.heap[g]? = some (.cells (f cs) t (0, 0))
instance Pc.same (g : Nat) (w : World) : Pc g w w (fun c => c) := ⟨fun _ _ h => h⟩
instance Pc.stored {g : Nat} {w w1 : World} {f : Array Value → Array Value} [h : Pc g w w1 f] (i : Nat) (u : Value) : Pc g w (w1.setCell ⟨g, i, none⟩ u) (fun c => (f c).set! i u) := ⟨fun cs t hc => blk_put (h.out cs t hc) i u rfl⟩
instance Pc.made {g : Nat} {w w1 : World} {f : Array Value → Array Value} [h : Pc g w w1 f] (o : Obj) : Pc g w (w1.alloc o) f := ⟨fun cs t hc => blk_alloc (h.out cs t hc) o⟩
instance Pc.drawn {g : Nat} {w w1 : World} {f : Array Value → Array Value} [h : Pc g w w1 f] : Pc g w w1.drew f := ⟨fun cs t hc => h.out cs t hc⟩
instance Pc.drawnN {g : Nat} {w w1 : World} {f : Array Value → Array Value} [h : Pc g w w1 f] (m : Nat) : Pc g w (w1.drewN m) f := ⟨fun cs t hc => h.out cs t hc⟩
theorem BP {w w1 : World} {g : Nat} {f : Array Value → Array Value} [s : Pc g w w1 f] {cs cs' : Array Value} {t : TypeId} (h : w.heap[g]? = some (.cells cs t (0, 0))) (e : f cs = cs') : w1.heap[g]? = some (.cells cs' t (0, 0)) := by
  rw [← e]; exact s.out cs t h
/-- g is one of gs. -/
class Within (g : Nat) (gs : List Nat) : Prop where
  out : g ∈ gs
instance Within.head (g : Nat) (gs : List Nat) : Within g (g :: gs) := ⟨List.mem_cons_self⟩
instance Within.tail (g h : Nat) (gs : List Nat) [q : Within g gs] : Within g (h :: gs) := ⟨List.mem_cons_of_mem _ q.out⟩
/-- w1 is w behind some plain steps, and stores into blocks of gs: what lies below these is as it was. -/
class Sb (gs : List Nat) (w w1 : World) : Prop where
  out : ∀ B, (∀ g, g ∈ gs → B ≤ g) → B ≤ w.heap.size → Below B w w1
instance Sb.same (gs : List Nat) (w : World) : Sb gs w w := ⟨fun B _ _ => Below.refl B w⟩
instance Sb.stored {gs : List Nat} {g : Nat} {w w1 : World} [h : Sb gs w w1] [q : Within g gs] (i : Nat) (u : Value) : Sb gs w (w1.setCell ⟨g, i, none⟩ u) := ⟨fun B hg hw => (h.out B hg hw).setCell (p := ⟨g, i, none⟩) (hg g q.out) u⟩
instance Sb.made {gs : List Nat} {w w1 : World} [h : Sb gs w w1] (o : Obj) : Sb gs w (w1.alloc o) := ⟨fun B hg hw => (h.out B hg hw).alloc (Nat.le_trans hw (h.out B hg hw).size) o⟩
instance Sb.drawn {gs : List Nat} {w w1 : World} [h : Sb gs w w1] : Sb gs w w1.drew := ⟨fun B hg hw => below_drew1 (h.out B hg hw)⟩
instance Sb.drawnN {gs : List Nat} {w w1 : World} [h : Sb gs w w1] (m : Nat) : Sb gs w (w1.drewN m) := ⟨fun B hg hw => pw_below_drewN (h.out B hg hw) m⟩
theorem G0 {n : Nat} : ∀ g, g ∈ ([] : List Nat) → n ≤ g := fun _ h => nomatch h
theorem G1 {n g : Nat} {gs : List Nat} (h : n ≤ g) (r : ∀ k, k ∈ gs → n ≤ k) : ∀ k, k ∈ g :: gs → n ≤ k := fun k hk => by
  rcases List.mem_cons.mp hk with e | e
  · rw [e]; exact h
  · exact r k e
theorem LG {w W W1 : World} {gs : List Nat} [s : Sb gs W W1] (h : Below w.heap.size w W) (hg : ∀ g, g ∈ gs → w.heap.size ≤ g) : Below w.heap.size w W1 := h.trans (s.out _ hg h.size)
/-- Of n marks the first k stand. -/
def tf (k n : Nat) : Array Bool := ((List.range n).map fun i => decide (i < k)).toArray
theorem LA {w W W1 : World} [s : St W W1] (h : Below w.heap.size w W) : Below w.heap.size w W1 := h.trans (s.out.mono h.size)
theorem BA {w w1 : World} [s : St w w1] {g : Nat} {o : Obj} (h : w.heap[g]? = some o) : w1.heap[g]? = some o := (s.out.block g (blk_lt h)).trans h
theorem BF {w w1 : World} {q : Nat} [s : Mv q w w1] {g : Nat} {o : Obj} (h : w.heap[g]? = some o) (hne : g ≠ q) : w1.heap[g]? = some o := (s.out.2 g (blk_lt h) hne).trans h
/-- w1 is w behind some plain steps, and stores into blocks of gs: all others are as they were. -/
class Ms (gs : List Nat) (w w1 : World) : Prop where
  out : w.heap.size ≤ w1.heap.size ∧ ∀ k, k < w.heap.size → ¬ k ∈ gs → w1.heap[k]? = w.heap[k]?
instance Ms.same (gs : List Nat) (w : World) : Ms gs w w := ⟨Nat.le_refl _, fun _ _ _ => rfl⟩
instance Ms.stored {gs : List Nat} {g : Nat} {w w1 : World} [h : Ms gs w w1] [q : Within g gs] (i : Nat) (u : Value) : Ms gs w (w1.setCell ⟨g, i, none⟩ u) :=
  ⟨by rw [World.size_setCell]; exact h.out.1, fun k hk hg => (Below.heap_setCell w1 ⟨g, i, none⟩ u k (fun e => hg (e ▸ q.out))).trans (h.out.2 k hk hg)⟩
instance Ms.made {gs : List Nat} {w w1 : World} [h : Ms gs w w1] (o : Obj) : Ms gs w (w1.alloc o) :=
  ⟨by rw [World.size_alloc]; have := h.out.1; omega, fun k hk hg => (Below.heap_alloc w1 o k (Nat.lt_of_lt_of_le hk h.out.1)).trans (h.out.2 k hk hg)⟩
instance Ms.drawn {gs : List Nat} {w w1 : World} [h : Ms gs w w1] : Ms gs w w1.drew := ⟨h.out.1, h.out.2⟩
instance Ms.drawnN {gs : List Nat} {w w1 : World} [h : Ms gs w w1] (m : Nat) : Ms gs w (w1.drewN m) := ⟨h.out.1, h.out.2⟩
theorem N0 {g : Nat} : ¬ g ∈ ([] : List Nat) := fun h => nomatch h
theorem N1 {g q : Nat} {gs : List Nat} (h : g ≠ q) (r : ¬ g ∈ gs) : ¬ g ∈ q :: gs := fun k => by
  rcases List.mem_cons.mp k with e | e
  · exact h e
  · exact r e
theorem BM {w w1 : World} {gs : List Nat} [s : Ms gs w w1] {g : Nat} {o : Obj} (h : w.heap[g]? = some o) (hne : ¬ g ∈ gs) : w1.heap[g]? = some o := (s.out.2 g (blk_lt h) hne).trans h
theorem ne1 {w : World} {g q : Nat} {o : Obj} (e : q = w.heap.size) (h : w.heap[g]? = some o) : g ≠ q := by
  rw [e]; exact Nat.ne_of_lt (blk_lt h)
theorem ne2 {w : World} {g q : Nat} {o : Obj} (e : q = w.heap.size) (h : w.heap[g]? = some o) : q ≠ g := by
  rw [e]; exact Nat.ne_of_gt (blk_lt h)
theorem ge1 {w W : World} {q : Nat} (e : q = W.heap.size) (h : Below w.heap.size w W) : w.heap.size ≤ q := by
  rw [e]; exact below_size h
theorem PU : (∀ {α : Type} (l : List α) (i : Nat) (a : α), l.toArray.setIfInBounds i a = (l.set i a).toArray) ∧ (∀ {α : Type} (x : α) (xs : List α) (a : α), (x :: xs).set 0 a = a :: xs) ∧ (∀ {α : Type} (x : α) (xs : List α) (n : Nat) (a : α), (x :: xs).set (n + 1) a = x :: xs.set n a) :=
  ⟨fun l i a => by simp, fun _ _ _ => rfl, fun _ _ _ _ => rfl⟩
theorem ca2 {w : World} {g : Nat} {t : TypeId} {v0 v1 : Value} (h : w.heap[g]? = some (.cells #[v0, v1] t (0, 0))) : w.cell? ⟨g, 0, none⟩ = some v0 ∧ w.cell? ⟨g, 1, none⟩ = some v1 :=
  ⟨(blk_cell h 0).trans rfl, (blk_cell h 1).trans rfl⟩
theorem cz2 {w : World} {g : Nat} {t : TypeId} {v0 v1 : Value} (h : w.heap[g]? = some (.cells #[v0, v1] t (0, 0))) : w.cell? ⟨g, 0, none⟩ = some v0 ∧ w.cell? ⟨g, 1, none⟩ = some v1 ∧ w.frozen? ⟨g, 0, none⟩ = false ∧ w.frozen? ⟨g, 1, none⟩ = false :=
  ⟨(blk_cell h 0).trans rfl, (blk_cell h 1).trans rfl, blk_frozen h 0, blk_frozen h 1⟩
theorem ca3 {w : World} {g : Nat} {t : TypeId} {v0 v1 v2 : Value} (h : w.heap[g]? = some (.cells #[v0, v1, v2] t (0, 0))) : w.cell? ⟨g, 0, none⟩ = some v0 ∧ w.cell? ⟨g, 1, none⟩ = some v1 ∧ w.cell? ⟨g, 2, none⟩ = some v2 :=
  ⟨(blk_cell h 0).trans rfl, (blk_cell h 1).trans rfl, (blk_cell h 2).trans rfl⟩
theorem cz3 {w : World} {g : Nat} {t : TypeId} {v0 v1 v2 : Value} (h : w.heap[g]? = some (.cells #[v0, v1, v2] t (0, 0))) : w.cell? ⟨g, 0, none⟩ = some v0 ∧ w.cell? ⟨g, 1, none⟩ = some v1 ∧ w.cell? ⟨g, 2, none⟩ = some v2 ∧ w.frozen? ⟨g, 0, none⟩ = false ∧ w.frozen? ⟨g, 1, none⟩ = false ∧ w.frozen? ⟨g, 2, none⟩ = false :=
  ⟨(blk_cell h 0).trans rfl, (blk_cell h 1).trans rfl, (blk_cell h 2).trans rfl, blk_frozen h 0, blk_frozen h 1, blk_frozen h 2⟩
theorem ca4 {w : World} {g : Nat} {t : TypeId} {v0 v1 v2 v3 : Value} (h : w.heap[g]? = some (.cells #[v0, v1, v2, v3] t (0, 0))) : w.cell? ⟨g, 0, none⟩ = some v0 ∧ w.cell? ⟨g, 1, none⟩ = some v1 ∧ w.cell? ⟨g, 2, none⟩ = some v2 ∧ w.cell? ⟨g, 3, none⟩ = some v3 :=
  ⟨(blk_cell h 0).trans rfl, (blk_cell h 1).trans rfl, (blk_cell h 2).trans rfl, (blk_cell h 3).trans rfl⟩
theorem cz4 {w : World} {g : Nat} {t : TypeId} {v0 v1 v2 v3 : Value} (h : w.heap[g]? = some (.cells #[v0, v1, v2, v3] t (0, 0))) : w.cell? ⟨g, 0, none⟩ = some v0 ∧ w.cell? ⟨g, 1, none⟩ = some v1 ∧ w.cell? ⟨g, 2, none⟩ = some v2 ∧ w.cell? ⟨g, 3, none⟩ = some v3 ∧ w.frozen? ⟨g, 0, none⟩ = false ∧ w.frozen? ⟨g, 1, none⟩ = false ∧ w.frozen? ⟨g, 2, none⟩ = false ∧ w.frozen? ⟨g, 3, none⟩ = false :=
  ⟨(blk_cell h 0).trans rfl, (blk_cell h 1).trans rfl, (blk_cell h 2).trans rfl, (blk_cell h 3).trans rfl, blk_frozen h 0, blk_frozen h 1, blk_frozen h 2, blk_frozen h 3⟩
theorem ca5 {w : World} {g : Nat} {t : TypeId} {v0 v1 v2 v3 v4 : Value} (h : w.heap[g]? = some (.cells #[v0, v1, v2, v3, v4] t (0, 0))) : w.cell? ⟨g, 0, none⟩ = some v0 ∧ w.cell? ⟨g, 1, none⟩ = some v1 ∧ w.cell? ⟨g, 2, none⟩ = some v2 ∧ w.cell? ⟨g, 3, none⟩ = some v3 ∧ w.cell? ⟨g, 4, none⟩ = some v4 :=
  ⟨(blk_cell h 0).trans rfl, (blk_cell h 1).trans rfl, (blk_cell h 2).trans rfl, (blk_cell h 3).trans rfl, (blk_cell h 4).trans rfl⟩
theorem cz5 {w : World} {g : Nat} {t : TypeId} {v0 v1 v2 v3 v4 : Value} (h : w.heap[g]? = some (.cells #[v0, v1, v2, v3, v4] t (0, 0))) : w.cell? ⟨g, 0, none⟩ = some v0 ∧ w.cell? ⟨g, 1, none⟩ = some v1 ∧ w.cell? ⟨g, 2, none⟩ = some v2 ∧ w.cell? ⟨g, 3, none⟩ = some v3 ∧ w.cell? ⟨g, 4, none⟩ = some v4 ∧ w.frozen? ⟨g, 0, none⟩ = false ∧ w.frozen? ⟨g, 1, none⟩ = false ∧ w.frozen? ⟨g, 2, none⟩ = false ∧ w.frozen? ⟨g, 3, none⟩ = false ∧ w.frozen? ⟨g, 4, none⟩ = false :=
  ⟨(blk_cell h 0).trans rfl, (blk_cell h 1).trans rfl, (blk_cell h 2).trans rfl, (blk_cell h 3).trans rfl, (blk_cell h 4).trans rfl, blk_frozen h 0, blk_frozen h 1, blk_frozen h 2, blk_frozen h 3, blk_frozen h 4⟩
theorem ca6 {w : World} {g : Nat} {t : TypeId} {v0 v1 v2 v3 v4 v5 : Value} (h : w.heap[g]? = some (.cells #[v0, v1, v2, v3, v4, v5] t (0, 0))) : w.cell? ⟨g, 0, none⟩ = some v0 ∧ w.cell? ⟨g, 1, none⟩ = some v1 ∧ w.cell? ⟨g, 2, none⟩ = some v2 ∧ w.cell? ⟨g, 3, none⟩ = some v3 ∧ w.cell? ⟨g, 4, none⟩ = some v4 ∧ w.cell? ⟨g, 5, none⟩ = some v5 :=
  ⟨(blk_cell h 0).trans rfl, (blk_cell h 1).trans rfl, (blk_cell h 2).trans rfl, (blk_cell h 3).trans rfl, (blk_cell h 4).trans rfl, (blk_cell h 5).trans rfl⟩
theorem cz6 {w : World} {g : Nat} {t : TypeId} {v0 v1 v2 v3 v4 v5 : Value} (h : w.heap[g]? = some (.cells #[v0, v1, v2, v3, v4, v5] t (0, 0))) : w.cell? ⟨g, 0, none⟩ = some v0 ∧ w.cell? ⟨g, 1, none⟩ = some v1 ∧ w.cell? ⟨g, 2, none⟩ = some v2 ∧ w.cell? ⟨g, 3, none⟩ = some v3 ∧ w.cell? ⟨g, 4, none⟩ = some v4 ∧ w.cell? ⟨g, 5, none⟩ = some v5 ∧ w.frozen? ⟨g, 0, none⟩ = false ∧ w.frozen? ⟨g, 1, none⟩ = false ∧ w.frozen? ⟨g, 2, none⟩ = false ∧ w.frozen? ⟨g, 3, none⟩ = false ∧ w.frozen? ⟨g, 4, none⟩ = false ∧ w.frozen? ⟨g, 5, none⟩ = false :=
  ⟨(blk_cell h 0).trans rfl, (blk_cell h 1).trans rfl, (blk_cell h 2).trans rfl, (blk_cell h 3).trans rfl, (blk_cell h 4).trans rfl, (blk_cell h 5).trans rfl, blk_frozen h 0, blk_frozen h 1, blk_frozen h 2, blk_frozen h 3, blk_frozen h 4, blk_frozen h 5⟩
theorem ca7 {w : World} {g : Nat} {t : TypeId} {v0 v1 v2 v3 v4 v5 v6 : Value} (h : w.heap[g]? = some (.cells #[v0, v1, v2, v3, v4, v5, v6] t (0, 0))) : w.cell? ⟨g, 0, none⟩ = some v0 ∧ w.cell? ⟨g, 1, none⟩ = some v1 ∧ w.cell? ⟨g, 2, none⟩ = some v2 ∧ w.cell? ⟨g, 3, none⟩ = some v3 ∧ w.cell? ⟨g, 4, none⟩ = some v4 ∧ w.cell? ⟨g, 5, none⟩ = some v5 ∧ w.cell? ⟨g, 6, none⟩ = some v6 :=
  ⟨(blk_cell h 0).trans rfl, (blk_cell h 1).trans rfl, (blk_cell h 2).trans rfl, (blk_cell h 3).trans rfl, (blk_cell h 4).trans rfl, (blk_cell h 5).trans rfl, (blk_cell h 6).trans rfl⟩
theorem cz7 {w : World} {g : Nat} {t : TypeId} {v0 v1 v2 v3 v4 v5 v6 : Value} (h : w.heap[g]? = some (.cells #[v0, v1, v2, v3, v4, v5, v6] t (0, 0))) : w.cell? ⟨g, 0, none⟩ = some v0 ∧ w.cell? ⟨g, 1, none⟩ = some v1 ∧ w.cell? ⟨g, 2, none⟩ = some v2 ∧ w.cell? ⟨g, 3, none⟩ = some v3 ∧ w.cell? ⟨g, 4, none⟩ = some v4 ∧ w.cell? ⟨g, 5, none⟩ = some v5 ∧ w.cell? ⟨g, 6, none⟩ = some v6 ∧ w.frozen? ⟨g, 0, none⟩ = false ∧ w.frozen? ⟨g, 1, none⟩ = false ∧ w.frozen? ⟨g, 2, none⟩ = false ∧ w.frozen? ⟨g, 3, none⟩ = false ∧ w.frozen? ⟨g, 4, none⟩ = false ∧ w.frozen? ⟨g, 5, none⟩ = false ∧ w.frozen? ⟨g, 6, none⟩ = false :=
  ⟨(blk_cell h 0).trans rfl, (blk_cell h 1).trans rfl, (blk_cell h 2).trans rfl, (blk_cell h 3).trans rfl, (blk_cell h 4).trans rfl, (blk_cell h 5).trans rfl, (blk_cell h 6).trans rfl, blk_frozen h 0, blk_frozen h 1, blk_frozen h 2, blk_frozen h 3, blk_frozen h 4, blk_frozen h 5, blk_frozen h 6⟩
theorem ca8 {w : World} {g : Nat} {t : TypeId} {v0 v1 v2 v3 v4 v5 v6 v7 : Value} (h : w.heap[g]? = some (.cells #[v0, v1, v2, v3, v4, v5, v6, v7] t (0, 0))) : w.cell? ⟨g, 0, none⟩ = some v0 ∧ w.cell? ⟨g, 1, none⟩ = some v1 ∧ w.cell? ⟨g, 2, none⟩ = some v2 ∧ w.cell? ⟨g, 3, none⟩ = some v3 ∧ w.cell? ⟨g, 4, none⟩ = some v4 ∧ w.cell? ⟨g, 5, none⟩ = some v5 ∧ w.cell? ⟨g, 6, none⟩ = some v6 ∧ w.cell? ⟨g, 7, none⟩ = some v7 :=
  ⟨(blk_cell h 0).trans rfl, (blk_cell h 1).trans rfl, (blk_cell h 2).trans rfl, (blk_cell h 3).trans rfl, (blk_cell h 4).trans rfl, (blk_cell h 5).trans rfl, (blk_cell h 6).trans rfl, (blk_cell h 7).trans rfl⟩
theorem cz8 {w : World} {g : Nat} {t : TypeId} {v0 v1 v2 v3 v4 v5 v6 v7 : Value} (h : w.heap[g]? = some (.cells #[v0, v1, v2, v3, v4, v5, v6, v7] t (0, 0))) : w.cell? ⟨g, 0, none⟩ = some v0 ∧ w.cell? ⟨g, 1, none⟩ = some v1 ∧ w.cell? ⟨g, 2, none⟩ = some v2 ∧ w.cell? ⟨g, 3, none⟩ = some v3 ∧ w.cell? ⟨g, 4, none⟩ = some v4 ∧ w.cell? ⟨g, 5, none⟩ = some v5 ∧ w.cell? ⟨g, 6, none⟩ = some v6 ∧ w.cell? ⟨g, 7, none⟩ = some v7 ∧ w.frozen? ⟨g, 0, none⟩ = false ∧ w.frozen? ⟨g, 1, none⟩ = false ∧ w.frozen? ⟨g, 2, none⟩ = false ∧ w.frozen? ⟨g, 3, none⟩ = false ∧ w.frozen? ⟨g, 4, none⟩ = false ∧ w.frozen? ⟨g, 5, none⟩ = false ∧ w.frozen? ⟨g, 6, none⟩ = false ∧ w.frozen? ⟨g, 7, none⟩ = false :=
  ⟨(blk_cell h 0).trans rfl, (blk_cell h 1).trans rfl, (blk_cell h 2).trans rfl, (blk_cell h 3).trans rfl, (blk_cell h 4).trans rfl, (blk_cell h 5).trans rfl, (blk_cell h 6).trans rfl, (blk_cell h 7).trans rfl, blk_frozen h 0, blk_frozen h 1, blk_frozen h 2, blk_frozen h 3, blk_frozen h 4, blk_frozen h 5, blk_frozen h 6, blk_frozen h 7⟩
theorem ca9 {w : World} {g : Nat} {t : TypeId} {v0 v1 v2 v3 v4 v5 v6 v7 v8 : Value} (h : w.heap[g]? = some (.cells #[v0, v1, v2, v3, v4, v5, v6, v7, v8] t (0, 0))) : w.cell? ⟨g, 0, none⟩ = some v0 ∧ w.cell? ⟨g, 1, none⟩ = some v1 ∧ w.cell? ⟨g, 2, none⟩ = some v2 ∧ w.cell? ⟨g, 3, none⟩ = some v3 ∧ w.cell? ⟨g, 4, none⟩ = some v4 ∧ w.cell? ⟨g, 5, none⟩ = some v5 ∧ w.cell? ⟨g, 6, none⟩ = some v6 ∧ w.cell? ⟨g, 7, none⟩ = some v7 ∧ w.cell? ⟨g, 8, none⟩ = some v8 :=
  ⟨(blk_cell h 0).trans rfl, (blk_cell h 1).trans rfl, (blk_cell h 2).trans rfl, (blk_cell h 3).trans rfl, (blk_cell h 4).trans rfl, (blk_cell h 5).trans rfl, (blk_cell h 6).trans rfl, (blk_cell h 7).trans rfl, (blk_cell h 8).trans rfl⟩
theorem cz9 {w : World} {g : Nat} {t : TypeId} {v0 v1 v2 v3 v4 v5 v6 v7 v8 : Value} (h : w.heap[g]? = some (.cells #[v0, v1, v2, v3, v4, v5, v6, v7, v8] t (0, 0))) : w.cell? ⟨g, 0, none⟩ = some v0 ∧ w.cell? ⟨g, 1, none⟩ = some v1 ∧ w.cell? ⟨g, 2, none⟩ = some v2 ∧ w.cell? ⟨g, 3, none⟩ = some v3 ∧ w.cell? ⟨g, 4, none⟩ = some v4 ∧ w.cell? ⟨g, 5, none⟩ = some v5 ∧ w.cell? ⟨g, 6, none⟩ = some v6 ∧ w.cell? ⟨g, 7, none⟩ = some v7 ∧ w.cell? ⟨g, 8, none⟩ = some v8 ∧ w.frozen? ⟨g, 0, none⟩ = false ∧ w.frozen? ⟨g, 1, none⟩ = false ∧ w.frozen? ⟨g, 2, none⟩ = false ∧ w.frozen? ⟨g, 3, none⟩ = false ∧ w.frozen? ⟨g, 4, none⟩ = false ∧ w.frozen? ⟨g, 5, none⟩ = false ∧ w.frozen? ⟨g, 6, none⟩ = false ∧ w.frozen? ⟨g, 7, none⟩ = false ∧ w.frozen? ⟨g, 8, none⟩ = false :=
  ⟨(blk_cell h 0).trans rfl, (blk_cell h 1).trans rfl, (blk_cell h 2).trans rfl, (blk_cell h 3).trans rfl, (blk_cell h 4).trans rfl, (blk_cell h 5).trans rfl, (blk_cell h 6).trans rfl, (blk_cell h 7).trans rfl, (blk_cell h 8).trans rfl, blk_frozen h 0, blk_frozen h 1, blk_frozen h 2, blk_frozen h 3, blk_frozen h 4, blk_frozen h 5, blk_frozen h 6, blk_frozen h 7, blk_frozen h 8⟩
/-- A store, and an order drawn ahead of it. -/
theorem sd {W W' : World} {n : Nat} (h : W' = W.drewN n) {p : Addr} {v : Value} : W'.setCell p v = (W.setCell p v).drewN n := by
  subst h
  unfold World.setCell
  first | rfl | (simp only [World.drewN]; done) | (split <;> rfl) | (simp only [World.drewN]; split <;> rfl)
theorem sdc {W W' : World} {n : Nat} (h : W' = W.drewN n) {a : Addr} {r : Option Value} (hx : W.cell? a = r) : W'.cell? a = r := by
  subst h
  exact hx
theorem joined_ite {α : Type} {p q : Prop} [Decidable p] [Decidable q] (x y : α) : (if p then (if q then x else y) else y) = if p ∧ q then x else y := by
  by_cases hp : p <;> by_cases hq : q <;> simp [hp, hq]
end Go.Proofs.YthmnedlaecekkaaW.PrintMore
namespace Go.Proofs.YthmnedlaecekkaaW.PrintWords.Kd
open Go.Proofs.YthmnedlaecekkaaW.PrintMore
variable {α : Type} {d : Kd α} {e base : Nat} {ok : Nat → Prop} {v : Value} {xs : List α} {w w1 : World}
theorem CA [s : St w w1] {A : Option Addr} {n : Nat} (h : d.C w A n xs) : d.C w1 A n xs := C_below h s.out
theorem RA [s : St w w1] (h : d.R e w base ok v xs) : d.R e w1 base ok v xs := R_below h s.out
theorem VA [s : St w w1] (h : V d e w base ok v xs) : V d e w1 base ok v xs := V_step h (fun k _ hlt => s.out.block k hlt)
theorem QA [s : St w w1] (h : d.Q e w base ok v xs) : d.Q e w1 base ok v xs := Q_step h (fun k _ hlt => s.out.block k hlt)
theorem NA [s : St w w1] (h : d.N e w base ok v xs) : d.N e w1 base ok v xs := N_step h (fun k _ hlt => s.out.block k hlt)
theorem R_mv {g : Nat} [s : Mv g w w1] (h : d.R e w base ok v xs) (hok : ∀ k, ok k → k ≠ g) : d.R e w1 base ok v xs := R_step h (fun k ho hlt => s.out.2 k hlt (hok k ho))
theorem V_mv {g : Nat} [s : Mv g w w1] (h : V d e w base ok v xs) (hok : ∀ k, ok k → k ≠ g) : V d e w1 base ok v xs := V_step h (fun k ho hlt => s.out.2 k hlt (hok k ho))
theorem Q_mv {g : Nat} [s : Mv g w w1] (h : d.Q e w base ok v xs) (hok : ∀ k, ok k → k ≠ g) : d.Q e w1 base ok v xs := Q_step h (fun k ho hlt => s.out.2 k hlt (hok k ho))
theorem R_ms {gs : List Nat} [s : Ms gs w w1] (h : d.R e w base ok v xs) (hok : ∀ k, ok k → ¬ k ∈ gs) : d.R e w1 base ok v xs := R_step h (fun k ho hlt => s.out.2 k hlt (hok k ho))
theorem V_ms {gs : List Nat} [s : Ms gs w w1] (h : V d e w base ok v xs) (hok : ∀ k, ok k → ¬ k ∈ gs) : V d e w1 base ok v xs := V_step h (fun k ho hlt => s.out.2 k hlt (hok k ho))
theorem Q_ms {gs : List Nat} [s : Ms gs w w1] (h : d.Q e w base ok v xs) (hok : ∀ k, ok k → ¬ k ∈ gs) : d.Q e w1 base ok v xs := Q_step h (fun k ho hlt => s.out.2 k hlt (hok k ho))
/-- A shared row's block is none that the row may leave out of sight. -/
theorem V_not {W : World} {ad : Addr} {n c g : Nat} (h : V d e W base ok (.slice (some ad) n c) xs) (hs : 0 < d.sz) (hn : 0 < n) (hok : ¬ ok g) : ad.block ≠ g := by
  intro he
  obtain ⟨hnl, _, hF⟩ := V_at h
  have hC : d.C { W with heap := W.heap.setIfInBounds g (.cells #[] 0 (0, 0)) } (some ad) xs.length xs := hF _ (fun k hk _ => by
    have hne : g ≠ k := fun e1 => hok (e1 ▸ hk)
    simp [hne])
  obtain ⟨ad', e', hc⟩ := hC.2.2 (by omega)
  cases e'
  obtain ⟨p, hp⟩ : ∃ p, xs[0]? = some p := ⟨xs[0]'(by omega), List.getElem?_eq_getElem _⟩
  obtain ⟨cs, hcl, _, hcell⟩ := hc 0 p hp
  have h0 := hcell 0 (cs[0]'(by omega)) (List.getElem?_eq_getElem _)
  have hlt := World.block_lt_of_cell? _ _ h0
  subst he
  simp only [World.cell?] at h0
  simp [Addr.add] at h0 hlt
  simp [hlt] at h0
end Go.Proofs.YthmnedlaecekkaaW.PrintWords.Kd
