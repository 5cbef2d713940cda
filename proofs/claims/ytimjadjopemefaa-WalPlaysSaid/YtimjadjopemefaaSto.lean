/- Blocks that are written: what one block holds, and what a run may change. -/
import Derived.Test.YtimjadjopemefaaReg
set_option linter.unusedVariables false
set_option linter.unusedSimpArgs false
namespace Go.Proofs.Ytimjadjopemefaa
open Go.RowKit

/-- The block g holds these cells, none of them frozen. -/
def Blk (w : World) (g : Nat) (T : TypeId) (cs : Array Value) : Prop := w.heap[g]? = some (.cells cs T (0, 0))
section
variable {w w' : World} {g g' : Nat} {T : TypeId} {cs : Array Value}
theorem Blk.lt (h : Blk w g T cs) : g < w.heap.size := (Array.getElem?_eq_some_iff.1 h).1
theorem Blk.typed (h : Blk w g T cs) : Typed w g T := ⟨_, _, h⟩
theorem Blk.cell (h : Blk w g T cs) (j : Nat) (v : Value) (hj : cs[j]? = some v) : w.cell? ⟨g, j, none⟩ = some v := by
  simp only [World.cell?]; rw [show w.heap[g]? = _ from h]; simpa using hj
theorem Blk.free (h : Blk w g T cs) (j : Nat) (s : Option (Nat × Nat × Nat × Nat)) : w.frozen? ⟨g, j, none⟩ = false := by
  simp only [World.frozen?]; rw [show w.heap[g]? = _ from h]; simp
theorem Blk.set (h : Blk w g T cs) (j : Nat) (v : Value) : Blk (w.setCell ⟨g, j, none⟩ v) g T (cs.setIfInBounds j v) := by
  have hlt := h.lt
  have he : w.heap[g] = .cells cs T (0, 0) := (Array.getElem?_eq_some_iff.1 h).2
  simp only [Blk, World.setCell]
  rw [Array.getElem?_eq_getElem (by simpa using hlt), Array.getElem_modify]
  simp [he]
theorem Blk.same (h : Blk w g T cs) (he : w'.heap[g]? = w.heap[g]?) : Blk w' g T cs := he.trans h
theorem Blk.below (h : Blk w g T cs) (hb : Below w.heap.size w w') : Blk w' g T cs := h.same (hb.block g h.lt)
theorem Blk.kept {row : Option Nat} (h : Blk w g T cs) (hb : w.grownBy w' row) (hne : some g ≠ row) : Blk w' g T cs := h.same (hb.block g h.lt hne)
theorem Blk.new (w : World) (T : TypeId) (cs : Array Value) : Blk (w.alloc (.cells cs T)) w.heap.size T cs := by simp only [Blk, World.alloc, Array.getElem?_push_size]
end
theorem set_grown (w : World) (a : Addr) (v : Value) : w.grownBy (w.setCell a v) (some a.block) :=
  ⟨rfl, rfl, rfl, by simp [World.setCell], fun k hk hne => Below.heap_setCell w a v k (fun e => hne (by rw [e]))⟩
theorem Row.blk {w : World} {base : Nat} {e : TypeId} {size : Nat} {v : Value} {n : Nat} {xs : List Value} (h : Row w base e size v n xs) (hn : 0 < n) :
    ∃ g cap cur, v = .slice (some ⟨g, 0, none⟩) n cap ∧ base ≤ g ∧ Blk w g e cur ∧ n ≤ cap ∧ cap ≤ maxLen ∧ cap * size ≤ cur.size ∧ cur.toList.take (n * size) = xs := by
  rcases h.2 with ⟨_, h⟩ | ⟨g, cap, cur, h1, h2, h3, h4⟩
  · omega
  · exact ⟨g, cap, cur, h1, h2, h3, h4⟩

/-- A run that changes, of what lay there, only the blocks of S. -/
structure Upd (S : Nat → Prop) (w w' : World) : Prop where
  os : w'.os = w.os
  tape : w'.tape = w.tape
  output : w'.output = w.output
  size : w.heap.size ≤ w'.heap.size
  block : ∀ k, k < w.heap.size → ¬ S k → w'.heap[k]? = w.heap[k]?
section
variable {S S' : Nat → Prop} {w w1 w2 : World}
theorem Upd.refl (S : Nat → Prop) (w : World) : Upd S w w := ⟨rfl, rfl, rfl, Nat.le_refl _, fun _ _ _ => rfl⟩
/-- What the second run may change besides lies above. -/
theorem Upd.trans (h : Upd S w w1) (k : Upd S' w1 w2) (hs : ∀ i, i < w.heap.size → S' i → S i) : Upd S w w2 :=
  ⟨k.os.trans h.os, k.tape.trans h.tape, k.output.trans h.output, Nat.le_trans h.size k.size, fun i hi hn => (k.block i (Nat.lt_of_lt_of_le hi h.size) (fun e => hn (hs i hi e))).trans (h.block i hi hn)⟩
theorem Upd.of_below (h : Below w.heap.size w w1) : Upd S w w1 := ⟨h.os, h.tape, h.output, h.size, fun i hi _ => h.block i hi⟩
theorem Upd.below {B : Nat} (h : Upd S w w1) (hB : B ≤ w.heap.size) (hs : ∀ i, i < B → ¬ S i) : Below B w w1 := ⟨h.os, h.tape, h.output, h.size, fun i hi => h.block i (Nat.lt_of_lt_of_le hi hB) (hs i hi)⟩
theorem Upd.of_grown {row : Option Nat} (h : w.grownBy w1 row) (hs : ∀ i, row = some i → i < w.heap.size → S i) : Upd S w w1 :=
  ⟨h.os, h.tape, h.output, h.size, fun i hi hn => h.block i hi (fun e => hn (hs i e.symm hi))⟩
theorem Upd.mono (h : Upd S w w1) (hs : ∀ i, i < w.heap.size → S i → S' i) : Upd S' w w1 := ⟨h.os, h.tape, h.output, h.size, fun i hi hn => h.block i hi (fun e => hn (hs i hi e))⟩
theorem Upd.set (h : Upd S w w1) (a : Addr) (v : Value) (ha : a.block < w.heap.size → S a.block) : Upd S w (w1.setCell a v) :=
  h.trans (Upd.of_grown (S := fun i => i = a.block) (set_grown w1 a v) (fun i e _ => (Option.some.inj e).symm)) (fun i hi e => by subst e; exact ha hi)
theorem Upd.alloc (h : Upd S w w1) (o : Obj) : Upd S w (w1.alloc o) := h.trans (S' := S) (Upd.of_below ((Below.refl _ _).alloc (Nat.le_refl _) o)) (fun _ _ e => e)
theorem Upd.drewN (h : Upd S w w1) (n : Nat) : Upd S w (w1.drewN n) := ⟨h.os, h.tape, h.output, h.size, h.block⟩
end
/-- What is kept. -/
theorem Blk.upd {S : Nat → Prop} {w w' : World} {g : Nat} {T : TypeId} {cs : Array Value} (h : Blk w g T cs) (hu : Upd S w w') (hs : ¬ S g) : Blk w' g T cs := h.same (hu.block g h.lt hs)
theorem Typed.upd {S : Nat → Prop} {w w' : World} {g : Nat} {T : TypeId} (h : Typed w g T) (hu : Upd S w w') (hs : ¬ S g) : Typed w' g T := h.same (hu.block g h.lt hs)
theorem Cells.same {w w' : World} {A : Option Addr} {vs : List Value} (h : Cells w A vs) (hs : ∀ ad, A = some ad → ad.block < w.heap.size → w'.heap[ad.block]? = w.heap[ad.block]?) : Cells w' A vs := by
  refine ⟨fun j v hj => ?_, h.small⟩
  obtain ⟨ad, rfl, hc⟩ := h.get j v hj
  refine ⟨ad, rfl, ?_⟩
  have hl := World.block_lt_of_cell? w _ hc
  have := hs ad rfl (by rwa [add_block] at hl)
  rw [← hc]
  simp only [World.cell?, add_block, this]
theorem Cells.upd {S : Nat → Prop} {w w' : World} {A : Option Addr} {vs : List Value} (h : Cells w A vs) (hu : Upd S w w') (hs : ∀ ad, A = some ad → ad.block < w.heap.size → ¬ S ad.block) : Cells w' A vs :=
  h.same fun ad e hl => hu.block _ hl (hs ad e hl)
theorem Row.same {w w' : World} {base : Nat} {e : TypeId} {size : Nat} {v : Value} {n : Nat} {xs : List Value} (h : Row w base e size v n xs) (hs : ∀ g, v.ownBlock = some g → g < w.heap.size → w'.heap[g]? = w.heap[g]?) : Row w' base e size v n xs := by
  refine ⟨h.1, ?_⟩
  rcases h.2 with hn | ⟨g, cap, cur, rfl, hb, hgg, rest⟩
  · exact .inl hn
  · exact .inr ⟨g, cap, cur, rfl, hb, (hs g rfl (Array.getElem?_eq_some_iff.1 hgg).1).trans hgg, rest⟩
theorem Row.upd {S : Nat → Prop} {w w' : World} {base : Nat} {e : TypeId} {size : Nat} {v : Value} {n : Nat} {xs : List Value} (h : Row w base e size v n xs) (hu : Upd S w w') (hs : ∀ g, v.ownBlock = some g → g < w.heap.size → ¬ S g) : Row w' base e size v n xs :=
  h.same fun g e hl => hu.block _ hl (hs g e hl)
end Go.Proofs.Ytimjadjopemefaa
