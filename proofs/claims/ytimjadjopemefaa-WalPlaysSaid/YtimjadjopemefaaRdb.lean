/- A disk and the reference's one, side by side: what lies where. -/
import Derived.Test.YtimjadjopemefaaRda
import Derived.Deep.Cut
import Derived.Deep.CutRange
import Derived.Deep.CutBlock
import Derived.Deep.RegionLaw
import Derived.Deep.RegionHeld3
set_option linter.unusedVariables false
set_option linter.unusedSimpArgs false
namespace Go.Proofs.Ytimjadjopemefaa
open Go.RowKit

/-- The block of a slice's cells. -/
def At (A : Option Addr) (i : Nat) : Prop := ∃ ad, A = some ad ∧ ad.block = i
/-- Numbers that may be written over. -/
def Slots (k : IntKind) (w : World) (A : Option Addr) (n : Nat) : Prop :=
  n = 0 ∨ ∃ g cs T fr, A = some ⟨g, 0, none⟩ ∧ w.heap[g]? = some (.cells cs T fr) ∧ ∀ j, j < n → (∃ x, cs[j]? = some (.int k x)) ∧ ¬ (fr.1 ≤ j ∧ j < fr.2)
theorem Slots.upd {k : IntKind} {w w' : World} {A : Option Addr} {n : Nat} {T : Nat → Prop} (h : Slots k w A n) (hu : Upd T w w') (hT : ∀ i, At A i → i < w.heap.size → ¬ T i) : Slots k w' A n := by
  rcases h with h | ⟨g, cs, T', fr, rfl, hh, hc⟩
  · exact .inl h
  · have hl := (Array.getElem?_eq_some_iff.1 hh).1
    exact .inr ⟨g, cs, T', fr, rfl, (hu.block g hl (hT g ⟨_, rfl, rfl⟩ hl)).trans hh, hc⟩
theorem Slots.below {k : IntKind} {w w' : World} {A : Option Addr} {n : Nat} (h : Slots k w A n) (hb : Below w.heap.size w w') : Slots k w' A n :=
  h.upd (T := fun _ => False) (Upd.of_below hb) (fun _ _ _ h => h)
theorem Slots.get {k : IntKind} {w : World} {A : Option Addr} {n j : Nat} (h : Slots k w A n) (hj : j < n) :
    ∃ g x, A = some ⟨g, 0, none⟩ ∧ w.cell? ⟨g, j, none⟩ = some (.int k x) ∧ w.frozen? ⟨g, j, none⟩ = false ∧ ∀ y, Slots k (w.setCell ⟨g, j, none⟩ (.int k y)) A n := by
  rcases h with h | ⟨g, cs, T', fr, rfl, hh, hc⟩
  · omega
  · obtain ⟨⟨x, hx⟩, hf⟩ := hc j hj
    have hl := (Array.getElem?_eq_some_iff.1 hh).1
    have he : w.heap[g] = .cells cs T' fr := (Array.getElem?_eq_some_iff.1 hh).2
    refine ⟨g, x, rfl, by rw [cell_of_row w g j cs T' fr hh]; exact hx, ?_, fun y => .inr ⟨g, cs.setIfInBounds j (.int k y), T', fr, rfl, ?_, fun i hi => ⟨?_, (hc i hi).2⟩⟩⟩
    · simp only [World.frozen?, hh, Bool.and_eq_false_iff, decide_eq_false_iff_not]
      omega
    · simp only [World.setCell]
      rw [Array.getElem?_eq_getElem (by simpa using hl), Array.getElem_modify]
      simp [he]
    · by_cases hij : i = j
      · subst hij
        have hsz := (Array.getElem?_eq_some_iff.1 hx).1
        exact ⟨y, by simp [hsz]⟩
      · obtain ⟨x', hx'⟩ := (hc i hi).1
        exact ⟨x', by rw [Array.getElem?_setIfInBounds]; rw [if_neg (by omega)]; exact hx'⟩
theorem Bytes.slots {w : World} {g : Nat} {l : List UInt8} (h : Bytes w g l) : Slots .u8 w (some ⟨g, 0, none⟩) l.length := by
  obtain ⟨cur, fr, hh, hs, ht, hf⟩ := h.holds
  refine .inr ⟨g, cur, 5, fr, rfl, hh, fun j hj => ⟨?_, hf j hj⟩⟩
  have := h.cell j hj
  rw [cell_of_row w g j cur 5 fr hh] at this
  exact ⟨_, this⟩
theorem Row.slots {k : IntKind} {w : World} {base : Nat} {e : TypeId} {A : Option Addr} {n c : Nat} {xs : List Value} (h : Row w base e 1 (.slice A n c) n xs) (hx : ∀ j, j < n → ∃ x, xs[j]? = some (.int k x)) : Slots k w A n := by
  rcases h.2 with ⟨_, h0⟩ | ⟨g, cap, cur, e1, hb, hh, h4, h5, h6, h7⟩
  · exact .inl h0
  · cases e1
    refine .inr ⟨g, cur, e, (0, 0), rfl, hh, fun j hj => ⟨?_, by simp⟩⟩
    obtain ⟨x, hx⟩ := hx j hj
    rw [← h7, List.getElem?_take] at hx
    split at hx
    · exact ⟨x, by simpa using hx⟩
    · cases hx
theorem Row.slots8 {w : World} {base : Nat} {A : Option Addr} {c : Nat} {l : List UInt8} (h : Row w base 5 1 (.slice A l.length c) l.length (byts l)) : Slots .u8 w A l.length :=
  h.slots fun j hj => ⟨(l[j].toNat : Int), by simp [byts, byt, hj]⟩
theorem Row.slots64 {w : World} {base : Nat} {A : Option Addr} {c : Nat} {l : List Int} (h : Row w base 3 1 (.slice A l.length c) l.length (ints l)) : Slots .i64 w A l.length :=
  h.slots fun j hj => ⟨l[j], ints_get l j hj⟩

/-- Cells that lie beside a disk, if there are any. -/
structure Beside (w : World) (S : Nat → Prop) (A : Option Addr) (cs : List Value) : Prop where
  cells : Cells w A cs
  out : ∀ ad, A = some ad → cs ≠ [] → ¬ S ad.block
section
variable {w w1 : World} {S S' T : Nat → Prop} {A : Option Addr} {cs : List Value}
theorem Cells.lt (h : Cells w A cs) {ad : Addr} (e : A = some ad) (hne : cs ≠ []) : ad.block < w.heap.size := by
  obtain ⟨ad', e', hc⟩ := h.at_ (List.length_pos_iff.2 hne)
  rw [e] at e'
  cases e'
  have hl : 0 < cs.length := List.length_pos_iff.2 hne
  have := World.block_lt_of_cell? w _ (hc 0 cs[0] (by simp [hl]))
  rwa [add_block] at this
theorem Beside.upd (h : Beside w S A cs) (hu : Upd T w w1) (hT : ∀ ad, A = some ad → cs ≠ [] → ¬ T ad.block) : Beside w1 S A cs := by
  by_cases hne : cs = []
  · subst hne; exact ⟨Cells.nil _ _, fun _ _ h => absurd rfl h⟩
  · exact ⟨h.cells.upd hu (fun ad e _ => hT ad e hne), h.out⟩
theorem Beside.later (h : Beside w S A cs) (hb : Below w.heap.size w w1) : Beside w1 S A cs := ⟨h.cells.below hb, h.out⟩
theorem Beside.next (h : Beside w S A cs) (hu : Upd S w w1) (hn : ∀ i, S' i → S i ∨ w.heap.size ≤ i) : Beside w1 S' A cs := by
  have h1 := h.upd hu h.out
  exact ⟨h1.cells, fun ad e hne hs => by
    rcases hn _ hs with h2 | h2
    · exact h.out ad e hne h2
    · have := h.cells.lt e hne; omega⟩
end

/-- What a call of the reference's leaves: a disk whose cells are those that it was given, or new ones. -/
structure ROut (w : World) (A B : Option Addr) (D' : DS) (A' B' : Option Addr) (w' : World) : Prop where
  la : Cells w' A' (lgs D'.logs)
  lb : Cells w' B' (ints D'.keep)
  oa : ∀ ad, A' = some ad → A = some ad ∨ w.heap.size ≤ ad.block
  ob : ∀ ad, B' = some ad → B = some ad ∨ w.heap.size ≤ ad.block
  below : Below w.heap.size w w'
theorem RNew.out {w w' : World} {A' B' : Option Addr} {c' d' : Nat} {ls : List (List UInt8 × Nat)} {ks : List Int} (h : RNew w w' A' c' B' d' ls ks) (hl : ls.length ≤ 16) (A B : Option Addr) (a : Nat) (o : Bool) (m : Int) : ROut w A B ⟨ls, a, o, m, ks⟩ A' B' w' := by
  obtain ⟨A1, c1, e1, _, _, h1, g1⟩ := h.logs.cells (by rw [lgs_length]; omega)
  obtain ⟨B1, d1, e2, _, _, h2, g2⟩ := h.keep.cells1
  cases e1
  cases e2
  exact ⟨h1, h2, fun ad e => .inr (g1 ad e).1, fun ad e => .inr (g2 ad e).1, h.below⟩

/-- A disk and the reference's: w0 is the world ahead of both. -/
structure PD (w0 w : World) (S : Nat → Prop) (g : Nat) (D : DS) (A B : Option Addr) : Prop where
  held : Held w0 w S g D
  la : Beside w S A (lgs D.logs)
  lb : Beside w S B (ints D.keep)
/-- What an act leaves of both: what it has lies below w, or from w2 on. -/
structure Stepped (w0 w w2 w3 : World) (S S' : Nat → Prop) (g : Nat) (D D' : DS) (A B A' B' : Option Addr) : Prop where
  pd : PD w0 w3 S' g D' A' B'
  own : ∀ i, S' i → i < w.heap.size ∨ w2.heap.size ≤ i
  new : ∀ i, S' i → S i ∨ w2.heap.size ≤ i
  oa : ∀ ad, A' = some ad → lgs D'.logs ≠ [] → ad.block < w.heap.size ∨ w2.heap.size ≤ ad.block
  ob : ∀ ad, B' = some ad → ints D'.keep ≠ [] → ad.block < w.heap.size ∨ w2.heap.size ≤ ad.block
  pa : ∀ ad, A' = some ad → lgs D'.logs ≠ [] → (A = some ad ∧ lgs D.logs ≠ []) ∨ w2.heap.size ≤ ad.block
  pb : ∀ ad, B' = some ad → ints D'.keep ≠ [] → (B = some ad ∧ ints D.keep ≠ []) ∨ w2.heap.size ≤ ad.block
section
variable {w0 w w1 w2 w3 w4 : World} {S S1 T : Nat → Prop} {g : Nat} {D D' : DS} {A B A' B' : Option Addr}
theorem PD.later (h : PD w0 w S g D A B) (hb : Below w.heap.size w w1) : PD w0 w1 S g D A B := ⟨h.held.later hb, h.la.later hb, h.lb.later hb⟩
theorem PD.upd (h : PD w0 w S g D A B) (hu : Upd T w w1) (h0 : ∀ i, T i → w0.heap.size ≤ i) (h1 : ∀ i, T i → ¬ S i) (h2 : ∀ ad, A = some ad → lgs D.logs ≠ [] → ¬ T ad.block) (h3 : ∀ ad, B = some ad → ints D.keep ≠ [] → ¬ T ad.block) : PD w0 w1 S g D A B :=
  ⟨h.held.upd hu h1 h0, h.la.upd hu h2, h.lb.upd hu h3⟩
/-- An act of the disk's, then one of the reference's. -/
theorem Stepped.mk2 (h : PD w0 w S g D A B) (hb : Below w.heap.size w w2) (hd : Held w0 w1 S1 g D') (hg : Grew S S1 w2 w1) (hr : ROut w1 A B D' A' B' w3) (hna : lgs D'.logs ≠ [] → lgs D.logs ≠ []) (hnb : ints D'.keep ≠ [] → (∀ ad, B' = some ad → w1.heap.size ≤ ad.block) ∨ ints D.keep ≠ []) :
    Stepped w0 w w2 w3 S S1 g D D' A B A' B' ∧ Upd S w2 w3 := by
  have hs := hg.upd.size
  have hs2 := hb.size
  have hn : ∀ i, S1 i → i < w.heap.size ∨ w2.heap.size ≤ i := fun i hi => (hg.new i hi).imp (fun h2 => (h.held.own i h2).2) id
  have ha : ∀ ad, A' = some ad → lgs D'.logs ≠ [] → (ad.block < w.heap.size ∨ w2.heap.size ≤ ad.block) ∧ ¬ S1 ad.block := fun ad e hne => by
    rcases hr.oa ad e with e2 | h2
    · refine ⟨.inl (h.la.cells.lt e2 (hna hne)), fun h3 => ?_⟩
      rcases hg.new _ h3 with h4 | h4
      · exact h.la.out ad e2 (hna hne) h4
      · have := h.la.cells.lt e2 (hna hne); omega
    · exact ⟨.inr (by omega), fun h3 => by have := (hd.own _ h3).2; omega⟩
  have hb' : ∀ ad, B' = some ad → ints D'.keep ≠ [] → (ad.block < w.heap.size ∨ w2.heap.size ≤ ad.block) ∧ ¬ S1 ad.block := fun ad e hne => by
    have key : w1.heap.size ≤ ad.block → (ad.block < w.heap.size ∨ w2.heap.size ≤ ad.block) ∧ ¬ S1 ad.block := fun h2 => ⟨.inr (by omega), fun h3 => by have := (hd.own _ h3).2; omega⟩
    rcases hnb hne with hx | hx
    · exact key (hx ad e)
    · rcases hr.ob ad e with e2 | h2
      · refine ⟨.inl (h.lb.cells.lt e2 hx), fun h3 => ?_⟩
        rcases hg.new _ h3 with h4 | h4
        · exact h.lb.out ad e2 hx h4
        · have := h.lb.cells.lt e2 hx; omega
      · exact key h2
  exact ⟨⟨⟨hd.later hr.below, ⟨hr.la, fun ad e hne => (ha ad e hne).2⟩, ⟨hr.lb, fun ad e hne => (hb' ad e hne).2⟩⟩, hn, hg.new, fun ad e hne => (ha ad e hne).1, fun ad e hne => (hb' ad e hne).1, fun ad e hne => (hr.oa ad e).imp (fun h => ⟨h, hna hne⟩) (fun h => by omega), fun ad e hne => by
    rcases hnb hne with hx | hx
    · exact .inr (by have := hx ad e; omega)
    · exact (hr.ob ad e).imp (fun h => ⟨h, hx⟩) (fun h => by omega)⟩, hg.upd.trans (Upd.of_below hr.below) (fun _ _ h => h)⟩
/-- Nothing was done. -/
theorem Stepped.same (h : PD w0 w S g D A B) (hb : Below w.heap.size w w2) (hb2 : Below w2.heap.size w2 w3) : Stepped w0 w w2 w3 S S g D D A B A B ∧ Upd S w2 w3 :=
  ⟨⟨(h.later hb).later hb2, fun i hi => .inl (h.held.own i hi).2, fun i hi => .inl hi, fun ad e hne => .inl (h.la.cells.lt e hne), fun ad e hne => .inl (h.lb.cells.lt e hne), fun ad e hne => .inl ⟨e, hne⟩, fun ad e hne => .inl ⟨e, hne⟩⟩, Upd.of_below hb2⟩
/-- What is written between. -/
theorem Stepped.upd (h : Stepped w0 w w2 w3 S S1 g D D' A B A' B') (hb : Below w0.heap.size w0 w) (hu : Upd T w3 w4) (hT : ∀ i, T i → w.heap.size ≤ i ∧ i < w2.heap.size) : Stepped w0 w w2 w4 S S1 g D D' A B A' B' := by
  have hs := hb.size
  refine ⟨h.pd.upd hu (fun i hi => by have := hT i hi; omega) (fun i hi hs => ?_) (fun ad e hne hi => ?_) (fun ad e hne hi => ?_), h.own, h.new, h.oa, h.ob, h.pa, h.pb⟩
  · have := hT i hi
    have := h.own i hs
    omega
  · have := hT _ hi
    have := h.oa ad e hne
    omega
  · have := hT _ hi
    have := h.ob ad e hne
    omega
end
theorem act_keep (D : DS) (n size : Int) (f : List UInt8 × Nat → List UInt8 × Nat) : (D.act n size f).keep = D.keep := by
  unfold DS.act DS.fail DS.crash
  repeat' split
  all_goals rfl
theorem act_len (D : DS) (n size : Int) (f : List UInt8 × Nat → List UInt8 × Nat) : (D.act n size f).logs.length = D.logs.length := by
  unfold DS.act DS.fail DS.crash
  repeat' split
  all_goals simp [crashTo_length]
theorem crash_keep (D : DS) (ks : List Int) : (D.crash ks).keep = D.keep := by unfold DS.crash; split <;> rfl
theorem crash_len (D : DS) (ks : List Int) : (D.crash ks).logs.length = D.logs.length := by unfold DS.crash; split <;> simp [crashTo_length]
theorem lgs_ne {ls : List (List UInt8 × Nat)} : lgs ls ≠ [] ↔ ls.length ≠ 0 := by
  rw [← List.length_pos_iff, lgs_length]; omega
theorem RNew.new {w w' : World} {A' B' : Option Addr} {c' d' : Nat} {ls : List (List UInt8 × Nat)} {ks : List Int} (h : RNew w w' A' c' B' d' ls ks) : ∀ ad, B' = some ad → w.heap.size ≤ ad.block := by
  obtain ⟨B1, d1, e2, _, _, h2, g2⟩ := h.keep.cells1
  cases e2
  exact fun ad e => (g2 ad e).1
/-- An act on both, and the store into the box of the reference's disk. -/
theorem arm_done {w0 w wc v1 v2 : World} {S S1 : Nat → Prop} {g : Nat} {D D' : DS} {A B A' B' : Option Addr} {y0 y1 y2 y3 y4 : Value} (hp : PD w0 w S g D A B) (hb0 : Below w0.heap.size w0 w) (hb : Below w.heap.size w wc) (hd : Held w0 v1 S1 g D') (hg : Grew S S1 wc v1) (hr : ROut v1 A B D' A' B' v2) (hlen : D'.logs.length = D.logs.length)
    (hnb : (∀ ad, B' = some ad → v1.heap.size ≤ ad.block) ∨ D'.keep = D.keep) (hx : w.heap.size < wc.heap.size) (hbox : Blk v2 w.heap.size 70 #[y0, y1, y2, y3, y4]) (z0 z1 z2 z3 z4 : Value) :
    Stepped w0 w wc (((((v2.setCell ⟨w.heap.size, 0, none⟩ z0).setCell ⟨w.heap.size, 1, none⟩ z1).setCell ⟨w.heap.size, 2, none⟩ z2).setCell ⟨w.heap.size, 3, none⟩ z3).setCell ⟨w.heap.size, 4, none⟩ z4) S S1 g D D' A B A' B' ∧
    Blk (((((v2.setCell ⟨w.heap.size, 0, none⟩ z0).setCell ⟨w.heap.size, 1, none⟩ z1).setCell ⟨w.heap.size, 2, none⟩ z2).setCell ⟨w.heap.size, 3, none⟩ z3).setCell ⟨w.heap.size, 4, none⟩ z4) w.heap.size 70 #[z0, z1, z2, z3, z4] ∧
    Upd (fun i => S i ∨ i = w.heap.size) wc (((((v2.setCell ⟨w.heap.size, 0, none⟩ z0).setCell ⟨w.heap.size, 1, none⟩ z1).setCell ⟨w.heap.size, 2, none⟩ z2).setCell ⟨w.heap.size, 3, none⟩ z3).setCell ⟨w.heap.size, 4, none⟩ z4) := by
  obtain ⟨hs, hu⟩ := Stepped.mk2 hp hb hd hg hr (fun h => lgs_ne.2 (hlen ▸ lgs_ne.1 h)) (fun h => hnb.imp id (fun e => by rwa [e] at h))
  obtain ⟨h1, h2⟩ := five_sets hbox z0 z1 z2 z3 z4
  exact ⟨hs.upd hb0 h2 (fun i hi => by subst hi; omega), h1, (hu.mono (fun i _ h => .inl h)).trans h2 (fun i _ h => .inr h)⟩
end Go.Proofs.Ytimjadjopemefaa
