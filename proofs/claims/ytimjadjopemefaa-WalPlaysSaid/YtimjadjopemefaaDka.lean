/- A disk that a law has made: all of it lies above the law's own world. -/
import Derived.Test.YtimjadjopemefaaDk9
set_option linter.unusedVariables false
set_option linter.unusedSimpArgs false
namespace Go.Proofs.Ytimjadjopemefaa
open Go.RowKit

structure Held (w0 w : World) (S : Nat → Prop) (g : Nat) (D : DS) : Prop where
  disk : IsDisk w S g D
  own : ∀ i, S i → w0.heap.size ≤ i ∧ i < w.heap.size
  below : Below w0.heap.size w0 w
/-- What a run does to a disk's footprint. -/
structure Grew (S S' : Nat → Prop) (w w' : World) : Prop where
  new : ∀ i, S' i → S i ∨ w.heap.size ≤ i
  upd : Upd S w w'
/-- Cells that lie beside a disk. -/
structure Off (w : World) (S : Nat → Prop) (A : Option Addr) (cs : List Value) : Prop where
  cells : Cells w A cs
  out : ∀ ad, A = some ad → ¬ S ad.block ∧ ad.block < w.heap.size

section
variable {w0 w w1 w2 : World} {S S' S2 : Nat → Prop} {g : Nat} {D D' : DS} {A : Option Addr} {cs : List Value}
theorem Held.of (h : IsDisk w S g D) (hs : ∀ i, S i → w0.heap.size ≤ i) (hb : Below w0.heap.size w0 w) : Held w0 w (fun i => S i ∧ i < w.heap.size) g D := ⟨h.tight, fun i hi => ⟨hs i hi.1, hi.2⟩, hb⟩
theorem Held.later (h : Held w0 w S g D) (hb : Below w.heap.size w w1) : Held w0 w1 S g D := ⟨h.disk.below hb, fun i hi => ⟨(h.own i hi).1, Nat.lt_of_lt_of_le (h.own i hi).2 hb.size⟩, h.below.trans (hb.mono h.below.size)⟩
theorem Held.drewN (h : Held w0 w S g D) (n : Nat) : Held w0 (w.drewN n) S g D := h.later (bdrewN (Below.refl _ _) n)
theorem Held.drew (h : Held w0 w S g D) : Held w0 w.drew S g D := h.later (bdrew (Below.refl _ _))
theorem Held.upd (h : Held w0 w S g D) (hu : Upd S2 w w1) (hs : ∀ i, S2 i → ¬ S i) (hn : ∀ i, S2 i → w0.heap.size ≤ i) : Held w0 w1 S g D :=
  ⟨h.disk.upd hu (fun k h1 h2 => hs k h2 h1), fun i hi => ⟨(h.own i hi).1, Nat.lt_of_lt_of_le (h.own i hi).2 hu.size⟩, h.below.trans (hu.below h.below.size (fun i hi h2 => by have := hn i h2; omega))⟩
theorem Held.step (h : Held w0 w S g D) (hb : Below w.heap.size w w1) (hd : IsDisk w2 (fun k => S k ∨ w1.heap.size ≤ k) g D') (hu : Upd S w1 w2) : ∃ S', Held w0 w2 S' g D' ∧ Grew S S' w1 w2 := by
  have h1 : Below w0.heap.size w0 w1 := h.below.trans (hb.mono h.below.size)
  have h2 := h.below.size
  have h3 := hb.size
  refine ⟨_, Held.of hd (fun i hi => ?_) (h1.trans (hu.below h1.size (fun i hi hs => by have := h.own i hs; omega))), ⟨fun i hi => hi.1, hu⟩⟩
  rcases hi with hi | hi
  · exact (h.own i hi).1
  · omega
theorem Off.next (h : Off w S A cs) (hg : Grew S S' w w1) : Off w1 S' A cs :=
  ⟨h.cells.upd hg.upd (fun ad e _ => (h.out ad e).1), fun ad e => ⟨fun h2 => by
    rcases hg.new _ h2 with h3 | h3
    · exact (h.out ad e).1 h3
    · have := (h.out ad e).2; omega, Nat.lt_of_lt_of_le (h.out ad e).2 hg.upd.size⟩⟩
theorem Off.later (h : Off w S A cs) (hb : Below w.heap.size w w1) : Off w1 S A cs := ⟨h.cells.below hb, fun ad e => ⟨(h.out ad e).1, Nat.lt_of_lt_of_le (h.out ad e).2 hb.size⟩⟩
end

theorem held_new (k : Nat) (w0 w : World) (hb : Below w0.heap.size w0 w) (hk : 0 < k) (hk16 : k ≤ 16) :
    Calls Try.prog 36 #[.int .i64 (k : Int)] w fun e w' => ∃ g S, e = .returned (.tuple #[.pointer (some ⟨g, 0, none⟩), .int .i64 0]) ∧ Held w0 w' S g (freshD k) ∧ (∀ i, S i → w.heap.size ≤ i) ∧ Below w.heap.size w w' :=
  (dnew_calls k w hk hk16).mono (by
    rintro e w' ⟨g, rfl, hd, hb2⟩
    exact ⟨g, _, rfl, Held.of hd (fun i hi => Nat.le_trans hb.size hi) (hb.trans (hb2.mono hb.size)), fun i hi => hi.1, hb2⟩)
section
variable {w0 w w1 : World} {S : Nat → Prop} {g : Nat} {D : DS}
theorem held_append (h : Held w0 w S g D) (hb : Below w.heap.size w w1) (n : Int) (A : Option Addr) (m c0 : Nat) (b : List UInt8) (hm : m = b.length) (hA : Cells w1 A (byts b)) (hout : ∀ ad, A = some ad → ad.block < w0.heap.size ∨ w.heap.size ≤ ad.block) (hbl : b.length ≤ 1000000000) (hac : D.acts < 1000000000) :
    Calls Try.prog 40 #[.pointer (some ⟨g, 0, none⟩), .int .i64 n, .slice A m c0] w1 fun e w' => e = .returned (.int .i64 (D.appErr n b)) ∧ ∃ S', Held w0 w' S' g (D.append n b) ∧ Grew S S' w1 w' :=
  (dappend_calls g _ D n A m c0 b w1 (h.disk.below hb) hm hA (fun ad e hs => by have := hout ad e; have := h.own _ hs; omega) hbl hac).mono (by
    rintro e w' ⟨rfl, hd, hu⟩
    exact ⟨rfl, h.step hb hd hu⟩)
theorem held_swap (h : Held w0 w S g D) (hb : Below w.heap.size w w1) (n : Int) (A : Option Addr) (m c0 : Nat) (b : List UInt8) (hm : m = b.length) (hA : Cells w1 A (byts b)) (hout : ∀ ad, A = some ad → ad.block < w0.heap.size ∨ w.heap.size ≤ ad.block) (hac : D.acts < 1000000000) :
    Calls Try.prog 47 #[.pointer (some ⟨g, 0, none⟩), .int .i64 n, .slice A m c0] w1 fun e w' => e = .returned (.int .i64 (D.actErr n (b.length : Int))) ∧ ∃ S', Held w0 w' S' g (D.swap n b) ∧ Grew S S' w1 w' :=
  (dswap_calls g _ D n A m c0 b w1 (h.disk.below hb) hm hA (fun ad e hs => by have := hout ad e; have := h.own _ hs; omega) hac).mono (by
    rintro e w' ⟨rfl, hd, hu⟩
    exact ⟨rfl, h.step hb hd hu⟩)
theorem held_sync (h : Held w0 w S g D) (n : Int) (hac : D.acts < 1000000000) :
    Calls Try.prog 52 #[.pointer (some ⟨g, 0, none⟩), .int .i64 n] w fun e w' => e = .returned (.int .i64 (D.actErr n 0)) ∧ ∃ S', Held w0 w' S' g (D.sync n) ∧ Grew S S' w w' :=
  (dsync_calls g _ D n w h.disk hac).mono (by
    rintro e w' ⟨rfl, hd, hu⟩
    exact ⟨rfl, h.step (Below.refl _ _) hd hu⟩)
theorem held_arm (h : Held w0 w S g D) (hb : Below w.heap.size w w1) (n : Int) (A : Option Addr) (m c0 : Nat) (ks : List Int) (hm : m = ks.length) (hn : n ≤ 9223372036854775807) (hA : Cells w1 A (ints ks)) (hout : ∀ ad, A = some ad → ad.block < w0.heap.size ∨ w.heap.size ≤ ad.block) (hbl : ks.length ≤ 1000000000) :
    Calls Try.prog 38 #[.pointer (some ⟨g, 0, none⟩), .int .i64 n, .slice A m c0] w1 fun e w' => e = .returned (.tuple #[]) ∧ ∃ S', Held w0 w' S' g (D.arm n ks) ∧ Grew S S' w1 w' :=
  (darm_calls g _ D n A m c0 ks w1 (h.disk.below hb) hm hn hA (fun ad e hs => by have := hout ad e; have := h.own _ hs; omega) hbl).mono (by
    rintro e w' ⟨rfl, hd, hu⟩
    exact ⟨rfl, h.step hb hd hu⟩)
theorem held_crash (h : Held w0 w S g D) (hb : Below w.heap.size w w1) (A : Option Addr) (m c0 : Nat) (ks : List Int) (hm : m = ks.length) (hA : Cells w1 A (ints ks)) (hout : ∀ ad, A = some ad → ad.block < w0.heap.size ∨ w.heap.size ≤ ad.block) :
    Calls Try.prog 51 #[.pointer (some ⟨g, 0, none⟩), .slice A m c0] w1 fun e w' => e = .returned (.tuple #[]) ∧ ∃ S', Held w0 w' S' g (D.crash ks) ∧ Grew S S' w1 w' :=
  (dcrash_calls g _ D A m c0 ks w1 (h.disk.below hb) hm (fun w2 hu => hA.upd hu (fun ad e _ hs => by have h1 := hout ad e; have h2 := h.own _ hs.1; omega))).mono (by
    rintro e w' ⟨rfl, hd, hu⟩
    exact ⟨rfl, h.step hb (hd.mono (fun k hk => .inl hk)) (hu.mono (fun i _ hi => hi.1))⟩)
theorem held_up (h : Held w0 w S g D) :
    Calls Try.prog 42 #[.pointer (some ⟨g, 0, none⟩)] w fun e w' => e = .returned (.tuple #[]) ∧ ∃ S', Held w0 w' S' g { D with down := false } ∧ Grew S S' w w' :=
  (dup_calls g _ D w h.disk).mono (by
    rintro e w' ⟨rfl, hd, hu⟩
    exact ⟨rfl, h.step (Below.refl _ _) (hd.mono (fun k hk => .inl hk)) hu⟩)
theorem held_read (h : Held w0 w S g D) (n : Int) :
    Calls Try.prog 43 #[.pointer (some ⟨g, 0, none⟩), .int .i64 n] w fun e w' => ∃ A c, e = .returned (.tuple #[.slice A (if D.readErr n = 0 then (D.log n).1.length else 0) c, .int .i64 (D.readErr n)]) ∧ Off w' S A (byts (if D.readErr n = 0 then (D.log n).1 else [])) ∧ Held w0 w' S g D ∧ Below w.heap.size w w' :=
  (dread_calls g _ D n w h.disk).mono (by
    rintro e w' ⟨v, rfl, hr, hb⟩
    obtain ⟨A, c, rfl, _, _, hc, ho⟩ := hr.cells1
    exact ⟨A, c, rfl, ⟨hc, fun ad e => ⟨fun h2 => by have := (ho ad e).1; have := (h.own _ h2).2; omega, (ho ad e).2⟩⟩, h.later hb, hb⟩)
end
end Go.Proofs.Ytimjadjopemefaa
