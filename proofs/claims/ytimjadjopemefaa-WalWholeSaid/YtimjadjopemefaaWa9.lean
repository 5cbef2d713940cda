/- Rows of strings beside a wal; two wals on one disk. -/
import Derived.Test.YtimjadjopemefaaWa8
import Derived.Test.YtimjadjopemefaaFrameOwn
set_option linter.unusedVariables false
set_option linter.unusedSimpArgs false
namespace Go.Proofs.Ytimjadjopemefaa
open Go.RowKit

/-- The records that a law uses. -/
def cutS (k : Nat) (a : List (List UInt8)) : List (List UInt8) := (a.take k).map (·.take 1000)
theorem cutS_succ {k : Nat} {a : List (List UInt8)} (h : k < a.length) : cutS (k + 1) a = cutS k a ++ [a[k].take 1000] := by
  unfold cutS
  rw [List.take_succ_eq_append_getElem h, List.map_append]; rfl
theorem cutS_end {k : Nat} {a : List (List UInt8)} (h : a.length ≤ k) : cutS (k + 1) a = cutS k a := by
  unfold cutS
  rw [List.take_of_length_le (by omega), List.take_of_length_le h]
theorem cutS_small (k : Nat) (a : List (List UInt8)) : ∀ l ∈ cutS k a, l.length ≤ 1000 := by
  intro l hl
  obtain ⟨x, _, rfl⟩ := List.mem_map.1 hl
  simp; omega
theorem cutS_len (k : Nat) (a : List (List UInt8)) : (cutS k a).length = min k a.length := by simp [cutS]
theorem cutS_frames {k : Nat} (hk : k ≤ 8) (a : List (List UInt8)) : (framesOf (cutS k a)).length ≤ 8064 := by
  have h1 := framesOf_len 1000 (cutS k a) (cutS_small k a)
  have h2 := cutS_len k a
  have h3 : (cutS k a).length * (8 + 1000) ≤ 8 * (8 + 1000) := Nat.mul_le_mul (by omega) (Nat.le_refl _)
  omega

/-- A row of strings, beside what `P` names. -/
structure RowA (w : World) (base : Nat) (P : Nat → Prop) (v : Value) (xs : List (List UInt8)) : Prop where
  row : Row w base 9 1 v xs.length (strs xs)
  out : ∀ b, v.ownBlock = some b → ¬ P b
/-- A disk's blocks, and its wals. -/
def PW (S : Nat → Prop) (ga gb : Nat) : Nat → Prop := fun i => S i ∨ i = ga ∨ i = gb
section
variable {w0 w w' : World} {S S' P P' T : Nat → Prop} {g ga gb gw base : Nat} {D D' : DS} {V V' : WS} {v v' : Value} {xs : List (List UInt8)}
theorem RowA.later (h : RowA w base P v xs) (hb : Below w.heap.size w w') : RowA w' base P v xs := ⟨h.row.below hb, h.out⟩
theorem RowA.upd (h : RowA w base P v xs) (hu : Upd T w w') (hT : ∀ i, T i → v.ownBlock ≠ some i) : RowA w' base P v xs :=
  ⟨h.row.upd hu (fun i e _ ht => hT i ht e), h.out⟩
theorem RowA.wal (h : RowA w base (PW S ga gb) v xs) (hg : GrewW S S' gw w w') (hq : gw = ga ∨ gw = gb) : RowA w' base (PW S' ga gb) v xs := by
  refine ⟨h.row.upd hg.upd (fun i e _ ht => h.out i e ?_), fun i e hp => ?_⟩
  · rcases ht with ht | ht
    · exact .inl ht
    · rcases hq with hq | hq
      · exact .inr (.inl (ht.trans hq))
      · exact .inr (.inr (ht.trans hq))
  · rcases hp with hp | hp
    · rcases hg.new i hp with h1 | h1
      · exact h.out i e (.inl h1)
      · have := (h.row.lt i e).2; omega
    · exact h.out i e (.inr hp)
theorem RowA.disk (h : RowA w base (PW S ga gb) v xs) (hg : Grew S S' w w') : RowA w' base (PW S' ga gb) v xs := h.wal (GrewW.of_grew (gw := ga) hg) (.inl rfl)
theorem RowA.new (w : World) (base : Nat) (hb : base ≤ w.heap.size) (hP : ∀ i, P i → i < w.heap.size) : RowA (w.alloc (.cells #[] 9)) base P (.slice (some ⟨w.heap.size, 0, none⟩) 0 0) [] :=
  ⟨row_new w base 9 1 hb, fun b e hp => by simp [Value.ownBlock] at e; have := hP b hp; omega⟩
theorem RowA.push {s : List UInt8} (h : RowA w base P v xs) (r : Row w' base 9 1 v' (xs.length + 1) (strs xs ++ (#[.string (str s)] : Array Value).toList)) (o : v'.ownBlock = v.ownBlock ∨ ∃ b, v'.ownBlock = some b ∧ w.heap.size ≤ b) (hP : ∀ i, P i → i < w.heap.size) : RowA w' base P v' (xs ++ [s]) := by
  refine ⟨?_, fun b e hp => ?_⟩
  · rw [strs_push, List.length_append]; exact r
  · rcases o with o | ⟨b2, o, hb⟩
    · exact h.out b (o ▸ e) hp
    · rw [o] at e; cases e; have := hP b hp; omega
theorem HW.upd (h : HW w0 w S g gw D V) (hu : Upd T w w') (hT : ∀ i, T i → ¬ S i ∧ i ≠ gw ∧ w0.heap.size ≤ i) : HW w0 w' S g gw D V :=
  ⟨h.held.upd hu (fun i hi => (hT i hi).1) (fun i hi => (hT i hi).2.2), h.wal.upd hu (fun hi => (hT _ hi).2.1 rfl), h.out, h.lo⟩
theorem HW.beside (h : HW w0 w S g gb D V) (k : HW w0 w' S' g ga D' V') (hg : GrewW S S' ga w w') (hne : gb ≠ ga) : HW w0 w' S' g gb D' V :=
  ⟨k.held, h.wal.upd hg.upd (fun hi => by
    rcases hi with hi | hi
    · exact h.out hi
    · exact hne hi), fun hi => by
    rcases hg.new _ hi with h1 | h1
    · exact h.out h1
    · have := h.lt; omega, h.lo⟩
theorem HW.pw (h : HW w0 w S g ga D V) (k : HW w0 w S g gb D' V') : ∀ i, PW S ga gb i → i < w.heap.size := by
  rintro i (hi | rfl | rfl)
  · exact (h.held.own i hi).2
  · exact h.lt
  · exact k.lt
theorem upd_row (h : w.grownBy w' v.ownBlock) : Upd (fun i => v.ownBlock = some i) w w' := Upd.of_grown h (fun i e _ => e)
end

/-- Two wals' disk. -/
def apD (xs ys : List (List UInt8)) : DS := ⟨[(framesOf xs, 0), (framesOf ys, 0)], xs.length + ys.length, false, 0, []⟩
section
variable {xs ys : List (List UInt8)}
theorem apD_nil : freshD 2 = apD [] [] := rfl
theorem apD_live0 (h : (framesOf xs).length ≤ 4194304) : Live (apD xs ys) 0 (framesOf xs) 0 := ⟨by simp [apD], rfl, rfl, by simp [apD], h, Nat.zero_le _⟩
theorem apD_live1 (h : (framesOf ys).length ≤ 4194304) : Live (apD xs ys) 1 (framesOf ys) 0 := ⟨by simp [apD], rfl, rfl, by simp [apD], h, Nat.zero_le _⟩
theorem apD_app0 {s : List UInt8} (h : (framesOf xs).length ≤ 8064) (hs : s.length ≤ 1000) : (apD xs ys).appErr 0 (frameOf s) = 0 ∧ (apD xs ys).append 0 (frameOf s) = apD (xs ++ [s]) ys := by
  obtain ⟨e1, e2⟩ := (apD_live0 (xs := xs) (ys := ys) (by omega)).append (c := frameOf s) (by rw [frameOf_length]; omega)
  refine ⟨e1, e2.trans ?_⟩
  simp [apD, DS.pre, framesOf_push]
  omega
theorem apD_app1 {s : List UInt8} (h : (framesOf ys).length ≤ 8064) (hs : s.length ≤ 1000) : (apD xs ys).appErr 1 (frameOf s) = 0 ∧ (apD xs ys).append 1 (frameOf s) = apD xs (ys ++ [s]) := by
  obtain ⟨e1, e2⟩ := (apD_live1 (xs := xs) (ys := ys) (by omega)).append (c := frameOf s) (by rw [frameOf_length]; omega)
  refine ⟨e1, e2.trans ?_⟩
  simp [apD, DS.pre, framesOf_push]
  omega
def apE (xs ys : List (List UInt8)) : DS := ⟨[(framesOf xs, (framesOf xs).length), (framesOf ys, 0)], xs.length + ys.length + 1, false, 0, []⟩
def apF (xs ys : List (List UInt8)) : DS := ⟨[(framesOf xs, (framesOf xs).length), ([], 0)], xs.length + ys.length + 1, false, 0, []⟩
theorem apD_sync (h : (framesOf xs).length ≤ 8064) : (apD xs ys).actErr 0 0 = 0 ∧ (apD xs ys).sync 0 = apE xs ys := by
  obtain ⟨e1, e2⟩ := (apD_live0 (xs := xs) (ys := ys) (by omega)).sync
  exact ⟨e1, e2.trans (by simp [apD, apE, DS.pre])⟩
theorem apE_crash : ({ (apE xs ys).crash [] with down := false } : DS) = apF xs ys := by
  simp [apE, apF, DS.crash, crashTo, crashLog, crashN]
theorem apF_open0 (h : (framesOf xs).length ≤ 8064) (hs : ∀ l ∈ xs, l.length ≤ 1000) : openErrD (apF xs ys) 0 = 0 ∧ openD (apF xs ys) 0 = apF xs ys ∧ scanOf ((apF xs ys).log 0).1 = (xs, (framesOf xs).length) := by
  have hL : Live (apF xs ys) 0 (framesOf xs) (framesOf xs).length := ⟨by simp [apF], rfl, rfl, by simp [apF], by omega, Nat.le_refl _⟩
  have hsc := scan_frames xs (fun l hl => Nat.le_trans (hs l hl) (by decide))
  obtain ⟨e1, D', e2, _, _, _, _, e3⟩ := hL.open
  rw [hsc] at e3
  exact ⟨e1, e2.trans (e3 ⟨by simp, by simp⟩), hsc⟩
theorem apF_open1 : openErrD (apF xs ys) 1 = 0 ∧ openD (apF xs ys) 1 = apF xs ys ∧ quietD (apF xs ys) 1 ∧ scanOf ((apF xs ys).log 1).1 = ([], 0) := by
  have hL : Live (apF xs ys) 1 [] 0 := ⟨by simp [apF], rfl, rfl, by simp [apF], by simp, by simp⟩
  obtain ⟨e1, D', e2, _, _, _, _, e3⟩ := hL.open
  have hs : (scanOf []).2 = 0 := by rw [scan_nil]
  exact ⟨e1, e2.trans (e3 ⟨by rw [hs]; simp, by rw [hs]; simp⟩), hL.quiet (by rw [hs]; rfl) rfl, scan_nil⟩
end
end Go.Proofs.Ytimjadjopemefaa
