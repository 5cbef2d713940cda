/- One wal, its disk and two rows of strings; strings as byte slices. -/
import Derived.Test.YtimjadjopemefaaWalApart
set_option linter.unusedVariables false
set_option linter.unusedSimpArgs false
namespace Go.Proofs.Ytimjadjopemefaa
open Go.RowKit

/-- The wal, the disk, and two rows of strings. -/
structure FrRel (w : World) (g ga : Nat) (wr : World) (S : Nat → Prop) (D : DS) (V : WS) (us vs : List (List UInt8)) (u v : Value) : Prop where
  a : HW w wr S g ga D V
  ra : RowA wr w.heap.size (PW S ga ga) u us
  rb : RowA wr w.heap.size (PW S ga ga) v vs
  sep : ∀ i, u.ownBlock = some i → v.ownBlock ≠ some i
section
variable {w wr w' : World} {g ga : Nat} {S S' : Nat → Prop} {D D' : DS} {V V' : WS} {us vs : List (List UInt8)} {u v u' v' : Value} {s : List UInt8}
theorem FrRel.later (h : FrRel w g ga wr S D V us vs u v) (hb : Below wr.heap.size wr w') : FrRel w g ga w' S D V us vs u v :=
  ⟨h.a.later hb, h.ra.later hb, h.rb.later hb, h.sep⟩
theorem FrRel.pushU (h : FrRel w g ga wr S D V us vs u v) (r : Row w' w.heap.size 9 1 u' (us.length + 1) (strs us ++ (#[.string (str s)] : Array Value).toList)) (hg : wr.grownBy w' u.ownBlock) (o : u'.ownBlock = u.ownBlock ∨ ∃ b, u'.ownBlock = some b ∧ wr.heap.size ≤ b) :
    FrRel w g ga w' S D V (us ++ [s]) vs u' v := by
  have hu := upd_row hg
  have hT : ∀ i, u.ownBlock = some i → ¬ PW S ga ga i := h.ra.out
  refine ⟨h.a.upd hu (fun i e => ⟨fun hs => hT i e (.inl hs), fun hs => hT i e (.inr (.inl hs)), (h.ra.row.lt i e).1⟩), h.ra.push r o (h.a.pw h.a), h.rb.upd hu h.sep, fun i e => ?_⟩
  rcases o with o | ⟨b, o, hb⟩
  · exact h.sep i (o ▸ e)
  · intro e2
    rw [o] at e; cases e
    have := (h.rb.row.lt _ e2).2; omega
theorem FrRel.pushV (h : FrRel w g ga wr S D V us vs u v) (r : Row w' w.heap.size 9 1 v' (vs.length + 1) (strs vs ++ (#[.string (str s)] : Array Value).toList)) (hg : wr.grownBy w' v.ownBlock) (o : v'.ownBlock = v.ownBlock ∨ ∃ b, v'.ownBlock = some b ∧ wr.heap.size ≤ b) :
    FrRel w g ga w' S D V us (vs ++ [s]) u v' := by
  have hu := upd_row hg
  have hT : ∀ i, v.ownBlock = some i → ¬ PW S ga ga i := h.rb.out
  refine ⟨h.a.upd hu (fun i e => ⟨fun hs => hT i e (.inl hs), fun hs => hT i e (.inr (.inl hs)), (h.rb.row.lt i e).1⟩), h.ra.upd hu (fun i e e2 => h.sep i e2 e), h.rb.push r o (h.a.pw h.a), fun i e => ?_⟩
  rcases o with o | ⟨b, o, hb⟩
  · rw [o]; exact h.sep i e
  · intro e2
    rw [o] at e2; cases e2
    have := (h.ra.row.lt _ e).2; omega
theorem FrRel.wal (h : FrRel w g ga wr S D V us vs u v) (k : HW w w' S' g ga D' V') (hg : GrewW S S' ga wr w') : FrRel w g ga w' S' D' V' us vs u v :=
  ⟨k, h.ra.wal hg (.inl rfl), h.rb.wal hg (.inl rfl), h.sep⟩
theorem FrRel.disk (h : FrRel w g ga wr S D V us vs u v) (k : Held w w' S' g D') (hg : Grew S S' wr w') : FrRel w g ga w' S' D' V us vs u v :=
  ⟨h.a.disk k hg, h.ra.disk hg, h.rb.disk hg, h.sep⟩
end

/-- One wal's disk. -/
def oneD (xs : List (List UInt8)) : DS := ⟨[(framesOf xs, 0)], xs.length, false, 0, []⟩
/-- .. where all is sure. -/
def oneS (xs : List (List UInt8)) (n : Nat) : DS := ⟨[(framesOf xs, (framesOf xs).length)], n, false, 0, []⟩
section
variable {xs ys : List (List UInt8)} {n : Nat}
theorem oneD_nil : freshD 1 = oneD [] := rfl
theorem oneD_app {s : List UInt8} (h : (framesOf xs).length ≤ 8064) (hs : s.length ≤ 1000) : (oneD xs).appErr 0 (frameOf s) = 0 ∧ (oneD xs).append 0 (frameOf s) = oneD (xs ++ [s]) := by
  have hL : Live (oneD xs) 0 (framesOf xs) 0 := ⟨by simp [oneD], rfl, rfl, by simp [oneD], by omega, Nat.zero_le _⟩
  obtain ⟨e1, e2⟩ := hL.append (c := frameOf s) (by rw [frameOf_length]; omega)
  exact ⟨e1, e2.trans (by simp [oneD, DS.pre, framesOf_push])⟩
theorem oneD_sync (h : (framesOf xs).length ≤ 8064) : (oneD xs).actErr 0 0 = 0 ∧ (oneD xs).sync 0 = oneS xs (xs.length + 1) := by
  have hL : Live (oneD xs) 0 (framesOf xs) 0 := ⟨by simp [oneD], rfl, rfl, by simp [oneD], by omega, Nat.zero_le _⟩
  obtain ⟨e1, e2⟩ := hL.sync
  exact ⟨e1, e2.trans (by simp [oneD, oneS, DS.pre])⟩
theorem oneS_live (h : (framesOf xs).length ≤ 16064) : Live (oneS xs n) 0 (framesOf xs) (framesOf xs).length := ⟨by simp [oneS], rfl, rfl, by simp [oneS], by omega, Nat.le_refl _⟩
theorem oneS_open (h : (framesOf xs).length ≤ 16064) (hs : ∀ l ∈ xs, l.length ≤ 1000) : openErrD (oneS xs n) 0 = 0 ∧ openD (oneS xs n) 0 = oneS xs n ∧ scanOf ((oneS xs n).log 0).1 = (xs, (framesOf xs).length) := by
  have hL := oneS_live (xs := xs) (n := n) h
  have hsc := scan_frames xs (fun l hl => Nat.le_trans (hs l hl) (by decide))
  obtain ⟨e1, D', e2, _, _, _, _, e3⟩ := hL.open
  rw [hsc] at e3
  exact ⟨e1, e2.trans (e3 ⟨by simp, by simp⟩), hsc⟩
/-- A swap that is made, and then a crash. -/
theorem oneS_swap0 (h : (framesOf xs).length ≤ 8064) (hy : (framesOf ys).length ≤ 8064) : ((oneS xs n).arm 0 []).actErr 0 ((framesOf ys).length : Int) = 0 ∧ ({ ((((oneS xs n).arm 0 []).swap 0 (framesOf ys)).crash []) with down := false } : DS) = oneS ys (n + 1) := by
  have hL : Live ((oneS xs n).arm 0 []) 0 (framesOf xs) (framesOf xs).length := ⟨by simp [oneS, DS.arm], rfl, rfl, by simp [oneS, DS.arm], by omega, Nat.le_refl _⟩
  obtain ⟨e1, e2⟩ := hL.swap (c := framesOf ys) (by omega)
  refine ⟨e1, ?_⟩
  rw [show ((oneS xs n).arm 0 []).swap 0 (framesOf ys) = _ from e2]
  simp [oneS, DS.arm, DS.pre, DS.crash, crashTo, crashLog, crashN]
/-- A swap at which the power goes. -/
theorem oneS_swap1 (hy : (framesOf ys).length ≤ 8064) : ((oneS xs n).arm 1 []).actErr 0 ((framesOf ys).length : Int) = 71 ∧ ({ ((((oneS xs n).arm 1 []).swap 0 (framesOf ys)).crash []) with down := false } : DS) = oneS xs n := by
  have hh : ((oneS xs n).arm 1 []).has 0 = true := by simp [DS.has, oneS, DS.arm]
  have he : ((oneS xs n).arm 1 []).actErr 0 ((framesOf ys).length : Int) = 71 := by
    unfold DS.actErr
    rw [if_pos hh, if_neg (by simp [oneS, DS.arm]), if_neg (by omega), if_pos (show ((oneS xs n).arm 1 []).armed = 1 from (by decide : (max 1 0 : Int) = 1))]
  refine ⟨he, ?_⟩
  unfold DS.swap DS.act
  rw [if_neg (by rw [he]; decide)]
  unfold DS.fail
  rw [if_pos ⟨hh, rfl, by omega, show (max 1 0 : Int) = 1 by decide⟩]
  simp [oneS, DS.arm, DS.crash, crashTo, crashLog, crashN]
end

/-- A row of byte slices. -/
structure LBytes (w : World) (base : Nat) (v : Value) (ls : List (List UInt8)) : Prop where
  row : ∃ vs, Row w base 22 1 v ls.length vs ∧ ∀ (i : Nat) (u : Value) (l : List UInt8), vs[i]? = some u → ls[i]? = some l → l.length ≤ 9223372036854775807 ∧ ∃ b c, u = .slice (some ⟨b, 0, none⟩) l.length c ∧ Bytes w b l
theorem LBytes.below {w w' : World} {base : Nat} {v : Value} {ls : List (List UInt8)} (h : LBytes w base v ls) (hb : Below w.heap.size w w') : LBytes w' base v ls := by
  obtain ⟨vs, hr, hf⟩ := h.row
  refine ⟨vs, hr.below hb, fun i u l h1 h2 => ?_⟩
  obtain ⟨hl, b, c, e, hB⟩ := hf i u l h1 h2
  exact ⟨hl, b, c, e, hB.kept (hb.block b hB.lt)⟩
theorem LBytes.cells {w : World} {base : Nat} {v : Value} {ls : List (List UInt8)} (h : LBytes w base v ls) : ∃ A c, v = .slice A ls.length c ∧ LCells w A ls := by
  obtain ⟨vs, hr, hf⟩ := h.row
  obtain ⟨A, c, rfl, _, hl, hc, _⟩ := hr.cells1
  refine ⟨A, c, rfl, ⟨fun k hk => ?_⟩⟩
  obtain ⟨ad, e, hcell⟩ := hc.get k vs[k] (by simp)
  obtain ⟨hsm, b, c2, e2, hB⟩ := hf k vs[k] ls[k] (by simp) (by simp)
  exact ⟨ad, _, c2, e, by rw [hcell, e2], hB.cells hsm⟩
theorem LBytes.push {w w4 : World} {base : Nat} {v v4 : Value} {ls : List (List UInt8)} {vs : List Value} {l : List UInt8} {b c : Nat} (hr : Row w base 22 1 v ls.length vs)
    (hf : ∀ (i : Nat) (u : Value) (l : List UInt8), vs[i]? = some u → ls[i]? = some l → l.length ≤ 9223372036854775807 ∧ ∃ b c, u = .slice (some ⟨b, 0, none⟩) l.length c ∧ Bytes w b l)
    (hl : l.length ≤ 9223372036854775807) (hB : Bytes w b l) (r4 : Row w4 base 22 1 v4 (ls.length + 1) (vs ++ (#[.slice (some ⟨b, 0, none⟩) l.length c] : Array Value).toList)) (g4 : w.grownBy w4 v.ownBlock) : LBytes w4 base v4 (ls ++ [l]) := by
  have hlen : vs.length = ls.length := by simpa using hr.1
  have kept : ∀ b l, Bytes w b l → Bytes w4 b l := fun b l hB => hB.kept (g4.block b hB.lt (fun e => by
    obtain ⟨cur, fr, h1⟩ := hr.typed b e.symm
    obtain ⟨cur2, fr2, h2, _⟩ := hB.holds
    rw [h1] at h2
    simp at h2))
  refine ⟨_, by rw [List.length_append]; exact r4, fun i u x h1 h2 => ?_⟩
  rcases Nat.lt_or_ge i ls.length with hi | hi
  · rw [List.getElem?_append_left (by omega)] at h1
    rw [List.getElem?_append_left hi] at h2
    obtain ⟨h3, b2, c2, e, h4⟩ := hf i u x h1 h2
    exact ⟨h3, b2, c2, e, kept _ _ h4⟩
  · rw [List.getElem?_append_right (by omega)] at h1
    rw [List.getElem?_append_right hi] at h2
    have h0 : i - ls.length = 0 := by
      have := (List.getElem?_eq_some_iff.1 h2).1
      simp at this; omega
    rw [hlen, h0] at h1
    rw [h0] at h2
    simp at h1 h2
    subst h1 h2
    exact ⟨hl, b, c, rfl, kept _ _ hB⟩

set_option maxHeartbeats 4000000 in
set_option maxRecDepth 100000 in
theorem lbytes_calls (A : Option Addr) (n c : Nat) (ls : List (List UInt8)) (w : World) (hn : n = ls.length) (hc : Cells w A (strs ls)) (hs : ∀ l ∈ ls, l.length ≤ 1000) (hl : ls.length ≤ 1000) :
    Calls Try.prog 61 #[.slice A n c] w fun e w' => ∃ A' c', e = .returned (.slice A' ls.length c') ∧ LCells w' A' ls ∧ Below w.heap.size w w' := by
  subst hn
  have HC := Lib.hid hc
  have HS := Lib.hid hs
  clear hc hs
  go_enter Try.func61, Try.ntmps61
  go_wp2
  go_loopw [3, 4] (fun v i wr => ∃ k : Nat, k ≤ ls.length ∧ i = .int .i64 k ∧ LBytes wr w.heap.size v (ls.take k) ∧ Below w.heap.size w wr) (fun _ i _ => ls.length - (intOf i).toNat)
  case atStart => exact ⟨0, Nat.zero_le _, rfl, ⟨[], row_new w _ 22 1 (Nat.le_refl _), fun i u l h => by simp at h⟩, (Below.refl _ _).alloc (Nat.le_refl _) _⟩
  case round =>
    obtain ⟨k, hk, rfl, hrow, hbel⟩ := hrel
    by_cases hlt : k < ls.length
    · obtain ⟨ad, rfl, hcell⟩ := (HC.out.below hbel).strAt k hlt
      obtain ⟨s, hss⟩ : ∃ s, s = ls[k] := ⟨_, rfl⟩
      rw [← hss] at hcell
      have hsl : s.length ≤ 1000 := by rw [hss]; exact HS.out _ (List.getElem_mem hlt)
      have HSS := Lib.hid hss
      clear hss
      have HR := Lib.hid hrow
      have HB := Lib.hid hbel
      clear hrow hbel
      go_wp2_with (with_reducible refine halt_dst 17 ?_)
      refine wpList_bytes rfl (.tmp 16) 9 22 rfl Try.underlying9 Try.underlying22 Try.underlying5 s rfl ?_
      intro c5 w5 hc5 by5 b5 sz5
      have B5 := HB.out.trans (b5.mono HB.out.size)
      obtain ⟨vs, hr, hf⟩ := (HR.out.below b5).row
      have hlk : (ls.take k).length = k := by simp; omega
      have HB5 := Lib.hid B5
      have HR5 := Lib.hid hr
      have HF5 := Lib.hid hf
      have HBY := Lib.hid by5
      clear b5 sz5 by5 hr hf HR HB B5 hcell
      go_wp2_with (with_reducible refine halt_dst 19 ?_)
      refine wpList_append_lit rfl (.tmp 12) (.tmp 18) 39 rfl w.heap.size 22 (.slice none 0 0) 1 24 Try.underlying39 Try.info22 rfl (by decide) u3 _ vs rfl HR5.out 1 1 #[.slice (some ⟨wr.heap.size, 0, none⟩) s.length c5] rfl rfl (fun u hu => by simp at hu; subst hu; rfl) (by simp only [maxLen]; omega) (by omega) HB5.out.size (by simp) ?_
      intro v6 w6 r6 g6 _
      have hL := LBytes.push HR5.out HF5.out (by omega) HBY.out r6 g6
      rw [HSS.out, ← List.take_succ_eq_append_getElem hlt] at hL
      have B6 := HB5.out.grown g6 HB5.out.size (fun j hj => (HR5.out.lt j hj).1)
      have HL := Lib.hid hL
      have HB6 := Lib.hid B6
      clear hL B6 r6 g6 HR5 HF5 HBY HB5 hlk
      go_wp2
      go_roundw
      case rel => exact ⟨k + 1, by omega, by go_num, HL.out, HB6.out⟩
      case measure => simp [intOf]; omega
    · obtain rfl : k = ls.length := by omega
      rw [List.take_length] at hrow
      obtain ⟨A', c', rfl, hL⟩ := hrow.cells
      have HL := Lib.hid hL
      have HB := Lib.hid hbel
      clear hrow hL hbel
      go_wp2
      go_ret
      exact ⟨_, _, rfl, HL.out, HB.out⟩
end Go.Proofs.Ytimjadjopemefaa
