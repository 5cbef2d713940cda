/- The walk of law11.does. -/
import Derived.Test.YtpacbbnnmopkjaaRc5
import Derived.Test.YtpacbbnnmopkjaaCh8
set_option linter.unusedVariables false
set_option linter.unusedSimpArgs false
namespace Go.Proofs.Ytpacbbnnmopkjaa
open Go.RowKit

theorem IsChain.upd' {w w' : World} {S S' : Nat → Prop} {g : Nat} {vs : List (Int × Int)} {m : Int} (h : IsChain w S g vs m) (hu : Upd S' w w') (hs : ∀ i, S i → ¬ S' i) : IsChain w' S g vs m := by
  obtain ⟨v, h1, h2, h3⟩ := h.at_
  exact ⟨⟨v, h1.upd hu (hs _ h.foot), h2.upd hu (fun k hk _ => hs _ (h3 k hk)), h3⟩, h.foot, h.small⟩

theorem two_sets {w5 : World} {a b : Nat} {T : TypeId} {x0 x1 : Value} (t6 : Blk w5 b T #[x0, x1]) (z0 z1 : Value) :
    Blk ((w5.setCell ⟨b, 0, none⟩ z0).setCell ⟨b, 1, none⟩ z1) b T #[z0, z1] ∧ Upd (fun i => i = a ∨ i = b) w5 ((w5.setCell ⟨b, 0, none⟩ z0).setCell ⟨b, 1, none⟩ z1) :=
  ⟨by simpa using (t6.set 0 z0).set 1 z1, ((Upd.refl _ _).set ⟨b, 0, none⟩ _ (fun _ => .inr rfl)).set ⟨b, 1, none⟩ _ (fun _ => .inr rfl)⟩
theorem four_sets {w5 : World} {a b : Nat} {T : TypeId} {x0 x1 : Value} (t6 : Blk w5 b T #[x0, x1]) (hne : b ≠ a) (y0 y1 z0 z1 : Value) :
    Blk ((((w5.setCell ⟨a, 0, none⟩ y0).setCell ⟨a, 1, none⟩ y1).setCell ⟨b, 0, none⟩ z0).setCell ⟨b, 1, none⟩ z1) b T #[z0, z1] ∧ Upd (fun i => i = a ∨ i = b) w5 ((((w5.setCell ⟨a, 0, none⟩ y0).setCell ⟨a, 1, none⟩ y1).setCell ⟨b, 0, none⟩ z0).setCell ⟨b, 1, none⟩ z1) := by
  have u : Upd (fun i => i = a ∨ i = b) w5 ((w5.setCell ⟨a, 0, none⟩ y0).setCell ⟨a, 1, none⟩ y1) := ((Upd.refl _ _).set ⟨a, 0, none⟩ _ (fun _ => .inl rfl)).set ⟨a, 1, none⟩ _ (fun _ => .inl rfl)
  have u1 : Upd (fun i => i = a) w5 ((w5.setCell ⟨a, 0, none⟩ y0).setCell ⟨a, 1, none⟩ y1) := ((Upd.refl (fun i => i = a) _).set ⟨a, 0, none⟩ _ (fun _ => rfl)).set ⟨a, 1, none⟩ _ (fun _ => rfl)
  obtain ⟨h1, h2⟩ := two_sets (a := a) (t6.upd u1 hne) z0 z1
  exact ⟨h1, u.trans h2 (fun _ _ h => h)⟩
/-- Where the pieces lie behind a call. -/
theorem does_end {w W w4 w5 W9 : World} {S : Nat → Prop} {g : Nat} {vs : List (Int × Int)} {m : Int} {A A' : Option Addr} {cs : List Value} (hF : W.heap.size = w.heap.size + 3 ∧ Below w.heap.size w W)
    (hout : ∀ ad, A = some ad → ¬ S ad.block ∧ ad.block < w.heap.size) (u4 : Upd (fun i => S i ∧ i < w.heap.size) W w4)
    (c4 : IsChain w4 (fun i => (S i ∧ i < w.heap.size ∨ W.heap.size ≤ i) ∧ i < w4.heap.size) g vs m) (b5 : Below w4.heap.size w4 w5) (hA : Cells w5 A' cs)
    (hwh : ∀ ad, A' = some ad → A = some ad ∨ w4.heap.size ≤ ad.block ∧ ad.block < w5.heap.size)
    (u9 : Upd (fun i => i = w.heap.size ∨ i = w.heap.size + 1 + 1) w5 W9) :
    Cells W9 A' cs ∧ IsChain W9 (fun i => (S i ∧ i < w.heap.size ∨ W.heap.size ≤ i) ∧ i < w4.heap.size) g vs m ∧
      (∀ i, ((S i ∧ i < w.heap.size ∨ W.heap.size ≤ i) ∧ i < w4.heap.size) → S i ∨ w.heap.size ≤ i) ∧
      (∀ ad, A' = some ad → (A = some ad ∨ w.heap.size ≤ ad.block) ∧ ¬ ((S ad.block ∧ ad.block < w.heap.size ∨ W.heap.size ≤ ad.block) ∧ ad.block < w4.heap.size) ∧ ad.block < W9.heap.size) ∧ Upd S w W9 := by
  obtain ⟨hs, b1⟩ := hF
  have s4 := u4.size
  have s5 := b5.size
  have s9 := u9.size
  refine ⟨hA.upd u9 (fun ad e _ h => ?_), (c4.below b5).upd' u9 (fun i hi h => ?_), fun i hi => ?_, fun ad e => ?_, ?_⟩
  · rcases hwh ad e with h2 | h2
    · have := (hout ad h2).2; omega
    · omega
  · have := hi.1; omega
  · rcases hi.1 with h | h
    · exact .inl h.1
    · right; omega
  · rcases hwh ad e with h2 | h2
    · have := hout ad h2
      refine ⟨.inl h2, fun h => ?_, by omega⟩
      rcases h.1 with h3 | h3
      · exact this.1 h3.1
      · omega
    · exact ⟨.inr (by omega), fun h => by have := h.2; omega, by omega⟩
  · have e1 : Upd S w W := Upd.of_below b1
    have e2 : Upd S w w4 := e1.trans u4 (fun i _ h => h.1)
    have e3 : Upd S w w5 := e2.trans (S' := S) (Upd.of_below b5) (fun _ _ h => h)
    exact e3.trans u9 (fun i hi h => by omega)

set_option maxHeartbeats 1000000 in
set_option maxRecDepth 100000 in
theorem does_calls (g : Nat) (S : Nat → Prop) (vs : List (Int × Int)) (m : Int) (o : Op3) (A : Option Addr) (c : Nat) (w : World) (h : IsChain w S g vs m) (hr : Rises vs) (hc : vs.length ≤ c) (hA : Cells w A (vcs vs)) (hout : ∀ ad, A = some ad → ¬ S ad.block ∧ ad.block < w.heap.size) :
    Calls Try.prog 16 #[.pointer (some ⟨g, 0, none⟩), .agg #[.slice A vs.length c, .int .i64 m], .agg #[.int .i64 o.kind, .int .i64 o.t, .int .i64 o.v]] w fun e w' => ∃ A' c' S', e = .returned (.tuple #[.agg #[.slice A' (stepOf (vs, m) o).1.length c', .int .i64 (stepOf (vs, m) o).2], .bool true]) ∧
      (stepOf (vs, m) o).1.length ≤ c' ∧ Cells w' A' (vcs (stepOf (vs, m) o).1) ∧ IsChain w' S' g (stepOf (vs, m) o).1 (stepOf (vs, m) o).2 ∧ (∀ i, S' i → S i ∨ w.heap.size ≤ i) ∧ (∀ ad, A' = some ad → (A = some ad ∨ w.heap.size ≤ ad.block) ∧ ¬ S' ad.block ∧ ad.block < w'.heap.size) ∧ Upd S w w' := by
  obtain ⟨kk, t, v⟩ := o
  have hsm := h.small
  obtain ⟨st, hst⟩ : ∃ st, st = stepOf (vs, m) ⟨kk, t, v⟩ := ⟨_, rfl⟩
  rw [← hst]
  have HST := Lib.hid hst
  have HR := Lib.hid hr
  have HOUT := Lib.hid hout
  clear hst hr hout
  obtain ⟨W, hW⟩ : ∃ W, W = ((w.alloc (.cells #[.slice A vs.length c, .int .i64 m] 27)).alloc (.cells #[.int .i64 kk, .int .i64 t, .int .i64 v] 32)).alloc (.cells #[.slice none 0 0, .int .i64 0] 27) := ⟨_, rfl⟩
  have b1 : Below w.heap.size w W := by rw [hW]; exact (((Below.refl _ _).alloc (Nat.le_refl _) _).alloc (by simp) _).alloc (by simp; omega) _
  have T4 : Blk W w.heap.size 27 #[.slice A vs.length c, .int .i64 m] := by
    rw [hW]; exact ((Blk.new w 27 _).below ((Below.refl _ _).alloc (Nat.le_refl _) _)).below ((Below.refl _ _).alloc (Nat.le_refl _) _)
  have T5 : Blk W (w.heap.size + 1) 32 #[.int .i64 kk, .int .i64 t, .int .i64 v] := by
    have := (Blk.new (w.alloc (.cells #[.slice A vs.length c, .int .i64 m] 27)) 32 #[.int .i64 kk, .int .i64 t, .int .i64 v]).below ((Below.refl _ _).alloc (Nat.le_refl _) (.cells #[.slice none 0 0, .int .i64 0] 27))
    rw [hW]; simpa using this
  have T6 : Blk W (w.heap.size + 1 + 1) 27 #[.slice none 0 0, .int .i64 0] := by
    have := Blk.new ((w.alloc (.cells #[.slice A vs.length c, .int .i64 m] 27)).alloc (.cells #[.int .i64 kk, .int .i64 t, .int .i64 v] 32)) 27 #[.slice none 0 0, .int .i64 0]
    rw [hW]; simpa using this
  have hWs : W.heap.size = w.heap.size + 3 := by rw [hW]; simp
  have hC := h.tight.below b1
  have hAW := hA.below b1
  have F := Lib.hid (And.intro hWs b1)
  have H0 := Lib.hid h.tight
  have HA0 := Lib.hid hA
  clear hWs b1 h hA
  have HC := Lib.hid hC
  have k0 : W.cell? ⟨w.heap.size + 1, 0, none⟩ = some (.int .i64 kk) := T5.cell 0 _ rfl
  have k1 : W.cell? ⟨w.heap.size + 1, 1, none⟩ = some (.int .i64 t) := T5.cell 1 _ rfl
  have k2 : W.cell? ⟨w.heap.size + 1, 2, none⟩ = some (.int .i64 v) := T5.cell 2 _ rfl
  go_enter Try.func16, Try.ntmps16
  by_cases hz : kk = 0
  · have hkb : (kk == 0) = true := by simpa using hz
    have hsp : stepOf (vs, m) ⟨kk, t, v⟩ = (putVer vs m t v, m) := by simp [stepOf, hz]
    have HSP := Lib.hid hsp
    clear hsp hz
    go_wp2_with fail
    rw [← hW]
    clear hW
    refine (put_calls g _ vs m t v W hC).mono ?_
    rintro e w4 ⟨rfl, c4, u4⟩
    have hWs := F.out.1
    have t4 := T4.upd u4 (fun e => by have := e.2; omega)
    have t5 := T5.upd u4 (fun e => by have := e.2; omega)
    have t6 := T6.upd u4 (fun e => by have := e.2; omega)
    have hA4 := hAW.upd u4 (fun ad e _ hs => (HOUT.out ad e).1 hs.1)
    have U4 := Lib.hid u4
    have C4 := Lib.hid c4.tight
    clear hC hAW T4 T5 T6 k0 k1 k2 hWs u4 c4
    have k0 : w4.cell? ⟨w.heap.size + 1, 0, none⟩ = some (.int .i64 kk) := t5.cell 0 _ rfl
    have k1 : w4.cell? ⟨w.heap.size + 1, 1, none⟩ = some (.int .i64 t) := t5.cell 1 _ rfl
    have k2 : w4.cell? ⟨w.heap.size + 1, 2, none⟩ = some (.int .i64 v) := t5.cell 2 _ rfl
    have k3 : w4.cell? ⟨w.heap.size, 0, none⟩ = some (.slice A vs.length c) := t4.cell 0 _ rfl
    have k4 : w4.cell? ⟨w.heap.size, 1, none⟩ = some (.int .i64 m) := t4.cell 1 _ rfl
    go_wp2_with fail
    refine (rput_calls A _ c vs m t v w4 rfl hc hA4 HR.out hsm).mono ?_
    rintro e w5 ⟨A', c', rfl, hcc, hA5, b5, hwh⟩
    have t4 := t4.below b5
    have t6 := t6.below b5
    have HA5 := Lib.hid hA5
    have HCC := Lib.hid hcc
    have HWH := Lib.hid hwh
    have B5 := Lib.hid b5
    clear k0 k1 k2 k3 k4 hA4 hA5 hwh hcc t5 b5 hc
    have k3 : w5.cell? ⟨w.heap.size, 0, none⟩ = some (.slice A vs.length c) := t4.cell 0 _ rfl
    have k4 : w5.cell? ⟨w.heap.size, 1, none⟩ = some (.int .i64 m) := t4.cell 1 _ rfl
    have k5 : w5.cell? ⟨w.heap.size + 1 + 1, 0, none⟩ = some (.slice none 0 0) := t6.cell 0 _ rfl
    have k6 : w5.cell? ⟨w.heap.size + 1 + 1, 1, none⟩ = some (.int .i64 0) := t6.cell 1 _ rfl
    have f0 := t4.free 0 none
    have f1 := t4.free 1 none
    have f2 := t6.free 0 none
    have f3 := t6.free 1 none
    go_wp2_with fail
    try simp only [Exit.inBlock, Exit.then]
    obtain ⟨t9, u9⟩ := four_sets t6 (by omega : w.heap.size + 1 + 1 ≠ w.heap.size) (.slice A' (putVer vs m t v).length c') (.int .i64 m) (.slice A' (putVer vs m t v).length c') (.int .i64 m)
    refine bodyPost_ret (results_two rfl rfl (t9.cell 0 _ rfl) (t9.cell 1 _ rfl)) rfl ?_
    have hst := HST.out.trans HSP.out
    subst hst
    exact ⟨A', c', _, rfl, HCC.out, does_end F.out HOUT.out U4.out C4.out B5.out HA5.out HWH.out u9⟩
  · have hk0 : (kk == 0) = false := by simpa using hz
    by_cases hz1 : kk = 1
    · have hkb : (kk == 1) = true := by simpa using hz1
      have hsp : stepOf (vs, m) ⟨kk, t, v⟩ = (vs, m) := by simp [stepOf, hz1]
      have HSP := Lib.hid hsp
      clear hsp hz hz1
      go_wp2_with fail
      rw [← hW]
      clear hW
      refine (get_calls g _ vs m t W hC HR.out).mono ?_
      rintro e w4 ⟨rfl, b4⟩
      rw [show vagg (getVer vs m t) = .agg #[.int .i64 (getVer vs m t).1, .int .i64 (getVer vs m t).2] from rfl]
      have b4' : Below W.heap.size W (w4.alloc (.cells #[.int .i64 (getVer vs m t).1, .int .i64 (getVer vs m t).2] 34)) := b4.alloc b4.size _
      have T10 : Blk (w4.alloc (.cells #[.int .i64 (getVer vs m t).1, .int .i64 (getVer vs m t).2] 34)) w4.heap.size 34 #[.int .i64 (getVer vs m t).1, .int .i64 (getVer vs m t).2] := Blk.new _ _ _
      have HT10 := Lib.hid T10
      have C4 := hC.below b4'
      have t4 := T4.below b4'
      have t5 := T5.below b4'
      have t6 := T6.below b4'
      have hA4 := hAW.below b4'
      have k1 : (w4.alloc (.cells #[.int .i64 (getVer vs m t).1, .int .i64 (getVer vs m t).2] 34)).cell? ⟨w.heap.size + 1, 1, none⟩ = some (.int .i64 t) := t5.cell 1 _ rfl
      have k3 : (w4.alloc (.cells #[.int .i64 (getVer vs m t).1, .int .i64 (getVer vs m t).2] 34)).cell? ⟨w.heap.size, 0, none⟩ = some (.slice A vs.length c) := t4.cell 0 _ rfl
      have k4 : (w4.alloc (.cells #[.int .i64 (getVer vs m t).1, .int .i64 (getVer vs m t).2] 34)).cell? ⟨w.heap.size, 1, none⟩ = some (.int .i64 m) := t4.cell 1 _ rfl
      have B4 := Lib.hid b4'
      have B44 := Lib.hid b4
      have HC4 := Lib.hid C4
      clear hC hAW T4 T5 T6 k0 k2 b4 b4' T10 C4
      go_wp2_with fail
      refine (rget_calls A _ c vs m t _ rfl hA4 HR.out hsm).mono ?_
      rintro e w5 ⟨rfl, b5⟩
      rw [show vagg (getVer vs m t) = .agg #[.int .i64 (getVer vs m t).1, .int .i64 (getVer vs m t).2] from rfl]
      have b5' : Below (w4.alloc (.cells #[.int .i64 (getVer vs m t).1, .int .i64 (getVer vs m t).2] 34)).heap.size (w4.alloc (.cells #[.int .i64 (getVer vs m t).1, .int .i64 (getVer vs m t).2] 34)) (w5.alloc (.cells #[.int .i64 (getVer vs m t).1, .int .i64 (getVer vs m t).2] 34)) := b5.alloc b5.size _
      have T12 : Blk (w5.alloc (.cells #[.int .i64 (getVer vs m t).1, .int .i64 (getVer vs m t).2] 34)) w5.heap.size 34 #[.int .i64 (getVer vs m t).1, .int .i64 (getVer vs m t).2] := Blk.new _ _ _
      have T10 := HT10.out.below b5'
      have t4 := t4.below b5'
      have t6 := t6.below b5'
      have hA5 := hA4.below b5'
      have x0 : (w5.alloc (.cells #[.int .i64 (getVer vs m t).1, .int .i64 (getVer vs m t).2] 34)).cell? ⟨w4.heap.size, 0, none⟩ = some (.int .i64 (getVer vs m t).1) := T10.cell 0 _ rfl
      have x1 : (w5.alloc (.cells #[.int .i64 (getVer vs m t).1, .int .i64 (getVer vs m t).2] 34)).cell? ⟨w4.heap.size, 1, none⟩ = some (.int .i64 (getVer vs m t).2) := T10.cell 1 _ rfl
      have y0 : (w5.alloc (.cells #[.int .i64 (getVer vs m t).1, .int .i64 (getVer vs m t).2] 34)).cell? ⟨w5.heap.size, 0, none⟩ = some (.int .i64 (getVer vs m t).1) := T12.cell 0 _ rfl
      have y1 : (w5.alloc (.cells #[.int .i64 (getVer vs m t).1, .int .i64 (getVer vs m t).2] 34)).cell? ⟨w5.heap.size, 1, none⟩ = some (.int .i64 (getVer vs m t).2) := T12.cell 1 _ rfl
      have k3 : (w5.alloc (.cells #[.int .i64 (getVer vs m t).1, .int .i64 (getVer vs m t).2] 34)).cell? ⟨w.heap.size, 0, none⟩ = some (.slice A vs.length c) := t4.cell 0 _ rfl
      have k4 : (w5.alloc (.cells #[.int .i64 (getVer vs m t).1, .int .i64 (getVer vs m t).2] 34)).cell? ⟨w.heap.size, 1, none⟩ = some (.int .i64 m) := t4.cell 1 _ rfl
      have k5 : (w5.alloc (.cells #[.int .i64 (getVer vs m t).1, .int .i64 (getVer vs m t).2] 34)).cell? ⟨w.heap.size + 1 + 1, 0, none⟩ = some (.slice none 0 0) := t6.cell 0 _ rfl
      have k6 : (w5.alloc (.cells #[.int .i64 (getVer vs m t).1, .int .i64 (getVer vs m t).2] 34)).cell? ⟨w.heap.size + 1 + 1, 1, none⟩ = some (.int .i64 0) := t6.cell 1 _ rfl
      have f2 := t6.free 0 none
      have f3 := t6.free 1 none
      have B5 := Lib.hid b5'
      clear b5 b5' T10 T12 hA4 HT10
      go_wp2_with fail
      try simp only [Exit.inBlock, Exit.then]
      obtain ⟨t9, u9⟩ := two_sets (a := w.heap.size) t6 (.slice A vs.length c) (.int .i64 m)
      refine bodyPost_ret (results_two rfl rfl (t9.cell 0 _ rfl) (t9.cell 1 _ rfl)) rfl ?_
      have hst := HST.out.trans HSP.out
      subst hst
      exact ⟨A, c, _, rfl, hc, does_end F.out HOUT.out (Upd.refl _ _) (HC.out.mono (fun i hi => ⟨.inl hi, by have := F.out.1; have := hi.2; omega⟩)) (B4.out.trans (B5.out.mono (by have := B44.out.size; simp; omega))) hA5 (fun ad e => .inl e) u9⟩
    · have hk1 : (kk == 1) = false := by simpa using hz1
      by_cases hz2 : kk = 2
      · have hkb : (kk == 2) = true := by simpa using hz2
        have hsp : stepOf (vs, m) ⟨kk, t, v⟩ = (pruneVer vs m t, pruneMark m t) := by simp [stepOf, hz2]
        have HSP := Lib.hid hsp
        clear hsp hz hz1 hz2
        go_wp2_with fail
        rw [← hW]
        clear hW
        refine (prune_calls g _ vs m t W hC HR.out).mono ?_
        rintro e w4 ⟨rfl, c4, u4⟩
        have hWs := F.out.1
        have t4 := T4.upd u4 (fun e => by have := e.2; omega)
        have t5 := T5.upd u4 (fun e => by have := e.2; omega)
        have t6 := T6.upd u4 (fun e => by have := e.2; omega)
        have hA4 := hAW.upd u4 (fun ad e _ hs => (HOUT.out ad e).1 hs.1)
        have U4 := Lib.hid u4
        have C4 := Lib.hid c4.tight
        clear hC hAW T4 T5 T6 k0 k1 k2 hWs u4 c4
        have k0 : w4.cell? ⟨w.heap.size + 1, 0, none⟩ = some (.int .i64 kk) := t5.cell 0 _ rfl
        have k1 : w4.cell? ⟨w.heap.size + 1, 1, none⟩ = some (.int .i64 t) := t5.cell 1 _ rfl
        have k3 : w4.cell? ⟨w.heap.size, 0, none⟩ = some (.slice A vs.length c) := t4.cell 0 _ rfl
        have k4 : w4.cell? ⟨w.heap.size, 1, none⟩ = some (.int .i64 m) := t4.cell 1 _ rfl
        go_wp2_with fail
        refine (rprune_calls A _ c vs m t w4 rfl hc hA4 HR.out hsm).mono ?_
        rintro e w5 ⟨A', c', rfl, hcc, hA5, b5, hwh⟩
        have t4 := t4.below b5
        have t6 := t6.below b5
        have HA5 := Lib.hid hA5
        have HCC := Lib.hid hcc
        have HWH := Lib.hid hwh
        have B5 := Lib.hid b5
        clear k0 k1 k3 k4 hA4 hA5 hwh hcc t5 b5 hc
        have k3 : w5.cell? ⟨w.heap.size, 0, none⟩ = some (.slice A vs.length c) := t4.cell 0 _ rfl
        have k4 : w5.cell? ⟨w.heap.size, 1, none⟩ = some (.int .i64 m) := t4.cell 1 _ rfl
        have k5 : w5.cell? ⟨w.heap.size + 1 + 1, 0, none⟩ = some (.slice none 0 0) := t6.cell 0 _ rfl
        have k6 : w5.cell? ⟨w.heap.size + 1 + 1, 1, none⟩ = some (.int .i64 0) := t6.cell 1 _ rfl
        have f0 := t4.free 0 none
        have f1 := t4.free 1 none
        have f2 := t6.free 0 none
        have f3 := t6.free 1 none
        go_wp2_with fail
        try simp only [Exit.inBlock, Exit.then]
        obtain ⟨t9, u9⟩ := four_sets t6 (by omega : w.heap.size + 1 + 1 ≠ w.heap.size) (.slice A' (pruneVer vs m t).length c') (.int .i64 (pruneMark m t)) (.slice A' (pruneVer vs m t).length c') (.int .i64 (pruneMark m t))
        refine bodyPost_ret (results_two rfl rfl (t9.cell 0 _ rfl) (t9.cell 1 _ rfl)) rfl ?_
        have hst := HST.out.trans HSP.out
        subst hst
        exact ⟨A', c', _, rfl, HCC.out, does_end F.out HOUT.out U4.out C4.out B5.out HA5.out HWH.out u9⟩
      · have hk2 : (kk == 2) = false := by simpa using hz2
        have hsp : stepOf (vs, m) ⟨kk, t, v⟩ = (vs, m) := by simp [stepOf, hz, hz2]
        have HSP := Lib.hid hsp
        clear hsp hz hz1 hz2 hC hAW T4 T5 T6 k0 k1 k2 F HC hW
        clear W
        go_wp2_with fail
        try simp only [Exit.inBlock, Exit.then]
        have t9 := Blk.new ((w.alloc (.cells #[.slice A vs.length c, .int .i64 m] 27)).alloc (.cells #[.int .i64 kk, .int .i64 t, .int .i64 v] 32)) 27 #[.slice A vs.length c, .int .i64 m]
        simp only [World.size_alloc] at t9
        have b9 : Below w.heap.size w (((w.alloc (.cells #[.slice A vs.length c, .int .i64 m] 27)).alloc (.cells #[.int .i64 kk, .int .i64 t, .int .i64 v] 32)).alloc (.cells #[.slice A vs.length c, .int .i64 m] 27)) := (((Below.refl _ _).alloc (Nat.le_refl _) _).alloc (by simp) _).alloc (by simp; omega) _
        refine bodyPost_ret (results_two rfl rfl (t9.cell 0 _ rfl) (t9.cell 1 _ rfl)) rfl ?_
        have hst := HST.out.trans HSP.out
        subst hst
        exact ⟨A, c, _, rfl, hc, HA0.out.below b9, H0.out.below b9, fun i hi => .inl hi.1, fun ad e => ⟨.inl e, fun h => (HOUT.out ad e).1 h.1, by have := (HOUT.out ad e).2; have := b9.size; omega⟩, Upd.of_below b9⟩
end Go.Proofs.Ytpacbbnnmopkjaa
