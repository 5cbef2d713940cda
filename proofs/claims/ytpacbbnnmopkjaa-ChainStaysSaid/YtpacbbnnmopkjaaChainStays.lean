/- ChainStays: the walk of the law. -/
import Derived.Test.YtpacbbnnmopkjaaCh8
import Derived.Test.YtpacbbnnmopkjaaChP
set_option linter.unusedVariables false
set_option linter.unusedSimpArgs false
namespace Go.Proofs.Ytpacbbnnmopkjaa
open Go.RowKit

theorem ocs_length (l : List Op3) : (ocs l).length = l.length * 3 := by
  induction l with
  | nil => rfl
  | cons o l ih => rw [ocs_cons]; simp [ih]; omega

set_option maxHeartbeats 1000000 in
set_option maxRecDepth 100000 in
theorem chainStays_walk (A0 : Option Addr) (n0 c0 : Nat) (ls : List Op3) (A1 : Option Addr) (n1 c1 : Nat) (ks : List Op3) (at_ : Int) (w : World) (w0 : n0 = ls.length ∧ Cells w A0 (ocs ls)) (w1 : n1 = ks.length ∧ Cells w A1 (ocs ks)) (wa : (Lit.int .i64 at_).wf = true) :
    Calls Try.prog 4 #[.slice A0 n0 c0, .slice A1 n1 c1, .int .i64 at_] w fun e w' => e = .returned (.bool true) ∧ Below w.heap.size w w' := by
  obtain ⟨rfl, hc⟩ := w0
  obtain ⟨rfl, hk⟩ := w1
  have hkl : ks.length ≤ 9223372036854775807 := by have := hk.small; rw [ocs_length] at this; omega
  have HK := Lib.hid (fun j (hj : j < ks.length) => hk.op j hj)
  clear hk
  obtain ⟨st, hst⟩ : ∃ st, st = madeOf ls := ⟨_, rfl⟩
  go_enter Try.func4, Try.ntmps4
  go_wp2_with fail
  refine (made_calls A0 _ c0 ls w rfl hc).mono ?_
  rintro e w1 ⟨rfl, h1, hr, B1⟩
  rw [← hst] at h1 hr
  clear hc hst
  obtain ⟨vs, m⟩ := st
  simp only at h1 hr
  go_wp2_with fail
  refine (awake_calls w1).mono ?_
  rintro e w2 ⟨rfl, b2⟩
  have h2 := h1.below b2
  have B2 := B1.trans (b2.mono B1.size)
  clear h1 b2 B1
  go_wp2_with fail
  refine (get_calls _ _ vs m at_ w2 h2 hr).mono ?_
  rintro e w3 ⟨rfl, b3⟩
  obtain ⟨x0, hx0⟩ : ∃ x, x = getVer vs m at_ := ⟨_, rfl⟩
  obtain ⟨e0, he0⟩ : ∃ x, x = getErr vs m at_ := ⟨_, rfl⟩
  rw [← hx0, ← he0, show vagg x0 = .agg #[.int .i64 x0.1, .int .i64 x0.2] from rfl]
  have h3 := (h2.below b3).tight
  have B3 := B2.trans (b3.mono B2.size)
  have X4 := Blk.new w3 34 #[.int .i64 x0.1, .int .i64 x0.2]
  have h4 := h3.below (Below.alloc (Below.refl _ _) (Nat.le_refl _) (.cells #[.int .i64 x0.1, .int .i64 x0.2] 34))
  have B4 := B3.alloc B3.size (.cells #[.int .i64 x0.1, .int .i64 x0.2] 34)
  obtain ⟨S, hS⟩ : ∃ S : Nat → Prop, S = fun i => (w.heap.size ≤ i ∧ i < w3.heap.size) ∨ w3.heap.size + 1 ≤ i := ⟨_, rfl⟩
  have hSx : ¬ S w3.heap.size := by rw [hS]; intro e; omega
  have hSw : ∀ i, i < w.heap.size → ¬ S i := by rw [hS]; intro i hi e; have := B3.size; omega
  have hSn : ∀ i, w3.heap.size + 1 ≤ i → S i := by rw [hS]; intro i hi; exact .inr hi
  have h5 : IsChain (w3.alloc (.cells #[.int .i64 x0.1, .int .i64 x0.2] 34)) S w.heap.size vs m := h4.mono (fun i hi => by rw [hS]; exact .inl hi)
  have hsz4 : w3.heap.size + 1 ≤ (w3.alloc (.cells #[.int .i64 x0.1, .int .i64 x0.2] 34)).heap.size := by simp
  have HX0 := Lib.hid hx0
  have HE0 := Lib.hid he0
  clear h2 b3 B2 h3 B3 h4 hS hx0 he0
  go_wp2
  go_loopw [10, 11] (fun i _ wr => ∃ k : Nat, k ≤ ks.length ∧ k ≤ 40 ∧ i = .int .i64 k ∧ ∃ vs' m', IsChain wr S w.heap.size vs' m' ∧ Rises vs' ∧ getErr vs' m' at_ = e0 ∧ getVer vs' m' at_ = x0 ∧ Blk wr w3.heap.size 34 #[.int .i64 x0.1, .int .i64 x0.2] ∧ Below w.heap.size w wr ∧ w3.heap.size + 1 ≤ wr.heap.size) (fun i _ _ => 40 - (intOf i).toNat)
  case atStart => exact ⟨0, Nat.zero_le _, by omega, rfl, vs, m, h5, hr, HE0.out.symm, HX0.out.symm, X4, B4, hsz4⟩
  case round =>
    obtain ⟨k, hk1, hk40, rfl, vs', m', hch, hri, hge, hgv, hX, hbl, hsz⟩ := hrel
    clear h5 X4 B4 hsz4
    have HGE := Lib.hid hge
    have HGV := Lib.hid hgv
    clear hge hgv
    by_cases hlt : k < ks.length
    · by_cases h40 : k < 40
      · obtain ⟨ad, rfl, o0, o1, o2⟩ := HK.out k hlt
        obtain ⟨o, ho⟩ : ∃ o, o = ks[k] := ⟨_, rfl⟩
        rw [← ho] at o0 o1 o2
        have p0 := (hbl.cell (World.block_lt_of_cell? w _ o0)).trans o0
        have p1 := (hbl.cell (World.block_lt_of_cell? w _ o1)).trans o1
        have p2 := (hbl.cell (World.block_lt_of_cell? w _ o2)).trans o2
        obtain ⟨kk, t, v⟩ := o
        simp only at p0 p1 p2
        have bo : Below wr.heap.size wr (wr.alloc (.cells #[.int .i64 kk, .int .i64 t, .int .i64 v] 32)) := (Below.refl _ _).alloc (Nat.le_refl _) _
        have HCH2 := Lib.hid (hch.below bo)
        have HX2 := Lib.hid (hX.below bo)
        have HB2 := Lib.hid (hbl.alloc hbl.size (.cells #[.int .i64 kk, .int .i64 t, .int .i64 v] 32))
        have hsz2 : w3.heap.size + 1 ≤ (wr.alloc (.cells #[.int .i64 kk, .int .i64 t, .int .i64 v] 32)).heap.size := by simp; omega
        clear o0 o1 o2 ho hch hX bo
        by_cases hz : kk = 0
        · have hkb : (kk == 0) = true := by simpa using hz
          have hkb2 : (kk == 2) = false := by rw [hz]; rfl
          clear hz
          by_cases ht : at_ < t
          · have hd : decide (at_ < t) = true := by simpa using ht
            go_wp2_with fail
            refine (put_calls _ _ vs' m' t v _ HCH2.out).mono ?_
            rintro e w5 ⟨rfl, hc5, u5⟩
            have hc6 : IsChain w5 S w.heap.size (putVer vs' m' t v) m' := hc5.mono (fun i hi => by
              rcases hi with hi | hi
              · exact hi
              · exact hSn i (by omega))
            have X5 := HX2.out.upd u5 hSx
            have B5 : Below w.heap.size w w5 := HB2.out.trans (u5.below HB2.out.size hSw)
            have s5 : w3.heap.size + 1 ≤ w5.heap.size := by have := u5.size; omega
            have HC6 := Lib.hid hc6
            have HX5 := Lib.hid X5
            have HB5 := Lib.hid B5
            clear hc5 u5 hc6 X5 B5
            go_wp2
            go_roundw
            case rel =>
              obtain ⟨q1, q2⟩ := put_stays vs' m' t v at_ ht
              exact ⟨k + 1, by omega, by omega, by go_num, _, _, HC6.out, put_rises hri, q1.trans HGE.out, q2.trans HGV.out, HX5.out, HB5.out, s5⟩
            case measure => simp [intOf]; omega
          · have hd : decide (at_ < t) = false := by simpa using ht
            go_wp2
            go_roundw
            case rel => exact ⟨k + 1, by omega, by omega, by go_num, vs', m', HCH2.out, hri, HGE.out, HGV.out, HX2.out, HB2.out, by have := hsz2; omega⟩
            case measure => simp [intOf]; omega
        · have hkb : (kk == 0) = false := by simpa using hz
          by_cases hz2 : kk = 2
          · have hkb2 : (kk == 2) = true := by simpa using hz2
            clear hz hz2
            by_cases ht : t ≤ at_
            · have hd : decide (t ≤ at_) = true := by simpa using ht
              go_wp2_with fail
              refine (prune_calls _ _ vs' m' t _ HCH2.out hri).mono ?_
              rintro e w5 ⟨rfl, hc5, u5⟩
              have hc6 : IsChain w5 S w.heap.size (pruneVer vs' m' t) (pruneMark m' t) := hc5.mono (fun i hi => by
                rcases hi with hi | hi
                · exact hi
                · exact hSn i (by omega))
              have X5 := HX2.out.upd u5 hSx
              have B5 : Below w.heap.size w w5 := HB2.out.trans (u5.below HB2.out.size hSw)
              have s5 : w3.heap.size + 1 ≤ w5.heap.size := by have := u5.size; omega
              have HC6 := Lib.hid hc6
              have HX5 := Lib.hid X5
              have HB5 := Lib.hid B5
              clear hc5 u5 hc6 X5 B5
              go_wp2
              go_roundw
              case rel =>
                obtain ⟨q1, q2⟩ := prune_stays vs' m' t at_ hri ht
                exact ⟨k + 1, by omega, by omega, by go_num, _, _, HC6.out, prune_rises hri, q1.trans HGE.out, q2.trans HGV.out, HX5.out, HB5.out, s5⟩
              case measure => simp [intOf]; omega
            · have hd : decide (t ≤ at_) = false := by simpa using ht
              go_wp2
              go_roundw
              case rel => exact ⟨k + 1, by omega, by omega, by go_num, vs', m', HCH2.out, hri, HGE.out, HGV.out, HX2.out, HB2.out, by have := hsz2; omega⟩
              case measure => simp [intOf]; omega
          · have hkb2 : (kk == 2) = false := by simpa using hz2
            clear hz hz2
            go_wp2
            go_roundw
            case rel => exact ⟨k + 1, by omega, by omega, by go_num, vs', m', HCH2.out, hri, HGE.out, HGV.out, HX2.out, HB2.out, by have := hsz2; omega⟩
            case measure => simp [intOf]; omega
      · obtain rfl : k = 40 := by omega
        clear HK
        have HCH := Lib.hid hch
        have HX := Lib.hid hX
        have HBL := Lib.hid hbl
        clear hch hX hbl
        go_wp2_with fail
        refine (get_calls _ _ vs' m' at_ wr HCH.out hri).mono ?_
        rintro e w9 ⟨rfl, b9⟩
        rw [HGE.out, HGV.out, show vagg x0 = .agg #[.int .i64 x0.1, .int .i64 x0.2] from rfl]
        have b9' := b9.alloc b9.size (.cells #[.int .i64 x0.1, .int .i64 x0.2] 34)
        have X9 := HX.out.below b9'
        have B9 := HBL.out.trans (b9'.mono HBL.out.size)
        have Y9 := Blk.new w9 34 #[.int .i64 x0.1, .int .i64 x0.2]
        have c0 : (w9.alloc (.cells #[.int .i64 x0.1, .int .i64 x0.2] 34)).cell? ⟨w3.heap.size, 0, none⟩ = some (.int .i64 x0.1) := X9.cell 0 _ rfl
        have c1 : (w9.alloc (.cells #[.int .i64 x0.1, .int .i64 x0.2] 34)).cell? ⟨w3.heap.size, 1, none⟩ = some (.int .i64 x0.2) := X9.cell 1 _ rfl
        have he : (e0 == e0) = true := by simp
        clear b9 b9'
        go_wp2
        go_ret
        exact ⟨rfl, B9⟩
    · obtain rfl : k = ks.length := by omega
      clear HK
      have HCH := Lib.hid hch
      have HX := Lib.hid hX
      have HBL := Lib.hid hbl
      clear hch hX hbl
      go_wp2_with fail
      refine (get_calls _ _ vs' m' at_ wr HCH.out hri).mono ?_
      rintro e w9 ⟨rfl, b9⟩
      rw [HGE.out, HGV.out, show vagg x0 = .agg #[.int .i64 x0.1, .int .i64 x0.2] from rfl]
      have b9' := b9.alloc b9.size (.cells #[.int .i64 x0.1, .int .i64 x0.2] 34)
      have X9 := HX.out.below b9'
      have B9 := HBL.out.trans (b9'.mono HBL.out.size)
      have Y9 := Blk.new w9 34 #[.int .i64 x0.1, .int .i64 x0.2]
      have c0 : (w9.alloc (.cells #[.int .i64 x0.1, .int .i64 x0.2] 34)).cell? ⟨w3.heap.size, 0, none⟩ = some (.int .i64 x0.1) := X9.cell 0 _ rfl
      have c1 : (w9.alloc (.cells #[.int .i64 x0.1, .int .i64 x0.2] 34)).cell? ⟨w3.heap.size, 1, none⟩ = some (.int .i64 x0.2) := X9.cell 1 _ rfl
      have he : (e0 == e0) = true := by simp
      clear b9 b9'
      go_wp2
      go_ret
      exact ⟨rfl, B9⟩
end Go.Proofs.Ytpacbbnnmopkjaa
