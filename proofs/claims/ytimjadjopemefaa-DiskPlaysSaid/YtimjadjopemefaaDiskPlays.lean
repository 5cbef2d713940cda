/- DiskPlays: the walk of the law. -/
import Derived.Test.YtimjadjopemefaaRdc
import Derived.Test.YtimjadjopemefaaRdd
import Derived.Test.YtimjadjopemefaaOpe
set_option linter.unusedVariables false
set_option linter.unusedSimpArgs false
namespace Go.Proofs.Ytimjadjopemefaa
open Go.RowKit

theorem stepP_len (D : DS) (kd lg n : Int) (s : List UInt8) (ks : List Int) : (stepP D kd lg n s ks).logs.length = D.logs.length := by
  unfold stepP
  repeat' split
  all_goals first | exact act_len _ _ _ _ | exact crash_len _ _ | rfl
theorem stepP_keep (D : DS) (kd lg n : Int) (s : List UInt8) (ks : List Int) (h : ks.length ≤ 20) (h2 : D.keep.length ≤ 20) : (stepP D kd lg n s ks).keep.length ≤ 20 := by
  unfold stepP
  repeat' split
  all_goals first | exact (act_keep _ _ _ _).symm ▸ h2 | exact (crash_keep _ _).symm ▸ h2 | exact h | exact h2
theorem stepP_acts (D : DS) (kd lg n : Int) (s : List UInt8) (ks : List Int) : (stepP D kd lg n s ks).acts ≤ D.acts + 1 := by
  unfold stepP
  repeat' split
  all_goals first | exact act_acts _ _ _ _ | (unfold DS.crash; split <;> simp) | (simp [DS.arm])

/-- A disk and the reference's, the latter in a box of its own. -/
structure PL (w wr : World) (b7 j : Nat) (S : Nat → Prop) (g : Nat) (D : DS) (A : Option Addr) (c : Nat) (B : Option Addr) (d : Nat) : Prop where
  pd : PD w wr S g D A B
  box : Blk wr b7 70 #[.slice A D.logs.length c, .int .i64 (D.acts : Int), .bool D.down, .int .i64 D.armed, .slice B D.keep.length d]
  out : ¬ S b7 ∧ w.heap.size ≤ b7
  na : ∀ ad, A = some ad → lgs D.logs ≠ [] → ad.block ≠ b7
  nb : ∀ ad, B = some ad → ints D.keep ≠ [] → ad.block ≠ b7
  few : D.logs.length ≤ 16 ∧ D.keep.length ≤ 20 ∧ D.acts ≤ j
section
variable {w wr w1 w2 : World} {b7 j : Nat} {S S' : Nat → Prop} {g : Nat} {D D' : DS} {A : Option Addr} {c : Nat} {B : Option Addr} {d : Nat} {A' : Option Addr} {c' : Nat} {B' : Option Addr} {d' : Nat}
theorem PL.later (h : PL w wr b7 j S g D A c B d) (hb : Below wr.heap.size wr w1) : PL w w1 b7 j S g D A c B d := ⟨h.pd.later hb, h.box.below hb, h.out, h.na, h.nb, h.few⟩
theorem PL.step (h : PL w w1 b7 j S g D A c B d) (hp : PD w w2 S' g D' A' B') (hg : Grew S S' w1 w2) (pa : ∀ ad, A' = some ad → lgs D'.logs ≠ [] → (A = some ad ∧ lgs D.logs ≠ []) ∨ w1.heap.size ≤ ad.block) (pb : ∀ ad, B' = some ad → ints D'.keep ≠ [] → (B = some ad ∧ ints D.keep ≠ []) ∨ w1.heap.size ≤ ad.block)
    (hl : D'.logs.length = D.logs.length) (hk : D'.keep.length ≤ 20) (ha : D'.acts ≤ D.acts + 1) :
    PL w (((((w2.setCell ⟨b7, 0, none⟩ (.slice A' D'.logs.length c')).setCell ⟨b7, 1, none⟩ (.int .i64 (D'.acts : Int))).setCell ⟨b7, 2, none⟩ (.bool D'.down)).setCell ⟨b7, 3, none⟩ (.int .i64 D'.armed)).setCell ⟨b7, 4, none⟩ (.slice B' D'.keep.length d')) b7 (j + 1) S' g D' A' c' B' d' := by
  have hlt := h.box.lt
  obtain ⟨h1, h2⟩ := five_sets (h.box.upd hg.upd h.out.1) (.slice A' D'.logs.length c') (.int .i64 (D'.acts : Int)) (.bool D'.down) (.int .i64 D'.armed) (.slice B' D'.keep.length d')
  have h3 : ¬ S' b7 := fun hs => (hg.new _ hs).elim h.out.1 (fun h => by omega)
  have h4 : ∀ ad, A' = some ad → lgs D'.logs ≠ [] → ad.block ≠ b7 := fun ad e hne => (pa ad e hne).elim (fun x => h.na ad x.1 x.2) (fun x => by omega)
  have h5 : ∀ ad, B' = some ad → ints D'.keep ≠ [] → ad.block ≠ b7 := fun ad e hne => (pb ad e hne).elim (fun x => h.nb ad x.1 x.2) (fun x => by omega)
  obtain ⟨f1, f2, f3⟩ := h.few
  exact ⟨hp.upd h2 (fun i hi => by subst hi; exact h.out.2) (fun i hi => by subst hi; exact h3) h4 h5, h1, ⟨h3, h.out.2⟩, h4, h5, by omega, hk, by omega⟩
end

set_option maxHeartbeats 8000000 in
set_option maxRecDepth 100000 in
theorem diskPlays_walk (n : Int) (A0 : Option Addr) (n0 c0 : Nat) (l : List Act5) (w : World) (w0 : (Lit.int .i64 n).wf = true) (w1 : n0 = l.length ∧ Cells w A0 (acs l) ∧ ∀ x ∈ l, GoodAct2 w x) :
    Calls Try.prog 12 #[.int .i64 n, .slice A0 n0 c0] w fun e w' => e = .returned (.bool true) ∧ Below w.heap.size w w' := by
  obtain ⟨rfl, hc, hg⟩ := w1
  have hlen : l.length ≤ 9223372036854775807 := by have := hc.small; rw [acs_length] at this; omega
  have HC := Lib.hid (fun k (hk : k < l.length) => hc.act k hk)
  have HG := Lib.hid (fun k (hk : k < l.length) => hg l[k] (List.getElem_mem hk))
  clear hc hg w0
  have z5 : Try.prog.info? 70 = Try.prog.info? 70 := rfl
  clear z5
  by_cases hbad : n < 1 ∨ 16 < n
  · have HB := Lib.hid hbad
    go_enter Try.func12, Try.ntmps12
    go_wp2_with fail
    refine (dnew_err n w HB.out).mono ?_
    rintro e w1 ⟨rfl, rfl⟩
    go_wp2_with fail
    refine (rnew_calls n w).mono ?_
    rintro e w2 ⟨b2, h2⟩
    rcases h2 with ⟨_, rfl⟩ | ⟨k, rfl, h1, h16, _⟩
    · have B2 := Lib.hid b2
      clear b2 hbad HC HG
      go_wp2_with fail
      refine (dawake_calls _).mono ?_
      rintro e w4 ⟨rfl, b4⟩
      have B4 := Lib.hid (B2.out.trans (((below_one w2 _).trans (b4.mono (by simp))).mono B2.out.size))
      clear b4 B2
      go_wp2
      go_ret
      exact ⟨rfl, B4.out⟩
    · exfalso
      have := HB.out
      omega
  · obtain ⟨k, rfl⟩ : ∃ k : Nat, n = (k : Int) := ⟨n.toNat, by omega⟩
    have hk1 : 0 < k := by omega
    have hk16 : k ≤ 16 := by omega
    clear hbad
    go_enter Try.func12, Try.ntmps12
    go_wp2_with fail
    refine (held_new k w w (Below.refl _ _) hk1 hk16).mono ?_
    rintro e w1 ⟨g, S1, rfl, h1, hs1, _⟩
    have H1 := Lib.hid h1
    clear h1 hs1
    go_wp2_with fail
    refine (rnew_calls (k : Int) w1).mono ?_
    rintro e w2 ⟨b2, h2⟩
    rcases h2 with ⟨hx, _⟩ | ⟨k', hk', _, _, A, c, rfl, hr⟩
    · exfalso; omega
    · obtain rfl : k = k' := by omega
      obtain ⟨A2, c2, e2, _, _, hca, hba⟩ := hr.cells (by rw [lgs_length]; simp [freshD]; omega)
      cases e2
      have h2 := H1.out.later b2
      have b3 := below_one w2 (.cells #[.slice A k c, .int .i64 0, .bool false, .int .i64 0, .slice none 0 0] 70)
      have PL0 := Lib.hid (show PL w (w2.alloc (.cells #[.slice A k c, .int .i64 0, .bool false, .int .i64 0, .slice none 0 0] 70)) w2.heap.size 0 S1 g (freshD k) A c none 0 from
        ⟨⟨h2.later b3, ⟨hca.below b3, fun ad e _ hs => by have h3 := (H1.out.own _ hs).2; have h4 := (hba ad e).1; omega⟩, ⟨Cells.nil _ _, fun ad e => by cases e⟩⟩,
          by have := Blk.new w2 70 #[.slice A k c, .int .i64 0, .bool false, .int .i64 0, .slice none 0 0]; simpa [freshD] using this,
          ⟨fun hs => by have h3 := (h2.own _ hs).2; omega, Nat.le_trans H1.out.below.size b2.size⟩, fun ad e _ => (by have h4 := (hba ad e).2; omega), fun ad e => (by cases e), (by simp [freshD]; omega)⟩)
      clear hca hba h2 b3 b2 hr H1
      go_upto_region 3 with fail
      generalize w2.alloc (.cells #[.slice A k c, .int .i64 0, .bool false, .int .i64 0, .slice none 0 0] 70) = W3 at PL0 ⊢
      generalize w2.heap.size = b7 at PL0 ⊢
      go_wp2_with fail
      refine (dawake_calls W3).mono ?_
      rintro e w4 ⟨rfl, b4⟩
      have PL0 := Lib.hid (PL0.out.later b4)
      clear b4
      go_wp2
      go_loopw [9] (fun i wr => ∃ j : Nat, j ≤ l.length ∧ j ≤ 40 ∧ i = .int .i64 j ∧ ∃ S D A c B d, PL w wr b7 j S g D A c B d) (fun i _ => 40 - (intOf i).toNat)
      case atStart => exact ⟨0, Nat.zero_le _, by omega, rfl, S1, _, A, c, none, 0, PL0.out⟩
      case round =>
        obtain ⟨j, hj, hj40, rfl, S, D, A, c, B, d, hp⟩ := hrel
        have P := Lib.hid hp
        clear PL0 hp
        by_cases hlt : j < l.length
        · by_cases h40 : j < 40
          · obtain ⟨ad, rfl, o0, o1, o2, o3, o4⟩ := HC.out j hlt
            obtain ⟨⟨gm, gc, gk⟩, gn⟩ := HG.out j hlt
            obtain ⟨a, ha⟩ : ∃ a, a = l[j] := ⟨_, rfl⟩
            rw [← ha] at o0 o1 o2 o3 o4 gm gc gk gn
            obtain ⟨kd, lg, nn, s, K, m, c5, ks⟩ := a
            simp only at o0 o1 o2 o3 o4 gm gc gk gn
            have FIVE := Lib.hid (show ∀ W, Below w.heap.size w W → W.cell? (ad.add (j * 5)) = some (.int .i64 kd) ∧ W.cell? ⟨(ad.add (j * 5)).block, (ad.add (j * 5)).off + 1, none⟩ = some (.int .i64 lg) ∧ W.cell? ⟨(ad.add (j * 5)).block, (ad.add (j * 5)).off + 2, none⟩ = some (.int .i64 nn) ∧ W.cell? ⟨(ad.add (j * 5)).block, (ad.add (j * 5)).off + 3, none⟩ = some (.string (str s)) ∧ W.cell? ⟨(ad.add (j * 5)).block, (ad.add (j * 5)).off + 4, none⟩ = some (.slice K m c5) from fun W hb =>
              ⟨(hb.cell (World.block_lt_of_cell? w _ o0)).trans o0, (hb.cell (World.block_lt_of_cell? w _ o1)).trans o1, (hb.cell (World.block_lt_of_cell? w _ o2)).trans o2, (hb.cell (World.block_lt_of_cell? w _ o3)).trans o3, (hb.cell (World.block_lt_of_cell? w _ o4)).trans o4⟩)
            obtain ⟨s2, hs2⟩ : ∃ s2, s2 = s.take 2000 := ⟨_, rfl⟩
            obtain ⟨m2, hm2⟩ : ∃ m2, m2 = min m 20 := ⟨_, rfl⟩
            obtain ⟨ks2, hk2⟩ : ∃ ks2, ks2 = ks.take 20 := ⟨_, rfl⟩
            have hmk : m2 = ks2.length := by rw [hm2, hk2, gm]; simp; omega
            have hk20 : ks2.length ≤ 20 := by rw [hk2]; simp; omega
            have hs20 : s2.length ≤ 2000 := by rw [hs2]; simp; omega
            have HF := Lib.hid (fun W => (by have := dfew_calls kd lg nn s K m c5 W gc; rw [← hs2, ← hm2] at this; exact this : Calls Try.prog 39 #[.agg #[.int .i64 kd, .int .i64 lg, .int .i64 nn, .string (str s), .slice K m c5]] W fun e w' => e = .returned (.agg #[.int .i64 kd, .int .i64 lg, .int .i64 nn, .string (str s2), .slice K m2 c5]) ∧ Below W.heap.size W w'))
            have gk2 : Cells w K (ints ks2) := by rw [hk2]; exact gk.take 20
            obtain ⟨D', hD'⟩ : ∃ D', D' = stepP D kd lg nn s2 ks2 := ⟨_, rfl⟩
            have HD := Lib.hid (fun W (hb : Below wr.heap.size wr W) => (pdoes_calls w W S g D A c B d kd lg nn s2 K m2 c5 ks2 (P.out.pd.later hb) hmk gk2 hs20 hk20 P.out.few.1 (by have := P.out.few.2.1; omega) gn (by have := P.out.few.2.2; omega)).mono (R' := fun e w' => ∃ A' c' B' d' S', e = .returned (.tuple #[.agg #[.slice A' D'.logs.length c', .int .i64 (D'.acts : Int), .bool D'.down, .int .i64 D'.armed, .slice B' D'.keep.length d'], .bool true]) ∧ Blk w' b7 70 #[.slice A D.logs.length c, .int .i64 (D.acts : Int), .bool D.down, .int .i64 D.armed, .slice B D.keep.length d] ∧
                Hid (PL w (((((w'.setCell ⟨b7, 0, none⟩ (.slice A' D'.logs.length c')).setCell ⟨b7, 1, none⟩ (.int .i64 (D'.acts : Int))).setCell ⟨b7, 2, none⟩ (.bool D'.down)).setCell ⟨b7, 3, none⟩ (.int .i64 D'.armed)).setCell ⟨b7, 4, none⟩ (.slice B' D'.keep.length d')) b7 (j + 1) S' g D' A' c' B' d')) (by
              subst hD'
              rintro e w' ⟨A', c', B', d', S', rfl, h1, h2, h3, h4⟩
              exact ⟨A', c', B', d', S', rfl, (P.out.later hb).box.upd h2.upd P.out.out.1, Lib.hid ((P.out.later hb).step h1 h2 h3 h4 (stepP_len _ _ _ _ _ _) (stepP_keep _ _ _ _ _ _ hk20 P.out.few.2.1) (stepP_acts _ _ _ _ _ _))⟩))
            clear o0 o1 o2 o3 o4 ha gm gc gk gn hs2 hm2 hk2 hmk hk20 hs20 gk2 hD'
            have hbw := P.out.pd.held.below
            obtain ⟨o0, o1, o2, o3, o4⟩ := FIVE.out wr hbw
            obtain ⟨⟨x0, x1, x2, x3, x4⟩, _⟩ := blk5 P.out.box
            have BW := Lib.hid hbw
            have hbr : Below wr.heap.size wr wr.drew := bdrew (Below.refl _ _)
            clear hbw HC HG
            go_upto_region 10 with fail
            go_region_with (first
              | (go_at_call 39; (with_reducible refine (HF.out _).mono ?_); rintro e w4 ⟨rfl, b4⟩; have b5 := hbr.trans b4; obtain ⟨⟨z0, z1, z2, z3, z4⟩, _⟩ := blk5 (P.out.later b5).box)
              | (go_at_call 45; (with_reducible refine (HD.out _ b5).mono ?_); rintro e w6 ⟨A', c', B', d', S', rfl, h6, h7⟩; obtain ⟨⟨y0, y1, y2, y3, y4⟩, f0, f1, f2, f3, f4⟩ := blk5 h6))
            all_goals
              clear HD HF FIVE P hbr b5 b4 h6 z0 z1 z2 z3 z4 y0 y1 y2 y3 y4 f0 f1 f2 f3 f4 x0 x1 x2 x3 x4 o0 o1 o2 o3 o4
              generalize (((((w6.setCell ⟨b7, 0, none⟩ (.slice A' D'.logs.length c')).setCell ⟨b7, 1, none⟩ (.int .i64 (D'.acts : Int))).setCell ⟨b7, 2, none⟩ (.bool D'.down)).setCell ⟨b7, 3, none⟩ (.int .i64 D'.armed)).setCell ⟨b7, 4, none⟩ (.slice B' D'.keep.length d')) = W8 at h7 ⊢
              obtain ⟨⟨x0, x1, x2, x3, x4⟩, _⟩ := blk5 h7.out.box
              go_wp2_with fail
              refine (told_calls S' g D' A' c' B' d' W8 h7.out.pd.held.disk h7.out.pd.la.cells h7.out.few.1).mono ?_
              rintro e w9 ⟨rfl, b9⟩
              have HP := Lib.hid (h7.out.later b9)
              clear b9 x0 x1 x2 x3 x4
              go_wp2_with fail
              exact ⟨⟨j + 1, by omega, by omega, by go_num, S', D', A', c', B', d', HP.out⟩, by simp [intOf]; omega⟩
          · obtain rfl : j = 40 := by omega
            have BF := Lib.hid P.out.pd.held.below
            clear P HC HG
            go_wp2
            go_ret
            exact ⟨rfl, BF.out⟩
        · obtain rfl : j = l.length := by omega
          have BF := Lib.hid P.out.pd.held.below
          clear P HC HG
          go_wp2
          go_ret
          exact ⟨rfl, BF.out⟩
end Go.Proofs.Ytimjadjopemefaa
