/- The reference's disk: Crash. -/
import Derived.Test.YtimjadjopemefaaRd4
import Derived.StillTailTactics
set_option linter.unusedVariables false
set_option linter.unusedSimpArgs false
namespace Go.Proofs.Ytimjadjopemefaa
open Go.RowKit

/-- Two cells of a row are written. -/
theorem Row.set2 {w : World} {base g n c k : Nat} {e : TypeId} {xs : List Value} (h : Row w base e 2 (.slice (some ⟨g, 0, none⟩) n c) n xs) (hk : k < n) (v0 v1 : Value) :
    Row ((w.setCell ⟨g, k * 2, none⟩ v0).setCell ⟨g, k * 2 + 1, none⟩ v1) base e 2 (.slice (some ⟨g, 0, none⟩) n c) n ((xs.set (k * 2) v0).set (k * 2 + 1) v1) := by
  have hl := h.1
  rcases h.2 with ⟨e1, _⟩ | ⟨g', cap, cur, e1, h2, h3, h4, h5, h6, h7⟩
  · cases e1
  · cases e1
    have hb : Blk w g e cur := h3
    have hb2 := (hb.set (k * 2) v0).set (k * 2 + 1) v1
    refine ⟨by simpa using hl, .inr ⟨g, c, _, rfl, h2, hb2, h4, h5, by simpa using h6, ?_⟩⟩
    rw [← h7]
    rw [Array.toList_setIfInBounds, Array.toList_setIfInBounds, List.take_set, List.take_set]
/-- A crash, one log after the other. -/
theorem lgs_set (ls : List (List UInt8 × Nat)) (k : Nat) (x : List UInt8 × Nat) (h : k < ls.length) : ((lgs ls).set (k * 2) (.string (str (x.1.take x.2)))).set (k * 2 + 1) (.string (str (x.1.drop x.2))) = lgs (ls.set k x) := by
  induction ls generalizing k with
  | nil => simp at h
  | cons y ys ih =>
    have e : ∀ (y : List UInt8 × Nat) ys, lgs (y :: ys) = .string (str (y.1.take y.2)) :: .string (str (y.1.drop y.2)) :: lgs ys := fun _ _ => rfl
    cases k with
    | zero => rfl
    | succ k =>
      have := ih k (by simpa using h)
      rw [e, List.set_cons_succ, e, ← this]
      rw [show (k + 1) * 2 = k * 2 + 1 + 1 by omega]
      rfl

theorem crash_cell (x : List UInt8 × Nat) (y : Option Int) (m : Nat) (hx : x.2 ≤ x.1.length) (hm : m ≤ (x.1.drop x.2).length) (hy : crashN x y = x.2 + m) :
    (crashLog x y).1.take (crashLog x y).2 = x.1.take x.2 ++ (x.1.drop x.2).take m ∧ (crashLog x y).1.drop (crashLog x y).2 = [] := by
  simp only [crashLog, hy, List.take_take, Nat.min_self]
  refine ⟨List.take_add, ?_⟩
  apply List.drop_eq_nil_of_le
  rw [List.length_take]
  exact Nat.min_le_left _ _
/-- One log, behind a crash. -/
theorem crash_row {w : World} {base g n c k m : Nat} {D : DS} {ks : List Int} {x : List UInt8 × Nat} {p r : List UInt8} (h : Row w base 135 2 (.slice (some ⟨g, 0, none⟩) n c) n (lgs (crashTo D.logs ks k))) (hn : n = D.logs.length) (hk : k < D.logs.length) (hx : x = D.logs[k]) (hp : p = x.1.take x.2) (hr : r = x.1.drop x.2) (hs : x.2 ≤ x.1.length) (hm : m ≤ r.length) (hy : crashN x ks[k]? = x.2 + m) :
    Row ((w.setCell ⟨g, k * 2, none⟩ (.string (str (p ++ r.take m)))).setCell ⟨g, k * 2 + 1, none⟩ (.string (str []))) base 135 2 (.slice (some ⟨g, 0, none⟩) n c) n (lgs (crashTo D.logs ks (k + 1))) := by
  subst hp hr
  obtain ⟨e1, e2⟩ := crash_cell x ks[k]? m hs hm hy
  have h2 := h.set2 (k := k) (by omega) (.string (str (x.1.take x.2 ++ (x.1.drop x.2).take m))) (.string (str []))
  rw [← e1, ← e2, lgs_set _ _ _ (by rw [crashTo_length]; exact hk), hx, crashTo_succ _ _ _ hk, ← hx] at h2
  rw [e1, e2] at h2
  exact h2

set_option maxHeartbeats 4000000 in
set_option maxRecDepth 100000 in
theorem rcrash_calls (A B : Option Addr) (c d : Nat) (D : DS) (M : Option Addr) (q : Nat) (ks : List Int) (w : World) (hl : D.logs.length ≤ 16) (hk : D.keep.length ≤ 1000000) (hks : ks.length ≤ 1000000) (hsm : ∀ j (h : j < D.logs.length), D.logs[j].1.length ≤ 4194304 ∧ D.logs[j].2 ≤ D.logs[j].1.length) (hA : Cells w A (lgs D.logs)) (hB : Cells w B (ints D.keep)) (hM : Cells w M (ints ks)) :
    Calls Try.prog 77 #[.agg #[.slice A D.logs.length c, .int .i64 (D.acts : Int), .bool D.down, .int .i64 D.armed, .slice B D.keep.length d], .slice M ks.length q] w fun e w' => ∃ A' c' B' d', e = .returned (.agg #[.slice A' D.logs.length c', .int .i64 (D.acts : Int), .bool (D.crash ks).down, .int .i64 (D.crash ks).armed, .slice B' D.keep.length d']) ∧ RNew w w' A' c' B' d' (D.crash ks).logs D.keep := by
  obtain ⟨W0, hW0, b0, sz, n0, n1⟩ := rd_boxes w #[.slice A D.logs.length c, .int .i64 (D.acts : Int), .bool D.down, .int .i64 D.armed, .slice B D.keep.length d]
  have HA := Lib.hid (hA.below b0)
  have HB := Lib.hid (hB.below b0)
  have HM := Lib.hid hM
  have HW0 := Lib.hid hW0
  have B0 := Lib.hid b0
  have N0 := Lib.hid n0
  have N1 := Lib.hid n1
  have SZ := Lib.hid sz
  have HL := Lib.hid hl
  have HK := Lib.hid hk
  have HKS := Lib.hid hks
  have HSM := Lib.hid hsm
  clear hA hB hM hW0 b0 n0 n1 sz hl hk hks hsm
  go_enter Try.func77, Try.ntmps77
  go_upto_region 1 with fail
  rw [← HW0.out]
  obtain ⟨⟨q0, q1, q2, q3, q4⟩, _⟩ := blk5 N0.out
  go_wp2_with fail
  refine (rcopy_calls A B c d D W0 HL.out HK.out HA.out HB.out).mono ?_
  rintro e w1 ⟨A1, c1, B1, d1, rfl, r1, k1, b1⟩
  clear q0 q1 q2 q3 q4
  have n01 := N0.out.below b1
  obtain ⟨⟨q0, q1, q2, q3, q4⟩, g0, g1, g2, g3, g4⟩ := blk5 n01
  obtain ⟨e2, u2⟩ := five_sets n01 (.slice A1 D.logs.length c1) (.int .i64 (D.acts : Int)) (.bool D.down) (.int .i64 D.armed) (.slice B1 D.keep.length d1)
  obtain ⟨W2, hW2⟩ : ∃ W2, W2 = (((((w1.setCell ⟨w.heap.size, 0, Option.none⟩ (.slice A1 D.logs.length c1)).setCell ⟨w.heap.size, 1, Option.none⟩ (.int .i64 (D.acts : Int))).setCell ⟨w.heap.size, 2, Option.none⟩ (.bool D.down)).setCell ⟨w.heap.size, 3, Option.none⟩ (.int .i64 D.armed)).setCell ⟨w.heap.size, 4, Option.none⟩ (.slice B1 D.keep.length d1)) := ⟨_, rfl⟩
  rw [← hW2] at e2 u2
  have hz := SZ.out
  have bw1 : Below w.heap.size w w1 := B0.out.trans (b1.mono B0.out.size)
  have N2 := Lib.hid e2
  have N12 := Lib.hid ((N1.out.below b1).upd u2 (by omega))
  have R2 := Lib.hid (r1.upd u2 (fun k e _ hk => by have := (r1.lt k e).1; omega))
  have K2 := Lib.hid (k1.upd u2 (fun k e _ hk => by have := (k1.lt k e).1; omega))
  have BW2 := Lib.hid (bw1.trans (u2.below bw1.size (fun i hi e => by omega)))
  have HZ2 := Lib.hid (show W0.heap.size ≤ W2.heap.size from Nat.le_trans b1.size u2.size)
  have HW2 := Lib.hid hW2
  clear hW2 n01 e2 u2 r1 k1 b1 bw1 hz HA HB N0 N1 B0 HW0
  go_upto_region 2 with fail
  rw [← HW2.out]
  clear HW2 q0 q1 q2 q3 q4 g0 g1 g2 g3 g4
  cases hd : D.down with
  | true =>
    have hcr : D.crash ks = D := by unfold DS.crash; rw [if_pos hd]
    have HCR := Lib.hid hcr
    have HD := Lib.hid hd
    have n2 := N2.out
    rw [hd] at n2
    have N2' := Lib.hid n2
    clear n2 hcr
    obtain ⟨⟨q0, q1, q2, q3, q4⟩, _⟩ := blk5 N2'.out
    obtain ⟨⟨p0, p1, p2, p3, p4⟩, g0, g1, g2, g3, g4⟩ := blk5 N12.out
    clear hd
    go_wp2_with fail
    try simp only [Exit.inBlock, Exit.then]
    obtain ⟨E10, U10⟩ := five_sets N12.out (.slice A1 D.logs.length c1) (.int .i64 (D.acts : Int)) (.bool true) (.int .i64 D.armed) (.slice B1 D.keep.length d1)
    refine bodyPost_ret (results_rd rfl rfl (E10.cell 0 _ rfl) (E10.cell 1 _ rfl) (E10.cell 2 _ rfl) (E10.cell 3 _ rfl) (E10.cell 4 _ rfl)) rfl ?_
    have hz := SZ.out
    have hz5 := HZ2.out
    rw [HCR.out]
    exact ⟨A1, c1, B1, d1, by rw [HD.out]; rfl, (R2.out.upd U10 (fun k e _ hk => by have := (R2.out.lt k e).1; omega)).mono (by omega), (K2.out.upd U10 (fun k e _ hk => by have := (K2.out.lt k e).1; omega)).mono (by omega), BW2.out.trans (U10.below BW2.out.size (fun i hi e => by omega))⟩
  | false =>
    have hcr : D.crash ks = { D with down := true, armed := 0, logs := crashTo D.logs ks D.logs.length } := by unfold DS.crash; rw [if_neg (by rw [hd]; decide)]
    have HCR := Lib.hid hcr
    have n2 := N2.out
    rw [hd] at n2
    have N2' := Lib.hid n2
    obtain ⟨⟨q0, q1, q2, q3, q4⟩, _⟩ := blk5 n2
    clear n2 hcr hd N2
    have R2' := Lib.hid (show Row W2 W0.heap.size 135 2 (.slice A1 D.logs.length c1) D.logs.length (lgs (crashTo D.logs ks 0)) by rw [crashTo_zero]; exact R2.out)
    clear R2
    go_upto_region 4 with fail
    clear q0 q1 q2 q3 q4
    go_wp2
    go_loopw [5] (fun i wr => ∃ k : Nat, k ≤ D.logs.length ∧ i = .int .i64 k ∧ Blk wr w.heap.size 70 #[.slice A1 D.logs.length c1, .int .i64 (D.acts : Int), .bool false, .int .i64 D.armed, .slice B1 D.keep.length d1] ∧ Blk wr (w.heap.size + 1) 70 #[.slice none 0 0, .int .i64 0, .bool false, .int .i64 0, .slice none 0 0] ∧ Row wr W0.heap.size 135 2 (.slice A1 D.logs.length c1) D.logs.length (lgs (crashTo D.logs ks k)) ∧ Row wr W0.heap.size 3 1 (.slice B1 D.keep.length d1) D.keep.length (ints D.keep) ∧ Below w.heap.size w wr ∧ W0.heap.size ≤ wr.heap.size) (fun i _ => D.logs.length - (intOf i).toNat)
    case atStart => exact ⟨0, Nat.zero_le _, rfl, N2'.out, N12.out, R2'.out, K2.out, BW2.out, HZ2.out⟩
    case round =>
      obtain ⟨k, hk, rfl, hb0, hb1, hrow, hkeep, hbel, hsz⟩ := hrel
      obtain ⟨⟨q0, q1, q2, q3, q4⟩, g0, g1, g2, g3, g4⟩ := blk5 hb0
      have HB0 := Lib.hid hb0
      have HB1 := Lib.hid hb1
      have HR := Lib.hid hrow
      have HKP := Lib.hid hkeep
      have HBE := Lib.hid hbel
      have HS := Lib.hid hsz
      clear hb0 hb1 hrow hkeep hbel hsz N2' N12 R2' K2 BW2 HZ2
      by_cases hlt : k < D.logs.length
      · obtain ⟨x, hx⟩ : ∃ x, x = D.logs[k] := ⟨_, rfl⟩
        obtain ⟨ga, cap, cur, e, hga, hgb, _⟩ := HR.out.blk (by omega)
        cases e
        have yf0 := hgb.free (k * 2) none
        have yf1 := hgb.free (k * 2 + 1) none
        clear hgb
        obtain ⟨A7, c7, e7, _, _, hcl, _⟩ := HR.out.cells (by rw [lgs_length, crashTo_length]; have := HL.out; omega)
        cases e7
        have hck : k < (crashTo D.logs ks k).length := by rw [crashTo_length]; exact hlt
        have hxk : (crashTo D.logs ks k)[k] = x := by rw [crashTo_get, if_neg (by omega), hx]
        obtain ⟨ad, e, hc0⟩ := hcl.get (k * 2) _ (lgs_get _ k hck).1
        cases e
        obtain ⟨ad, e, hc1⟩ := hcl.get (k * 2 + 1) _ (lgs_get _ k hck).2
        cases e
        rw [hxk] at hc0 hc1
        have hadd : ∀ j, (⟨ga, 0, none⟩ : Addr).add j = ⟨ga, j, none⟩ := fun j => by unfold Addr.add; split <;> simp_all
        rw [hadd] at hc0 hc1
        clear hadd
        obtain ⟨p, hp⟩ : ∃ p, p = x.1.take x.2 := ⟨_, rfl⟩
        obtain ⟨r, hrr⟩ : ∃ r, r = x.1.drop x.2 := ⟨_, rfl⟩
        rw [← hp] at hc0
        rw [← hrr] at hc1
        have hsx := HSM.out k hlt
        rw [← hx] at hsx
        have hpl : p.length = x.2 := by rw [hp]; simp; omega
        have hrl : r.length ≤ 4194304 := by rw [hrr]; simp; omega
        have hrs : (str r).size = r.length := str_size r
        -- how much of the loose part stays
        have hM1 : (ks[k]? = none ∧ ¬ k < ks.length) ∨ (∃ y, ks[k]? = some y ∧ k < ks.length ∧ ∃ adm, M = some adm ∧ wr.cell? (adm.add k) = some (.int .i64 y)) := by
          rcases Nat.lt_or_ge k ks.length with h | h
          · right
            obtain ⟨adm, e, h1⟩ := (HM.out.below HBE.out).get k (.int .i64 ks[k]) (by simp [ints, h])
            exact ⟨ks[k], by simp [h], h, adm, e, h1⟩
          · left
            exact ⟨by simp [h], by omega⟩
        have HX := Lib.hid hx
        have HP := Lib.hid hp
        have HRR := Lib.hid hrr
        have HPL := Lib.hid hpl
        have HRL := Lib.hid hrl
        have HSX := Lib.hid hsx
        clear hx hp hrr hpl hrl hsx hxk hck hcl hga
        have hk1 : decide ((k : Int) < (D.logs.length : Int)) = true := by simp; omega
        rcases hM1 with ⟨hq1, hq2⟩ | ⟨y, hq1, hq2, adm, rfl, hcm⟩
        · have hd1 : decide ((k : Int) < (ks.length : Int)) = false := by simp; omega
          have HQ := Lib.hid hq1
          clear hq1
          go_upto_region 12 with fail
          have hps : (str p).size = p.length := str_size p
          have hpb : p.length ≤ 4194304 := by have := HPL.out; have := HSX.out; omega
          
          go_region
          have hz := HS.out
          have hsz := SZ.out
          have ug : Upd (fun i => i = ga) wr ((wr.setCell ⟨ga, k * 2, none⟩ (.string (str (p)))).setCell ⟨ga, k * 2 + 1, none⟩ (.string (str []))) := ((Upd.refl (fun i => i = ga) wr).set ⟨ga, k * 2, none⟩ _ (fun _ => rfl)).set ⟨ga, k * 2 + 1, none⟩ _ (fun _ => rfl)
          have hgl := HR.out.lt ga rfl
          have hdf : ∀ i, (Value.slice B1 D.keep.length d1).ownBlock = some i → i ≠ ga := fun i e h => by
            have h1 := HKP.out.typed i e
            have h2 := HR.out.typed ga rfl
            subst h
            obtain ⟨_, _, h1⟩ := h1
            obtain ⟨_, _, h2⟩ := h2
            rw [h1] at h2
            simp at h2
          have nr := crash_row (m := 0) HR.out rfl hlt HX.out HP.out HRR.out HSX.out.2 (Nat.zero_le _) (by unfold crashN; rw [HQ.out])
          rw [show p ++ r.take (0) = p by simp] at nr
          have NR := Lib.hid nr
          have NB0 := Lib.hid (HB0.out.upd ug (by omega))
          have NB1 := Lib.hid (HB1.out.upd ug (by omega))
          have NK := Lib.hid (HKP.out.upd ug (fun i e _ h => hdf i e h))
          have NBE := Lib.hid (HBE.out.trans (ug.below HBE.out.size (fun i hi e => by omega)))
          have NS := Lib.hid (Nat.le_trans HS.out ug.size)
          clear nr hz hsz ug hgl hdf
          have hl16 := HL.out
          go_wp2
          go_roundw
          case rel => exact ⟨k + 1, hlt, by go_num, NB0.out.below (bdrew (Below.refl _ _)), NB1.out.below (bdrew (Below.refl _ _)), NR.out.below (bdrew (Below.refl _ _)), NK.out.below (bdrew (Below.refl _ _)), bdrew NBE.out, NS.out⟩
          case measure => simp [intOf]; omega
        · have hd1 : decide ((k : Int) < (ks.length : Int)) = true := by simp; omega
          have HQ := Lib.hid hq1
          clear hq1
          by_cases hy : 0 < y
          · have hyd : decide (0 < y) = true := by simp; omega
            by_cases hy2 : (r.length : Int) < y
            · have hy3 : ((str r).size : Int) < y := by rw [hrs]; exact hy2
              go_upto_region 12 with fail
              have hps : (str p).size = p.length := str_size p
              have hpb : p.length ≤ 4194304 := by have := HPL.out; have := HSX.out; omega
              have hrb := HRL.out
              have kap : str p ++ str r = str (p ++ r) := str_append p r
              have hse : (str r).extract 0 r.length = str r := by rw [str_extract]; simp
              have ksz : ¬ 9223372036854775807 < (str p).size + (str r).size := by rw [hps, hrs]; omega
              go_region
              have hz := HS.out
              have hsz := SZ.out
              have ug : Upd (fun i => i = ga) wr ((wr.setCell ⟨ga, k * 2, none⟩ (.string (str (p ++ r)))).setCell ⟨ga, k * 2 + 1, none⟩ (.string (str []))) := ((Upd.refl (fun i => i = ga) wr).set ⟨ga, k * 2, none⟩ _ (fun _ => rfl)).set ⟨ga, k * 2 + 1, none⟩ _ (fun _ => rfl)
              have hgl := HR.out.lt ga rfl
              have hdf : ∀ i, (Value.slice B1 D.keep.length d1).ownBlock = some i → i ≠ ga := fun i e h => by
                have h1 := HKP.out.typed i e
                have h2 := HR.out.typed ga rfl
                subst h
                obtain ⟨_, _, h1⟩ := h1
                obtain ⟨_, _, h2⟩ := h2
                rw [h1] at h2
                simp at h2
              have nr := crash_row (m := r.length) HR.out rfl hlt HX.out HP.out HRR.out HSX.out.2 (Nat.le_refl _) (by have hq := congrArg List.length HRR.out; rw [List.length_drop] at hq; have := HSX.out; unfold crashN; rw [HQ.out]; simp only; omega)
              rw [show p ++ r.take (r.length) = p ++ r by rw [List.take_length]] at nr
              have NR := Lib.hid nr
              have NB0 := Lib.hid (HB0.out.upd ug (by omega))
              have NB1 := Lib.hid (HB1.out.upd ug (by omega))
              have NK := Lib.hid (HKP.out.upd ug (fun i e _ h => hdf i e h))
              have NBE := Lib.hid (HBE.out.trans (ug.below HBE.out.size (fun i hi e => by omega)))
              have NS := Lib.hid (Nat.le_trans HS.out ug.size)
              clear nr hz hsz ug hgl hdf
              have hl16 := HL.out
              go_wp2
              go_roundw
              case rel => exact ⟨k + 1, hlt, by go_num, NB0.out.below (bdrew (Below.refl _ _)), NB1.out.below (bdrew (Below.refl _ _)), NR.out.below (bdrew (Below.refl _ _)), NK.out.below (bdrew (Below.refl _ _)), bdrew NBE.out, NS.out⟩
              case measure => simp [intOf]; omega
            · obtain ⟨m, rfl⟩ : ∃ m : Nat, y = (m : Int) := ⟨y.toNat, by omega⟩
              have hy3 : ¬ ((str r).size : Int) < (m : Int) := by rw [hrs]; exact hy2
              have hy4 : ¬ r.length < m := by omega
              have hy5 : m ≤ (str r).size := by rw [hrs]; omega
              have hmr : m ≤ r.length := by omega
              have HMR := Lib.hid hmr
              have hms : (r.take m).length = m := by simp; omega
              have hse : (str r).extract 0 m = str (r.take m) := by rw [str_extract]; simp
              obtain ⟨z, hz⟩ : ∃ z, z = r.take m := ⟨_, rfl⟩
              rw [← hz] at hse hms
              have HZ := Lib.hid hz
              have HMS := Lib.hid hms
              clear hz hms hmr
              go_upto_region 12 with fail
              have hps : (str p).size = p.length := str_size p
              have hpb : p.length ≤ 4194304 := by have := HPL.out; have := HSX.out; omega
              have hrb := HRL.out
              have kap : str p ++ str z = str (p ++ z) := str_append p z
              have ksz : ¬ 9223372036854775807 < (str p).size + (str z).size := by rw [hps, str_size, HMS.out]; omega
              go_region
              have hz := HS.out
              have hsz := SZ.out
              have ug : Upd (fun i => i = ga) wr ((wr.setCell ⟨ga, k * 2, none⟩ (.string (str (p ++ z)))).setCell ⟨ga, k * 2 + 1, none⟩ (.string (str []))) := ((Upd.refl (fun i => i = ga) wr).set ⟨ga, k * 2, none⟩ _ (fun _ => rfl)).set ⟨ga, k * 2 + 1, none⟩ _ (fun _ => rfl)
              have hgl := HR.out.lt ga rfl
              have hdf : ∀ i, (Value.slice B1 D.keep.length d1).ownBlock = some i → i ≠ ga := fun i e h => by
                have h1 := HKP.out.typed i e
                have h2 := HR.out.typed ga rfl
                subst h
                obtain ⟨_, _, h1⟩ := h1
                obtain ⟨_, _, h2⟩ := h2
                rw [h1] at h2
                simp at h2
              have nr := crash_row (m := m) HR.out rfl hlt HX.out HP.out HRR.out HSX.out.2 (HMR.out) (by have hq := congrArg List.length HRR.out; rw [List.length_drop] at hq; have := HSX.out; have := HMR.out; unfold crashN; rw [HQ.out]; simp only; omega)
              rw [show p ++ r.take (m) = p ++ z by rw [HZ.out]] at nr
              have NR := Lib.hid nr
              have NB0 := Lib.hid (HB0.out.upd ug (by omega))
              have NB1 := Lib.hid (HB1.out.upd ug (by omega))
              have NK := Lib.hid (HKP.out.upd ug (fun i e _ h => hdf i e h))
              have NBE := Lib.hid (HBE.out.trans (ug.below HBE.out.size (fun i hi e => by omega)))
              have NS := Lib.hid (Nat.le_trans HS.out ug.size)
              clear nr hz hsz ug hgl hdf
              have hl16 := HL.out
              go_wp2
              go_roundw
              case rel => exact ⟨k + 1, hlt, by go_num, NB0.out.below (bdrew (Below.refl _ _)), NB1.out.below (bdrew (Below.refl _ _)), NR.out.below (bdrew (Below.refl _ _)), NK.out.below (bdrew (Below.refl _ _)), bdrew NBE.out, NS.out⟩
              case measure => simp [intOf]; omega
          · have hyd : decide (0 < y) = false := by simp; omega
            go_upto_region 12 with fail
            have hps : (str p).size = p.length := str_size p
            have hpb : p.length ≤ 4194304 := by have := HPL.out; have := HSX.out; omega
            
            go_region
            have hz := HS.out
            have hsz := SZ.out
            have ug : Upd (fun i => i = ga) wr ((wr.setCell ⟨ga, k * 2, none⟩ (.string (str (p)))).setCell ⟨ga, k * 2 + 1, none⟩ (.string (str []))) := ((Upd.refl (fun i => i = ga) wr).set ⟨ga, k * 2, none⟩ _ (fun _ => rfl)).set ⟨ga, k * 2 + 1, none⟩ _ (fun _ => rfl)
            have hgl := HR.out.lt ga rfl
            have hdf : ∀ i, (Value.slice B1 D.keep.length d1).ownBlock = some i → i ≠ ga := fun i e h => by
              have h1 := HKP.out.typed i e
              have h2 := HR.out.typed ga rfl
              subst h
              obtain ⟨_, _, h1⟩ := h1
              obtain ⟨_, _, h2⟩ := h2
              rw [h1] at h2
              simp at h2
            have nr := crash_row (m := 0) HR.out rfl hlt HX.out HP.out HRR.out HSX.out.2 (Nat.zero_le _) (by unfold crashN; rw [HQ.out]; simp only; omega)
            rw [show p ++ r.take (0) = p by simp] at nr
            have NR := Lib.hid nr
            have NB0 := Lib.hid (HB0.out.upd ug (by omega))
            have NB1 := Lib.hid (HB1.out.upd ug (by omega))
            have NK := Lib.hid (HKP.out.upd ug (fun i e _ h => hdf i e h))
            have NBE := Lib.hid (HBE.out.trans (ug.below HBE.out.size (fun i hi e => by omega)))
            have NS := Lib.hid (Nat.le_trans HS.out ug.size)
            clear nr hz hsz ug hgl hdf
            have hl16 := HL.out
            go_wp2
            go_roundw
            case rel => exact ⟨k + 1, hlt, by go_num, NB0.out.below (bdrew (Below.refl _ _)), NB1.out.below (bdrew (Below.refl _ _)), NR.out.below (bdrew (Below.refl _ _)), NK.out.below (bdrew (Below.refl _ _)), bdrew NBE.out, NS.out⟩
            case measure => simp [intOf]; omega
      · obtain rfl : k = D.logs.length := by omega
        have hk1 : ¬ D.logs.length < D.logs.length := by omega
        clear hlt hk
        have n9 : Blk ((wr.setCell ⟨w.heap.size, 2, none⟩ (.bool true)).setCell ⟨w.heap.size, 3, none⟩ (.int .i64 0)) w.heap.size 70 #[.slice A1 D.logs.length c1, .int .i64 (D.acts : Int), .bool true, .int .i64 0, .slice B1 D.keep.length d1] := by simpa using (HB0.out.set 2 (.bool true)).set 3 (.int .i64 0)
        have u9 : Upd (fun i => i = w.heap.size) wr ((wr.setCell ⟨w.heap.size, 2, none⟩ (.bool true)).setCell ⟨w.heap.size, 3, none⟩ (.int .i64 0)) := ((Upd.refl (fun i => i = w.heap.size) wr).set ⟨w.heap.size, 2, none⟩ _ (fun _ => rfl)).set ⟨w.heap.size, 3, none⟩ _ (fun _ => rfl)
        obtain ⟨W9, hW9⟩ : ∃ W9, W9 = (wr.setCell ⟨w.heap.size, 2, none⟩ (.bool true)).setCell ⟨w.heap.size, 3, none⟩ (.int .i64 0) := ⟨_, rfl⟩
        rw [← hW9] at n9 u9
        have hz := SZ.out
        have hz5 := HS.out
        have N9 := Lib.hid n9
        have N19 := Lib.hid (HB1.out.upd u9 (by omega))
        have R9 := Lib.hid (HR.out.upd u9 (fun k e _ hk => by have := (HR.out.lt k e).1; omega))
        have K9 := Lib.hid (HKP.out.upd u9 (fun k e _ hk => by have := (HKP.out.lt k e).1; omega))
        have BW9 := Lib.hid (HBE.out.trans (u9.below HBE.out.size (fun i hi e => by omega)))
        have HW9 := Lib.hid hW9
        have HZ9 := Lib.hid (Nat.le_trans hz5 u9.size)
        clear hW9 n9 u9 hz hz5 HB0 HB1 HR HKP HBE HS
        go_upto_region 14 with fail
        rw [← HW9.out]
        clear HW9 q0 q1 q2 q3 q4 g0 g1 g2 g3 g4
        obtain ⟨⟨q0, q1, q2, q3, q4⟩, _⟩ := blk5 N9.out
        obtain ⟨⟨p0, p1, p2, p3, p4⟩, g0, g1, g2, g3, g4⟩ := blk5 N19.out
        go_wp2_with fail
        try simp only [Exit.inBlock, Exit.then]
        obtain ⟨E10, U10⟩ := five_sets N19.out (.slice A1 D.logs.length c1) (.int .i64 (D.acts : Int)) (.bool true) (.int .i64 0) (.slice B1 D.keep.length d1)
        refine bodyPost_ret (results_rd rfl rfl (E10.cell 0 _ rfl) (E10.cell 1 _ rfl) (E10.cell 2 _ rfl) (E10.cell 3 _ rfl) (E10.cell 4 _ rfl)) rfl ?_
        have hz := SZ.out
        have hz5 := HZ9.out
        rw [HCR.out]
        refine ⟨A1, c1, B1, d1, rfl, ?_, (K9.out.upd U10 (fun k e _ hk => by have := (K9.out.lt k e).1; omega)).mono (by omega), BW9.out.trans (U10.below BW9.out.size (fun i hi e => by omega))⟩
        simp only [crashTo_length]
        exact (R9.out.upd U10 (fun k e _ hk => by have := (R9.out.lt k e).1; omega)).mono (by omega)
end Go.Proofs.Ytimjadjopemefaa
