/- WalOpens: the walk of the law. -/
import Derived.Test.YtimjadjopemefaaWa7
set_option linter.unusedVariables false
set_option linter.unusedSimpArgs false
namespace Go.Proofs.Ytimjadjopemefaa
open Go.RowKit

theorem wquiet_eq {P : Program} {f : FuncId} {args : Array Value} {w : World} {n : Nat} {v : Value}
    (h : Calls P f args (w.drewN n) fun e w' => e = .returned v ∧ w.drewN n = w') : Calls P f args (w.drewN n) fun e w'' => e = .returned v ∧ ∃ m, w'' = w.drewN m :=
  h.mono fun _ _ ⟨he, hm⟩ => ⟨he, n, hm.symm⟩
theorem live_fresh {k i : Nat} (h : i < k) : Live (freshD k) i [] 0 := by
  refine ⟨by simpa [freshD] using h, by simp [freshD], rfl, ?_, by simp, by simp⟩
  show (0 : Int) ≠ 1
  decide

set_option maxHeartbeats 4000000 in
set_option maxRecDepth 100000 in
theorem walOpens_walk (l : List UInt8) (a1 : Int) (w : World) (hl : l.length ≤ 140737488351232) (w1 : (Lit.int .i64 a1).wf = true) :
    Calls Try.prog 17 #[.string (str l), .int .i64 a1] w fun e w' => e = .returned (.bool true) ∧ Below w.heap.size w w' := by
  obtain ⟨s, hs⟩ : ∃ s, s = l.take 3000 := ⟨_, rfl⟩
  have hsl : s.length ≤ 3000 := by rw [hs]; simp; omega
  have hL0 := live_fresh (k := 3) (i := 2) (by decide)
  obtain ⟨ha1, ha2⟩ := hL0.append (c := s) (by simp; omega)
  rw [List.nil_append] at ha2
  obtain ⟨D1, hD1⟩ : ∃ D1, D1 = (freshD 3).append (2 : Int) s := ⟨_, rfl⟩
  have hD1' : D1 = ⟨[([], 0), ([], 0), (s, 0)], 1, false, 0, []⟩ := by rw [hD1]; exact ha2
  have hL1 : Live D1 2 s 0 := by rw [hD1']; exact ⟨by simp, rfl, rfl, by simp, by omega, by omega⟩
  have hLL : ∀ i, i < 2 → Live D1 i [] 0 := by
    intro i hi
    rw [hD1']
    refine ⟨by simp; omega, ?_, rfl, by simp, by simp, by simp⟩
    rcases (show i = 0 ∨ i = 1 by omega) with rfl | rfl <;> rfl
  have hacts : D1.acts < 1000000000 := by rw [hD1']; simp
  have hno : (a1 < 0 ∨ 2 < a1) → openErrD D1 a1 = 70 ∧ quietD D1 a1 := by
    intro h
    have hh : D1.has a1 = false := by unfold DS.has; rw [hD1']; simp; omega
    have hr : D1.readErr a1 = 70 := by simp [DS.readErr, hh]
    exact ⟨by unfold openErrD; rw [if_pos (by rw [hr]; decide), hr], .inl (by rw [hr]; decide)⟩
  have HA1 := Lib.hid (show (freshD 3).appErr 2 s = 0 from ha1)
  have HD1 := Lib.hid hD1
  have HL1 := Lib.hid hL1
  have HLL := Lib.hid hLL
  have HNO := Lib.hid hno
  have HACT := Lib.hid hacts
  have HS := Lib.hid hs
  have HSL := Lib.hid hsl
  clear hL0 ha1 ha2 hD1 hD1' hL1 hLL hno hacts w1
  go_enter Try.func17, Try.ntmps17
  go_wp2_with fail
  refine (held_new 3 w w (Below.refl _ _) (by decide) (by decide)).mono ?_
  rintro e w1 ⟨g, S1, rfl, h1, _⟩
  have H1 := Lib.hid h1
  clear h1
  go_wp2_with fail
  refine (wawake_calls w1).mono ?_
  rintro e w2 ⟨rfl, b2⟩
  have H2 := Lib.hid (H1.out.later b2)
  clear b2 H1
  -- the text, cut
  have hcut : (3000 < l.length ∧ (str l).extract 0 3000 = str s) ∨ (¬ 3000 < l.length ∧ l = s) := by
    by_cases h : 3000 < l.length
    · left; refine ⟨h, ?_⟩; rw [str_extract, hs]; simp
    · right; exact ⟨h, by rw [hs, List.take_of_length_le (by omega)]⟩
  have hsz : ((str l).size : Int) = (l.length : Int) := by rw [str_size]
  clear hs hsl
  rcases hcut with ⟨h3, hex⟩ | ⟨h3, hex⟩
  case' inl =>
    have h3' : (3000 : Int) < ((str l).size : Int) := by omega
    have h3'' : 3000 ≤ (str l).size := by omega
    clear hsz h3
    go_upto_region 6 with fail
  case' inr =>
    have h3' : ((str l).size : Int) ≤ 3000 := by omega
    rw [hex] at h3' ⊢
    clear hsz h3 hex HS hl
    clear l
    go_upto_region 6 with fail
  all_goals
    go_wp2_with (with_reducible refine halt_dst 35 ?_)
    refine wpList_bytes rfl (.tmp 34) 9 22 rfl Try.underlying9 Try.underlying22 Try.underlying5 s rfl ?_
    intro c7 w7 hc7 by7 b7 sz7
    go_wp2_with fail
    refine (held_append H2.out b7 2 _ _ _ s rfl (by7.cells (by have := HSL.out; omega)) (fun ad e => by cases e; exact .inr (Nat.le_refl _)) (by have := HSL.out; omega) (by decide)).mono ?_
    rintro e w8 ⟨rfl, S8, h8, _⟩
    rw [HA1.out]
    rw [← HD1.out] at h8
    have H8 := Lib.hid h8
    clear h8 by7 b7 sz7 hc7 H2
    go_wp2_with fail
    refine (wopen_calls H8.out a1 HACT.out).mono ?_
    rintro e w9 ho
    by_cases hq : a1 < 0 ∨ 2 < a1
    · obtain ⟨e1, e2⟩ := HNO.out hq
      have hn := ho.no (by rw [e1]; decide)
      rw [e1] at hn
      subst hn
      have HB := Lib.hid (H8.out.below.trans ((ho.quiet e2).mono H8.out.below.size))
      clear ho e1 e2 H8
      rcases hq with hq | hq
      · go_wp2
        go_ret
        exact ⟨rfl, HB.out⟩
      · have hq2 : ¬ a1 < 0 := by omega
        go_wp2
        go_ret
        exact ⟨rfl, HB.out⟩
    · have hq1 : ¬ a1 < 0 := by omega
      have hq2 : ¬ 2 < a1 := by omega
      by_cases hl2 : a1 < 2
      · obtain ⟨i, hi, rfl⟩ : ∃ i : Nat, i < 2 ∧ a1 = (i : Int) := ⟨a1.toNat, by omega, by omega⟩
        have HL := HLL.out i hi
        obtain ⟨e1, D9, e2, _⟩ := HL.open
        obtain ⟨S9, gw, v, rfl, h9, g9, _, o9⟩ := opened_ok H8.out.below.size ho e1 e2 (ls := []) (k := 0) (by rw [HL.logq]; exact scan_nil)
        obtain ⟨vs, hr, _⟩ := o9.row
        obtain ⟨A9, c9, rfl, _, _, _, _⟩ := hr.cells1
        have HB := Lib.hid h9.below
        clear ho e1 e2 HL h9 g9 o9 hr H8 hq hi
        go_wp2
        go_ret
        exact ⟨rfl, HB.out⟩
      · obtain rfl : a1 = 2 := by omega
        obtain ⟨e1, D9, e2, e3, e4, _⟩ := HL1.out.open
        obtain ⟨ls, n, hsc⟩ : ∃ ls n, scanOf s = (ls, n) := ⟨_, _, rfl⟩
        obtain ⟨S9, gw, v, rfl, h9, g9, _, o9⟩ := opened_ok H8.out.below.size ho e1 e2 (ls := ls) (k := n) (show scanOf (D1.log ((2 : Nat) : Int)).1 = (ls, n) by rw [HL1.out.logq]; exact hsc)
        have hle := scanOf_le s.length s (Nat.le_refl _)
        rw [hsc] at e3 hle
        simp only at e3 hle
        obtain ⟨hle, hcn⟩ := hle
        obtain ⟨vs, hr, _⟩ := o9.row
        obtain ⟨A9, c9, rfl, _, _, _, _⟩ := hr.cells1
        have hlt : 2 < D9.logs.length := by rw [e3, List.length_set]; exact HL1.out.lt
        have hlog : D9.logs[2]'hlt = (s.take n, n) := by simp [e3]
        have hlq : D9.log ((2 : Nat) : Int) = (s.take n, n) := by rw [DS.log_at hlt, hlog]
        have hha : D9.has ((2 : Nat) : Int) = true := DS.has_iff.2 ⟨2, rfl, hlt⟩
        have hre : D9.readErr ((2 : Nat) : Int) = 0 := by unfold DS.readErr; rw [hha, e4]; rfl
        have hsu : D9.sure ((2 : Nat) : Int) = n := by unfold DS.sure; rw [hha, hlq]; rfl
        have H9 := Lib.hid h9
        have O9 := Lib.hid o9
        have HSC := Lib.hid hsc
        have HLQ := Lib.hid hlq
        have HRE := Lib.hid hre
        have HSU := Lib.hid hsu
        have HCN := Lib.hid hcn
        clear ho e1 e2 e3 e4 h9 g9 o9 hr H8 hq hsc hlog hlq hha hre hsu hlt hcn
        go_wp2_with fail
        refine (rscan_calls s w9 (by have := HSL.out; omega)).mono ?_
        rintro e wa ⟨v, rfl, ra, ba⟩
        rw [HSC.out] at ra ⊢
        simp only at ra ⊢
        have ra2 := ra
        obtain ⟨Aa, ca, rfl, _, _, _, _⟩ := ra2.cells1
        have HA := Lib.hid (H9.out.later ba)
        have OA := Lib.hid (O9.out.below ba)
        have RA := Lib.hid ra
        clear ra ra2 ba H9 O9
        go_wp2_with fail
        refine (held_read HA.out.held ((2 : Nat) : Int)).mono ?_
        rintro e wb ⟨Ab, cb, rfl, ob, hb, bb⟩
        rw [HRE.out, if_pos rfl, HLQ.out] at ob ⊢
        have hln : (s.take n).length = n := by simp; omega
        have HB := Lib.hid (HA.out.later bb)
        have hse : (str s).extract 0 n = str (s.take n) := by rw [str_extract]; simp
        have hsz : n ≤ (str s).size := by rw [str_size]; exact hle
        have kcv := fun q => run_string (w := wb.drewN q) 22 9 5 Try.underlying22 Try.underlying5 Try.underlying9 Ab cb (s.take n) (ob.cells.below (bdrewN (Below.refl _ _) q))
        simp only [hln] at kcv
        have hs1 : ∀ q, Calls Try.prog 33 #[.slice A9 ls.length c9, .slice Aa ls.length ca] (wb.drewN q) fun e w'' => e = .returned (.bool true) ∧ ∃ m, w'' = wb.drewN m := fun q =>
          (same_calls _ _ ls ls _ _ (wb.drewN q) (OA.out.below (bdrewN bb q)) (RA.out.below (bdrewN bb q)) (by have := HCN.out; have := HSL.out; omega) (by have := HCN.out; have := HSL.out; omega)).mono (by
          rintro e w'' ⟨rfl, k, rfl⟩
          exact ⟨by simp, _, World.drewN_drewN _ _ _⟩)
        have HS1 := Lib.hid hs1
        clear hs1
        have HSR := Lib.hid (fun q => (by have := dsure_calls g S9 D9 ((2 : Nat) : Int) (wb.drewN q) (HB.out.held.drewN q).disk; rw [HSU.out] at this; exact this : Calls Try.prog 50 #[.pointer (some ⟨g, 0, none⟩), .int .i64 2] (wb.drewN q) fun e w' => e = .returned (.int .i64 (n : Int)) ∧ wb.drewN q = w'))
        have HSL1 : Hid (∀ q, Calls Try.prog 55 #[.pointer (some ⟨gw, 0, none⟩)] (wb.drewN q) fun e w' => e = .returned (.int .i64 (ls.length : Int)) ∧ wb.drewN q = w') := Lib.hid (fun q => wlen_calls g gw _ (wb.drewN q) (HB.out.wal.below (bdrewN (Below.refl _ _) q)))
        have HSL2 : Hid (∀ q, Calls Try.prog 56 #[.pointer (some ⟨gw, 0, none⟩)] (wb.drewN q) fun e w' => e = .returned (.int .i64 (ls.length : Int)) ∧ wb.drewN q = w') := Lib.hid (fun q => wsure_calls g gw _ (wb.drewN q) (HB.out.wal.below (bdrewN (Below.refl _ _) q)))
        have HBB := Lib.hid HB.out.below
        clear ob hb bb HA OA RA hle HB HRE HLQ HCN
        have hd2 : decide ((str s).size < n) = false := by simpa using hsz
        go_upto_region 15 with fail
        go_quiet (first | (go_at_call 33; exact HS1.out _) | (go_at_call 50; exact wquiet_eq (HSR.out _)) | (go_at_call 55; exact wquiet_eq (HSL1.out _)) | (go_at_call 56; exact wquiet_eq (HSL2.out _)))
        go_wp2
        go_ret
        exact ⟨rfl, HBB.out.trans ((bdrewN (Below.refl _ _) _).mono HBB.out.size)⟩
end Go.Proofs.Ytimjadjopemefaa
