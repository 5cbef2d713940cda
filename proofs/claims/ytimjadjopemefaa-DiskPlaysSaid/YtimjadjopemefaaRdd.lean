/- DiskPlays: the walk of told. -/
import Derived.Test.YtimjadjopemefaaRdb
set_option linter.unusedVariables false
set_option linter.unusedSimpArgs false
namespace Go.Proofs.Ytimjadjopemefaa
open Go.RowKit

theorem quietD {P : Program} {f : FuncId} {args : Array Value} {w : World} {n : Nat} {v : Value}
    (h : Calls P f args (w.drewN n) fun e w' => e = .returned v ∧ w.drewN n = w') : Calls P f args (w.drewN n) fun e w'' => e = .returned v ∧ ∃ m, w'' = w.drewN m :=
  h.mono fun _ _ ⟨he, hm⟩ => ⟨he, n, hm.symm⟩

set_option maxHeartbeats 4000000 in
set_option maxRecDepth 100000 in
theorem told_calls (S : Nat → Prop) (g : Nat) (D : DS) (A : Option Addr) (c : Nat) (B : Option Addr) (d : Nat) (w : World) (h : IsDisk w S g D) (hA : Cells w A (lgs D.logs)) (hl : D.logs.length ≤ 16) :
    Calls Try.prog 46 #[.pointer (some ⟨g, 0, none⟩), .agg #[.slice A D.logs.length c, .int .i64 (D.acts : Int), .bool D.down, .int .i64 D.armed, .slice B D.keep.length d]] w fun e w' => e = .returned (.bool true) ∧ Below w.heap.size w w' := by
  have b0 := below_one w (.cells #[.slice A D.logs.length c, .int .i64 (D.acts : Int), .bool D.down, .int .i64 D.armed, .slice B D.keep.length d] 70)
  have n0 := Blk.new w 70 #[.slice A D.logs.length c, .int .i64 (D.acts : Int), .bool D.down, .int .i64 D.armed, .slice B D.keep.length d]
  obtain ⟨W0, hW0⟩ : ∃ W0, W0 = w.alloc (.cells #[.slice A D.logs.length c, .int .i64 (D.acts : Int), .bool D.down, .int .i64 D.armed, .slice B D.keep.length d] 70) := ⟨_, rfl⟩
  rw [← hW0] at b0 n0
  have H := Lib.hid (h.below b0)
  have HA := Lib.hid (hA.below b0)
  have B0 := Lib.hid b0
  have N0 := Lib.hid n0
  have HL := Lib.hid hl
  have HW0 := Lib.hid hW0
  clear h hA b0 n0 hl hW0
  have hs1 : D.sure (-1) = 0 := by simp [DS.sure, DS.has]
  have hs2 : D.sure (D.logs.length : Int) = 0 := by simp [DS.sure, DS.has]
  have K1 := Lib.hid (fun q => (ddown_calls g S D (W0.drewN q) (H.out.below (bdrewN (Below.refl _ _) q))))
  have K2 := Lib.hid (fun q => (dacts_calls g S D (W0.drewN q) (H.out.below (bdrewN (Below.refl _ _) q))))
  have K3 := Lib.hid (fun q => (by have := dsure_calls g S D (-1) (W0.drewN q) (H.out.below (bdrewN (Below.refl _ _) q)); rw [hs1] at this; exact this : Calls Try.prog 50 #[.pointer (some ⟨g, 0, none⟩), .int .i64 (-1)] (W0.drewN q) fun e w' => e = .returned (.int .i64 0) ∧ W0.drewN q = w'))
  have K4 := Lib.hid (fun q => (by have := dsure_calls g S D (D.logs.length : Int) (W0.drewN q) (H.out.below (bdrewN (Below.refl _ _) q)); rw [hs2] at this; exact this : Calls Try.prog 50 #[.pointer (some ⟨g, 0, none⟩), .int .i64 (D.logs.length : Int)] (W0.drewN q) fun e w' => e = .returned (.int .i64 0) ∧ W0.drewN q = w'))
  clear hs1 hs2
  go_enter Try.func46, Try.ntmps46
  go_upto_region 1 with fail
  rw [← HW0.out]
  obtain ⟨⟨x0, x1, x2, x3, x4⟩, _⟩ := blk5 N0.out
  go_quiet (first | (go_at_call 41; with_reducible exact quietD (K1.out _)) | (go_at_call 48; with_reducible exact quietD (K2.out _)) | (go_at_call 50; with_reducible exact quietD (K3.out _)) | (go_at_call 50; with_reducible exact quietD (K4.out _)))
  clear K1 K2 K3 K4 x0 x1 x2 x3 x4
  go_wp2
  go_loopw [5] (fun i wr => ∃ k : Nat, k ≤ D.logs.length ∧ i = .int .i64 k ∧ Below W0.heap.size W0 wr) (fun i _ => D.logs.length - (intOf i).toNat)
  case atStart => exact ⟨0, Nat.zero_le _, rfl, bdrewN (Below.refl _ _) _⟩
  case round =>
    obtain ⟨k, hk, rfl, hb⟩ := hrel
    have BW := Lib.hid hb
    obtain ⟨⟨x0, x1, x2, x3, x4⟩, _⟩ := blk5 (N0.out.below hb)
    by_cases hlt : k < D.logs.length
    · have hl16 := HL.out
      have hhas : D.has (k : Int) = true := DS.has_iff.2 ⟨k, rfl, hlt⟩
      have hlog : D.log (k : Int) = D.logs[k] := DS.log_at hlt
      obtain ⟨b, hbe⟩ : ∃ b, b = D.logs[k].1 := ⟨_, rfl⟩
      obtain ⟨s, hse⟩ : ∃ s, s = D.logs[k].2 := ⟨_, rfl⟩
      have hsm := H.out.small k hlt
      rw [← hbe, ← hse] at hsm
      obtain ⟨ad, rfl, hcell⟩ := (HA.out.below hb).at_ (by rw [lgs_length]; omega)
      obtain ⟨l0, l1⟩ := lgs_get D.logs k hlt
      have e0 := hcell _ _ l0
      rw [← hbe, ← hse] at e0
      have hsz : (str (b.take s)).size = s := by rw [str_size]; simp; omega
      have hss : D.sure (k : Int) = s := by unfold DS.sure; rw [if_pos hhas, hlog, hse]
      have K3 := Lib.hid (fun q => (by have := dsure_calls g S D (k : Int) (wr.drewN q) (H.out.below (hb.trans ((bdrewN (Below.refl _ _) q).mono hb.size))); rw [hss] at this; exact this : Calls Try.prog 50 #[.pointer (some ⟨g, 0, none⟩), .int .i64 (k : Int)] (wr.drewN q) fun e w' => e = .returned (.int .i64 (s : Int)) ∧ wr.drewN q = w'))
      have HRB := Lib.hid (fun W (h : Below W0.heap.size W0 W) => (by have := rbytes_calls (some ad) B c d D (k : Int) W (HA.out.below h) HL.out (fun j h => (H.out.small j h).1); rw [hhas, if_pos rfl, hlog, ← hbe] at this; exact this : Calls Try.prog 65 #[.agg #[.slice (some ad) D.logs.length c, .int .i64 (D.acts : Int), .bool D.down, .int .i64 D.armed, .slice B D.keep.length d], .int .i64 (k : Int)] W fun e w' => e = .returned (.tuple #[.string (str b), .bool true]) ∧ Below W.heap.size W w'))
      have HRD := Lib.hid (fun W (h : Below W0.heap.size W0 W) => (by have := dread_calls g S D (k : Int) W (H.out.below h); rw [hlog, ← hbe] at this; exact this : Calls Try.prog 43 #[.pointer (some ⟨g, 0, none⟩), .int .i64 (k : Int)] W fun e w' => ∃ v, e = .returned (.tuple #[v, .int .i64 (D.readErr (k : Int))]) ∧ Row w' W.heap.size 5 1 v (if D.readErr (k : Int) = 0 then b.length else 0) (byts (if D.readErr (k : Int) = 0 then b else [])) ∧ Below W.heap.size W w'))
      have hre : D.readErr (k : Int) = if D.down then 71 else 0 := by unfold DS.readErr; rw [if_pos hhas]
      have HRE := Lib.hid hre
      have hbd : b.length ≤ 4194304 := hsm.1
      have N0k := Lib.hid (fun W (h : Below W0.heap.size W0 W) => blk5 (N0.out.below h))
      have hz0 : ¬ D.logs.length ≤ k := by omega
      clear hhas hlog hbe hse hcell l0 l1 hss hre hb hsm HA
      go_upto_region 6 with fail
      go_quiet (first | (go_at_call 50; with_reducible exact quietD (K3.out _)))
      clear K3 hsz e0 x0 x1 x2 x3 x4
      have hb1 : Below W0.heap.size W0 (wr.drewN nq) := bdrewN BW.out nq
      generalize wr.drewN nq = w1 at hb1 ⊢
      have HB1 := Lib.hid hb1
      obtain ⟨⟨x0, x1, x2, x3, x4⟩, _⟩ := N0k.out w1 hb1
      clear hb1
      go_wp2_with fail
      refine (HRD.out w1 HB1.out).mono ?_
      rintro e w2 ⟨v, rfl, r2, b2⟩
      clear x0 x1 x2 x3 x4
      have hb2 := HB1.out.trans (b2.mono HB1.out.size)
      obtain ⟨⟨x0, x1, x2, x3, x4⟩, _⟩ := N0k.out w2 hb2
      have HB2 := Lib.hid hb2
      clear hb2 b2 HRD
      rcases (show D.down = true ∨ D.down = false by cases D.down <;> simp) with hd | hd
      · have hre : D.readErr (k : Int) = 71 := by rw [HRE.out, hd]; rfl
        rw [hre] at r2 ⊢
        rw [if_neg (by decide), if_neg (by decide)] at r2
        obtain ⟨A2, c2, rfl, _, _, _, _⟩ := r2.cells1
        have HD := Lib.hid hd
        clear r2 hre HRE hd
        go_wp2_with fail
        refine (HRB.out w2 HB2.out).mono ?_
        rintro e w3 ⟨rfl, b3⟩
        have hb3 := HB2.out.trans (b3.mono HB2.out.size)
        clear x0 x1 x2 x3 x4
        obtain ⟨⟨x0, x1, x2, x3, x4⟩, _⟩ := N0k.out w3 hb3
        rw [HD.out] at x2
        have HB3 := Lib.hid hb3
        clear hb3 b3 HRB HB2
        go_wp2
        go_roundw
        case rel => exact ⟨k + 1, by omega, by go_num, HB3.out⟩
        case measure => simp [intOf]; omega
      · have hre : D.readErr (k : Int) = 0 := by rw [HRE.out, hd]; rfl
        rw [hre] at r2 ⊢
        rw [if_pos rfl, if_pos rfl] at r2
        obtain ⟨A2, c2, rfl, _, _, h2, _⟩ := r2.cells1
        have HD := Lib.hid hd
        have C2 := Lib.hid h2
        clear r2 hre HRE hd h2
        go_wp2_with fail
        refine (HRB.out w2 HB2.out).mono ?_
        rintro e w3 ⟨rfl, b3⟩
        have hb3 := HB2.out.trans (b3.mono HB2.out.size)
        clear x0 x1 x2 x3 x4
        obtain ⟨⟨x0, x1, x2, x3, x4⟩, _⟩ := N0k.out w3 hb3
        rw [HD.out] at x2
        have kcv := run_string (P := Try.prog) (w := w3) 22 9 5 Try.underlying22 Try.underlying5 Try.underlying9 A2 c2 b (C2.out.below b3)
        have HB3 := Lib.hid hb3
        clear hb3 b3 HRB HB2
        go_wp2
        go_roundw
        case rel => exact ⟨k + 1, by omega, by go_num, HB3.out⟩
        case measure => simp [intOf]; omega
    · obtain rfl : k = D.logs.length := by omega
      have BF := Lib.hid (B0.out.trans (hb.mono B0.out.size))
      clear hb hk
      go_wp2
      go_ret
      exact ⟨rfl, BF.out⟩
end Go.Proofs.Ytimjadjopemefaa
