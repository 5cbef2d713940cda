/- WalApart: the walk of the law. -/
import Derived.Test.YtimjadjopemefaaWa9
set_option linter.unusedVariables false
set_option linter.unusedSimpArgs false
namespace Go.Proofs.Ytimjadjopemefaa
open Go.RowKit

/-- The two wals, the disk, and the two rows of strings. -/
structure ApRel (w : World) (g ga gb : Nat) (wr : World) (S : Nat → Prop) (xs ys us vs : List (List UInt8)) (u v : Value) : Prop where
  a : HW w wr S g ga (apD xs ys) ⟨xs.length, 0, 0, false⟩
  b : HW w wr S g gb (apD xs ys) ⟨ys.length, 0, 1, false⟩
  ra : RowA wr w.heap.size (PW S ga gb) u us
  rb : RowA wr w.heap.size (PW S ga gb) v vs
  sep : ∀ i, u.ownBlock = some i → v.ownBlock ≠ some i
section
variable {w wr w' : World} {g ga gb : Nat} {S S' : Nat → Prop} {xs ys us vs : List (List UInt8)} {u v u' v' : Value} {s : List UInt8}
theorem ApRel.later (h : ApRel w g ga gb wr S xs ys us vs u v) (hb : Below wr.heap.size wr w') : ApRel w g ga gb w' S xs ys us vs u v :=
  ⟨h.a.later hb, h.b.later hb, h.ra.later hb, h.rb.later hb, h.sep⟩
theorem ApRel.pushU (h : ApRel w g ga gb wr S xs ys us vs u v) (r : Row w' w.heap.size 9 1 u' (us.length + 1) (strs us ++ (#[.string (str s)] : Array Value).toList)) (hg : wr.grownBy w' u.ownBlock) (o : u'.ownBlock = u.ownBlock ∨ ∃ b, u'.ownBlock = some b ∧ wr.heap.size ≤ b) :
    ApRel w g ga gb w' S xs ys (us ++ [s]) vs u' v := by
  have hu := upd_row hg
  have hT : ∀ i, u.ownBlock = some i → ¬ PW S ga gb i := h.ra.out
  refine ⟨h.a.upd hu (fun i e => ⟨fun hs => hT i e (.inl hs), fun hs => hT i e (.inr (.inl hs)), (h.ra.row.lt i e).1⟩), h.b.upd hu (fun i e => ⟨fun hs => hT i e (.inl hs), fun hs => hT i e (.inr (.inr hs)), (h.ra.row.lt i e).1⟩), h.ra.push r o (h.a.pw h.b), h.rb.upd hu h.sep, fun i e => ?_⟩
  rcases o with o | ⟨b, o, hb⟩
  · exact h.sep i (o ▸ e)
  · intro e2
    rw [o] at e; cases e
    have := (h.rb.row.lt _ e2).2; omega
theorem ApRel.pushV (h : ApRel w g ga gb wr S xs ys us vs u v) (r : Row w' w.heap.size 9 1 v' (vs.length + 1) (strs vs ++ (#[.string (str s)] : Array Value).toList)) (hg : wr.grownBy w' v.ownBlock) (o : v'.ownBlock = v.ownBlock ∨ ∃ b, v'.ownBlock = some b ∧ wr.heap.size ≤ b) :
    ApRel w g ga gb w' S xs ys us (vs ++ [s]) u v' := by
  have hu := upd_row hg
  have hT : ∀ i, v.ownBlock = some i → ¬ PW S ga gb i := h.rb.out
  refine ⟨h.a.upd hu (fun i e => ⟨fun hs => hT i e (.inl hs), fun hs => hT i e (.inr (.inl hs)), (h.rb.row.lt i e).1⟩), h.b.upd hu (fun i e => ⟨fun hs => hT i e (.inl hs), fun hs => hT i e (.inr (.inr hs)), (h.rb.row.lt i e).1⟩), h.ra.upd hu (fun i e e2 => h.sep i e2 e), h.rb.push r o (h.a.pw h.b), fun i e => ?_⟩
  rcases o with o | ⟨b, o, hb⟩
  · rw [o]; exact h.sep i e
  · intro e2
    rw [o] at e2; cases e2
    have := (h.ra.row.lt _ e).2; omega
theorem ApRel.walA (h : ApRel w g ga gb wr S xs ys us vs u v) (hne : ga ≠ gb) {xs' : List (List UInt8)} (k : HW w w' S' g ga (apD xs' ys) ⟨xs'.length, 0, 0, false⟩) (hg : GrewW S S' ga wr w') : ApRel w g ga gb w' S' xs' ys us vs u v :=
  ⟨k, h.b.beside k hg (Ne.symm hne), h.ra.wal hg (.inl rfl), h.rb.wal hg (.inl rfl), h.sep⟩
theorem ApRel.walB (h : ApRel w g ga gb wr S xs ys us vs u v) (hne : ga ≠ gb) {ys' : List (List UInt8)} (k : HW w w' S' g gb (apD xs ys') ⟨ys'.length, 0, 1, false⟩) (hg : GrewW S S' gb wr w') : ApRel w g ga gb w' S' xs ys' us vs u v :=
  ⟨h.a.beside k hg hne, k, h.ra.wal hg (.inr rfl), h.rb.wal hg (.inr rfl), h.sep⟩
end

theorem push_last {α : Type} (xs : List α) (x : α) (k : Nat) (h : xs.length = k) : (xs ++ [x])[k]? = some x := by subst h; simp

set_option maxHeartbeats 4000000 in
set_option maxRecDepth 100000 in
theorem walApart_walk (A : Option Addr) (n0 c : Nat) (ls : List (List UInt8)) (B : Option Addr) (m0 d : Nat) (ms : List (List UInt8)) (w : World) (w0 : n0 = ls.length ∧ Cells w A (strs ls) ∧ ∀ l ∈ ls, l.length ≤ 9223372036854775807) (w1 : m0 = ms.length ∧ Cells w B (strs ms) ∧ ∀ l ∈ ms, l.length ≤ 9223372036854775807) :
    Calls Try.prog 18 #[.slice A n0 c, .slice B m0 d] w fun e w' => e = .returned (.bool true) ∧ Below w.heap.size w w' := by
  obtain ⟨rfl, hA, hl1⟩ := w0
  obtain ⟨rfl, hB, hl2⟩ := w1
  have hn1 : ls.length ≤ 9223372036854775807 := by have := hA.small; rwa [strs_length] at this
  have hn2 : ms.length ≤ 9223372036854775807 := by have := hB.small; rwa [strs_length] at this
  have HA := Lib.hid hA
  have HB := Lib.hid hB
  clear hA hB hl1 hl2
  go_enter Try.func18, Try.ntmps18
  go_wp2_with fail
  refine (held_new 2 w w (Below.refl _ _) (by decide) (by decide)).mono ?_
  rintro e w1 ⟨g, S1, rfl, h1, _⟩
  have H1 := Lib.hid h1
  clear h1
  go_wp2_with fail
  refine (wopen_fresh H1.out (i := 0) (by decide)).mono ?_
  rintro e w2 ⟨S2, ga, A2, c2, rfl, h2, _, _⟩
  have H2 := Lib.hid h2
  clear h2 H1
  go_wp2_with fail
  refine (wopen_fresh H2.out.held (i := 1) (by decide)).mono ?_
  rintro e w3 ⟨S3, gb, A3, c3, rfl, h3, g3, l3⟩
  have hne : ga ≠ gb := by have := H2.out.lt; omega
  have h3a := H2.out.disk h3.held g3
  have H3 := Lib.hid h3
  have H3A := Lib.hid h3a
  have HNE := Lib.hid hne
  clear h3 h3a g3 l3 H2 hne
  go_wp2_with fail
  refine (wawake_calls w3).mono ?_
  rintro e w4 ⟨rfl, b4⟩
  have a4 := H3A.out.later b4
  have b4' := H3.out.later b4
  have ra4 := RowA.new (P := PW S3 ga gb) w4 w.heap.size a4.below.size (a4.pw b4')
  have bel5 := below_one w4 (.cells #[] 9)
  have a5 := a4.later bel5
  have b5' := b4'.later bel5
  have rb5 := RowA.new (P := PW S3 ga gb) (w4.alloc (.cells #[] 9)) w.heap.size a5.below.size (a5.pw b5')
  have bel6 := below_one (w4.alloc (.cells #[] 9)) (.cells #[] 9)
  have R0 : Hid (ApRel w g ga gb ((w4.alloc (.cells #[] 9)).alloc (.cells #[] 9)) S3 (cutS 0 ls) (cutS 0 ms) (cutS 0 ls) (cutS 0 ms) (.slice (some ⟨w4.heap.size, 0, none⟩) 0 0) (.slice (some ⟨w4.heap.size + 1, 0, none⟩) 0 0)) :=
    Lib.hid ⟨a5.later bel6, b5'.later bel6, ra4.later bel6, by have q := rb5; simp at q; exact q, fun i e => by simp [Value.ownBlock] at e ⊢; omega⟩
  clear b4 a4 b4' ra4 bel5 a5 b5' rb5 bel6 H3 H3A
  go_upto_region 7 with fail
  generalize (w4.alloc (.cells #[] 9)).alloc (.cells #[] 9) = W0 at R0 ⊢
  generalize Value.slice (some ⟨w4.heap.size, 0, none⟩) 0 0 = u0 at R0 ⊢
  generalize Value.slice (some ⟨w4.heap.size + 1, 0, none⟩) 0 0 = v0 at R0 ⊢
  go_wp2
  go_loopw [13, 14, 15] (fun u v i wr => ∃ k : Nat, k ≤ 8 ∧ i = .int .i64 k ∧ ∃ S, ApRel w g ga gb wr S (cutS k ls) (cutS k ms) (cutS k ls) (cutS k ms) u v) (fun _ _ i _ => 8 - (intOf i).toNat)
  case atStart => exact ⟨0, Nat.zero_le _, rfl, S3, R0.out⟩
  case round =>
    obtain ⟨k, hk, rfl, S, hr⟩ := hrel
    have R := Lib.hid hr
    clear hr R0
    by_cases hlt : k < 8
    · rcases Nat.lt_or_ge k ls.length with h1 | h1
      case' inl =>
        obtain ⟨s, hs⟩ : ∃ s, s = ls[k] := ⟨_, rfl⟩
        obtain ⟨ad, rfl, hcell⟩ := (HA.out.below R.out.a.below).strAt k h1
        rw [← hs] at hcell
        have HCUT := Lib.hid (cutS_succ h1)
        rw [← hs] at HCUT
        clear hs
        have hd1 : (k : Int) < (ls.length : Int) := by omega
        go_wp2_with fail
        refine (wfewS_calls s wr).mono ?_
        rintro e w5 ⟨rfl, b5⟩
        obtain ⟨x, hx⟩ : ∃ x, x = s.take 1000 := ⟨_, rfl⟩
        rw [← hx] at HCUT ⊢
        have hxl : x.length ≤ 1000 := by rw [hx]; simp; omega
        have HXL := Lib.hid hxl
        have R5 := Lib.hid (R.out.later b5)
        clear hx hxl b5 R hcell
        have kf := fun w => Try.fieldS2 w 0 0 (str x) none 0 0
        go_wp2_with (with_reducible refine halt_dst 79 ?_)
        have hlu := cutS_len k ls
        refine wpList_append_lit rfl (.tmp 70) (.tmp 78) 42 rfl w.heap.size 9 (.string ByteArray.empty) 1 16 Try.underlying42 Try.info9 rfl (by decide) u13 _ _ rfl R5.out.ra.row 1 1 #[.string (str x)] rfl rfl (fun u hu => by simp at hu; subst hu; rfl) (by simp only [maxLen]; omega) (by omega) R5.out.a.below.size (by simp) ?_
        intro v6 w6 r6 g6 o6
        have r6' := R5.out.pushU r6 g6 o6
        rw [← HCUT.out] at r6'
        have r6r := r6'.ra.row
        obtain ⟨A6, c6, rfl, _, _, hc6, _⟩ := r6r.cells1
        have hget : (cutS (k + 1) ls)[k]? = some x := by rw [HCUT.out]; exact push_last _ _ _ (by omega)
        obtain ⟨ad6, rfl, hcell6⟩ := hc6.get k (.string (str x)) (by simp [strs, hget])
        have hlen6 : (k : Int) < ((cutS (k + 1) ls).length : Int) := by rw [cutS_len]; omega
        have hlen6' : k < (cutS (k + 1) ls).length := by rw [cutS_len]; omega
        have R6 := Lib.hid r6'
        clear r6 g6 o6 r6' r6r hc6 hget hlu
        go_wp2_with (with_reducible refine halt_dst 85 ?_)
        refine wpList_bytes rfl (.tmp 84) 9 22 rfl Try.underlying9 Try.underlying22 Try.underlying5 x rfl ?_
        intro c7 w7 hc7 by7 b7 sz7
        have hB7 := by7.cells (by have := HXL.out; omega)
        have R7 := Lib.hid (R6.out.later b7)
        have HB7 := Lib.hid hB7
        obtain ⟨e1, e2⟩ := apD_app0 (xs := cutS k ls) (ys := cutS k ms) (s := x) (cutS_frames hk ls) HXL.out
        have E1 := Lib.hid e1
        have E2 := Lib.hid e2
        have hac : (apD (cutS k ls) (cutS k ms)).acts < 1000000000 := by show (cutS k ls).length + (cutS k ms).length < 1000000000; rw [cutS_len, cutS_len]; omega
        have HAC := Lib.hid hac
        have hla : (cutS k ls).length < 1000000000 := by rw [cutS_len]; omega
        have HLA := Lib.hid hla
        clear by7 b7 sz7 hc7 hB7 R6 R5 e1 e2 hac hla hcell6 hlen6 hlen6'
        go_wp2_with fail
        refine (wappend_calls R7.out.a _ _ _ x rfl HB7.out (by have := HXL.out; omega) rfl HAC.out HLA.out).mono ?_
        rintro e wx ⟨rfl, Sx, hx, gx⟩
        rw [show (⟨(cutS k ls).length, 0, 0, false⟩ : WS).log = 0 from rfl] at hx ⊢
        rw [E1.out, E2.out] at hx
        rw [E1.out]
        have hx2 : HW w wx Sx g ga (apD (cutS k ls ++ [x]) (cutS k ms)) ⟨(cutS k ls ++ [x]).length, 0, 0, false⟩ := by
          have e : (⟨(cutS k ls ++ [x]).length, 0, 0, false⟩ : WS) = WS.app ⟨(cutS k ls).length, 0, 0, false⟩ 0 := by simp [WS.app]
          rw [e]; exact hx
        have hq := R7.out.walA HNE.out hx2 gx
        rw [← HCUT.out] at hq
        have HX := Lib.hid hq
        clear hx hx2 gx hq R7 HB7 E1 E2 HAC HLA HCUT HXL
        go_upto_region 14 with fail
      case' inr =>
        have hd1 : ¬ (k : Int) < (ls.length : Int) := by omega
        have hq := R.out
        rw [← cutS_end (k := k) (a := ls) h1] at hq
        have HX := Lib.hid hq
        clear R hq
        obtain ⟨wx, rfl⟩ : ∃ wx, wx = wr := ⟨_, rfl⟩
        obtain ⟨Sx, rfl⟩ : ∃ Sx, Sx = S := ⟨_, rfl⟩
        go_upto_region 14 with fail
      all_goals
        rcases Nat.lt_or_ge k ms.length with h2 | h2
        case inl =>
          obtain ⟨s, hs⟩ : ∃ s, s = ms[k] := ⟨_, rfl⟩
          obtain ⟨ad, rfl, hcell⟩ := (HB.out.below HX.out.a.below).strAt k h2
          rw [← hs] at hcell
          have HCUT := Lib.hid (cutS_succ h2)
          rw [← hs] at HCUT
          clear hs
          have hd1 : (k : Int) < (ms.length : Int) := by omega
          go_wp2_with fail
          refine (wfewS_calls s wx).mono ?_
          rintro e w5 ⟨rfl, b5⟩
          obtain ⟨x, hx⟩ : ∃ x, x = s.take 1000 := ⟨_, rfl⟩
          rw [← hx] at HCUT ⊢
          have hxl : x.length ≤ 1000 := by rw [hx]; simp; omega
          have HXL := Lib.hid hxl
          have R5 := Lib.hid (HX.out.later b5)
          clear hx hxl b5 HX hcell
          have kf := fun w => Try.fieldS2 w 0 0 (str x) none 0 0
          go_wp2_with (with_reducible refine halt_dst 101 ?_)
          have hlu := cutS_len k ms
          refine wpList_append_lit rfl (.tmp 92) (.tmp 100) 42 rfl w.heap.size 9 (.string ByteArray.empty) 1 16 Try.underlying42 Try.info9 rfl (by decide) u14 _ _ rfl R5.out.rb.row 1 1 #[.string (str x)] rfl rfl (fun u hu => by simp at hu; subst hu; rfl) (by simp only [maxLen]; omega) (by omega) R5.out.a.below.size (by simp) ?_
          intro v6 w6 r6 g6 o6
          have r6' := R5.out.pushV r6 g6 o6
          rw [← HCUT.out] at r6'
          have r6r := r6'.rb.row
          obtain ⟨A6, c6, rfl, _, _, hc6, _⟩ := r6r.cells1
          have hget : (cutS (k + 1) ms)[k]? = some x := by rw [HCUT.out]; exact push_last _ _ _ (by omega)
          obtain ⟨ad6, rfl, hcell6⟩ := hc6.get k (.string (str x)) (by simp [strs, hget])
          have hlen6 : (k : Int) < ((cutS (k + 1) ms).length : Int) := by rw [cutS_len]; omega
          have hlen6' : k < (cutS (k + 1) ms).length := by rw [cutS_len]; omega
          have R6 := Lib.hid r6'
          clear r6 g6 o6 r6' r6r hc6 hget hlu
          go_wp2_with (with_reducible refine halt_dst 107 ?_)
          refine wpList_bytes rfl (.tmp 106) 9 22 rfl Try.underlying9 Try.underlying22 Try.underlying5 x rfl ?_
          intro c7 w7 hc7 by7 b7 sz7
          have hB7 := by7.cells (by have := HXL.out; omega)
          have R7 := Lib.hid (R6.out.later b7)
          have HB7 := Lib.hid hB7
          obtain ⟨e1, e2⟩ := apD_app1 (xs := cutS (k + 1) ls) (ys := cutS k ms) (s := x) (cutS_frames hk ms) HXL.out
          have E1 := Lib.hid e1
          have E2 := Lib.hid e2
          have hac : (apD (cutS (k + 1) ls) (cutS k ms)).acts < 1000000000 := by show (cutS (k + 1) ls).length + (cutS k ms).length < 1000000000; rw [cutS_len, cutS_len]; omega
          have HAC := Lib.hid hac
          have hla : (cutS k ms).length < 1000000000 := by rw [cutS_len]; omega
          have HLA := Lib.hid hla
          clear by7 b7 sz7 hc7 hB7 R6 R5 e1 e2 hac hla hcell6 hlen6 hlen6'
          go_wp2_with fail
          refine (wappend_calls R7.out.b _ _ _ x rfl HB7.out (by have := HXL.out; omega) rfl HAC.out HLA.out).mono ?_
          rintro e wy ⟨rfl, Sy, hx, gx⟩
          rw [show (⟨(cutS k ms).length, 0, 1, false⟩ : WS).log = 1 from rfl] at hx ⊢
          rw [E1.out, E2.out] at hx
          rw [E1.out]
          have hx2 : HW w wy Sy g gb (apD (cutS (k + 1) ls) (cutS k ms ++ [x])) ⟨(cutS k ms ++ [x]).length, 0, 1, false⟩ := by
            have e : (⟨(cutS k ms ++ [x]).length, 0, 1, false⟩ : WS) = WS.app ⟨(cutS k ms).length, 0, 1, false⟩ 0 := by simp [WS.app]
            rw [e]; exact hx
          have hq := R7.out.walB HNE.out hx2 gx
          rw [← HCUT.out] at hq
          have HY := Lib.hid hq
          clear hx hx2 gx hq R7 HB7 E1 E2 HAC HLA HCUT HXL
          go_wp2
          go_roundw
          case rel => exact ⟨k + 1, by omega, by go_num, _, HY.out⟩
          case measure => simp [intOf]; omega
        case inr =>
          have hd1 : ¬ (k : Int) < (ms.length : Int) := by omega
          have hq := HX.out
          rw [← cutS_end (k := k) (a := ms) h2] at hq
          have HY := Lib.hid hq
          clear HX hq
          go_wp2
          go_roundw
          case rel => exact ⟨k + 1, by omega, by go_num, _, HY.out⟩
          case measure => simp [intOf]; omega
    · obtain rfl : k = 8 := by omega
      have hfr := cutS_frames (k := 8) (Nat.le_refl _) ls
      have hsm := cutS_small 8 ls
      have hln1 := cutS_len 8 ls
      have hln2 := cutS_len 8 ms
      have hr := R.out
      obtain ⟨xs, hxs⟩ : ∃ xs, xs = cutS 8 ls := ⟨_, rfl⟩
      obtain ⟨ys, hys⟩ : ∃ ys, ys = cutS 8 ms := ⟨_, rfl⟩
      rw [← hxs] at hfr hsm hln1 hr
      rw [← hys] at hln2 hr
      have hx8 : xs.length ≤ 8 := by omega
      have hy8 : ys.length ≤ 8 := by omega
      obtain ⟨s1, s2⟩ := apD_sync (xs := xs) (ys := ys) hfr
      obtain ⟨o1, o2, o3⟩ := apF_open0 (xs := xs) (ys := ys) hfr hsm
      have hac : (apD xs ys).acts < 1000000000 := by show xs.length + ys.length < 1000000000; omega
      have haf : (apF xs ys).acts < 1000000000 := by show xs.length + ys.length + 1 < 1000000000; omega
      have R1 := Lib.hid hr
      have S1 := Lib.hid s1
      have S2 := Lib.hid s2
      have O1 := Lib.hid o1
      have O2 := Lib.hid o2
      have O3 := Lib.hid o3
      have HAC := Lib.hid hac
      have HAF := Lib.hid haf
      have HX8 := Lib.hid hx8
      clear hfr hsm hln1 hln2 hxs hys hr hx8 hy8 s1 s2 o1 o2 o3 hac haf R HA HB
      go_wp2_with fail
      refine (wsync_calls R1.out.a rfl HAC.out).mono ?_
      rintro e w5 ⟨rfl, S5, h5, g5⟩
      rw [show (⟨xs.length, 0, 0, false⟩ : WS).log = 0 from rfl] at h5 ⊢
      rw [S2.out] at h5
      rw [S1.out]
      have B5 := Lib.hid (R1.out.b.beside h5 g5 (Ne.symm HNE.out))
      have RA5 := Lib.hid (R1.out.ra.wal g5 (.inl rfl))
      have RB5 := Lib.hid (R1.out.rb.wal g5 (.inl rfl))
      clear h5 g5 R1 S1 S2 HAC HNE
      go_wp2_with fail
      refine (wsure_calls g gb _ w5 B5.out.wal).mono ?_
      rintro e w' ⟨rfl, rfl⟩
      go_wp2_with fail
      refine (held_crash B5.out.held (Below.refl _ _) none 0 0 [] rfl (Cells.nil _ _) (by simp)).mono ?_
      rintro e w6 ⟨rfl, S6, h6, g6⟩
      have B6 := Lib.hid (B5.out.disk h6 g6)
      have RA6 := Lib.hid (RA5.out.disk g6)
      have RB6 := Lib.hid (RB5.out.disk g6)
      clear h6 g6 B5 RA5 RB5
      go_wp2_with fail
      refine (held_up B6.out.held).mono ?_
      rintro e w7 ⟨rfl, S7, h7, g7⟩
      rw [apE_crash] at h7
      have B7 := Lib.hid (B6.out.disk h7 g7)
      have RA7 := Lib.hid (RA6.out.disk g7)
      have RB7 := Lib.hid (RB6.out.disk g7)
      clear h7 g7 B6 RA6 RB6
      go_wp2_with fail
      refine (wopen_calls B7.out.held 0 HAF.out).mono ?_
      rintro e w8 ho
      obtain ⟨S8, gc, v8, rfl, h8, g8, _, l8⟩ := opened_ok B7.out.below.size ho O1.out O2.out O3.out
      have B8 := Lib.hid (B7.out.disk h8.held g8)
      have RA8 := Lib.hid (RA7.out.disk g8)
      have RB8 := Lib.hid (RB7.out.disk g8)
      have L8 := Lib.hid l8
      clear ho h8 g8 l8 B7 RA7 RB7 O1 O2 O3
      go_wp2_with fail
      refine (wopen_calls B8.out.held 1 HAF.out).mono ?_
      rintro e w9 ho
      obtain ⟨S9, gd, v9, rfl, h9, g9, _, l9⟩ := opened_ok B8.out.below.size ho apF_open1.1 apF_open1.2.1 apF_open1.2.2.2
      have b9 := ho.quiet apF_open1.2.2.1
      obtain ⟨vs9, r9, _⟩ := l9.row
      obtain ⟨A9, c9, rfl, _, _, _, _⟩ := r9.cells1
      have B9 := Lib.hid (B8.out.later b9)
      have RA9 := Lib.hid (RA8.out.later b9)
      have hrb := (RB8.out.later b9).row
      obtain ⟨Ab, cb, rfl, _, _, _, _⟩ := hrb.cells1
      have L9 := Lib.hid (L8.out.below b9)
      clear ho h9 g9 l9 r9 b9 hrb B8 RA8 RB8 L8
      go_wp2_with fail
      refine (same_calls _ _ xs xs _ _ w9 L9.out RA9.out.row (by have := HX8.out; omega) (by have := HX8.out; omega)).mono ?_
      rintro e wa ⟨rfl, q, rfl⟩
      rw [show decide (xs = xs) = true from by simp]
      have BB := Lib.hid (B9.out.later (bdrewN (Below.refl _ _) q))
      clear B9 RA9 L9
      go_wp2_with fail
      refine (wlen_calls g gb _ _ BB.out.wal).mono ?_
      rintro e w' ⟨rfl, rfl⟩
      have HBB := Lib.hid BB.out.below
      clear BB
      go_wp2
      go_ret
      exact ⟨rfl, HBB.out⟩
end Go.Proofs.Ytimjadjopemefaa
