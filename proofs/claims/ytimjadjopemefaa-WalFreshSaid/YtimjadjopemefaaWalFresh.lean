/- WalFresh: the walk of the law. -/
import Derived.Test.YtimjadjopemefaaWb1
import Derived.OpenShut
set_option linter.unusedVariables false
set_option linter.unusedSimpArgs false
namespace Go.Proofs.Ytimjadjopemefaa
open Go.RowKit

theorem bit0 {a : Int} (h1 : 0 ≤ a) (h2 : a ≤ 255) : bits BinOp.and IntKind.u8 a 1 = 0 ∨ bits BinOp.and IntKind.u8 a 1 = 1 := by
  have h : ∀ n : Fin 256, bits BinOp.and IntKind.u8 ((n.val : Nat) : Int) 1 = 0 ∨ bits BinOp.and IntKind.u8 ((n.val : Nat) : Int) 1 = 1 := by decide +kernel
  obtain ⟨n, rfl⟩ : ∃ n : Nat, a = (n : Int) := ⟨a.toNat, by omega⟩
  exact h ⟨n, by omega⟩

set_option maxHeartbeats 4000000 in
set_option maxRecDepth 100000 in
theorem walFresh_walk (A : Option Addr) (n0 c : Nat) (ls : List (List UInt8)) (B : Option Addr) (m0 d : Nat) (ms : List (List UInt8)) (a2 : Int) (w : World) (w0 : n0 = ls.length ∧ Cells w A (strs ls) ∧ ∀ l ∈ ls, l.length ≤ 9223372036854775807) (w1 : m0 = ms.length ∧ Cells w B (strs ms) ∧ ∀ l ∈ ms, l.length ≤ 9223372036854775807) (w2 : (Lit.int .u8 a2).wf = true) :
    Calls Try.prog 21 #[.slice A n0 c, .slice B m0 d, .int .u8 a2] w fun e w' => e = .returned (.bool true) ∧ Below w.heap.size w w' := by
  obtain ⟨rfl, hA, hl1⟩ := w0
  obtain ⟨rfl, hB, hl2⟩ := w1
  have hn1 : ls.length ≤ 9223372036854775807 := by have := hA.small; rwa [strs_length] at this
  have hn2 : ms.length ≤ 9223372036854775807 := by have := hB.small; rwa [strs_length] at this
  obtain ⟨hr1, hr2⟩ := Go.bounds_u8 w2
  have HA := Lib.hid hA
  have HB := Lib.hid hB
  clear hA hB hl1 hl2 w2
  go_enter Try.func21, Try.ntmps21
  go_wp2_with fail
  refine (held_new 1 w w (Below.refl _ _) (by decide) (by decide)).mono ?_
  rintro e w1 ⟨g, S1, rfl, h1, _⟩
  have H1 := Lib.hid h1
  clear h1
  go_wp2_with fail
  refine (wopen_fresh H1.out (i := 0) (by decide)).mono ?_
  rintro e w2 ⟨S2, ga, A2, c2, rfl, h2, _, _⟩
  have H2 := Lib.hid h2
  clear h2 H1
  go_wp2_with fail
  refine (wawake_calls w2).mono ?_
  rintro e w4 ⟨rfl, b4⟩
  have a4 := H2.out.later b4
  have ra4 := RowA.new (P := PW S2 ga ga) w4 w.heap.size a4.below.size (a4.pw a4)
  have bel5 := below_one w4 (.cells #[] 9)
  have a5 := a4.later bel5
  have rb5 := RowA.new (P := PW S2 ga ga) (w4.alloc (.cells #[] 9)) w.heap.size a5.below.size (a5.pw a5)
  have bel6 := below_one (w4.alloc (.cells #[] 9)) (.cells #[] 9)
  have R0 : Hid (FrRel w g ga ((w4.alloc (.cells #[] 9)).alloc (.cells #[] 9)) S2 (oneD (cutS 0 ls)) ⟨(cutS 0 ls).length, 0, 0, false⟩ (cutS 0 ls) (cutS 0 ms) (.slice (some ⟨w4.heap.size, 0, none⟩) 0 0) (.slice (some ⟨w4.heap.size + 1, 0, none⟩) 0 0)) :=
    Lib.hid ⟨a5.later bel6, ra4.later bel6, by have q := rb5; simp at q; exact q, fun i e => by simp [Value.ownBlock] at e ⊢; omega⟩
  clear b4 a4 ra4 bel5 a5 rb5 bel6 H2
  go_upto_region 6 with fail
  generalize (w4.alloc (.cells #[] 9)).alloc (.cells #[] 9) = W0 at R0 ⊢
  generalize Value.slice (some ⟨w4.heap.size, 0, none⟩) 0 0 = u0 at R0 ⊢
  generalize Value.slice (some ⟨w4.heap.size + 1, 0, none⟩) 0 0 = v0 at R0 ⊢
  go_wp2
  go_loopw [12, 14] (fun u i wr => ∃ k : Nat, k ≤ 8 ∧ i = .int .i64 k ∧ ∃ S, FrRel w g ga wr S (oneD (cutS k ls)) ⟨(cutS k ls).length, 0, 0, false⟩ (cutS k ls) (cutS 0 ms) u v0) (fun _ i _ => 8 - (intOf i).toNat)
  case atStart => exact ⟨0, Nat.zero_le _, rfl, S2, R0.out⟩
  case round =>
    obtain ⟨k, hk, rfl, S, hr⟩ := hrel
    have R := Lib.hid hr
    clear hr R0
    by_cases hlt : k < ls.length ∧ k < 8
    · obtain ⟨h1, h2⟩ := hlt
      have hd1 : decide ((k : Int) < (ls.length : Int)) = true := by simp; omega
      have hd2 : decide ((k : Int) < 8) = true := by simp; omega
      obtain ⟨s, hs⟩ : ∃ s, s = ls[k] := ⟨_, rfl⟩
      obtain ⟨ad, rfl, hcell⟩ := (HA.out.below R.out.a.below).strAt k h1
      rw [← hs] at hcell
      have HCUT := Lib.hid (cutS_succ h1)
      rw [← hs] at HCUT
      clear hs
      go_wp2_with fail
      refine (wfewS_calls s wr).mono ?_
      rintro e w5 ⟨rfl, b5⟩
      obtain ⟨x, hx⟩ : ∃ x, x = s.take 1000 := ⟨_, rfl⟩
      rw [← hx] at HCUT ⊢
      have hxl : x.length ≤ 1000 := by rw [hx]; simp; omega
      have HXL := Lib.hid hxl
      have R5 := Lib.hid (R.out.later b5)
      clear hx hxl b5 R hcell
      have kf := fun w => Try.fieldS2 w 0 0 (str x) none 0 0
      go_wp2_with (with_reducible refine halt_dst 65 ?_)
      have hlu := cutS_len k ls
      refine wpList_append_lit rfl (.tmp 56) (.tmp 64) 42 rfl w.heap.size 9 (.string ByteArray.empty) 1 16 Try.underlying42 Try.info9 rfl (by decide) u12 _ _ rfl R5.out.ra.row 1 1 #[.string (str x)] rfl rfl (fun u hu => by simp at hu; subst hu; rfl) (by simp only [maxLen]; omega) (by omega) R5.out.a.below.size (by simp) ?_
      intro v6 w6 r6 g6 o6
      have r6' := R5.out.pushU r6 g6 o6
      rw [← HCUT.out] at r6'
      have r6r := r6'.ra.row
      obtain ⟨A6, c6, rfl, _, _, hc6, _⟩ := r6r.cells1
      have hget : (cutS (k + 1) ls)[k]? = some x := by rw [HCUT.out]; exact push_last _ _ _ (by omega)
      obtain ⟨ad6, rfl, hcell6⟩ := hc6.get k (.string (str x)) (by simp [strs, hget])
      have hlen6 : (k : Int) < ((cutS (k + 1) ls).length : Int) := by rw [cutS_len]; omega
      have hlen6' : k < (cutS (k + 1) ls).length := by rw [cutS_len]; omega
      have R6 := Lib.hid r6'
      clear r6 g6 o6 r6' r6r hc6 hget hlu
      go_wp2_with (with_reducible refine halt_dst 71 ?_)
      refine wpList_bytes rfl (.tmp 70) 9 22 rfl Try.underlying9 Try.underlying22 Try.underlying5 x rfl ?_
      intro c7 w7 hc7 by7 b7 sz7
      have hB7 := by7.cells (by have := HXL.out; omega)
      have R7 := Lib.hid (R6.out.later b7)
      have HB7 := Lib.hid hB7
      obtain ⟨e1, e2⟩ := oneD_app (xs := cutS k ls) (s := x) (cutS_frames hk ls) HXL.out
      have E1 := Lib.hid e1
      have E2 := Lib.hid e2
      have hac : (oneD (cutS k ls)).acts < 1000000000 := by show (cutS k ls).length < 1000000000; rw [cutS_len]; omega
      have HAC := Lib.hid hac
      have hla : (cutS k ls).length < 1000000000 := by rw [cutS_len]; omega
      have HLA := Lib.hid hla
      clear by7 b7 sz7 hc7 hB7 R6 R5 e1 e2 hac hla hcell6 hlen6 hlen6'
      go_wp2_with fail
      refine (wappend_calls R7.out.a _ _ _ x rfl HB7.out (by have := HXL.out; omega) rfl HAC.out HLA.out).mono ?_
      rintro e wx ⟨rfl, Sx, hx, gx⟩
      rw [show (⟨(cutS k ls).length, 0, 0, false⟩ : WS).log = 0 from rfl] at hx ⊢
      rw [E1.out, E2.out] at hx
      rw [E1.out]
      have hx2 : HW w wx Sx g ga (oneD (cutS k ls ++ [x])) ⟨(cutS k ls ++ [x]).length, 0, 0, false⟩ := by
        have e : (⟨(cutS k ls ++ [x]).length, 0, 0, false⟩ : WS) = WS.app ⟨(cutS k ls).length, 0, 0, false⟩ 0 := by simp [WS.app]
        rw [e]; exact hx
      have hq := R7.out.wal hx2 gx
      rw [← HCUT.out] at hq
      have HX := Lib.hid hq
      clear hx hx2 gx hq R7 HB7 E1 E2 HAC HLA HCUT HXL
      go_wp2
      go_roundw
      case rel => exact ⟨k + 1, by omega, by go_num, _, HX.out⟩
      case measure => simp [intOf]; omega
    · have hall : cutS k ls = cutS 8 ls := by
        unfold cutS
        rcases Nat.lt_or_ge k 8 with h | h
        · rw [List.take_of_length_le (by omega), List.take_of_length_le (by omega)]
        · obtain rfl : k = 8 := by omega
          rfl
      have hr := R.out
      rw [hall] at hr
      have R1 := Lib.hid hr
      clear hr R hall
      have hcase : (decide ((k : Int) < (ls.length : Int)) = false ∧ ¬ k < ls.length) ∨ (decide ((k : Int) < (ls.length : Int)) = true ∧ decide ((k : Int) < 8) = false ∧ k < ls.length) := by
        rcases Nat.lt_or_ge k ls.length with h | h
        · exact .inr ⟨by simp; omega, by simp; omega, h⟩
        · exact .inl ⟨by simp; omega, by omega⟩
      clear hlt hk
      rcases hcase with ⟨hd1, hd3⟩ | ⟨hd1, hd2, hd3⟩
      case' inl => go_upto_region 12 with fail
      case' inr => go_upto_region 12 with fail
      all_goals
        have hfr := cutS_frames (k := 8) (Nat.le_refl _) ls
        have hsm := cutS_small 8 ls
        have hln1 := cutS_len 8 ls
        have hr := R1.out
        obtain ⟨xs, hxs⟩ : ∃ xs, xs = cutS 8 ls := ⟨_, rfl⟩
        rw [← hxs] at hfr hsm hln1 hr
        have hx8 : xs.length ≤ 8 := by omega
        obtain ⟨s1, s2⟩ := oneD_sync (xs := xs) hfr
        have hac : (oneD xs).acts < 1000000000 := by show xs.length < 1000000000; omega
        have R2 := Lib.hid hr
        have S1' := Lib.hid s1
        have S2' := Lib.hid s2
        have HAC := Lib.hid hac
        have HX8 := Lib.hid hx8
        have HFR := Lib.hid hfr
        have HSM := Lib.hid hsm
        clear hfr hsm hln1 hxs hr hx8 s1 s2 hac R1 HA
        go_wp2_with fail
        refine (wsync_calls R2.out.a rfl HAC.out).mono ?_
        rintro e w5 ⟨rfl, S5, h5, g5⟩
        rw [show (⟨xs.length, 0, 0, false⟩ : WS).log = 0 from rfl] at h5 ⊢
        rw [S1'.out, S2'.out] at h5
        rw [S1'.out]
        have R3 := Lib.hid (R2.out.wal h5 g5)
        rw [show WS.syn ⟨xs.length, 0, 0, false⟩ 0 = ⟨xs.length, xs.length, 0, false⟩ by simp [WS.syn]] at R3
        clear h5 g5 R2 S1' S2' HAC
        go_wp2
        go_loopw [13, 15] (fun v i wr => ∃ k : Nat, k ≤ 8 ∧ i = .int .i64 k ∧ FrRel w g ga wr S5 (oneS xs (xs.length + 1)) ⟨xs.length, xs.length, 0, false⟩ xs (cutS k ms) u12 v) (fun _ i _ => 8 - (intOf i).toNat)
        case atStart => exact ⟨0, Nat.zero_le _, rfl, R3.out⟩
        case round =>
          obtain ⟨j, hk, rfl, hr⟩ := hrel
          have R := Lib.hid hr
          clear hr R3
          by_cases hlt : j < ms.length ∧ j < 8
          · obtain ⟨h1, h2⟩ := hlt
            have he1 : decide ((j : Int) < (ms.length : Int)) = true := by simp; omega
            have he2 : decide ((j : Int) < 8) = true := by simp; omega
            obtain ⟨s, hs⟩ : ∃ s, s = ms[j] := ⟨_, rfl⟩
            obtain ⟨ad, rfl, hcell⟩ := (HB.out.below R.out.a.below).strAt j h1
            rw [← hs] at hcell
            have HCUT := Lib.hid (cutS_succ h1)
            rw [← hs] at HCUT
            clear hs
            go_wp2_with fail
            refine (wfewS_calls s wr).mono ?_
            rintro e w6 ⟨rfl, b6⟩
            obtain ⟨x, hx⟩ : ∃ x, x = s.take 1000 := ⟨_, rfl⟩
            rw [← hx] at HCUT ⊢
            have R6 := Lib.hid (R.out.later b6)
            clear hx b6 R hcell
            have kf := fun w => Try.fieldS2 w 0 0 (str x) none 0 0
            go_wp2_with (with_reducible refine halt_dst 96 ?_)
            have hlu := cutS_len j ms
            refine wpList_append_lit rfl (.tmp 87) (.tmp 95) 42 rfl w.heap.size 9 (.string ByteArray.empty) 1 16 Try.underlying42 Try.info9 rfl (by decide) u13 _ _ rfl R6.out.rb.row 1 1 #[.string (str x)] rfl rfl (fun u hu => by simp at hu; subst hu; rfl) (by simp only [maxLen]; omega) (by omega) R6.out.a.below.size (by simp) ?_
            intro v7 w7 r7 g7 o7
            have r7' := R6.out.pushV r7 g7 o7
            rw [← HCUT.out] at r7'
            have R7 := Lib.hid r7'
            clear r7 g7 o7 r7' hlu R6 HCUT
            go_wp2
            go_roundw
            case rel => exact ⟨j + 1, by omega, by go_num, R7.out⟩
            case measure => simp [intOf]; omega
          · have hall : cutS j ms = cutS 8 ms := by
              unfold cutS
              rcases Nat.lt_or_ge j 8 with h | h
              · rw [List.take_of_length_le (by omega), List.take_of_length_le (by omega)]
              · obtain rfl : j = 8 := by omega
                rfl
            have hr := R.out
            have hfr := cutS_frames (k := 8) (Nat.le_refl _) ms
            have hsm := cutS_small 8 ms
            have hln1 := cutS_len 8 ms
            rw [hall] at hr
            obtain ⟨ys, hys⟩ : ∃ ys, ys = cutS 8 ms := ⟨_, rfl⟩
            rw [← hys] at hfr hsm hln1 hr
            have hy8 : ys.length ≤ 8 := by omega
            have R1 := Lib.hid hr
            have HY8 := Lib.hid hy8
            have HFY := Lib.hid hfr
            have HSY := Lib.hid hsm
            have hcase : (decide ((j : Int) < (ms.length : Int)) = false ∧ ¬ j < ms.length) ∨ (decide ((j : Int) < (ms.length : Int)) = true ∧ decide ((j : Int) < 8) = false ∧ j < ms.length) := by
              rcases Nat.lt_or_ge j ms.length with h | h
              · exact .inr ⟨by simp; omega, by simp; omega, h⟩
              · exact .inl ⟨by simp; omega, by omega⟩
            clear hr R hall hfr hsm hln1 hys hy8 hlt hk HB
            rcases hcase with ⟨he1, he3⟩ | ⟨he1, he2, he3⟩
            case' inl => go_upto_region 18 with fail
            case' inr => go_upto_region 18 with fail
            all_goals
              rcases bit0 hr1 hr2 with hb | hb
              · have f0 := oneS_swap0 (xs := xs) (ys := ys) (n := xs.length + 1) HFR.out HFY.out
                obtain ⟨f1, f2⟩ := f0
                obtain ⟨o1, o2, o3⟩ := oneS_open (xs := ys) (n := xs.length + 1 + 1) (by have := HFY.out; omega) HSY.out
                have F1 := Lib.hid f1
                have F2 := Lib.hid f2
                have O1 := Lib.hid o1
                have O2 := Lib.hid o2
                have O3 := Lib.hid o3
                clear f1 f2 o1 o2 o3
                go_wp2_with fail
                refine (held_arm R1.out.a.held (Below.refl _ _) 0 none 0 0 [] rfl (by decide) (Cells.nil _ _) (by simp) (by simp)).mono ?_
                rintro e w6 ⟨rfl, S6, h6, g6⟩
                have r6 := R1.out.disk h6 g6
                have hrb := r6.rb.row
                obtain ⟨A13, c13, rfl, _, _, hc13, _⟩ := hrb.cells1
                have R6 := Lib.hid r6
                have HC13 := Lib.hid hc13
                clear h6 g6 hrb r6 hc13 R1
                go_wp2_with fail
                refine (lbytes_calls A13 _ c13 ys w6 rfl HC13.out (fun l hl => HSY.out l hl) (by have := HY8.out; omega)).mono ?_
                rintro e w7 ⟨A7, c7, rfl, lc7, b7⟩
                have R7 := Lib.hid (R6.out.later b7)
                have LC7 := Lib.hid lc7
                clear lc7 b7 R6 HC13
                have hac : ((oneS xs (xs.length + 1)).arm 0 []).acts < 1000000000 := by show xs.length + 1 < 1000000000; have := HX8.out; omega
                have HAC := Lib.hid hac
                clear hac
                go_wp2_with fail
                refine (wfresh_calls R7.out.a A7 _ c7 ys rfl LC7.out (by have := HY8.out; omega) rfl HAC.out).mono ?_
                rintro e w8 (⟨_, rfl, S8, h8, g8⟩ | ⟨⟨y, hy1, hy2⟩, _⟩)
                rotate_left
                · exact absurd (HSY.out y hy1) (by omega)
                rw [show (⟨xs.length, xs.length, 0, false⟩ : WS).log = 0 from rfl] at h8 ⊢
                rw [F1.out] at h8 ⊢
                have R8 := Lib.hid (R7.out.wal h8 g8)
                clear h8 g8 R7 LC7 F1 HAC
                go_wp2_with fail
                refine (held_crash R8.out.a.held (Below.refl _ _) none 0 0 [] rfl (Cells.nil _ _) (by simp)).mono ?_
                rintro e w9 ⟨rfl, S9, h9, g9⟩
                have R9 := Lib.hid (R8.out.disk h9 g9)
                clear h9 g9 R8
                go_wp2_with fail
                refine (held_up R9.out.a.held).mono ?_
                rintro e wa ⟨rfl, Sa, ha, ga'⟩
                rw [F2.out] at ha
                have RA := Lib.hid (R9.out.disk ha ga')
                clear ha ga' R9 F2
                have hac : (oneS ys (xs.length + 1 + 1)).acts < 1000000000 := by show xs.length + 1 + 1 < 1000000000; have := HX8.out; omega
                have HAC := Lib.hid hac
                clear hac
                go_wp2_with fail
                refine (wopen_calls RA.out.a.held 0 HAC.out).mono ?_
                rintro e wb ho
                obtain ⟨Sb, gc, vb, rfl, hb', gb', _, lb⟩ := opened_ok RA.out.a.below.size ho O1.out O2.out O3.out
                have RB := Lib.hid (RA.out.disk hb'.held gb')
                have LB := Lib.hid lb
                clear ho hb' gb' lb RA O1 O2 O3 HAC
                go_wp2_with fail
                refine (same_calls _ _ ys ys _ _ wb LB.out RB.out.rb.row (by have := HX8.out; have := HY8.out; omega) (by have := HX8.out; have := HY8.out; omega)).mono ?_
                rintro e wc ⟨rfl, q, rfl⟩
                rw [show decide (ys = ys) = true from by simp]
                have RC := Lib.hid (RB.out.later (bdrewN (Below.refl _ _) q))
                clear RB LB
                have HBB := Lib.hid RC.out.a.below
                clear RC
                go_wp2
                go_ret
                exact ⟨rfl, HBB.out⟩
              · have f0 := oneS_swap1 (xs := xs) (ys := ys) (n := xs.length + 1) HFY.out
                obtain ⟨f1, f2⟩ := f0
                obtain ⟨o1, o2, o3⟩ := oneS_open (xs := xs) (n := xs.length + 1) (by have := HFR.out; omega) HSM.out
                have F1 := Lib.hid f1
                have F2 := Lib.hid f2
                have O1 := Lib.hid o1
                have O2 := Lib.hid o2
                have O3 := Lib.hid o3
                clear f1 f2 o1 o2 o3
                go_wp2_with fail
                refine (held_arm R1.out.a.held (Below.refl _ _) 1 none 0 0 [] rfl (by decide) (Cells.nil _ _) (by simp) (by simp)).mono ?_
                rintro e w6 ⟨rfl, S6, h6, g6⟩
                have r6 := R1.out.disk h6 g6
                have hrb := r6.rb.row
                obtain ⟨A13, c13, rfl, _, _, hc13, _⟩ := hrb.cells1
                have R6 := Lib.hid r6
                have HC13 := Lib.hid hc13
                clear h6 g6 hrb r6 hc13 R1
                go_wp2_with fail
                refine (lbytes_calls A13 _ c13 ys w6 rfl HC13.out (fun l hl => HSY.out l hl) (by have := HY8.out; omega)).mono ?_
                rintro e w7 ⟨A7, c7, rfl, lc7, b7⟩
                have R7 := Lib.hid (R6.out.later b7)
                have LC7 := Lib.hid lc7
                clear lc7 b7 R6 HC13
                have hac : ((oneS xs (xs.length + 1)).arm 1 []).acts < 1000000000 := by show xs.length + 1 < 1000000000; have := HX8.out; omega
                have HAC := Lib.hid hac
                clear hac
                go_wp2_with fail
                refine (wfresh_calls R7.out.a A7 _ c7 ys rfl LC7.out (by have := HY8.out; omega) rfl HAC.out).mono ?_
                rintro e w8 (⟨_, rfl, S8, h8, g8⟩ | ⟨⟨y, hy1, hy2⟩, _⟩)
                rotate_left
                · exact absurd (HSY.out y hy1) (by omega)
                rw [show (⟨xs.length, xs.length, 0, false⟩ : WS).log = 0 from rfl] at h8 ⊢
                rw [F1.out] at h8 ⊢
                have R8 := Lib.hid (R7.out.wal h8 g8)
                clear h8 g8 R7 LC7 F1 HAC
                go_wp2_with fail
                refine (held_crash R8.out.a.held (Below.refl _ _) none 0 0 [] rfl (Cells.nil _ _) (by simp)).mono ?_
                rintro e w9 ⟨rfl, S9, h9, g9⟩
                have R9 := Lib.hid (R8.out.disk h9 g9)
                clear h9 g9 R8
                go_wp2_with fail
                refine (held_up R9.out.a.held).mono ?_
                rintro e wa ⟨rfl, Sa, ha, ga'⟩
                rw [F2.out] at ha
                have RA := Lib.hid (R9.out.disk ha ga')
                clear ha ga' R9 F2
                have hac : (oneS xs (xs.length + 1)).acts < 1000000000 := by show xs.length + 1 < 1000000000; have := HX8.out; omega
                have HAC := Lib.hid hac
                clear hac
                go_wp2_with fail
                refine (wopen_calls RA.out.a.held 0 HAC.out).mono ?_
                rintro e wb ho
                obtain ⟨Sb, gc, vb, rfl, hb', gb', _, lb⟩ := opened_ok RA.out.a.below.size ho O1.out O2.out O3.out
                have RB := Lib.hid (RA.out.disk hb'.held gb')
                have LB := Lib.hid lb
                clear ho hb' gb' lb RA O1 O2 O3 HAC
                go_wp2_with fail
                refine (same_calls _ _ xs xs _ _ wb LB.out RB.out.ra.row (by have := HX8.out; have := HY8.out; omega) (by have := HX8.out; have := HY8.out; omega)).mono ?_
                rintro e wc ⟨rfl, q, rfl⟩
                rw [show decide (xs = xs) = true from by simp]
                have RC := Lib.hid (RB.out.later (bdrewN (Below.refl _ _) q))
                clear RB LB
                go_wp2_with fail
                refine (wappend_dead g ga _ none 0 0 _ RC.out.a.wal rfl).mono ?_
                rintro e w' ⟨rfl, rfl⟩
                go_wp2_with fail
                refine (wsync_dead g ga _ _ RC.out.a.wal rfl).mono ?_
                rintro e w' ⟨rfl, rfl⟩
                go_wp2_with fail
                refine (wfresh_dead g ga _ none 0 0 _ RC.out.a.wal rfl).mono ?_
                rintro e w' ⟨rfl, rfl⟩
                have HBB := Lib.hid RC.out.a.below
                clear RC
                go_wp2
                go_ret
                exact ⟨rfl, HBB.out⟩
end Go.Proofs.Ytimjadjopemefaa
