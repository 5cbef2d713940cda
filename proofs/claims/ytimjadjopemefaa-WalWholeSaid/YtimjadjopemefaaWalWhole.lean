/- WalWhole: the walk of the law. -/
import Derived.Test.YtimjadjopemefaaWb2
set_option linter.unusedVariables false
set_option linter.unusedSimpArgs false
namespace Go.Proofs.Ytimjadjopemefaa
open Go.RowKit

set_option maxHeartbeats 4000000 in
set_option maxRecDepth 100000 in
theorem walWhole_walk (A : Option Addr) (n0 c : Nat) (ls : List (List UInt8)) (B : Option Addr) (m0 d : Nat) (ms : List (List UInt8)) (v2 : Value) (ab : Int × Int) (w : World) (w0 : n0 = ls.length ∧ Cells w A (strs ls) ∧ ∀ l ∈ ls, l.length ≤ 9223372036854775807) (w1 : m0 = ms.length ∧ Cells w B (strs ms) ∧ ∀ l ∈ ms, l.length ≤ 9223372036854775807) (w2 : v2 = .agg #[.int .i64 ab.1, .int .u8 ab.2] ∧ (0 ≤ ab.2 ∧ ab.2 ≤ 255)) :
    Calls Try.prog 19 #[.slice A n0 c, .slice B m0 d, v2] w fun e w' => e = .returned (.bool true) ∧ Below w.heap.size w w' := by
  obtain ⟨rfl, hA, hl1⟩ := w0
  obtain ⟨rfl, hB, hl2⟩ := w1
  obtain ⟨rfl, hr1, hr2⟩ := w2
  obtain ⟨kp, am⟩ := ab
  simp only at hr1 hr2
  have hn1 : ls.length ≤ 9223372036854775807 := by have := hA.small; rwa [strs_length] at this
  have hn2 : ms.length ≤ 9223372036854775807 := by have := hB.small; rwa [strs_length] at this
  have HA := Lib.hid hA
  have HB := Lib.hid hB
  clear hA hB hl1 hl2
  go_enter Try.func19, Try.ntmps19
  go_upto_region 1 with fail
  have bB := below_one w (.cells #[.int .i64 kp, .int .u8 am] 98)
  have nB := Blk.new w 98 #[.int .i64 kp, .int .u8 am]
  have HA2 := Lib.hid (HA.out.below bB)
  have HB2 := Lib.hid (HB.out.below bB)
  generalize w.alloc (.cells #[.int .i64 kp, .int .u8 am] 98) = wB at bB nB HA2 HB2 ⊢
  have BB := Lib.hid bB
  have NB := Lib.hid nB
  clear bB nB HA HB
  go_wp2_with fail
  refine (held_new 1 wB wB (Below.refl _ _) (by decide) (by decide)).mono ?_
  rintro e w1 ⟨g, S1, rfl, h1, _⟩
  have H1 := Lib.hid h1
  clear h1
  go_wp2_with fail
  refine (wopen_fresh H1.out (i := 0) (by decide)).mono ?_
  rintro e w2 ⟨S2, ga, A2, c2, rfl, h2, _, _⟩
  have H2 := Lib.hid h2
  clear h2 H1
  go_wp2_with fail
  refine (wawake_calls w2).mono ?_
  rintro e w4 ⟨rfl, b4⟩
  have a4 := H2.out.later b4
  have ra4 := RowA.new (P := PW S2 ga ga) w4 wB.heap.size a4.below.size (a4.pw a4)
  have R0 : Hid (FrRel wB g ga (w4.alloc (.cells #[] 9)) S2 (oneD (cutS 0 ls)) ⟨(cutS 0 ls).length, 0, 0, false⟩ (cutS 0 ls) [] (.slice (some ⟨w4.heap.size, 0, none⟩) 0 0) (.slice none 0 0)) :=
    Lib.hid ⟨a4.later (below_one w4 _), ra4, ⟨Row.nil _ _ _ _, fun b e => by simp [Value.ownBlock] at e⟩, fun i e e2 => by simp [Value.ownBlock] at e2⟩
  clear b4 a4 ra4 H2
  go_upto_region 6 with fail
  generalize w4.alloc (.cells #[] 9) = W0 at R0 ⊢
  generalize Value.slice (some ⟨w4.heap.size, 0, none⟩) 0 0 = u0 at R0 ⊢
  go_wp2
  go_loopw [12, 13] (fun u i wr => ∃ k : Nat, k ≤ 8 ∧ i = .int .i64 k ∧ ∃ S, FrRel wB g ga wr S (oneD (cutS k ls)) ⟨(cutS k ls).length, 0, 0, false⟩ (cutS k ls) [] u (.slice none 0 0)) (fun _ i _ => 8 - (intOf i).toNat)
  case atStart => exact ⟨0, Nat.zero_le _, rfl, S2, R0.out⟩
  case round =>
    obtain ⟨k, hk, rfl, S, hr⟩ := hrel
    have R := Lib.hid hr
    clear hr R0
    by_cases hlt : k < ls.length ∧ k < 8
    · obtain ⟨h1, h2⟩ := hlt
      have hd1 : decide ((k : Int) < (ls.length : Int)) = true := by simp; omega
      have hd2 : decide ((k : Int) < 8) = true := by simp; omega
      obtain ⟨s, hs⟩ : ∃ s, s = ls[k] := ⟨_, rfl⟩
      obtain ⟨ad, rfl, hcell⟩ := (HA2.out.below R.out.a.below).strAt k h1
      rw [← hs] at hcell
      have HCUT := Lib.hid (cutS_succ h1)
      rw [← hs] at HCUT
      clear hs
      go_wp2_with fail
      refine (wfewS_calls s wr).mono ?_
      rintro e w5 ⟨rfl, b5⟩
      obtain ⟨x, hx⟩ : ∃ x, x = s.take 1000 := ⟨_, rfl⟩
      rw [← hx] at HCUT ⊢
      have hxl : x.length ≤ 1000 := by rw [hx]; simp; omega
      have HXL := Lib.hid hxl
      have R5 := Lib.hid (R.out.later b5)
      clear hx hxl b5 R hcell
      have kf := fun w => Try.fieldS2 w 0 0 (str x) none 0 0
      go_wp2_with (with_reducible refine halt_dst 68 ?_)
      refine wpList_bytes rfl (.tmp 67) 9 22 rfl Try.underlying9 Try.underlying22 Try.underlying5 x rfl ?_
      intro c7 w7 hc7 by7 b7 sz7
      have hB7 := by7.cells (by have := HXL.out; omega)
      have R7 := Lib.hid (R5.out.later b7)
      have HB7 := Lib.hid hB7
      obtain ⟨e1, e2⟩ := oneD_app (xs := cutS k ls) (s := x) (cutS_frames hk ls) HXL.out
      have E1 := Lib.hid e1
      have E2 := Lib.hid e2
      have hac : (oneD (cutS k ls)).acts < 1000000000 := by show (cutS k ls).length < 1000000000; rw [cutS_len]; omega
      have HAC := Lib.hid hac
      have hla : (cutS k ls).length < 1000000000 := by rw [cutS_len]; omega
      have HLA := Lib.hid hla
      clear by7 b7 sz7 hc7 hB7 R5 e1 e2 hac hla
      go_wp2_with fail
      refine (wappend_calls R7.out.a _ _ _ x rfl HB7.out (by have := HXL.out; omega) rfl HAC.out HLA.out).mono ?_
      rintro e wx ⟨rfl, Sx, hx, gx⟩
      rw [show (⟨(cutS k ls).length, 0, 0, false⟩ : WS).log = 0 from rfl] at hx ⊢
      rw [E1.out, E2.out] at hx
      rw [E1.out]
      have hx2 : HW wB wx Sx g ga (oneD (cutS k ls ++ [x])) ⟨(cutS k ls ++ [x]).length, 0, 0, false⟩ := by
        have e : (⟨(cutS k ls ++ [x]).length, 0, 0, false⟩ : WS) = WS.app ⟨(cutS k ls).length, 0, 0, false⟩ 0 := by simp [WS.app]
        rw [e]; exact hx
      have R8 := Lib.hid (R7.out.wal hx2 gx)
      clear hx hx2 gx R7 HB7 E1 E2 HAC HLA HXL
      go_wp2_with (with_reducible refine halt_dst 74 ?_)
      have hlu := cutS_len k ls
      refine wpList_append_lit rfl (.tmp 71) (.tmp 73) 42 rfl wB.heap.size 9 (.string ByteArray.empty) 1 16 Try.underlying42 Try.info9 rfl (by decide) u12 _ _ rfl R8.out.ra.row 1 1 #[.string (str x)] rfl rfl (fun u hu => by simp at hu; subst hu; rfl) (by simp only [maxLen]; omega) (by omega) R8.out.a.below.size (by simp) ?_
      intro v6 w6 r6 g6 o6
      have r6' := R8.out.pushU r6 g6 o6
      rw [← HCUT.out] at r6'
      have HX := Lib.hid r6'
      clear r6 g6 o6 r6' hlu R8 HCUT
      go_wp2
      go_roundw
      case rel => exact ⟨k + 1, by omega, by go_num, _, HX.out⟩
      case measure => simp [intOf]; omega
    · have hall : cutS k ls = cutS 8 ls := by
        unfold cutS
        rcases Nat.lt_or_ge k 8 with h | h
        · rw [List.take_of_length_le (by omega), List.take_of_length_le (by omega)]
        · obtain rfl : k = 8 := by omega
          rfl
      have hr := R.out
      rw [hall] at hr
      have R1 := Lib.hid hr
      clear hr R hall
      have hcase : (decide ((k : Int) < (ls.length : Int)) = false ∧ ¬ k < ls.length) ∨ (decide ((k : Int) < (ls.length : Int)) = true ∧ decide ((k : Int) < 8) = false ∧ k < ls.length) := by
        rcases Nat.lt_or_ge k ls.length with h | h
        · exact .inr ⟨by simp; omega, by simp; omega, h⟩
        · exact .inl ⟨by simp; omega, by omega⟩
      clear hlt hk
      rcases hcase with ⟨hd1, hd3⟩ | ⟨hd1, hd2, hd3⟩
      case' inl => go_upto_region 13 with fail
      case' inr => go_upto_region 13 with fail
      all_goals
        have hfr := cutS_frames (k := 8) (Nat.le_refl _) ls
        have hsm := cutS_small 8 ls
        have hln1 := cutS_len 8 ls
        have hr := R1.out
        obtain ⟨xs, hxs⟩ : ∃ xs, xs = cutS 8 ls := ⟨_, rfl⟩
        rw [← hxs] at hfr hsm hln1 hr
        have hx8 : xs.length ≤ 8 := by omega
        obtain ⟨s1, s2⟩ := oneD_sync (xs := xs) hfr
        have hac : (oneD xs).acts < 1000000000 := by show xs.length < 1000000000; omega
        have R2 := Lib.hid hr
        have S1' := Lib.hid s1
        have S2' := Lib.hid s2
        have HAC := Lib.hid hac
        have HX8 := Lib.hid hx8
        have HSM := Lib.hid hsm
        clear hfr hsm hln1 hxs hr hx8 s1 s2 hac R1 HA2
        go_wp2_with fail
        refine (wsync_calls R2.out.a rfl HAC.out).mono ?_
        rintro e w5 ⟨rfl, S5, h5, g5⟩
        rw [show (⟨xs.length, 0, 0, false⟩ : WS).log = 0 from rfl] at h5 ⊢
        rw [S1'.out, S2'.out] at h5
        rw [S1'.out]
        have R3 := Lib.hid (R2.out.wal h5 g5)
        rw [show WS.syn ⟨xs.length, 0, 0, false⟩ 0 = ⟨xs.length, xs.length, 0, false⟩ by simp [WS.syn]] at R3
        clear h5 g5 R2 S1' S2' HAC
        have hra := R3.out.ra.row
        obtain ⟨A12, c12, rfl, _, _, _, _⟩ := hra.cells1
        clear hra
        have q0 : w5.cell? ⟨w.heap.size, 0, none⟩ = some (.int .i64 kp) := (NB.out.below R3.out.a.below).cell 0 _ rfl
        have q1 : w5.cell? ⟨w.heap.size, 1, none⟩ = some (.int .u8 am) := (NB.out.below R3.out.a.below).cell 1 _ rfl
        go_wp2_with fail
        refine (held_arm R3.out.a.held (below_one w5 _) am _ 1 1 [kp] rfl (by omega) (cells_new w5 #[.int .i64 kp] 3 (by simp)) (fun ad e => by cases e; exact .inr (Nat.le_refl _)) (by simp)).mono ?_
        rintro e w6 ⟨rfl, S6, h6, g6⟩
        rw [arm_start hr1] at h6
        have R6 := Lib.hid ((R3.out.later (below_one w5 _)).disk h6 g6)
        clear h6 g6 R3 q0 q1
        rw [show xs.length = xs.length + ([] : List (List UInt8)).length from rfl] at R6
        go_wp2
        go_loopw [12, 16] (fun u i wr => ∃ j : Nat, j ≤ 8 ∧ i = .int .i64 j ∧ ∃ S a zs, 0 ≤ a ∧ zs.length = j ∧ (∀ l ∈ zs, l.length ≤ 1000) ∧ FrRel wB g ga wr S (armD xs zs a kp (xs.length + 1)) ⟨xs.length + zs.length, xs.length, 0, false⟩ (xs ++ zs) [] u (.slice none 0 0)) (fun _ i _ => 8 - (intOf i).toNat)
        case atStart => exact ⟨0, Nat.zero_le _, rfl, S6, am, [], hr1, rfl, (fun l hl => by simp at hl), by rw [List.append_nil]; exact R6.out⟩
        case round =>
          obtain ⟨j, hj, rfl, S, a, zs, ha, hzl, hzs, hr⟩ := hrel
          have R := Lib.hid hr
          have HZS := Lib.hid hzs
          have hts : ∀ l ∈ xs ++ zs, l.length ≤ 1000 := by
            intro l hl
            rcases List.mem_append.1 hl with h | h
            · exact HSM.out l h
            · exact hzs l h
          have htl : (xs ++ zs).length ≤ 16 := by rw [List.length_append]; have := HX8.out; omega
          have hft : (framesOf (xs ++ zs)).length ≤ 16128 := by
            have h1 := framesOf_len 1000 (xs ++ zs) hts
            have h2 : (xs ++ zs).length * (8 + 1000) ≤ 16 * (8 + 1000) := Nat.mul_le_mul htl (Nat.le_refl _)
            omega
          have HTS := Lib.hid hts
          have HFT := Lib.hid hft
          have HZL := Lib.hid hzl
          clear hr R6 hzs hts hft htl hzl
          by_cases hlt : j < ms.length ∧ j < 8
          case' pos =>
            obtain ⟨h1, h2⟩ := hlt
            have he1 : decide ((j : Int) < (ms.length : Int)) = true := by simp; omega
            have he2 : decide ((j : Int) < 8) = true := by simp; omega
            obtain ⟨s, hs⟩ : ∃ s, s = ms[j] := ⟨_, rfl⟩
            obtain ⟨ad, rfl, hcell⟩ := (HB2.out.below R.out.a.below).strAt j h1
            rw [← hs] at hcell
            clear hs
            go_wp2_with fail
            refine (wfewS_calls s wr).mono ?_
            rintro e w7 ⟨rfl, b7⟩
            obtain ⟨x, hx⟩ : ∃ x, x = s.take 1000 := ⟨_, rfl⟩
            rw [← hx]
            have hxl : x.length ≤ 1000 := by rw [hx]; simp; omega
            have HXL := Lib.hid hxl
            have R7 := Lib.hid (R.out.later b7)
            clear hx hxl b7 R hcell
            have kf := fun w => Try.fieldS2 w 0 0 (str x) none 0 0
            go_wp2_with (with_reducible refine halt_dst 107 ?_)
            refine wpList_bytes rfl (.tmp 106) 9 22 rfl Try.underlying9 Try.underlying22 Try.underlying5 x rfl ?_
            intro c8 w8 hc8 by8 b8 sz8
            have hB8 := by8.cells (by have := HXL.out; omega)
            have R8 := Lib.hid (R7.out.later b8)
            have HB8 := Lib.hid hB8
            clear by8 b8 sz8 hc8 hB8 R7
            have hac : (armD xs zs a kp (xs.length + 1)).acts < 1000000000 := by show xs.length + 1 + zs.length < 1000000000; have := HX8.out; have := HZL.out; omega
            have HAC := Lib.hid hac
            clear hac
            go_wp2_with fail
            refine (wappend_calls R8.out.a _ _ _ x rfl HB8.out (by have := HXL.out; omega) rfl HAC.out (by show xs.length + zs.length < 1000000000; have := HX8.out; have := HZL.out; omega)).mono ?_
            rintro e w9 ⟨rfl, S9, h9, g9⟩
            rw [show (⟨xs.length + zs.length, xs.length, 0, false⟩ : WS).log = 0 from rfl] at h9 ⊢
            by_cases ha1 : a = 1
            rotate_left
            · obtain ⟨e1, e2⟩ := armD_app (xs := xs) (zs := zs) (k := kp) (n := xs.length + 1) (s := x) HFT.out HXL.out ha1
              rw [e1, e2] at h9
              rw [e1]
              have h9' : HW wB w9 S9 g ga (armD xs (zs ++ [x]) (if 1 < a then a - 1 else a) kp (xs.length + 1)) ⟨xs.length + (zs ++ [x]).length, xs.length, 0, false⟩ := by
                have e : (⟨xs.length + (zs ++ [x]).length, xs.length, 0, false⟩ : WS) = WS.app ⟨xs.length + zs.length, xs.length, 0, false⟩ 0 := by simp [WS.app]; omega
                rw [e]; exact h9
              have R9 := Lib.hid (R8.out.wal h9' g9)
              have hzl : zs.length = j := HZL.out
              have hzn : (zs ++ [x]).length = j + 1 := by simp [hzl]
              have HZN := Lib.hid hzn
              have hlu : (xs ++ zs).length ≤ 16 := by rw [List.length_append]; have := HX8.out; omega
              have hz2 : ∀ l ∈ zs ++ [x], l.length ≤ 1000 := by
                intro l hl
                rcases List.mem_append.1 hl with h | h
                · exact HZS.out l h
                · rw [List.mem_singleton.1 h]; exact HXL.out
              have HZ2 := Lib.hid hz2
              have ha2 : 0 ≤ (if 1 < a then a - 1 else a) := by split <;> omega
              have HA3 := Lib.hid ha2
              clear e1 e2 h9 h9' g9 R8 HB8 HAC HXL hzl hzn hz2 ha2
              go_wp2_with (with_reducible refine halt_dst 113 ?_)
              refine wpList_append_lit rfl (.tmp 110) (.tmp 112) 42 rfl wB.heap.size 9 (.string ByteArray.empty) 1 16 Try.underlying42 Try.info9 rfl (by decide) u12 _ _ rfl R9.out.ra.row 1 1 #[.string (str x)] rfl rfl (fun u hu => by simp at hu; subst hu; rfl) (by simp only [maxLen]; omega) (by omega) R9.out.a.below.size (by simp) ?_
              intro v6 w6 r6 g6 o6
              have r6' := R9.out.pushU r6 g6 o6
              rw [List.append_assoc] at r6'
              have HX := Lib.hid r6'
              clear r6 g6 o6 r6' hlu R9
              go_wp2
              go_roundw
              case rel => exact ⟨j + 1, by omega, by go_num, _, _, _, HA3.out, HZN.out, HZ2.out, HX.out⟩
              case measure => simp [intOf]; omega
            subst ha1
            obtain ⟨e1, e2⟩ := armD_cut (xs := xs) (zs := zs) (k := kp) (n := xs.length + 1) (s := x) HFT.out HXL.out
            rw [e1, e2] at h9
            rw [e1]
            have HZ : Hid (∃ Sz Dz Vz, FrRel wB g ga w9 Sz Dz Vz (xs ++ zs) [] u12 (.slice none 0 0) ∧ ({ Dz.crash [kp] with down := false } : DS) = tornD xs zs kp (xs.length + 1)) := Lib.hid ⟨_, _, _, R8.out.wal h9 g9, armD_crash2⟩
            clear e1 e2 h9 g9 R8 HB8 HAC HXL
            go_upto_region 23 with fail
            obtain ⟨wz, rfl⟩ : ∃ wz, wz = w9 := ⟨_, rfl⟩
          case' neg =>
            have HZ : Hid (∃ Sz Dz Vz, FrRel wB g ga wr Sz Dz Vz (xs ++ zs) [] u12 (.slice none 0 0) ∧ ({ Dz.crash [kp] with down := false } : DS) = tornD xs zs kp (xs.length + 1)) := Lib.hid ⟨_, _, _, R.out, armD_crash⟩
            have hcase : (decide ((j : Int) < (ms.length : Int)) = false ∧ ¬ j < ms.length) ∨ (decide ((j : Int) < (ms.length : Int)) = true ∧ decide ((j : Int) < 8) = false ∧ j < ms.length) := by
              rcases Nat.lt_or_ge j ms.length with h | h
              · exact .inr ⟨by simp; omega, by simp; omega, h⟩
              · exact .inl ⟨by simp; omega, by omega⟩
            clear hlt R
            obtain ⟨wz, rfl⟩ : ∃ wz, wz = wr := ⟨_, rfl⟩
            rcases hcase with ⟨he1, he3⟩ | ⟨he1, he2, he3⟩
            all_goals (go_upto_region 23 with fail)
          all_goals
            obtain ⟨Sz, Dz, Vz, rz, dz⟩ := HZ.out
            have Rz := Lib.hid rz
            have HD := Lib.hid dz
            clear rz dz HZ
            have q0 : wz.cell? ⟨w.heap.size, 0, none⟩ = some (.int .i64 kp) := (NB.out.below Rz.out.a.below).cell 0 _ rfl
            go_wp2_with fail
            refine (held_crash Rz.out.a.held (below_one wz _) _ 1 1 [kp] rfl (cells_new wz #[.int .i64 kp] 3 (by simp)) (fun ad e => by cases e; exact .inr (Nat.le_refl _))).mono ?_
            rintro e wc ⟨rfl, Sc, hc, gc⟩
            have Rc := Lib.hid ((Rz.out.later (below_one wz _)).disk hc gc)
            clear hc gc q0 Rz
            go_wp2_with fail
            refine (held_up Rc.out.a.held).mono ?_
            rintro e wd ⟨rfl, Sd, hd, gd⟩
            rw [HD.out] at hd
            have Rd := Lib.hid (Rc.out.disk hd gd)
            clear hd gd Rc HD
            obtain ⟨q, D1, t1, t2, e1, e2, ⟨M, e3⟩, e4, f1, f2, f3, ⟨M2, f4⟩⟩ := tornD_open (xs := xs) (zs := zs) (k := kp) (n := xs.length + 1) HFT.out HTS.out
            have htl : (xs ++ zs).length ≤ 16 := by rw [List.length_append]; have := HX8.out; have := HZL.out; omega
            have hac : (tornD xs zs kp (xs.length + 1)).acts < 1000000000 := by show xs.length + 1 + zs.length < 1000000000; rw [List.length_append] at htl; omega
            have hac1 : D1.acts < 1000000000 := by rw [List.length_append] at htl; omega
            obtain ⟨ts, hts⟩ : ∃ ts, ts = xs ++ zs := ⟨_, rfl⟩
            rw [← hts] at t2 e3 f4 Rd htl
            obtain ⟨gs, hgs⟩ : ∃ gs, gs = ts.take q := ⟨_, rfl⟩
            rw [← hgs] at e3 f4
            have hgl : gs.length = q := by rw [hgs]; simp; omega
            have hg1 : ¬ gs.length < xs.length := by omega
            have hg2 : ¬ ts.length < gs.length := by omega
            have hg3 : gs.length ≤ 16 := by omega
            have HGS := Lib.hid hgs
            have HGL := Lib.hid hgl
            have E1 := Lib.hid e1
            have E2 := Lib.hid e2
            have E3 := Lib.hid e3
            have F1 := Lib.hid f1
            have F2 := Lib.hid f2
            have F3 := Lib.hid f3
            have F4 := Lib.hid f4
            have HAC := Lib.hid hac
            have HAC1 := Lib.hid hac1
            have HG3 := Lib.hid hg3
            have hra := Rd.out.ra.row
            obtain ⟨Ax, cx, rfl, hcx, _, _, _⟩ := hra.cells1
            clear hra hgs hgl e1 e2 e3 e4 f1 f2 f3 f4 hac hac1 hg3 hts t1 t2 htl HZS HTS HFT HZL
            go_wp2_with fail
            refine (wopen_calls Rd.out.a.held 0 HAC.out).mono ?_
            rintro e we ho
            obtain ⟨Se, gc, ve, rfl, he', ge', _, le⟩ := opened_ok Rd.out.a.below.size ho E1.out E2.out E3.out
            have Re := Lib.hid (Rd.out.disk he'.held ge')
            have LE := Lib.hid le
            have le2 := le
            obtain ⟨vse, re, _⟩ := le2.row
            obtain ⟨Ae, ce, rfl, _, _, _, _⟩ := re.cells1
            clear ho he' ge' le le2 re Rd E1 E2 E3 HAC
            go_wp2_with fail
            refine (wopen_calls Re.out.a.held 0 HAC1.out).mono ?_
            rintro e wf ho
            obtain ⟨Sf, gc2, vf, rfl, hf', gf', _, lf⟩ := opened_ok Re.out.a.below.size ho F1.out F2.out F4.out
            have bf := ho.quiet F3.out
            have Rf := Lib.hid (Re.out.later bf)
            have LF := Lib.hid lf
            have LE2 := Lib.hid (LE.out.below bf)
            clear ho hf' gf' lf bf Re LE F1 F2 F3 F4 HAC1
            go_upto_region 29 with fail
            go_wp2_with (with_reducible refine halt_dst 156 ?_)
            refine wpList_cut_first rfl (.tmp 153) 42 9 (some (.string ByteArray.empty)) 1 16 Try.underlying42 Try.info9 Ax ts.length cx rfl (.tmp 155) rfl .i64 gs.length _ rfl rfl (by omega) ?_
            have hrow : Row wf wB.heap.size 9 1 (.slice Ax gs.length cx) gs.length (strs gs) := by
              have h1 := Rf.out.ra.row.first (q := gs.length) (by omega)
              rw [strs_take, HGL.out, ← HGS.out] at h1
              rw [HGL.out]
              exact h1
            have HROW := Lib.hid hrow
            clear hrow
            go_wp2_with fail
            refine (same_calls _ _ gs gs _ _ wf LE2.out HROW.out (by have := HG3.out; omega) (by have := HG3.out; omega)).mono ?_
            rintro e wg ⟨rfl, p, rfl⟩
            rw [show decide (gs = gs) = true from by simp]
            go_wp2_with (with_reducible refine halt_dst 163 ?_)
            refine wpList_cut_first rfl (.tmp 160) 42 9 (some (.string ByteArray.empty)) 1 16 Try.underlying42 Try.info9 Ax ts.length cx rfl (.tmp 162) rfl .i64 gs.length _ rfl rfl (by omega) ?_
            go_wp2_with fail
            refine (same_calls _ _ gs gs _ _ _ (LF.out.below (bdrewN (Below.refl _ _) p)) (HROW.out.below (bdrewN (Below.refl _ _) p)) (by have := HG3.out; omega) (by have := HG3.out; omega)).mono ?_
            rintro e wh ⟨rfl, p2, rfl⟩
            rw [show decide (gs = gs) = true from by simp]
            have HBB := Lib.hid (BB.out.trans (((Rf.out.later (bdrewN (Below.refl _ _) p)).later (bdrewN (Below.refl _ _) p2)).a.below.mono BB.out.size))
            clear Rf LF LE2 HROW
            go_wp2
            go_ret
            exact ⟨rfl, by have q := HBB.out; rwa [World.drewN_drewN] at q⟩
end Go.Proofs.Ytimjadjopemefaa
