/- FrameTorn: the walk of the law. -/
import Derived.Test.YtimjadjopemefaaSame
import Derived.Test.YtimjadjopemefaaFrameBack
import Derived.OpenShut
set_option linter.unusedVariables false
set_option linter.unusedSimpArgs false
namespace Go.Proofs.Ytimjadjopemefaa
open Go.RowKit
attribute [local go_sem] str_size str_get str_toList str_append str_extract

/-- What is cut off a frame is no frame. -/
theorem open_torn (k t : List UInt8) (n : Nat) (h : k.length ≤ 65536) (hn : n < 8 + k.length) : openErr ((frameOf k ++ t).take n) ≠ 0 := by
  have hlen : ((frameOf k ++ t).take n).length = n := by rw [List.length_take, List.length_append, frameOf_length]; omega
  obtain ⟨c0, c1, c2, c3, hc⟩ : ∃ c0 c1 c2 c3, be4 k.length = [c0, c1, c2, c3] := ⟨_, _, _, _, rfl⟩
  have h1 := rd4_be4 k.length (by omega) _ _ _ _ hc
  unfold openErr
  by_cases h8 : n < 8
  · rw [hlen, if_pos h8]; decide
  · have h0 : rdAt ((frameOf k ++ t).take n) 0 = k.length := by
      obtain ⟨m, rfl⟩ : ∃ m, n = m + 4 := ⟨n - 4, by omega⟩
      unfold frameOf
      rw [hc]
      simp only [List.append_assoc, List.cons_append, List.nil_append, List.take_succ_cons]
      exact h1.symm
    rw [hlen, if_neg h8, h0, if_neg (by omega), if_pos (by omega)]; decide
theorem torn : ∀ (m : List (List UInt8)), (∀ l ∈ m, l.length ≤ 65536) → ∀ (n k : Nat), k ≤ m.length → n ≤ (framesOf m).length → (framesOf (m.take k)).length ≤ n → (∀ l, m[k]? = some l → n < (framesOf (m.take k)).length + 8 + l.length) →
    scanOf ((framesOf m).take n) = (m.take k, (framesOf (m.take k)).length)
  | [], _, n, k, hk, hn, he, hs => by
    simp at hk; subst hk
    have h0 : (framesOf ([] : List (List UInt8))).take n = [] := by simp [framesOf]
    rw [h0]; rfl
  | l :: m, hl, n, 0, hk, hn, he, hs => by
    have h1 := hs l rfl
    have h2 : (framesOf ((l :: m).take 0)).length = 0 := by simp [framesOf]
    rw [h2] at h1
    rw [scanOf_no (by rw [framesOf_cons]; exact open_torn l _ n (hl l (by simp)) (by omega)), h2]; rfl
  | l :: m, hl, n, k + 1, hk, hn, he, hs => by
    have hll := hl l (by simp)
    have h2 : (framesOf ((l :: m).take (k + 1))).length = 8 + l.length + (framesOf (m.take k)).length := by rw [List.take_succ_cons, framesOf_cons, List.length_append, frameOf_length]
    rw [h2] at he ⊢
    have h3 : (framesOf (l :: m)).take n = frameOf l ++ (framesOf m).take (n - (8 + l.length)) := by
      rw [framesOf_cons, List.take_append, frameOf_length, List.take_of_length_le (by rw [frameOf_length]; omega)]
    rw [framesOf_cons, List.length_append, frameOf_length] at hn
    have ho := open_sealed l ((framesOf m).take (n - (8 + l.length))) hll
    have ih := torn m (fun x hx => hl x (by simp [hx])) (n - (8 + l.length)) k (by simpa using hk) (by omega) (by omega) (fun x hx => by
      have := hs x (by simpa using hx)
      rw [h2] at this
      omega)
    have hd : (frameOf l ++ (framesOf m).take (n - (8 + l.length))).drop (8 + l.length) = (framesOf m).take (n - (8 + l.length)) := by
      rw [← frameOf_length l]; exact List.drop_left
    rw [h3, scanOf_ok ho.1, ho.2.1, ho.2.2, hd, ih]
    rfl

set_option maxHeartbeats 1000000 in
theorem frameTorn_walk (A : Option Addr) (n0 c : Nat) (ls : List (List UInt8)) (a1 : Int) (w : World) (w0 : n0 = ls.length ∧ Cells w A (strs ls) ∧ ∀ l ∈ ls, l.length ≤ 9223372036854775807) (w1 : (Lit.int .u16 a1).wf = true) :
    Calls Try.prog 8 #[.slice A n0 c, .int .u16 a1] w fun e w' => e = .returned (.bool true) ∧ Below w.heap.size w w' := by
  have hu := bounds_u16 w1
  clear w1
  obtain ⟨cut, rfl⟩ := Int.eq_ofNat_of_zero_le hu.1
  obtain ⟨rfl, hc, hs⟩ := w0
  obtain ⟨ms, hms⟩ : ∃ ms, ms = loadsOf ls := ⟨_, rfl⟩
  have hml : ms.length ≤ 12 := by rw [hms]; exact loadsOf_len ls
  have hm3 : ∀ l ∈ ms, l.length ≤ 300 := by rw [hms]; exact loadsOf_small ls
  have hfl : (framesOf ms).length ≤ 3696 := by
    have h1 := framesOf_len 300 ms hm3
    have h2 : ms.length * (8 + 300) ≤ 12 * (8 + 300) := Nat.mul_le_mul hml (Nat.le_refl _)
    omega
  obtain ⟨b, hb⟩ : ∃ b, b = framesOf ms := ⟨_, rfl⟩
  rw [← hb] at hfl
  have HM3 := Lib.hid hm3
  have HMS := Lib.hid hms
  have HB := Lib.hid hb
  clear hm3 hms hb
  go_enter Try.func8, Try.ntmps8
  go_wp2_with fail
  refine (loads_calls A _ c ls w rfl hc hs).mono ?_
  rintro e w1 ⟨v1, rfl, r1, b1⟩
  rw [← HMS.out] at r1
  obtain ⟨A1, c1, rfl, hc1, _, hA1, _⟩ := r1.cells1
  clear r1 hc hs
  go_wp2_with fail
  refine (sealed_calls A1 _ c1 300 ms w1 rfl hA1 (by decide) (by omega) HM3.out).mono ?_
  rintro e w2 ⟨v2, rfl, r2, b2⟩
  rw [← HB.out] at r2
  have B2 := b1.trans (b2.mono b1.size)
  have hA2 := hA1.below b2
  obtain ⟨A3, c3, rfl, hc3, hA3, _⟩ := BS.of_row r2
  clear b1 b2 hA1 r2
  go_wp2_with fail
  refine (awake_calls w2).mono ?_
  rintro e w3 ⟨rfl, b3⟩
  have B3 := B2.trans (b3.mono B2.size)
  have hA4 := hA2.below b3
  have hA5 := hA3.below b3
  clear B2 b3 hA2 hA3
  obtain ⟨n, hn⟩ : ∃ n, n = cut % (b.length + 1) := ⟨_, rfl⟩
  have hnb : n ≤ b.length := by have := Nat.mod_lt cut (show 0 < b.length + 1 by omega); omega
  have hni : (cut : Int) % ((b.length : Int) + 1) = (n : Int) := by rw [hn]; simp
  have HN := Lib.hid hn
  clear hn
  go_wp2
  rw [hni]
  clear hni
  have HA4 := Lib.hid hA4
  clear hA4
  go_loop [9, 10] (fun x y => ∃ k : Nat, k ≤ ms.length ∧ x = .int .i64 k ∧ y = .int .i64 ((framesOf (ms.take k)).length : Nat) ∧ (framesOf (ms.take k)).length ≤ n) (fun x _ => ms.length - (intOf x).toNat)
  case atStart => exact ⟨0, Nat.zero_le _, rfl, rfl, by simp [framesOf]⟩
  case round =>
    obtain ⟨k, hk, rfl, rfl, hE⟩ := hrel
    obtain ⟨E, hEE⟩ : ∃ E, E = (framesOf (ms.take k)).length := ⟨_, rfl⟩
    rw [← hEE] at hE ⊢
    have HE := Lib.hid hEE
    clear hEE
    -- what is left to do at the loop's end
    have fin : (∀ l, ms[k]? = some l → n < E + 8 + l.length) → scanOf (b.take n) = (ms.take k, E) := fun h => by
      have h1 := torn ms (fun l hl => Nat.le_trans (HM3.out l hl) (by decide)) n k hk (by rw [← HB.out]; exact hnb) (by rw [← HE.out]; exact hE) (by rw [← HE.out]; exact h)
      rw [← HB.out, ← HE.out] at h1; exact h1
    have FIN := Lib.hid fin
    clear fin
    by_cases hlt : k < ms.length
    · have hd1 : decide ((k : Int) < (ms.length : Int)) = true := by simp; omega
      obtain ⟨ad, rfl, hcell⟩ := HA4.out.strAt k hlt
      obtain ⟨s, hss⟩ : ∃ s, s = ms[k] := ⟨_, rfl⟩
      rw [← hss] at hcell
      have hsl : s.length ≤ 300 := by rw [hss]; exact HM3.out _ (List.getElem_mem hlt)
      have hgk : ms[k]? = some s := by rw [hss]; exact List.getElem?_eq_getElem hlt
      have HG := Lib.hid hgk
      have HSS := Lib.hid hss
      clear hss hgk
      by_cases hle : E + 8 + s.length ≤ n
      · have hd2 : decide ((E : Int) + 8 + (s.length : Int) ≤ (n : Int)) = true := by simp; omega
        have hstep : (framesOf (ms.take (k + 1))).length = E + (8 + s.length) := by
          rw [List.take_succ_eq_append_getElem hlt, framesOf_push, List.length_append, frameOf_length, ← HSS.out, HE.out]
        have HST := Lib.hid hstep
        clear hstep
        go_wp2
        go_round
        case rel => exact ⟨k + 1, by omega, by go_num, by rw [HST.out]; go_num, by rw [HST.out]; omega⟩
        case measure => simp [intOf]; omega
      · have hd2 : decide ((E : Int) + 8 + (s.length : Int) ≤ (n : Int)) = false := by simp; omega
        have hfin := FIN.out (fun l hl => by rw [HG.out] at hl; cases hl; omega)
        have HFIN := Lib.hid hfin
        clear hfin
        go_wp2_with (with_reducible refine halt_dst 61 ?_)
        refine wpList_cut_h rfl (.tmp 59) 22 5 _ 1 1 Try.underlying22 Try.info5 A3 b.length c3 rfl (.tmp 60) rfl .i64 n _ rfl rfl (by omega) ?_
        intro A6 hA6
        have hc6 : Cells w3 A6 (byts (b.take n)) := by
          have := hA5.bsub 0 n (by omega) A6 (fun h ad e => hA6.2.1 (by omega) ad e)
          simpa using this
        obtain ⟨mk, hmk⟩ : ∃ mk, mk = ms.take k := ⟨_, rfl⟩
        have hmkl : mk.length = k := by rw [hmk]; simp; omega
        have h1 : (scanOf (b.take n)).1 = mk := by rw [HFIN.out, hmk]
        have HMKL := Lib.hid hmkl
        have HMK := Lib.hid hmk
        have h2 : (scanOf (b.take n)).2 = E := by rw [HFIN.out]
        go_wp2_with fail
        refine (scan_calls A6 n c3 (b.take n) w3 (by simp; omega) (by omega) (by simp; omega) hc6).mono ?_
        rintro e w5 ⟨v5, rfl, f5, b5⟩
        rw [h1] at f5
        rw [h2]
        clear h1 h2 hc6 hA6 hmkl hmk
        obtain ⟨vs, hrow, _⟩ := f5.row
        obtain ⟨A7, c7, rfl, _⟩ := hrow.cells1
        clear hrow
        go_wp2_with (with_reducible refine halt_dst 72 ?_)
        refine wpList_cut_h rfl (.tmp 70) 42 9 _ 1 16 Try.underlying42 Try.info9 _ ms.length c1 rfl (.tmp 71) rfl .i64 k _ rfl rfl (by omega) ?_
        intro A8 hA8
        have hc8 : Cells w5 A8 (strs mk) := by
          rw [HMK.out]
          have := (HA4.out.below b5).sub 0 k (by rw [strs_length]; omega) A8 (fun h ad e => by have := hA8.2.1 (by omega) ad e; simpa using this)
          simpa [strs] using this
        clear hA8
        go_wp2_with fail
        refine (same_cells _ A8 k c1 mk mk _ w5 f5 HMKL.out.symm hc8 (by rw [HMKL.out]; omega) (by rw [HMKL.out]; omega)).mono ?_
        rintro e w6 ⟨rfl, j, rfl⟩
        rw [decide_eq_true (rfl : mk = mk)]
        go_wp2
        go_ret
        exact ⟨rfl, below_drewN (B3.trans (b5.mono B3.size)) _⟩
    · have hd1 : decide ((k : Int) < (ms.length : Int)) = false := by simp; omega
      have hfin := FIN.out (fun l hl => by rw [List.getElem?_eq_none (by omega)] at hl; cases hl)
      have HFIN := Lib.hid hfin
      clear hfin
      go_wp2_with (with_reducible refine halt_dst 61 ?_)
      refine wpList_cut_h rfl (.tmp 59) 22 5 _ 1 1 Try.underlying22 Try.info5 A3 b.length c3 rfl (.tmp 60) rfl .i64 n _ rfl rfl (by omega) ?_
      intro A6 hA6
      have hc6 : Cells w3 A6 (byts (b.take n)) := by
        have := hA5.bsub 0 n (by omega) A6 (fun h ad e => hA6.2.1 (by omega) ad e)
        simpa using this
      obtain ⟨mk, hmk⟩ : ∃ mk, mk = ms.take k := ⟨_, rfl⟩
      have hmkl : mk.length = k := by rw [hmk]; simp; omega
      have h1 : (scanOf (b.take n)).1 = mk := by rw [HFIN.out, hmk]
      have HMKL := Lib.hid hmkl
      have HMK := Lib.hid hmk
      have h2 : (scanOf (b.take n)).2 = E := by rw [HFIN.out]
      go_wp2_with fail
      refine (scan_calls A6 n c3 (b.take n) w3 (by simp; omega) (by omega) (by simp; omega) hc6).mono ?_
      rintro e w5 ⟨v5, rfl, f5, b5⟩
      rw [h1] at f5
      rw [h2]
      clear h1 h2 hc6 hA6 hmkl hmk
      obtain ⟨vs, hrow, _⟩ := f5.row
      obtain ⟨A7, c7, rfl, _⟩ := hrow.cells1
      clear hrow
      go_wp2_with (with_reducible refine halt_dst 72 ?_)
      refine wpList_cut_h rfl (.tmp 70) 42 9 _ 1 16 Try.underlying42 Try.info9 _ ms.length c1 rfl (.tmp 71) rfl .i64 k _ rfl rfl (by omega) ?_
      intro A8 hA8
      have hc8 : Cells w5 A8 (strs mk) := by
        rw [HMK.out]
        have := (HA4.out.below b5).sub 0 k (by rw [strs_length]; omega) A8 (fun h ad e => by have := hA8.2.1 (by omega) ad e; simpa using this)
        simpa [strs] using this
      clear hA8
      go_wp2_with fail
      refine (same_cells _ A8 k c1 mk mk _ w5 f5 HMKL.out.symm hc8 (by rw [HMKL.out]; omega) (by rw [HMKL.out]; omega)).mono ?_
      rintro e w6 ⟨rfl, j, rfl⟩
      rw [decide_eq_true (rfl : mk = mk)]
      go_wp2
      go_ret
      exact ⟨rfl, below_drewN (B3.trans (b5.mono B3.size)) _⟩
end Go.Proofs.Ytimjadjopemefaa
