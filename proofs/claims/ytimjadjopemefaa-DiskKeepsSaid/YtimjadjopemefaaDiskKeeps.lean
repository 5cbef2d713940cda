/- DiskKeeps: the walk of the law. -/
import Derived.Test.YtimjadjopemefaaDiskTwice
import Derived.Deep.RegionHeld3
set_option linter.unusedVariables false
set_option linter.unusedSimpArgs false
namespace Go.Proofs.Ytimjadjopemefaa
open Go.RowKit

theorem Upd.drew1 {S : Nat → Prop} {w w1 : World} (h : Upd S w w1) : Upd S w w1.drew := ⟨h.os, h.tape, h.output, h.size, h.block⟩
def sureArr (S : Nat → Nat) (k : Nat) : Array Value := #[.int .i64 ((if 0 < k then S 0 else 0 : Nat) : Int), .int .i64 ((if 1 < k then S 1 else 0 : Nat) : Int), .int .i64 ((if 2 < k then S 2 else 0 : Nat) : Int)]
theorem sure_get (S : Nat → Nat) (k i : Nat) (hi : i < 3) : (sureArr S k)[i]? = some (.int .i64 ((if i < k then S i else 0 : Nat) : Int)) := by
  obtain rfl | rfl | rfl : i = 0 ∨ i = 1 ∨ i = 2 := by omega
  all_goals rfl
theorem sure_set (S : Nat → Nat) (k : Nat) (hk : k < 3) : (sureArr S k).setIfInBounds k (.int .i64 (S k : Int)) = sureArr S (k + 1) := by
  obtain rfl | rfl | rfl : k = 0 ∨ k = 1 ∨ k = 2 := by omega
  all_goals simp [sureArr]

/-- What a loss of power leaves of the logs. -/
theorem keeps_law {D : DS} {ks : List Int} (h : Pow D) (hs : ∀ j (h : j < D.logs.length), D.logs[j].1.length ≤ 4194304 ∧ D.logs[j].2 ≤ D.logs[j].1.length) (i : Nat) (hi : i < 3) :
    D.readErr (i : Int) = 0 ∧ ({ D.crash ks with down := false } : DS).readErr (i : Int) = 0 ∧
    ({ D.crash ks with down := false } : DS).sure (i : Int) = (({ D.crash ks with down := false } : DS).log (i : Int)).1.length ∧
    D.sure (i : Int) ≤ (({ D.crash ks with down := false } : DS).log (i : Int)).1.length ∧ (({ D.crash ks with down := false } : DS).log (i : Int)).1.length ≤ (D.log (i : Int)).1.length ∧
    (({ D.crash ks with down := false } : DS).log (i : Int)).1 = (D.log (i : Int)).1.take (({ D.crash ks with down := false } : DS).log (i : Int)).1.length := by
  have hi1 : i < D.logs.length := by rw [h.1]; exact hi
  obtain ⟨a1, a2, a3⟩ := pow_read h hi
  obtain ⟨b1, b2, b3⟩ := pow_read (pow_crash (ks := ks) h) hi
  have hlg : ({ D.crash ks with down := false } : DS).log (i : Int) = crashLog D.logs[i] ks[i]? := by
    rw [b3]
    unfold DS.crash
    simp only [h.2.1, Bool.false_eq_true, if_false]
    rw [crashTo_get, if_pos hi1]
  have hle := crashN_le (hs i hi1).2 ks[i]?
  rw [a2, b2, hlg, a3]
  have hl : (crashLog D.logs[i] ks[i]?).1.length = crashN D.logs[i] ks[i]? := by simp only [crashLog, List.length_take]; omega
  refine ⟨a1, b1, ?_, ?_, ?_, ?_⟩
  · rw [hl]; rfl
  · rw [hl]; exact hle.2
  · rw [hl]; exact hle.1
  · rw [hl]; rfl

set_option maxHeartbeats 4000000 in
set_option maxRecDepth 100000 in
theorem diskKeeps_walk (A : Option Addr) (n0 c : Nat) (l : List Act5) (K : Option Addr) (m0 d0 : Nat) (keep : List Int) (w : World) (w0 : n0 = l.length ∧ Cells w A (acs l) ∧ ∀ x ∈ l, GoodAct w x) (w1 : m0 = keep.length ∧ m0 ≤ d0 ∧ Cells w K (ints keep)) :
    Calls Try.prog 14 #[.slice A n0 c, .slice K m0 d0] w fun e w' => e = .returned (.bool true) ∧ Below w.heap.size w w' := by
  obtain ⟨hn, hA, hg⟩ := w0
  obtain ⟨hm, hmd, hK⟩ := w1
  have HM := Lib.hid (dmade_calls A n0 c l w hn hA hg)
  have hpow := pow_made l
  obtain ⟨D0, hD0⟩ : ∃ D, D = madeD l := ⟨_, rfl⟩
  rw [← hD0] at HM hpow
  have HK := Lib.hid (hK.take 20)
  have HPO := Lib.hid hpow
  have HM0 := Lib.hid hm
  clear hn hA hg hD0 hpow hK hm
  go_enter Try.func14, Try.ntmps14
  go_wp2_with fail
  refine HM.out.mono ?_
  rintro e w1 ⟨g, S1, rfl, h1⟩
  have H1 := Lib.hid h1
  clear h1 HM
  go_wp2_with fail
  refine (dawake_calls w1).mono ?_
  rintro e w2 ⟨rfl, b2⟩
  have h2 := H1.out.later b2
  have hsm := h2.disk.small
  have b4 := (Below.refl w2.heap.size w2).alloc (Nat.le_refl _) (.cells #[.string ⟨#[]⟩, .string ⟨#[]⟩, .string ⟨#[]⟩] 79)
  have b5 := (Below.refl (w2.alloc (.cells #[.string ⟨#[]⟩, .string ⟨#[]⟩, .string ⟨#[]⟩] 79)).heap.size _).alloc (Nat.le_refl _) (.cells #[.int .i64 0, .int .i64 0, .int .i64 0] 80)
  have h6 := (h2.later b4).later b5
  have n6 := (Blk.new w2 79 #[.string ⟨#[]⟩, .string ⟨#[]⟩, .string ⟨#[]⟩]).below b5
  have n7 := Blk.new (w2.alloc (.cells #[.string ⟨#[]⟩, .string ⟨#[]⟩, .string ⟨#[]⟩] 79)) 80 #[.int .i64 0, .int .i64 0, .int .i64 0]
  rw [World.size_alloc] at n7
  have hb8 : ∀ i, S1 i → i ≠ w2.heap.size ∧ i ≠ w2.heap.size + 1 := fun i hi => by have := (h2.own i hi).2; omega
  have hb8w : w.heap.size ≤ w2.heap.size := h2.below.size
  have hlaw := fun i hi => keeps_law (ks := keep.take 20) HPO.out hsm i hi
  obtain ⟨D1, hD1⟩ : ∃ D, D = ({ D0.crash (keep.take 20) with down := false } : DS) := ⟨_, rfl⟩
  rw [← hD1] at hlaw
  have hcr : D0.crash (keep.take 20) = { D1 with down := true } := by
    rw [hD1]; unfold DS.crash; rw [if_neg (by rw [HPO.out.2.1]; decide)]
  have hup : (⟨D1.logs, D1.acts, false, D1.armed, D1.keep⟩ : DS) = D1 := by rw [hD1]
  have HUP := Lib.hid hup
  have HCR := Lib.hid hcr
  have HLAW := Lib.hid hlaw
  have H6 := Lib.hid h6
  have N6 := Lib.hid n6
  have N7 := Lib.hid n7
  have HB8 := Lib.hid hb8
  clear h2 hsm b2 H1 hlaw hcr hD1 b4 b5 h6 n6 n7 hb8 hup HPO
  by_cases hm20 : 20 < m0
  case' pos =>
    have hb1 : (20 : Int) < (m0 : Int) := by omega
    have hdc : 20 ≤ d0 := by omega
    have HML := Lib.hid (show 20 = (keep.take 20).length by have := HM0.out; simp; omega)
    clear HM0 hmd hm20
    go_upto_region 8 with fail
    clear hb1 hdc
  case' neg =>
    have hb1 : ¬ (20 : Int) < (m0 : Int) := by omega
    have HML := Lib.hid (show m0 = (keep.take 20).length by have := HM0.out; simp; omega)
    clear HM0 hmd hm20
    go_upto_region 8 with fail
    clear hb1
  all_goals
    generalize (w2.alloc (Obj.cells #[.string ⟨#[]⟩, .string ⟨#[]⟩, .string ⟨#[]⟩] 79)).alloc (Obj.cells #[.int .i64 0, .int .i64 0, .int .i64 0] 80) = W6 at H6 N6 N7 ⊢
    have h6 := H6.out
    have n6 := N6.out
    have n7 := N7.out
    have hb8 := HB8.out
    clear H6 N6 N7 HB8
    obtain ⟨b8, hb8e⟩ : ∃ b, b = w2.heap.size := ⟨_, rfl⟩
    rw [← hb8e] at hb8 hb8w n6 n7 ⊢
    clear hb8e
    obtain ⟨L, hL⟩ : ∃ L : Nat → List UInt8, L = fun i : Nat => (D0.log (i : Int)).1 := ⟨_, rfl⟩
    obtain ⟨S, hS⟩ : ∃ S : Nat → Nat, S = fun i : Nat => D0.sure (i : Int) := ⟨_, rfl⟩
    have n6 : Blk W6 b8 79 (wasArr L 0) := n6
    have n7 : Blk W6 (b8 + 1) 80 (sureArr S 0) := n7
    have HRD := Lib.hid (show ∀ i : Nat, i < 3 → D0.readErr (i : Int) = 0 ∧ (D0.log (i : Int)).1 = L i ∧ D0.sure (i : Int) = S i ∧ D1.readErr (i : Int) = 0 ∧ D1.sure (i : Int) = (D1.log (i : Int)).1.length ∧ S i ≤ (D1.log (i : Int)).1.length ∧ (D1.log (i : Int)).1.length ≤ (L i).length ∧ (D1.log (i : Int)).1 = (L i).take (D1.log (i : Int)).1.length from fun i hi => by
      obtain ⟨a1, a2, a3, a4, a5, a6⟩ := HLAW.out i hi
      rw [hL, hS]
      exact ⟨a1, rfl, rfl, a2, a3, a4, a5, a6⟩)
    have H6 := Lib.hid h6
    have N6 := Lib.hid n6
    have N7 := Lib.hid n7
    have HB8 := Lib.hid hb8
    clear h6 n6 n7 hL hS hb8 HLAW
    go_wp2
    go_loopw [8] (fun i wr => ∃ k : Nat, k ≤ 3 ∧ i = .int .i64 k ∧ Held w wr S1 g D0 ∧ Blk wr b8 79 (wasArr L k) ∧ Blk wr (b8 + 1) 80 (sureArr S k)) (fun i _ => 3 - (intOf i).toNat)
    case atStart => exact ⟨0, by omega, rfl, H6.out, N6.out, N7.out⟩
    case round =>
      obtain ⟨k, hk, rfl, hd, hb, hc⟩ := hrel
      clear H6 N6 N7
      by_cases hlt : k < 3
      · obtain ⟨re, rl, rs, _⟩ := HRD.out k hlt
        have RE := Lib.hid re
        have RL := Lib.hid rl
        have RS := Lib.hid rs
        have HH := Lib.hid hd
        have HB := Lib.hid hb
        have HC := Lib.hid hc
        clear re rl rs hd hb hc
        go_wp2_with fail
        refine (dread_calls g S1 D0 (k : Int) wr HH.out.disk).mono ?_
        rintro e w7 ⟨v7, rfl, r7, b7⟩
        rw [RE.out, if_pos rfl, if_pos rfl, RL.out] at r7
        rw [RE.out]
        obtain ⟨A7, c7, rfl, _, _, o7, ho7⟩ := r7.cells1
        have h7 := HH.out.later b7
        have hlb := HB.out.lt
        have hlc := HC.out.lt
        have hb7 := HB.out.below b7
        have hc7 := HC.out.below b7
        have KCV := Lib.hid (show ∀ W, Upd (fun i => i = b8 ∨ i = b8 + 1) w7 W → (convert 22 9 (.slice A7 (L k).length c7)).run Try.prog W = .ok (.string (str (L k))) W from fun W hu =>
          run_string (w := W) 22 9 5 Try.underlying22 Try.underlying5 Try.underlying9 A7 c7 (L k) (o7.upd hu (fun ad e _ => by have := (ho7 ad e).1; omega)))
        have HSR := Lib.hid (show Calls Try.prog 50 #[.pointer (some ⟨g, 0, none⟩), .int .i64 (k : Int)] w7.drew fun e w' => e = .returned (.int .i64 (S k : Int)) ∧ w7.drew = w' from by
          have := dsure_calls g S1 D0 (k : Int) w7.drew (h7.disk.below (bdrew (Below.refl _ _)))
          rw [RS.out] at this
          exact this)
        have c6' : w7.cell? ⟨b8, k, none⟩ = some (.string (str (if k < k then L k else []))) := hb7.cell k _ (was_get L k k hlt)
        have c7' : w7.cell? ⟨b8 + 1, k, none⟩ = some (.int .i64 ((if k < k then S k else 0 : Nat) : Int)) := hc7.cell k _ (sure_get S k k hlt)
        have f6' : w7.frozen? ⟨b8, k, none⟩ = false := hb7.free k none
        have f7' : w7.frozen? ⟨b8 + 1, k, none⟩ = false := hc7.free k none
        have H7 := Lib.hid h7
        have HB7 := Lib.hid hb7
        have HC7 := Lib.hid hc7
        have hst6 := (hb7.set k (.string (str (L k)))).upd ((Upd.refl (fun i => i = b8 + 1) _).set ⟨b8 + 1, k, none⟩ (.int .i64 (S k : Int)) (fun _ => rfl)) (by omega)
        rw [was_set L k hlt] at hst6
        have hst7 := (hc7.upd ((Upd.refl (fun i => i = b8) w7).set ⟨b8, k, none⟩ (.string (str (L k))) (fun _ => rfl)) (by omega)).set k (.int .i64 (S k : Int))
        rw [sure_set S k hlt] at hst7
        have h8 := h7.upd (S2 := fun i => i = b8 ∨ i = b8 + 1) (((Upd.refl (fun i => i = b8 ∨ i = b8 + 1) w7).set ⟨b8, k, none⟩ (.string (str (L k))) (fun _ => .inl rfl)).set ⟨b8 + 1, k, none⟩ (.int .i64 (S k : Int)) (fun _ => .inr rfl)) (fun i e hs => by have := HB8.out i hs; omega) (fun i e => by omega)
        have HST6 := Lib.hid (hst6.below (bdrew (Below.refl _ _)))
        have HST7 := Lib.hid (hst7.below (bdrew (Below.refl _ _)))
        have H8 := Lib.hid h8.drew
        clear o7 h7 b7 hb7 hc7 HH HB HC ho7 hlb hlc r7 hst6 hst7 h8
        go_upto_region 14 with fail
        go_region_held3 (fun W => (convert 22 9 (.slice A7 (L k).length c7)).run Try.prog W = .ok (.string (str (L k))) W) ((refine KCV.out _ ?_; repeat (first | exact Upd.refl _ _ | refine Upd.drew1 ?_ | (refine Upd.set ?_ _ _ (fun _ => (by first | exact .inl rfl | exact .inr rfl)))))) (first | (go_at_call 50; refine HSR.out.mono ?_; rintro e w8 ⟨rfl, rfl⟩))
        go_wp2_with fail
        exact ⟨⟨k + 1, by omega, by go_num, H8.out, HST6.out, HST7.out⟩, by simp [intOf]; omega⟩
      · obtain rfl : k = 3 := by omega
        have HH := Lib.hid hd
        have HB := Lib.hid hb
        have HC := Lib.hid hc
        clear hd hb hc
        go_wp2_with fail
        refine (held_crash0 HH.out K _ d0 (keep.take 20) HML.out HK.out).mono ?_
        rintro e w7 ⟨rfl, S7, h7, g7⟩
        rw [HCR.out] at h7
        have H7 := Lib.hid h7
        have hb7 := HB.out.upd g7.upd (fun h => (HB8.out _ h).1 rfl)
        have hc7 := HC.out.upd g7.upd (fun h => (HB8.out _ h).2 rfl)
        have hltb := HB.out.lt
        have hltc := HC.out.lt
        have hn7 : ∀ i, S7 i → i ≠ b8 ∧ i ≠ b8 + 1 := fun i hi => by
          rcases g7.new i hi with h | h
          · exact HB8.out i h
          · omega
        have HB7 := Lib.hid hb7
        have HC7 := Lib.hid hc7
        have HN7 := Lib.hid hn7
        clear h7 g7 hb7 hc7 hltb hltc hn7 HH HB HC
        go_wp2_with fail
        refine (ddown_calls _ _ _ w7 H7.out.disk).mono ?_
        rintro e w8 ⟨rfl, rfl⟩
        go_wp2_with fail
        refine (held_up H7.out).mono ?_
        rintro e w8 ⟨rfl, S8, h8, g8⟩
        have h8 : Held w w8 S8 g ⟨D1.logs, D1.acts, false, D1.armed, D1.keep⟩ := h8
        rw [HUP.out] at h8
        have H8 := Lib.hid h8
        have HB9 := Lib.hid (HB7.out.upd g8.upd (fun h => (HN7.out _ h).1 rfl))
        have HC9 := Lib.hid (HC7.out.upd g8.upd (fun h => (HN7.out _ h).2 rfl))
        clear h8 g8 H7 HB7 HC7 HN7 HCR HUP
        go_wp2
        go_loopw [11] (fun i wr => ∃ k : Nat, k ≤ 3 ∧ i = .int .i64 k ∧ Held w wr S8 g D1 ∧ Blk wr b8 79 (wasArr L 3) ∧ Blk wr (b8 + 1) 80 (sureArr S 3)) (fun i _ => 3 - (intOf i).toNat)
        case atStart => exact ⟨0, by omega, rfl, H8.out, HB9.out, HC9.out⟩
        case round =>
          obtain ⟨k, hk, rfl, hd, hb, hc⟩ := hrel
          clear H8 HB9 HC9
          by_cases hlt : k < 3
          · obtain ⟨_, _, _, re, rs, l1, l2, l3⟩ := HRD.out k hlt
            obtain ⟨T, hT⟩ : ∃ T, T = (D1.log (k : Int)).1 := ⟨_, rfl⟩
            rw [← hT] at rs l1 l2 l3
            have RE := Lib.hid re
            have RL := Lib.hid hT.symm
            have RS := Lib.hid rs
            have HH := Lib.hid hd
            have HB := Lib.hid hb
            have HC := Lib.hid hc
            have hse : (str (L k)).extract 0 T.length = str T := by rw [str_extract]; simp only [List.drop_zero, Nat.sub_zero]; rw [← l3]
            have HSE := Lib.hid hse
            have hsz : T.length ≤ (str (L k)).size := by rw [str_size]; exact l2
            clear re rs hd hb hc hT l3 hse l2
            go_wp2_with fail
            refine (held_read HH.out (k : Int)).mono ?_
            rintro e w9 ⟨A9, c9, rfl, o9, h9, b9⟩
            rw [RE.out, if_pos rfl, RL.out] at o9 ⊢
            have hb9 := HB.out.below b9
            have hc9 := HC.out.below b9
            have q9 : w9.cell? ⟨b8, k, none⟩ = some (.string (str (L k))) := by
              have := hb9.cell k _ (was_get L 3 k hlt)
              rw [if_pos hlt] at this; exact this
            have q8 : w9.cell? ⟨b8 + 1, k, none⟩ = some (.int .i64 (S k : Int)) := by
              have := hc9.cell k _ (sure_get S 3 k hlt)
              rw [if_pos hlt] at this; exact this
            have kcv := fun q => run_string (w := w9.drewN q) 22 9 5 Try.underlying22 Try.underlying5 Try.underlying9 A9 c9 T (o9.cells.below (bdrewN (Below.refl _ _) q))
            have HSR := Lib.hid (fun q => (by have := dsure_calls g S8 D1 (k : Int) (w9.drewN q) (h9.drewN q).disk; rw [RS.out] at this; exact this : Calls Try.prog 50 #[.pointer (some ⟨g, 0, none⟩), .int .i64 (k : Int)] (w9.drewN q) fun e w' => e = .returned (.int .i64 (T.length : Int)) ∧ w9.drewN q = w'))
            have H9 := Lib.hid h9
            have HB9 := Lib.hid hb9
            have HC9 := Lib.hid hc9
            have hd1 : decide (T.length < S k) = false := by simpa using l1
            have hd2 : decide ((str (L k)).size < T.length) = false := by simpa using hsz
            have hse := HSE.out
            clear o9 h9 b9 hb9 hc9 HH HB HC l1
            go_upto_region 23 with fail
            go_quiet ((go_at_call 50; exact dquiet_eq (HSR.out _)))
            go_wp2
            go_roundw
            case rel => exact ⟨k + 1, by omega, by go_num, H9.out.drewN _, HB9.out.below (bdrewN (Below.refl _ _) _), HC9.out.below (bdrewN (Below.refl _ _) _)⟩
            case measure => simp [intOf]; omega
          · obtain rfl : k = 3 := by omega
            have HB := Lib.hid hd.below
            clear hd hb hc HRD
            go_wp2
            go_ret
            exact ⟨rfl, HB.out⟩
end Go.Proofs.Ytimjadjopemefaa
