/- FrameBack: the walk of the law. -/
import Derived.Test.YtimjadjopemefaaLw1
set_option linter.unusedVariables false
set_option linter.unusedSimpArgs false
namespace Go.Proofs.Ytimjadjopemefaa
open Go.RowKit
attribute [local go_sem] str_size str_get str_toList str_append str_extract

/-- What was sealed is opened. -/
theorem open_sealed (k t : List UInt8) (h : k.length ≤ 65536) : openErr (frameOf k ++ t) = 0 ∧ openLen (frameOf k ++ t) = 8 + k.length ∧ openLoad (frameOf k ++ t) = k := by
  obtain ⟨c0, c1, c2, c3, hc⟩ : ∃ c0 c1 c2 c3, be4 k.length = [c0, c1, c2, c3] := ⟨_, _, _, _, rfl⟩
  obtain ⟨s0, s1, s2, s3, hs⟩ : ∃ c0 c1 c2 c3, be4 (crcSum (be4 k.length ++ k)).toNat = [c0, c1, c2, c3] := ⟨_, _, _, _, rfl⟩
  have h1 := rd4_be4 k.length (by omega) _ _ _ _ hc
  have h2 := rd4_be4 (crcSum (be4 k.length ++ k)).toNat (crcSum (be4 k.length ++ k)).isLt _ _ _ _ hs
  have hl : frameOf k ++ t = c0 :: c1 :: c2 :: c3 :: s0 :: s1 :: s2 :: s3 :: (k ++ t) := by
    unfold frameOf; rw [hc] at hs ⊢; rw [hs]; simp
  have hlen : (frameOf k ++ t).length = 8 + k.length + t.length := by rw [List.length_append, frameOf_length]
  obtain ⟨L, hL⟩ : ∃ L, L = frameOf k ++ t := ⟨_, rfl⟩
  rw [← hL] at hlen hl ⊢
  have h0 : rdAt L 0 = k.length := by rw [hl, h1]; rfl
  have h4 : rdAt L 4 = (crcSum (be4 k.length ++ k)).toNat := by rw [hl, h2]; rfl
  have ht4 : L.take 4 = be4 k.length := by rw [hl, hc]; rfl
  have hd8 : (L.drop 8).take k.length = k := by rw [hl]; simp
  clear hL hl h1 h2
  have he : openErr L = 0 := by
    unfold openErr
    rw [if_neg (by omega), h0, if_neg (by omega), if_neg (by omega), ht4, hd8, h4, if_neg (by simp)]
  exact ⟨he, by rw [openLen, if_pos he, h0], by rw [openLoad, if_pos he, h0, hd8]⟩

set_option maxHeartbeats 1000000 in
theorem frameBack_walk (l tl : List UInt8) (w : World) (hl : l.length ≤ 140737488351232) (htl : tl.length ≤ 140737488351232) :
    Calls Try.prog 7 #[.string (str l), .string (str tl)] w fun e w' => e = .returned (.bool true) ∧ Below w.heap.size w w' := by
  obtain ⟨k, hk⟩ : ∃ k, l.take 2000 = k := ⟨_, rfl⟩
  have hkl : k.length ≤ 2000 := by rw [← hk]; simp; omega
  have HK := Lib.hid hk
  clear hk
  obtain ⟨t, ht⟩ : ∃ t, tl.take 2000 = t := ⟨_, rfl⟩
  have htl2 : t.length ≤ 2000 := by rw [← ht]; simp; omega
  have HT := Lib.hid ht
  clear ht
  have HO := Lib.hid (open_sealed k t (by omega))
  have HF := Lib.hid (frameOf_length k)
  go_enter Try.func7, Try.ntmps7
  go_wp2_with fail
  refine (bytes_calls l k 2000 w HK.out hl (by decide)).mono ?_
  rintro e w1 ⟨v, rfl, _, ⟨A, c, rfl, hc, hA, _⟩, b1⟩
  go_wp2_with fail
  refine (seal_calls A _ c k w1 rfl hA (by omega)).mono ?_
  rintro e w2 ⟨v2, rfl, r2, b2⟩
  have B2 := b1.trans (b2.mono b1.size)
  have hA2 := hA.below b2
  obtain ⟨A3, c3, rfl, hc3, hA3, _⟩ := BS.of_row r2
  clear b1 b2 hA r2
  rw [HF.out] at hc3 ⊢
  go_wp2_with (with_reducible refine halt_dst 21 ?_)
  have G3 : Below w2.heap.size w2 (w2.alloc (.cells #[] 5)) := (Below.refl _ _).alloc (Nat.le_refl _) _
  refine wpList_append_row rfl (.tmp 19) (.tmp 20) 22 rfl w2.heap.size 5 (.int .u8 0) 1 1 Try.underlying22 Try.info5 rfl (by decide) (.slice (some ⟨w2.heap.size, 0, none⟩) 0 0) 0 [] rfl (row_new w2 w2.heap.size 5 1 (Nat.le_refl _)) A3 (8 + k.length) c3 _ rfl (by rw [byts_length, HF.out]; omega) (hA3.alloc _) (byts_one _) (by simp only [maxLen]; omega) (by omega) G3.size ?_
  intro v4 w4 r4 g4 _
  have G4 : Below w2.heap.size w2 w4 := G3.grown g4 G3.size (fun k hk => by simp [Value.ownBlock] at hk; omega)
  clear g4 G3
  go_wp2_with fail
  refine (bytes_calls tl t 2000 w4 HT.out htl (by decide)).mono ?_
  rintro e w5 ⟨v5, rfl, _, ⟨A5, c5, rfl, hc5, hA5, _⟩, b5⟩
  have G5 := G4.trans (b5.mono G4.size)
  have r5 := r4.below b5
  clear G4 b5 r4
  go_wp2_with (with_reducible refine halt_dst 24 ?_)
  refine wpList_append_row rfl (.tmp 21) (.tmp 23) 22 rfl w2.heap.size 5 (.int .u8 0) 1 1 Try.underlying22 Try.info5 rfl (by decide) v4 _ _ rfl r5 A5 _ c5 (byts t) rfl (by rw [byts_length]; omega) hA5 (byts_one _) (by simp only [maxLen]; omega) (by omega) G5.size ?_
  intro v6 w6 r6 g6 _
  have G6 : Below w2.heap.size w2 w6 := G5.grown g6 G5.size (fun k hk => (r5.lt k hk).1)
  have R6 : Row w6 w2.heap.size 5 1 v6 (0 + (8 + k.length) + t.length) (byts (frameOf k ++ t)) := by rw [byts_append]; exact r6
  obtain ⟨A7, c7, rfl, hc7, hA7, _⟩ := BS.of_row R6
  have hA8 := hA2.below G6
  have B6 := B2.trans (G6.mono B2.size)
  clear G5 g6 r6 r5 R6 G6 B2 hA2 hA5
  go_wp2_with fail
  refine (open_calls A7 _ c7 (frameOf k ++ t) w6 (by simp) (by simpa using hc7) hA7).mono ?_
  rintro e w7 ⟨v7, rfl, f7, b7⟩
  rw [HO.out.2.2] at f7
  rw [HO.out.1, HO.out.2.1]
  obtain ⟨A9, rfl, hA9, _⟩ := f7
  have B7 := B6.trans (b7.mono B6.size)
  have hA10 := hA8.below b7
  clear B6 b7 hA8 hA7
  go_wp2_with fail
  refine (awake_calls w7).mono ?_
  rintro e w8 ⟨rfl, b8⟩
  have B8 := B7.trans (b8.mono B7.size)
  have hA11 := hA10.below b8
  have hA12 := hA9.below b8
  clear B7 b8 hA10 hA9
  go_wp2_with (first | with_reducible refine halt_dst 46 ?_ | with_reducible refine halt_dst 48 ?_)
  refine wpList_string rfl (.tmp 45) 22 9 5 rfl Try.underlying22 Try.underlying5 Try.underlying9 A9 _ _ k rfl rfl hA12 ?_
  go_wp2_with (first | with_reducible refine halt_dst 46 ?_ | with_reducible refine halt_dst 48 ?_)
  refine wpList_string rfl (.tmp 47) 22 9 5 rfl Try.underlying22 Try.underlying5 Try.underlying9 A _ _ k rfl rfl hA11 ?_
  go_wp2
  go_ret
  exact ⟨rfl, B8⟩
end Go.Proofs.Ytimjadjopemefaa
