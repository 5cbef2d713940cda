/- The walks of moietyref03's Four, Seal, Open, Scan and Same. -/
import Derived.Test.YtimjadjopemefaaFr5
import Derived.Test.YtimjadjopemefaaRs1
set_option linter.unusedVariables false
set_option linter.unusedSimpArgs false
namespace Go.Proofs.Ytimjadjopemefaa
open Go.RowKit
attribute [local go_sem] str_size str_get str_toList str_append str_extract be4_length List.length_append

theorem ret_str {a b : List UInt8} (h : a = b) : Ending.returned (.string (str a)) = Ending.returned (.string (str b)) := by rw [h]
theorem rfour_calls (n : Nat) (w : World) (hn : n < 4294967296) :
    Calls Try.prog 70 #[.int .u32 (n : Int)] w fun e w' => e = .returned (.string (str (be4 n))) ∧ Below w.heap.size w w' := by
  have hc := be4_cells n hn
  go_enter Try.func70, Try.ntmps70
  go_wp2_with (with_reducible refine halt_dst 15 ?_)
  refine wpList_string rfl (.tmp 14) 22 9 5 rfl Try.underlying22 Try.underlying5 Try.underlying9 _ 4 4 (be4 n) rfl rfl (by rw [← hc]; exact cells_new w _ 5 (by simp)) ?_
  clear hc
  go_wp2
  go_ret
  exact ⟨rfl, (Below.refl _ _).alloc (Nat.le_refl _) _⟩

theorem rseal_long (l : List UInt8) (w : World) (h : 65536 < l.length) (hm : l.length ≤ 1000000000) :
    Calls Try.prog 28 #[.string (str l)] w fun e w' => e = .returned (.tuple #[.string (str []), .int .i64 30]) ∧ w = w' := by
  go_enter Try.func28, Try.ntmps28
  go_wp2
  go_ret2
  exact ⟨rfl, rfl⟩

theorem rseal_calls (l : List UInt8) (w : World) (h : l.length ≤ 65536) :
    Calls Try.prog 28 #[.string (str l)] w fun e w' => e = .returned (.tuple #[.string (str (frameOf l)), .int .i64 0]) ∧ Below w.heap.size w w' := by
  go_enter Try.func28, Try.ntmps28
  go_wp2_with fail
  refine (rfour_calls l.length w (by omega)).mono ?_
  rintro e w1 ⟨rfl, b1⟩
  go_wp2_with fail
  refine (refsum_calls (be4 l.length ++ l) w1 (by simp [be4_length]; omega)).mono ?_
  rintro e w2 ⟨rfl, b2⟩
  go_wp2_with fail
  refine (rfour_calls (crcSum (be4 l.length ++ l)).toNat w2 (crcSum (be4 l.length ++ l)).isLt).mono ?_
  rintro e w3 ⟨rfl, b3⟩
  have b := b1.trans ((b2.mono b1.size).trans (b3.mono (Nat.le_trans b1.size b2.size)))
  clear b1 b2 b3
  go_wp2
  go_ret2
  refine ⟨?_, b⟩
  rfl

/-! ### Open -/
set_option maxHeartbeats 1000000 in
theorem ropen_short (l : List UInt8) (w : World) (h : l.length < 8) :
    Calls Try.prog 30 #[.string (str l)] w fun e w' => e = .returned (.tuple #[.string (str []), .int .i64 0, .int .i64 31]) ∧ w = w' := by
  go_enter Try.func30, Try.ntmps30
  go_wp2
  go_ret3
  exact ⟨rfl, rfl⟩
def rdN (l : List UInt8) (k : Nat) : Nat := (l.take k).foldl (fun n b => 256 * n + b.toNat) 0
theorem rdN_four (a b c d : UInt8) (l : List UInt8) : rdN (a :: b :: c :: d :: l) 4 = rd4 a b c d := by
  simp [rdN, rd4]; omega
theorem rdN_succ (l : List UInt8) (k : Nat) (h : k < l.length) : rdN l (k + 1) = 256 * rdN l k + l[k].toNat := by
  simp only [rdN]
  rw [List.take_succ_eq_append_getElem h, List.foldl_append]; rfl
theorem rdN_lt (l : List UInt8) (k : Nat) : rdN l k < 256 ^ k := by
  induction k with
  | zero => simp [rdN]
  | succ k ih =>
    by_cases h : k < l.length
    · rw [rdN_succ l k h, Nat.pow_succ]
      have := l[k].toNat_lt
      omega
    · have : rdN l (k + 1) = rdN l k := by simp only [rdN]; rw [List.take_of_length_le (by omega), List.take_of_length_le (by omega)]
      rw [this, Nat.pow_succ]; omega

theorem be4_rd4 (a b c d : UInt8) : be4 (rd4 a b c d) = [a, b, c, d] := by
  have ha := a.toNat_lt; have hb := b.toNat_lt; have hc := c.toNat_lt; have hd := d.toNat_lt
  have h : ∀ (x : UInt8) (n : Nat), n % 256 = x.toNat → UInt8.ofNat n = x := fun x n e => by
    apply UInt8.toNat_inj.1; simp [e]
  unfold be4 rd4
  rw [h a _ (by omega), h b _ (by omega), h c _ (by omega), h d _ (by omega)]
theorem rd4_be4 (n : Nat) (h : n < 4294967296) (a b c d : UInt8) (he : be4 n = [a, b, c, d]) : n = rd4 a b c d := by
  unfold be4 at he
  simp only [List.cons.injEq, and_true] at he
  obtain ⟨rfl, rfl, rfl, rfl⟩ := he
  unfold rd4
  simp
  omega
theorem take8 {α : Type} (a0 a1 a2 a3 a4 a5 a6 a7 : α) (k : List α) (m : Nat) : (a0 :: a1 :: a2 :: a3 :: a4 :: a5 :: a6 :: a7 :: k).take (8 + m) = [a0, a1, a2, a3] ++ [a4, a5, a6, a7] ++ k.take m := by
  rw [Nat.add_comm 8 m]; simp
theorem frame_eq (c4 s4 load : List UInt8) (s m : Nat) (hl : load.length = m) (hb0 : be4 m = c4) (hb4 : be4 s = s4) (hinj : ∀ n, n < 4294967296 → be4 n = s4 → n = s) :
    (frameOf load == c4 ++ s4 ++ load) = true ↔ (crcSum (c4 ++ load)).toNat = s := by
  unfold frameOf
  rw [hl, hb0]
  constructor
  · intro hc
    have hc' := eq_of_beq hc
    rw [List.append_assoc, List.append_assoc] at hc'
    have h2 := List.append_cancel_left hc'
    have h3 := (List.append_inj h2 (by rw [← hb4]; rfl)).1
    exact hinj _ (crcSum _).isLt h3
  · intro hs
    rw [hs, hb4]; simp
theorem openErr_of (l : List UInt8) (h : 8 ≤ l.length) : rdAt l 0 = rdN l 4 ∧ (openErr l = if 65536 < rdN l 4 then 30 else if l.length - 8 < rdN l 4 then 31 else if (frameOf ((l.drop 8).take (rdN l 4)) == l.take (8 + rdN l 4)) = true then 0 else 32) := by
  obtain ⟨a0, a1, a2, a3, a4, a5, a6, a7, k, rfl⟩ := long8 l h
  obtain ⟨L, hL⟩ : ∃ L, L = a0 :: a1 :: a2 :: a3 :: a4 :: a5 :: a6 :: a7 :: k := ⟨_, rfl⟩
  have h0 : rdAt L 0 = rd4 a0 a1 a2 a3 := by rw [hL]; rfl
  have h4 : rdAt L 4 = rd4 a4 a5 a6 a7 := by rw [hL]; rfl
  have hn : rdN L 4 = rd4 a0 a1 a2 a3 := by rw [hL]; exact rdN_four _ _ _ _ _
  have hb0 := be4_rd4 a0 a1 a2 a3
  have hb4 := be4_rd4 a4 a5 a6 a7
  have hinj := fun n h => rd4_be4 n h a4 a5 a6 a7
  have ht := take8 a0 a1 a2 a3 a4 a5 a6 a7 k
  have e1 : L.drop 8 = k := by rw [hL]; rfl
  have e3 : L.take 4 = [a0, a1, a2, a3] := by rw [hL]; rfl
  have hlen : L.length = k.length + 8 := by rw [hL]; rfl
  rw [← hL] at ht ⊢
  clear hL h
  generalize rd4 a0 a1 a2 a3 = m at *
  generalize rd4 a4 a5 a6 a7 = s at *
  refine ⟨h0.trans hn.symm, ?_⟩
  unfold openErr
  rw [h0, h4, hn, hlen, if_neg (by omega)]
  by_cases h30 : 65536 < m
  · rw [if_pos h30, if_pos h30]
  rw [if_neg h30, if_neg h30]
  by_cases h31 : k.length + 8 - 8 < m
  · rw [if_pos h31, if_pos h31]
  rw [if_neg h31, if_neg h31, e1, e3, ht m]
  have hl : (k.take m).length = m := by simp; omega
  have hfe := frame_eq [a0, a1, a2, a3] [a4, a5, a6, a7] (k.take m) s m hl hb0 hb4 hinj
  by_cases hs : (crcSum ([a0, a1, a2, a3] ++ k.take m)).toNat = s
  · rw [if_neg (fun h => h hs), if_pos (hfe.2 hs)]
  · rw [if_pos hs, if_neg (fun h => hs (hfe.1 h))]

theorem ret_sii {l : List UInt8} {a b c d : Int} (h : a = c) (k : b = d) : Ending.returned (.tuple #[.string (str l), .int .i64 a, .int .i64 b]) = Ending.returned (.tuple #[.string (str l), .int .i64 c, .int .i64 d]) := by rw [h, k]

set_option maxHeartbeats 1000000 in
theorem ropen_calls8 (l : List UInt8) (w : World) (h : 8 ≤ l.length) (hl : l.length ≤ 1000000000) :
    Calls Try.prog 30 #[.string (str l)] w fun e w' => e = .returned (.tuple #[.string (str (openLoad l)), .int .i64 (openLen l), .int .i64 (openErr l)]) ∧ Below w.heap.size w w' := by
  have HLT := Lib.hid (rdN_lt l)
  have HE := Lib.hid (openErr_of l h)
  go_enter Try.func30, Try.ntmps30
  go_wp2
  go_loop [5, 6] (fun n i => ∃ k : Nat, k ≤ 4 ∧ i = .int .i64 k ∧ n = .int .i64 (rdN l k)) (fun _ i => 4 - (intOf i).toNat)
  case atStart => exact ⟨0, by omega, rfl, rfl⟩
  case round =>
    obtain ⟨k, hk, rfl, rfl⟩ := hrel
    by_cases hlt : k < 4
    · have hb := HLT.out k
      have hb2 : 256 ^ k ≤ 256 ^ 3 := Nat.pow_le_pow_right (by decide) (by omega)
      have hb3 : rdN l k < 16777216 := by omega
      have hb4 := l[k].toNat_lt
      have hs := rdN_succ l k (by omega)
      have HS := Lib.hid hs
      clear hb hb2 hs
      go_wp2
      go_round
      case rel => exact ⟨k + 1, by omega, by go_num, by rw [HS.out]; rfl⟩
      case measure => simp [intOf]; omega
    · have hr4 : rdN l k = rdN l 4 := by obtain rfl : k = 4 := by omega
                                         rfl
      rw [hr4]
      have hm := HLT.out 4
      generalize hmm : rdN l 4 = m at HE hm
      have HM := Lib.hid hmm
      clear hmm hr4
      have hm2 : m < 4294967296 := hm
      clear hm
      by_cases h30 : 65536 < m
      · have he : openErr l = 30 := by rw [HE.out.2, if_pos h30]
        have HR := Lib.hid he
        clear he
        go_wp2
        go_ret3
        have hz : openErr l ≠ 0 := by rw [HR.out]; decide
        exact ⟨by rw [openLoad_no hz]; exact ret_sii (openLen_no hz).symm HR.out.symm, Below.refl _ _⟩
      by_cases h31 : l.length - 8 < m
      · have he : openErr l = 31 := by rw [HE.out.2, if_neg h30, if_pos h31]
        have HR := Lib.hid he
        clear he
        go_wp2
        go_ret3
        have hz : openErr l ≠ 0 := by rw [HR.out]; decide
        exact ⟨by rw [openLoad_no hz]; exact ret_sii (openLen_no hz).symm HR.out.symm, Below.refl _ _⟩
      obtain ⟨load, hload⟩ : ∃ load, load = (l.drop 8).take m := ⟨_, rfl⟩
      have hll : load.length = m := by rw [hload]; simp; omega
      have HLD := Lib.hid hload
      have HLL := Lib.hid hll
      have hle : load.length ≤ 65536 := by omega
      clear hload hll
      go_wp2_with fail
      rw [← HLD.out]
      refine (rseal_calls load w hle).mono ?_
      rintro e w1 ⟨rfl, b1⟩
      cases heq : (frameOf load == l.take (8 + m))
      · have he : openErr l = 32 := by rw [HE.out.2, if_neg h30, if_neg h31, ← HLD.out, heq]; rfl
        have HR := Lib.hid he
        clear he
        go_wp2
        go_ret3
        have hz : openErr l ≠ 0 := by rw [HR.out]; decide
        exact ⟨by rw [openLoad_no hz]; exact ret_sii (openLen_no hz).symm HR.out.symm, b1⟩
      · have he : openErr l = 0 := by rw [HE.out.2, if_neg h30, if_neg h31, ← HLD.out, heq]; rfl
        have HR := Lib.hid he
        clear he
        go_wp2
        go_ret3
        exact ⟨by rw [openLoad_ok HR.out, HE.out.1, ← HLD.out]; exact ret_sii (by rw [openLen_ok HR.out, HE.out.1]) HR.out.symm, b1⟩
end Go.Proofs.Ytimjadjopemefaa
