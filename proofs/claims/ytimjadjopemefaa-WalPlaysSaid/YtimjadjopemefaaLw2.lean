/- The walks of moietylaw03's loads and sealed. -/
import Derived.Test.YtimjadjopemefaaLw1
set_option linter.unusedVariables false
set_option linter.unusedSimpArgs false
namespace Go.Proofs.Ytimjadjopemefaa
open Go.RowKit
attribute [local go_sem] str_size str_get str_toList str_append str_extract

/-- bytes, of any text. -/
theorem bytes_any (l k : List UInt8) (m : Nat) (w : World) (hk : l.take m = k) (hl : l.length ≤ 9223372036854775807) (hm : m ≤ 1000000000) :
    Calls Try.prog 23 #[.string (str l), .int .i64 (m : Int)] w fun e w' => ∃ v, e = .returned v ∧ v.ownBlock = some w.heap.size ∧ BS w' w.heap.size v k ∧ Below w.heap.size w w' := by
  have hlen : k.length ≤ l.length := by rw [← hk]; simp; omega
  have HK := Lib.hid hk
  clear hk
  by_cases h : m < l.length
  · go_enter Try.func23, Try.ntmps23
    go_wp2_with (with_reducible refine halt_dst 13 ?_)
    refine wpList_bytes rfl (.tmp 12) 9 22 rfl Try.underlying9 Try.underlying22 Try.underlying5 k (by rw [← HK.out]; rfl) ?_
    intro c w1 hc hb hbel _
    go_wp2
    go_ret
    exact ⟨_, rfl, rfl, BS.of_bytes hb (by omega) hc (Nat.le_refl _), hbel⟩
  · have ht : l = k := by rw [← HK.out, List.take_of_length_le (by omega)]
    subst ht
    go_enter Try.func23, Try.ntmps23
    go_wp2_with (with_reducible refine halt_dst 13 ?_)
    refine wpList_bytes rfl (.tmp 12) 9 22 rfl Try.underlying9 Try.underlying22 Try.underlying5 l rfl ?_
    intro c w1 hc hb hbel _
    go_wp2
    go_ret
    exact ⟨_, rfl, rfl, BS.of_bytes hb (by omega) hc (Nat.le_refl _), hbel⟩

theorem Cells.strAt {w : World} {A : Option Addr} {ls : List (List UInt8)} (h : Cells w A (strs ls)) (k : Nat) (hk : k < ls.length) : ∃ ad, A = some ad ∧ w.cell? (ad.add k) = some (.string (str (ls[k]))) :=
  h.get k _ (by simp [strs, hk])
def loadsOf (ls : List (List UInt8)) : List (List UInt8) := (ls.take 12).map (·.take 300)
theorem loadsOf_len (ls : List (List UInt8)) : (loadsOf ls).length ≤ 12 := by simp [loadsOf]; omega
theorem loadsOf_small (ls : List (List UInt8)) : ∀ l ∈ loadsOf ls, l.length ≤ 300 := by
  intro l hl; simp only [loadsOf, List.mem_map] at hl; obtain ⟨x, _, rfl⟩ := hl; simp; omega
theorem loads_step (ls : List (List UInt8)) (k : Nat) (h : k < ls.length) : (ls.take (k + 1)).map (·.take 300) = (ls.take k).map (·.take 300) ++ [ls[k].take 300] := by
  rw [List.take_succ_eq_append_getElem h, List.map_append]; rfl

theorem loads_calls (A : Option Addr) (n c : Nat) (ls : List (List UInt8)) (w : World) (hn : n = ls.length) (hc : Cells w A (strs ls)) (hs : ∀ l ∈ ls, l.length ≤ 9223372036854775807) :
    Calls Try.prog 34 #[.slice A n c] w fun e w' => ∃ v, e = .returned v ∧ Row w' w.heap.size 9 1 v (loadsOf ls).length (strs (loadsOf ls)) ∧ Below w.heap.size w w' := by
  subst hn
  have hm : ls.length ≤ 9223372036854775807 := by have := hc.small; rwa [strs_length] at this
  have HC := Lib.hid hc
  have HS := Lib.hid hs
  clear hc hs
  go_enter Try.func34, Try.ntmps34
  go_wp2
  go_loopw [3, 4] (fun v i wr => ∃ k : Nat, k ≤ ls.length ∧ k ≤ 12 ∧ i = .int .i64 k ∧ Row wr w.heap.size 9 1 v k (strs ((ls.take k).map (·.take 300))) ∧ Below w.heap.size w wr) (fun _ i _ => 12 - (intOf i).toNat)
  case atStart => exact ⟨0, Nat.zero_le _, by omega, rfl, row_new w _ 9 1 (Nat.le_refl _), (Below.refl _ _).alloc (Nat.le_refl _) _⟩
  case round =>
    obtain ⟨k, hk, hk12, rfl, hrow, hbel⟩ := hrel
    by_cases hlt : k < ls.length ∧ k < 12
    · obtain ⟨h1, h2⟩ := hlt
      have hd1 : decide ((k : Int) < (ls.length : Int)) = true := by simp; omega
      have hd2 : decide ((k : Int) < 12) = true := by simp; omega
      obtain ⟨ad, rfl, hcell⟩ := (HC.out.below hbel).strAt k h1
      obtain ⟨s, hss⟩ : ∃ s, s = ls[k] := ⟨_, rfl⟩
      rw [← hss] at hcell
      have hsl : s.length ≤ 9223372036854775807 := by rw [hss]; exact HS.out _ (List.getElem_mem h1)
      have HSS := Lib.hid hss
      clear hss
      go_wp2_with fail
      refine (bytes_any s (s.take 300) 300 wr rfl hsl (by decide)).mono ?_
      rintro e w1 ⟨v1, rfl, _, ⟨A1, c1, rfl, hc1, hA1, _⟩, b1⟩
      have B1 := hbel.trans (b1.mono hbel.size)
      have hrow1 := hrow.below b1
      obtain ⟨x, hx⟩ : ∃ x, x = s.take 300 := ⟨_, rfl⟩
      rw [← hx] at hA1 hc1 ⊢
      have HX := Lib.hid hx
      clear hx b1 hrow hbel
      go_wp2_with (with_reducible refine halt_dst 22 ?_)
      refine wpList_string rfl (.tmp 21) 22 9 5 rfl Try.underlying22 Try.underlying5 Try.underlying9 A1 _ _ x rfl rfl hA1 ?_
      go_wp2_with (with_reducible refine halt_dst 24 ?_)
      refine wpList_append_lit rfl (.tmp 16) (.tmp 23) 42 rfl w.heap.size 9 (.string ByteArray.empty) 1 16 Try.underlying42 Try.info9 rfl (by decide) u3 _ _ rfl hrow1 1 1 _ rfl rfl (fun u hu => by simp at hu; subst hu; rfl) (by simp only [maxLen]; omega) (by omega) B1.size (by simp) ?_
      intro v4 w4 r4 g4 _
      have B4 := B1.grown g4 B1.size (fun j hj => (hrow1.lt j hj).1)
      have R4 : Row w4 w.heap.size 9 1 v4 (k + 1) (strs ((ls.take (k + 1)).map (·.take 300))) := by
        rw [loads_step ls k h1, strs_push, ← HSS.out, ← HX.out]; exact r4
      clear hrow1 B1 r4 g4 hA1
      go_wp2
      go_roundw
      case rel => exact ⟨k + 1, by omega, by omega, by go_num, R4, B4⟩
      case measure => simp [intOf]; omega
    · have hall : ls.take k = ls.take 12 := by
        rcases Nat.lt_or_ge k 12 with h | h
        · rw [List.take_of_length_le (by omega), List.take_of_length_le (by omega)]
        · obtain rfl : k = 12 := by omega
          rfl
      have hfin : Row wr w.heap.size 9 1 u3 (loadsOf ls).length (strs (loadsOf ls)) := by
        have e : (loadsOf ls) = (ls.take k).map (·.take 300) := by rw [hall]; rfl
        rw [e]
        have hl : ((ls.take k).map (·.take 300)).length = k := by simp; omega
        rw [hl]; exact hrow
      clear hall hrow
      rcases Nat.lt_or_ge k ls.length with h | h
      · have hd1 : decide ((k : Int) < (ls.length : Int)) = true := by simp; omega
        have hd2 : decide ((k : Int) < 12) = false := by simp; omega
        go_wp2
        go_ret
        exact ⟨_, rfl, hfin, hbel⟩
      · have hd1 : decide ((k : Int) < (ls.length : Int)) = false := by simp; omega
        go_wp2
        go_ret
        exact ⟨_, rfl, hfin, hbel⟩

/-- Frames, one behind the other. -/
def framesOf (ms : List (List UInt8)) : List UInt8 := (ms.map frameOf).flatten
theorem framesOf_push (ms : List (List UInt8)) (l : List UInt8) : framesOf (ms ++ [l]) = framesOf ms ++ frameOf l := by simp [framesOf]
theorem framesOf_cons (l : List UInt8) (ms : List (List UInt8)) : framesOf (l :: ms) = frameOf l ++ framesOf ms := by simp [framesOf]
theorem framesOf_len (b : Nat) : ∀ ms : List (List UInt8), (∀ l ∈ ms, l.length ≤ b) → (framesOf ms).length ≤ ms.length * (8 + b)
  | [], _ => by simp [framesOf]
  | l :: ms, h => by
    rw [framesOf_cons, List.length_append, frameOf_length, List.length_cons, Nat.add_mul]
    have h1 := h l (by simp)
    have h2 := framesOf_len b ms (fun x hx => h x (by simp [hx]))
    omega

set_option maxHeartbeats 1000000 in
theorem sealed_calls (A : Option Addr) (n c b : Nat) (ms : List (List UInt8)) (w : World) (hn : n = ms.length) (hc : Cells w A (strs ms)) (hb : b ≤ 65536) (hm : ms.length ≤ 1000) (hs : ∀ l ∈ ms, l.length ≤ b) :
    Calls Try.prog 35 #[.slice A n c] w fun e w' => ∃ v, e = .returned (.tuple #[v, .bool true]) ∧ Row w' w.heap.size 5 1 v (framesOf ms).length (byts (framesOf ms)) ∧ Below w.heap.size w w' := by
  subst hn
  have HC := Lib.hid hc
  have HS := Lib.hid hs
  clear hc hs
  go_enter Try.func35, Try.ntmps35
  go_wp2
  go_loopw [4, 5] (fun v i wr => ∃ k : Nat, k ≤ ms.length ∧ i = .int .i64 k ∧ Row wr w.heap.size 5 1 v (framesOf (ms.take k)).length (byts (framesOf (ms.take k))) ∧ Below w.heap.size w wr) (fun _ i _ => ms.length - (intOf i).toNat)
  case atStart => exact ⟨0, Nat.zero_le _, rfl, row_new w _ 5 1 (Nat.le_refl _), (Below.refl _ _).alloc (Nat.le_refl _) _⟩
  case round =>
    obtain ⟨k, hk, rfl, hrow, hbel⟩ := hrel
    by_cases hlt : k < ms.length
    · have hd1 : decide ((k : Int) < (ms.length : Int)) = true := by simp; omega
      obtain ⟨ad, rfl, hcell⟩ := (HC.out.below hbel).strAt k hlt
      obtain ⟨s, hss⟩ : ∃ s, s = ms[k] := ⟨_, rfl⟩
      rw [← hss] at hcell
      have hsl : s.length ≤ b := by rw [hss]; exact HS.out _ (List.getElem_mem hlt)
      have HSS := Lib.hid hss
      clear hss
      have hfl : (framesOf (ms.take k)).length ≤ 100000000 := by
        have h1 := framesOf_len b (ms.take k) (fun l hl => HS.out l (List.mem_of_mem_take hl))
        have h2 : (ms.take k).length ≤ 1000 := by simp; omega
        have h3 : (ms.take k).length * (8 + b) ≤ 1000 * (8 + 65536) := Nat.mul_le_mul h2 (by omega)
        omega
      go_wp2_with (with_reducible refine halt_dst 20 ?_)
      refine wpList_bytes rfl (.tmp 19) 9 22 rfl Try.underlying9 Try.underlying22 Try.underlying5 s rfl ?_
      intro c1 w1 hc1 hby b1 _
      have hcs := hby.cells (by omega)
      have B1 := hbel.trans (b1.mono hbel.size)
      have hrow1 := hrow.below b1
      go_wp2_with fail
      refine (seal_calls _ _ c1 s w1 rfl hcs (by omega)).mono ?_
      rintro e w2 ⟨v2, rfl, r2, b2⟩
      have B2 := B1.trans (b2.mono B1.size)
      have hrow2 := hrow1.below b2
      obtain ⟨A3, c3, rfl, hc3, hA3, _⟩ := BS.of_row r2
      have hf8 := frameOf_length s
      rw [hf8] at hc3 ⊢
      have HF := Lib.hid hf8
      clear hf8 b1 b2 hrow hrow1 hbel B1 hcs hby r2
      go_wp2_with (with_reducible refine halt_dst 28 ?_)
      refine wpList_append_row rfl (.tmp 26) (.tmp 27) 22 rfl w.heap.size 5 (.int .u8 0) 1 1 Try.underlying22 Try.info5 rfl (by decide) u4 _ _ rfl hrow2 A3 (8 + s.length) c3 _ rfl (by rw [byts_length, HF.out]; omega) hA3 (byts_one _) (by simp only [maxLen]; omega) (by omega) B2.size ?_
      intro v4 w4 r4 g4 _
      have B4 := B2.grown g4 B2.size (fun j hj => (hrow2.lt j hj).1)
      have R4 : Row w4 w.heap.size 5 1 v4 (framesOf (ms.take (k + 1))).length (byts (framesOf (ms.take (k + 1)))) := by
        rw [List.take_succ_eq_append_getElem hlt, framesOf_push, byts_append, List.length_append, ← HSS.out, HF.out]; exact r4
      clear hrow2 B2 r4 g4 hA3
      go_wp2
      go_roundw
      case rel => exact ⟨k + 1, by omega, by go_num, R4, B4⟩
      case measure => simp [intOf]; omega
    · have hfin : Row wr w.heap.size 5 1 u4 (framesOf ms).length (byts (framesOf ms)) := by
        rw [List.take_of_length_le (by omega)] at hrow; exact hrow
      clear hrow
      go_wp2
      go_ret2
      exact ⟨_, rfl, hfin, hbel⟩
end Go.Proofs.Ytimjadjopemefaa
