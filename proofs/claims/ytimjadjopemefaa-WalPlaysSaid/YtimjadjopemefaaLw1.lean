/- The walks of moietylaw03's helpers: bytes, awake, loads, sealed. -/
import Derived.Test.YtimjadjopemefaaRs3
import Derived.Lib.SlBytesConst
set_option linter.unusedVariables false
set_option linter.unusedSimpArgs false
namespace Go.Proofs.Ytimjadjopemefaa
open Go.RowKit
attribute [local go_sem] str_size str_get str_toList str_append str_extract

/-- A slice of bytes that is read. -/
def BS (w : World) (base : Nat) (v : Value) (l : List UInt8) : Prop :=
  ∃ A c, v = .slice A l.length c ∧ l.length ≤ c ∧ Cells w A (byts l) ∧ ∀ ad, A = some ad → base ≤ ad.block ∧ Typed w ad.block 5
theorem BS.below {w w' : World} {base : Nat} {v : Value} {l : List UInt8} (h : BS w base v l) (hb : Below w.heap.size w w') : BS w' base v l := by
  obtain ⟨A, c, rfl, hc, hA, hB⟩ := h
  exact ⟨A, c, rfl, hc, hA.below hb, fun ad e => ⟨(hB ad e).1, (hB ad e).2.below hb⟩⟩
theorem BS.mono {w : World} {base base' : Nat} {v : Value} {l : List UInt8} (h : BS w base v l) (hb : base' ≤ base) : BS w base' v l := by
  obtain ⟨A, c, rfl, hc, hA, hB⟩ := h
  exact ⟨A, c, rfl, hc, hA, fun ad e => ⟨Nat.le_trans hb (hB ad e).1, (hB ad e).2⟩⟩
theorem BS.of_bytes {w : World} {base g : Nat} {l : List UInt8} {c : Nat} (h : Bytes w g l) (hl : l.length ≤ 9223372036854775807) (hc : l.length ≤ c) (hb : base ≤ g) : BS w base (.slice (some ⟨g, 0, none⟩) l.length c) l := by
  refine ⟨_, c, rfl, hc, h.cells hl, fun ad e => ?_⟩
  cases e
  obtain ⟨cur, fr, hh, _⟩ := h.holds
  exact ⟨hb, cur, fr, hh⟩
theorem BS.of_row {w : World} {base n : Nat} {v : Value} {l : List UInt8} (h : Row w base 5 1 v n (byts l)) : BS w base v l := by
  have ht := h.typed
  have hlt := h.lt
  obtain ⟨A, c, rfl, hc, hl, hcA, _⟩ := h.cells1
  rw [byts_length] at hl
  subst hl
  exact ⟨A, c, rfl, hc, hcA, fun ad e => by subst e; exact ⟨(hlt _ rfl).1, ht _ rfl⟩⟩
theorem BS.of_full {w : World} {base : Nat} {v : Value} {l : List UInt8} (h : Full w base v l) : BS w base v l := by
  obtain ⟨A, rfl, hc, hA⟩ := h
  exact ⟨A, _, rfl, Nat.le_refl _, hc, hA⟩

theorem bytes_calls (l k : List UInt8) (m : Nat) (w : World) (hk : l.take m = k) (hl : l.length ≤ 140737488351232) (hm : m ≤ 1000000000) :
    Calls Try.prog 23 #[.string (str l), .int .i64 (m : Int)] w fun e w' => ∃ v, e = .returned v ∧ v.ownBlock = some w.heap.size ∧ BS w' w.heap.size v k ∧ Below w.heap.size w w' := by
  have hlen : k.length ≤ l.length := by rw [← hk]; simp; omega
  have HK := Lib.hid hk
  clear hk
  by_cases h : m < l.length
  · go_enter Try.func23, Try.ntmps23
    go_wp2_with (with_reducible refine halt_dst 13 ?_)
    refine wpList_bytes rfl (.tmp 12) 9 22 rfl Try.underlying9 Try.underlying22 Try.underlying5 k (by rw [← HK.out]; rfl) ?_
    intro c w1 hc hb hbel _
    go_wp2
    go_ret
    exact ⟨_, rfl, rfl, BS.of_bytes hb (by omega) hc (Nat.le_refl _), hbel⟩
  · have ht : l = k := by rw [← HK.out, List.take_of_length_le (by omega)]
    subst ht
    go_enter Try.func23, Try.ntmps23
    go_wp2_with (with_reducible refine halt_dst 13 ?_)
    refine wpList_bytes rfl (.tmp 12) 9 22 rfl Try.underlying9 Try.underlying22 Try.underlying5 l rfl ?_
    intro c w1 hc hb hbel _
    go_wp2
    go_ret
    exact ⟨_, rfl, rfl, BS.of_bytes hb (by omega) hc (Nat.le_refl _), hbel⟩

/-- A constant's bytes. -/
theorem bytes_const (w : World) (l : List UInt8) (n : Nat) (cs : Array Value) (hcs : cs = (byts l).toArray) (hn : n = l.length) : Bytes (w.alloc (.cells cs 5 (n, n + 1))) w.heap.size l := by
  subst hcs hn
  refine ⟨_, _, heap_alloc_new w _, by simp [byts], by simp [byts, List.take_of_length_le], fun j hj => ?_⟩
  simp; omega
theorem sum9 : u32 (crcSum [49, 50, 51, 52, 53, 54, 55, 56, 57]) = 3421780262 := by decide +kernel
theorem frame_a : frameOf [97] = [0, 0, 0, 1, 229, 140, 151, 146, 97] := by decide +kernel
theorem open_a : openErr [0, 0, 0, 1, 229, 140, 151, 146, 97] = 0 ∧ openLen [0, 0, 0, 1, 229, 140, 151, 146, 97] = 9 ∧ openLoad [0, 0, 0, 1, 229, 140, 151, 146, 97] = [97] := by decide +kernel
theorem scan_a : scanOf [0, 0, 0, 1, 229, 140, 151, 146, 97, 1, 2] = ([[97]], 9) := by decide +kernel

set_option maxRecDepth 100000 in
theorem awake_calls (w : World) : Calls Try.prog 24 #[] w fun e w' => e = .returned (.bool true) ∧ Below w.heap.size w w' := by
  have kc := fun (w : World) (C : Array Value) (n c : Nat) => Lib.run_convert_bytes_const (P := Try.prog) w 22 5 C n c Try.underlying22 Try.underlying5
  go_enter Try.func24, Try.ntmps24
  go_wp2_with fail
  have hb0 := (bytes_const w [97] 1 #[.int .u8 97] rfl rfl).cells (by simp)
  refine (seal_calls _ 1 1 [97] _ rfl hb0 (by decide)).mono ?_
  rintro e w1 ⟨v1, rfl, r1, b1⟩
  have B1 : Below w.heap.size w w1 := ((Below.refl w.heap.size w).alloc (Nat.le_refl _) _).trans (b1.mono (by simp))
  have R1 := r1.mono (base' := w.heap.size) (by simp)
  rw [frame_a] at R1
  clear hb0 r1 b1
  have S1 := BS.of_row R1
  obtain ⟨A1, c1, rfl, hc1, hA1, _⟩ := S1
  go_wp2_with fail
  refine (open_calls A1 9 c1 _ w1 rfl hc1 hA1).mono ?_
  rintro e w2 ⟨v2, rfl, f2, b2⟩
  rw [open_a.1, open_a.2.1]
  rw [open_a.2.2] at f2
  have B2 := B1.trans (b2.mono B1.size)
  have hA2 := hA1.below b2
  have F2 := f2.mono (base' := w.heap.size) B1.size
  clear b2 f2 hA1
  obtain ⟨A3, rfl, hA3, hB3⟩ := F2
  go_wp2_with (with_reducible refine halt_dst 23 ?_)
  have G3 : Below w2.heap.size w2 (w2.alloc (.cells #[] 5)) := (Below.refl _ _).alloc (Nat.le_refl _) _
  refine wpList_append_row rfl (.tmp 21) (.tmp 22) 22 rfl w2.heap.size 5 (.int .u8 0) 1 1 Try.underlying22 Try.info5 rfl (by decide) (.slice (some ⟨w2.heap.size, 0, none⟩) 0 0) 0 [] rfl (row_new w2 w2.heap.size 5 1 (Nat.le_refl _)) A1 9 c1 _ rfl rfl (hA2.alloc _) (byts_one _) (by decide) (by decide) G3.size ?_
  intro v4 w4 r4 g4 _
  have G4 : Below w2.heap.size w2 w4 := G3.grown g4 G3.size (fun k hk => by simp [Value.ownBlock] at hk; omega)
  clear g4 G3
  go_wp2_with (with_reducible refine halt_dst 25 ?_)
  refine wpList_append_lit rfl (.tmp 23) (.tmp 24) 22 rfl w2.heap.size 5 (.int .u8 0) 1 1 Try.underlying22 Try.info5 rfl (by decide) v4 _ _ rfl r4 2 2 _ rfl rfl (fun u hu => by simp at hu; rcases hu with rfl | rfl <;> rfl) (by decide) (by decide) G4.size (by simp) ?_
  intro v5 w5 r5 g5 _
  have R5 : Row w5 w2.heap.size 5 1 v5 11 (byts [0, 0, 0, 1, 229, 140, 151, 146, 97, 1, 2]) := r5
  have G5 : Below w2.heap.size w2 w5 := G4.grown g5 G4.size (fun k hk => (r4.lt k hk).1)
  have hA4 := hA2.below G5
  have hA5 := hA3.below G5
  have B5 : Below w.heap.size w w5 := B2.trans (G5.mono B2.size)
  clear hA2 hA3 hB3 G4 g5 r5 r4 G5 B2 B1
  obtain ⟨A5, c5, rfl, hc5, hA6, _⟩ := BS.of_row R5
  clear R5 R1
  go_wp2_with fail
  refine (scan_calls A5 11 c5 _ w5 rfl hc5 (by decide) hA6).mono ?_
  rintro e w6 ⟨v6, rfl, hl6, b6⟩
  have hs1 : (scanOf [0, 0, 0, 1, 229, 140, 151, 146, 97, 1, 2]).2 = 9 := by rw [scan_a]
  have hs2 : (scanOf [0, 0, 0, 1, 229, 140, 151, 146, 97, 1, 2]).1 = [[97]] := by rw [scan_a]
  rw [hs1]
  rw [hs2] at hl6
  clear hs1 hs2
  obtain ⟨vs, hrow6, _⟩ := hl6.row
  obtain ⟨A7, c7, rfl, _⟩ := hrow6.cells1
  have hA8 := hA4.below b6
  have hA9 := hA5.below b6
  have B6 := B5.trans (b6.mono B5.size)
  clear hA4 hA5 hA6 b6 B5 hl6 hrow6
  go_wp2_with fail
  have hb9 := (bytes_const w6 [49, 50, 51, 52, 53, 54, 55, 56, 57] 9 #[.int .u8 49, .int .u8 50, .int .u8 51, .int .u8 52, .int .u8 53, .int .u8 54, .int .u8 55, .int .u8 56, .int .u8 57] rfl rfl).cells (by simp)
  refine (sum_calls _ 9 9 [49, 50, 51, 52, 53, 54, 55, 56, 57] _ rfl hb9).mono ?_
  rintro e w7 ⟨rfl, hw7⟩
  have B7 : Below w.heap.size w w7 := by rw [← hw7]; exact B6.alloc B6.size _
  have hA10 : Cells w7 A1 (byts [0, 0, 0, 1, 229, 140, 151, 146, 97]) := by rw [← hw7]; exact hA8.alloc _
  have hA11 : Cells w7 A3 (byts [97]) := by rw [← hw7]; exact hA9.alloc _
  clear hw7 hb9 hA8 hA9 B6
  rw [sum9]
  go_wp2_with (first | with_reducible refine halt_dst 39 ?_ | with_reducible refine halt_dst 48 ?_)
  refine wpList_string rfl (.tmp 38) 22 9 5 rfl Try.underlying22 Try.underlying5 Try.underlying9 A1 9 c1 _ rfl rfl hA10 ?_
  go_wp2_with (first | with_reducible refine halt_dst 39 ?_ | with_reducible refine halt_dst 48 ?_)
  refine wpList_string rfl (.tmp 47) 22 9 5 rfl Try.underlying22 Try.underlying5 Try.underlying9 A3 1 1 _ rfl rfl hA11 ?_
  go_wp2
  go_ret
  exact ⟨rfl, B7⟩
end Go.Proofs.Ytimjadjopemefaa
