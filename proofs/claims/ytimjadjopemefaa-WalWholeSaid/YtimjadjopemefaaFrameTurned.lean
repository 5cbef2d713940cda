/- FrameTurned: the walk of the law. -/
import Derived.Test.YtimjadjopemefaaTurn
import Derived.Test.YtimjadjopemefaaSto
set_option linter.unusedVariables false
set_option linter.unusedSimpArgs false
namespace Go.Proofs.Ytimjadjopemefaa
open Go.RowKit
attribute [local go_sem] str_size str_get str_toList str_append str_extract

theorem bits_xor_u8 (a x : UInt8) (n : Int) (h : n = (x.toNat : Int)) : bits .xor .u8 (a.toNat : Int) n = ((a ^^^ x).toNat : Int) := by
  subst h
  show IntKind.u8.wrap ((BitVec.ofInt 8 (a.toNat : Int) ^^^ BitVec.ofInt 8 (x.toNat : Int)).toNat : Int) = _
  rw [BitVec.ofInt_natCast, BitVec.ofInt_natCast, Go.IntKind.wrap_u8]
  have e : (BitVec.ofNat 8 a.toNat ^^^ BitVec.ofNat 8 x.toNat).toNat = (a ^^^ x).toNat := by
    rw [BitVec.toNat_xor, BitVec.toNat_ofNat, BitVec.toNat_ofNat, UInt8.toNat_xor]
    have ha := a.toNat_lt
    have hx := x.toNat_lt
    rw [Nat.mod_eq_of_lt (by omega), Nat.mod_eq_of_lt (by omega)]
  rw [e]
  have := (a ^^^ x).toNat_lt
  omega
theorem xor_ne (a x : UInt8) (h : x ≠ 0) : a ^^^ x ≠ a := by
  intro e
  apply h
  have := congrArg (a ^^^ ·) e
  simpa [← UInt8.xor_assoc] using this

set_option maxHeartbeats 1000000 in
set_option maxRecDepth 100000 in
theorem frameTurned_walk (l tl : List UInt8) (v : Value) (ab : Int × Int) (w : World) (hl : l.length ≤ 140737488351232) (htl : tl.length ≤ 140737488351232)
    (hv : v = .agg #[.int .u16 ab.1, .int .u8 ab.2] ∧ (0 ≤ ab.1 ∧ ab.1 ≤ 65535) ∧ (0 ≤ ab.2 ∧ ab.2 ≤ 255)) :
    Calls Try.prog 9 #[.string (str l), .string (str tl), v] w fun e w' => e = .returned (.bool true) ∧ Below w.heap.size w w' := by
  obtain ⟨at_, by_⟩ := ab
  obtain ⟨rfl, hat, hby⟩ := hv
  obtain ⟨k, hk⟩ : ∃ k, l.take 2000 = k := ⟨_, rfl⟩
  have hkl : k.length ≤ 2000 := by rw [← hk]; simp; omega
  have HK := Lib.hid hk
  clear hk
  obtain ⟨t, ht⟩ : ∃ t, tl.take 100 = t := ⟨_, rfl⟩
  have htl2 : t.length ≤ 100 := by rw [← ht]; simp; omega
  have HT := Lib.hid ht
  clear ht
  have HO := Lib.hid (open_sealed k t (by omega))
  have HF := Lib.hid (frameOf_length k)
  obtain ⟨a, rfl⟩ : ∃ a : Nat, at_ = (a : Int) := ⟨at_.toNat, by have := hat.1; omega⟩
  obtain ⟨y, rfl⟩ : ∃ y : Nat, by_ = (y : Int) := ⟨by_.toNat, by have := hby.1; omega⟩
  have ha2 : a ≤ 65535 := by have := hat.2; omega
  have hy2 : y ≤ 255 := by have := hby.2; omega
  clear hat hby
  have hbx := Blk.new w 53 #[.int .u16 a, .int .u8 y]
  have B0 : Below w.heap.size w (w.alloc (.cells #[.int .u16 a, .int .u8 y] 53)) := (Below.refl _ _).alloc (Nat.le_refl _) _
  obtain ⟨g0, hg0⟩ : ∃ g0, g0 = w.heap.size := ⟨_, rfl⟩
  rw [← hg0] at hbx
  go_enter Try.func9, Try.ntmps9
  go_wp2_with fail
  refine (bytes_calls l k 2000 _ HK.out hl (by decide)).mono ?_
  rintro e w1 ⟨v, rfl, _, ⟨A, c, rfl, hc, hA, _⟩, b1⟩
  rw [← hg0]
  have B1 := B0.trans (b1.mono B0.size)
  have hb1 := hbx.below b1
  have hg1 := hb1.lt
  clear hbx b1 B0
  go_wp2_with fail
  refine (seal_calls A _ c k w1 rfl hA (by omega)).mono ?_
  rintro e w2 ⟨v2, rfl, r2, b2⟩
  have B2 := B1.trans (b2.mono B1.size)
  have hb2 := hb1.below b2
  obtain ⟨A3, c3, rfl, hc3, hA3, _⟩ := BS.of_row r2
  clear b2 hA hb1 B1
  rw [HF.out] at hc3 ⊢
  go_wp2_with fail
  refine (awake_calls w2).mono ?_
  rintro e w3 ⟨rfl, b3⟩
  have B3 := B2.trans (b3.mono B2.size)
  have hb3 := hb2.below b3
  have r3 := r2.below b3
  clear hb2 b3 r2 B2 hA3
  go_wp2_with fail
  refine (bytes_calls tl t 100 w3 HT.out htl (by decide)).mono ?_
  rintro e w4 ⟨v4, rfl, _, ⟨A4, c4, rfl, hc4, hA4, _⟩, b4⟩
  have B4 := B3.trans (b4.mono B3.size)
  have hb4 := hb3.below b4
  have r4 := r3.below b4
  clear hb3 b4 r3 B3
  rw [HF.out] at r4
  have hL1 := r4.lt
  go_wp2_with (with_reducible refine halt_dst 32 ?_)
  have hw1 : w1.heap.size ≤ w4.heap.size := by
    have := r4.lt
    rcases r4.blk (by omega) with ⟨g, _, _, e, h1, h2, _⟩
    have := h2.lt
    omega
  refine wpList_append_row rfl (.tmp 29) (.tmp 31) 22 rfl w1.heap.size 5 (.int .u8 0) 1 1 Try.underlying22 Try.info5 rfl (by decide) (.slice A3 (8 + k.length) c3) (8 + k.length) _ rfl r4 A4 t.length c4 (byts t) rfl (by rw [byts_length]; omega) hA4 (byts_one _) (by simp only [maxLen]; omega) (by omega) hw1 ?_
  intro v5 w5 r5 g5 _
  rw [← byts_append] at r5
  have hb5 := hb4.kept g5 (by intro e; have := (hL1 _ e.symm).1; omega)
  have B5 := B4.grown g5 B4.size (fun j hj => by have := (hL1 _ hj).1; omega)
  obtain ⟨b, hb⟩ : ∃ b, b = frameOf k ++ t := ⟨_, rfl⟩
  have hbl : b.length = 8 + k.length + t.length := by rw [hb, List.length_append, HF.out]
  rw [← hb] at r5
  have HO2 := HO.out
  rw [← hb] at HO2
  have HB := Lib.hid hb
  clear hb hb4 B4 g5 r4 hL1 hA4
  obtain ⟨g, cap, cur, rfl, hg, hB, hn, hcap, hcs, htk⟩ := r5.blk (by omega)
  have HO3 := Lib.hid HO2
  clear HO2 HO
  have hc0 : w5.cell? ⟨g0, 0, none⟩ = some (.int .u16 a) := hb5.cell 0 _ rfl
  have hc1 : w5.cell? ⟨g0, 1, none⟩ = some (.int .u8 y) := hb5.cell 1 _ rfl
  have hgg : g0 ≠ g := by omega
  rw [hg0] at hc0 hc1
  obtain ⟨p, hp⟩ : ∃ p, p = 4 + a % (4 + k.length) := ⟨_, rfl⟩
  have hmod : a % (4 + k.length) < 4 + k.length := Nat.mod_lt _ (by omega)
  have hpb : p < b.length := by omega
  have hp4 : 4 ≤ p := by omega
  have hp8 : p < 8 + k.length := by omega
  have hwp : wrap64 (4 + (a : Int) % (4 + (k.length : Int))) = (p : Int) := by
    have : (a : Int) % (4 + (k.length : Int)) = ((a % (4 + k.length) : Nat) : Int) := by push_cast; rfl
    rw [this, hp]; unfold wrap64; omega
  go_wp2
  rw [hwp]
  have hcp : w5.cell? ⟨g, p, none⟩ = some (.int .u8 (b[p].toNat : Int)) := by
    refine hB.cell p _ ?_
    have h1 : (byts b)[p]? = some (.int .u8 (b[p].toNat : Int)) := by simp [byts, byt, hpb]
    rw [← htk, List.getElem?_take] at h1
    split at h1
    · simpa using h1
    · cases h1
  have hfz := hB.free p none
  clear hp hmod hwp ha2 hc hc3 hc4
  have hpn : p < 8 + k.length + t.length := by omega
  obtain ⟨x, hx⟩ : ∃ x, x = UInt8.ofNat (y % 255 + 1) := ⟨_, rfl⟩
  have hxn : ((y : Int) % 255 + 1) = (x.toNat : Int) := by
    rw [hx, UInt8.toNat_ofNat']; omega
  have hx0 : x ≠ 0 := by
    intro e; rw [e] at hxn; simp at hxn; omega
  obtain ⟨z, hz⟩ : ∃ z, z = b[p] ^^^ x := ⟨_, rfl⟩
  have hzb : z ≠ b[p] := by rw [hz]; exact xor_ne _ _ hx0
  have hzn : bits .xor .u8 (b[p].toNat : Int) ((y : Int) % 255 + 1) = (z.toNat : Int) := by rw [bits_xor_u8 _ x _ hxn, hz]
  have HZ := Lib.hid hzn
  have hot := open_turned b p z HO3.out.1 hp4 (by rw [HO3.out.2.1]; omega) hpb hzb
  have hst := scanOf_no (b := b.set p z) (by rw [hot]; decide)
  obtain ⟨b2, hb2⟩ : ∃ b2, b2 = b.set p z := ⟨_, rfl⟩
  have hbl2 : b2.length = 8 + k.length + t.length := by rw [hb2, List.length_set, hbl]
  rw [← hb2] at hot hst
  have HB2 := Lib.hid hb2
  have HOT := Lib.hid hot
  have HST := Lib.hid hst
  clear hx hxn hx0 hz hzb hzn hb2 hot hst
  go_region
  rw [HZ.out]
  have hset := hB.set p (.int .u8 (z.toNat : Int))
  have R6 : Row (w5.setCell ⟨g, p, none⟩ (.int .u8 (z.toNat : Int))).drew w1.heap.size 5 1 (.slice (some ⟨g, 0, none⟩) (8 + k.length + t.length) cap) (8 + k.length + t.length) (byts b2) := by
    refine ⟨by rw [byts_length, hbl2]; omega, .inr ⟨g, cap, _, rfl, hg, hset, hn, hcap, by simpa using hcs, ?_⟩⟩
    rw [Array.toList_setIfInBounds, List.take_set, htk, HB2.out]
    simp [byts, byt]
  obtain ⟨A6, c6, e6, hc6, _, hA6, _⟩ := R6.cells1
  have B6 : Below w.heap.size w (w5.setCell ⟨g, p, none⟩ (.int .u8 (z.toNat : Int))).drew := below_drewN (B5.setCell (p := ⟨g, p, none⟩) (by show w.heap.size ≤ g; omega) _) 1
  obtain ⟨w6, hw6⟩ : ∃ w6, w6 = (w5.setCell ⟨g, p, none⟩ (.int .u8 (z.toNat : Int))).drew := ⟨_, rfl⟩
  rw [← hw6] at R6 hA6 B6 ⊢
  clear hset hw6 hcp hfz hB htk r5 hb5 B5 R6
  simp only [Value.slice.injEq, true_and] at e6
  obtain ⟨rfl, rfl⟩ := e6
  go_wp2_with fail
  refine (open_calls _ _ cap b2 w6 hbl2.symm hc6 hA6).mono ?_
  rintro e w7 ⟨v7, rfl, f7, b7⟩
  have hA7 := hA6.below b7
  have B7 := B6.trans (b7.mono B6.size)
  rw [HOT.out]
  obtain ⟨A7, rfl, _, _⟩ := f7
  clear B6 b7 hA6
  go_wp2_with fail
  refine (scan_calls _ _ cap b2 w7 hbl2.symm hc6 (by omega) hA7).mono ?_
  rintro e w8 ⟨v8, rfl, f8, b8⟩
  have B8 := B7.trans (b8.mono B7.size)
  rw [HST.out] at f8
  rw [HST.out]
  obtain ⟨vs, hr8, _⟩ := f8.row
  obtain ⟨A8, c8, rfl, _, _, _, _⟩ := hr8.cells1
  clear f8 hr8 B7 b8 hA7
  go_wp2
  go_ret
  exact ⟨rfl, B8⟩
end Go.Proofs.Ytimjadjopemefaa
