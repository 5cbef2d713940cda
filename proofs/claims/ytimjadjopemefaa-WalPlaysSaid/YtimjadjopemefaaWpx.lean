/- WalPlays: the reference's wal, and what it and the real one do side by side. -/
import Derived.Test.YtimjadjopemefaaRdb
import Derived.Test.YtimjadjopemefaaWa6
import Derived.Test.YtimjadjopemefaaOpd
set_option linter.unusedVariables false
set_option linter.unusedSimpArgs false
namespace Go.Proofs.Ytimjadjopemefaa
open Go.RowKit

/- The reference's wal: what its value says; bytes, Frames. -/
/-- A row of byte slices. -/
structure PBytes (w : World) (base : Nat) (v : Value) (ls : List (List UInt8)) : Prop where
  row : ∃ vs, Row w base 22 1 v ls.length vs ∧ ∀ (i : Nat) (u : Value) (l : List UInt8), vs[i]? = some u → ls[i]? = some l → l.length ≤ 9223372036854775807 ∧ ∃ b c, u = .slice (some ⟨b, 0, none⟩) l.length c ∧ Bytes w b l
theorem PBytes.below {w w' : World} {base : Nat} {v : Value} {ls : List (List UInt8)} (h : PBytes w base v ls) (hb : Below w.heap.size w w') : PBytes w' base v ls := by
  obtain ⟨vs, hr, hf⟩ := h.row
  refine ⟨vs, hr.below hb, fun i u l h1 h2 => ?_⟩
  obtain ⟨hl, b, c, e, hB⟩ := hf i u l h1 h2
  exact ⟨hl, b, c, e, hB.kept (hb.block b hB.lt)⟩
theorem PBytes.cells {w : World} {base : Nat} {v : Value} {ls : List (List UInt8)} (h : PBytes w base v ls) : ∃ A c, v = .slice A ls.length c ∧ LCells w A ls := by
  obtain ⟨vs, hr, hf⟩ := h.row
  obtain ⟨A, c, rfl, _, hl, hc, _⟩ := hr.cells1
  refine ⟨A, c, rfl, ⟨fun k hk => ?_⟩⟩
  obtain ⟨ad, e, hcell⟩ := hc.get k vs[k] (by simp)
  obtain ⟨hsm, b, c2, e2, hB⟩ := hf k vs[k] ls[k] (by simp) (by simp)
  exact ⟨ad, _, c2, e, by rw [hcell, e2], hB.cells hsm⟩
theorem PBytes.push {w w4 : World} {base : Nat} {v v4 : Value} {ls : List (List UInt8)} {vs : List Value} {l : List UInt8} {b c : Nat} (hr : Row w base 22 1 v ls.length vs)
    (hf : ∀ (i : Nat) (u : Value) (l : List UInt8), vs[i]? = some u → ls[i]? = some l → l.length ≤ 9223372036854775807 ∧ ∃ b c, u = .slice (some ⟨b, 0, none⟩) l.length c ∧ Bytes w b l)
    (hl : l.length ≤ 9223372036854775807) (hB : Bytes w b l) (r4 : Row w4 base 22 1 v4 (ls.length + 1) (vs ++ (#[.slice (some ⟨b, 0, none⟩) l.length c] : Array Value).toList)) (g4 : w.grownBy w4 v.ownBlock) : PBytes w4 base v4 (ls ++ [l]) := by
  have hlen : vs.length = ls.length := by simpa using hr.1
  have kept : ∀ b l, Bytes w b l → Bytes w4 b l := fun b l hB => hB.kept (g4.block b hB.lt (fun e => by
    obtain ⟨cur, fr, h1⟩ := hr.typed b e.symm
    obtain ⟨cur2, fr2, h2, _⟩ := hB.holds
    rw [h1] at h2
    simp at h2))
  refine ⟨_, by rw [List.length_append]; exact r4, fun i u x h1 h2 => ?_⟩
  rcases Nat.lt_or_ge i ls.length with hi | hi
  · rw [List.getElem?_append_left (by omega)] at h1
    rw [List.getElem?_append_left hi] at h2
    obtain ⟨h3, b2, c2, e, h4⟩ := hf i u x h1 h2
    exact ⟨h3, b2, c2, e, kept _ _ h4⟩
  · rw [List.getElem?_append_right (by omega)] at h1
    rw [List.getElem?_append_right hi] at h2
    have h0 : i - ls.length = 0 := by
      have := (List.getElem?_eq_some_iff.1 h2).1
      simp at this; omega
    rw [hlen, h0] at h1
    rw [h0] at h2
    simp at h1 h2
    subst h1 h2
    exact ⟨hl, b, c, rfl, kept _ _ hB⟩

set_option maxHeartbeats 4000000 in
set_option maxRecDepth 100000 in
theorem pbytes_calls (A : Option Addr) (n c : Nat) (ls : List (List UInt8)) (w : World) (hn : n = ls.length) (hc : Cells w A (strs ls)) (hs : ∀ l ∈ ls, l.length ≤ 1000) (hl : ls.length ≤ 1000) :
    Calls Try.prog 61 #[.slice A n c] w fun e w' => ∃ A' c', e = .returned (.slice A' ls.length c') ∧ LCells w' A' ls ∧ Below w.heap.size w w' := by
  subst hn
  have HC := Lib.hid hc
  have HS := Lib.hid hs
  clear hc hs
  go_enter Try.func61, Try.ntmps61
  go_wp2
  go_loopw [3, 4] (fun v i wr => ∃ k : Nat, k ≤ ls.length ∧ i = .int .i64 k ∧ PBytes wr w.heap.size v (ls.take k) ∧ Below w.heap.size w wr) (fun _ i _ => ls.length - (intOf i).toNat)
  case atStart => exact ⟨0, Nat.zero_le _, rfl, ⟨[], row_new w _ 22 1 (Nat.le_refl _), fun i u l h => by simp at h⟩, (Below.refl _ _).alloc (Nat.le_refl _) _⟩
  case round =>
    obtain ⟨k, hk, rfl, hrow, hbel⟩ := hrel
    by_cases hlt : k < ls.length
    · obtain ⟨ad, rfl, hcell⟩ := (HC.out.below hbel).strAt k hlt
      obtain ⟨s, hss⟩ : ∃ s, s = ls[k] := ⟨_, rfl⟩
      rw [← hss] at hcell
      have hsl : s.length ≤ 1000 := by rw [hss]; exact HS.out _ (List.getElem_mem hlt)
      have HSS := Lib.hid hss
      clear hss
      have HR := Lib.hid hrow
      have HB := Lib.hid hbel
      clear hrow hbel
      go_wp2_with (with_reducible refine halt_dst 17 ?_)
      refine wpList_bytes rfl (.tmp 16) 9 22 rfl Try.underlying9 Try.underlying22 Try.underlying5 s rfl ?_
      intro c5 w5 hc5 by5 b5 sz5
      have B5 := HB.out.trans (b5.mono HB.out.size)
      obtain ⟨vs, hr, hf⟩ := (HR.out.below b5).row
      have hlk : (ls.take k).length = k := by simp; omega
      have HB5 := Lib.hid B5
      have HR5 := Lib.hid hr
      have HF5 := Lib.hid hf
      have HBY := Lib.hid by5
      clear b5 sz5 by5 hr hf HR HB B5 hcell
      go_wp2_with (with_reducible refine halt_dst 19 ?_)
      refine wpList_append_lit rfl (.tmp 12) (.tmp 18) 39 rfl w.heap.size 22 (.slice none 0 0) 1 24 Try.underlying39 Try.info22 rfl (by decide) u3 _ vs rfl HR5.out 1 1 #[.slice (some ⟨wr.heap.size, 0, none⟩) s.length c5] rfl rfl (fun u hu => by simp at hu; subst hu; rfl) (by simp only [maxLen]; omega) (by omega) HB5.out.size (by simp) ?_
      intro v6 w6 r6 g6 _
      have hL := PBytes.push HR5.out HF5.out (by omega) HBY.out r6 g6
      rw [HSS.out, ← List.take_succ_eq_append_getElem hlt] at hL
      have B6 := HB5.out.grown g6 HB5.out.size (fun j hj => (HR5.out.lt j hj).1)
      have HL := Lib.hid hL
      have HB6 := Lib.hid B6
      clear hL B6 r6 g6 HR5 HF5 HBY HB5 hlk
      go_wp2
      go_roundw
      case rel => exact ⟨k + 1, by omega, by go_num, HL.out, HB6.out⟩
      case measure => simp [intOf]; omega
    · obtain rfl : k = ls.length := by omega
      rw [List.take_length] at hrow
      obtain ⟨A', c', rfl, hL⟩ := hrow.cells
      have HL := Lib.hid hL
      have HB := Lib.hid hbel
      clear hrow hL hbel
      go_wp2
      go_ret
      exact ⟨_, _, rfl, HL.out, HB.out⟩

set_option maxHeartbeats 4000000 in
set_option maxRecDepth 100000 in
theorem rframes_calls (A : Option Addr) (n c : Nat) (ls : List (List UInt8)) (w : World) (hn : n = ls.length) (hc : Cells w A (strs ls)) (hs : ∀ l ∈ ls, l.length ≤ 1000) (hl : ls.length ≤ 100) :
    Calls Try.prog 85 #[.slice A n c] w fun e w' => e = .returned (.tuple #[.string (str (framesOf ls)), .bool true]) ∧ Below w.heap.size w w' := by
  subst hn
  have HC := Lib.hid hc
  have HS := Lib.hid hs
  clear hc hs
  go_enter Try.func85, Try.ntmps85
  go_wp2
  go_loopw [4, 5] (fun v i wr => ∃ k : Nat, k ≤ ls.length ∧ i = .int .i64 k ∧ v = .string (str (framesOf (ls.take k))) ∧ Below w.heap.size w wr) (fun _ i _ => ls.length - (intOf i).toNat)
  case atStart => exact ⟨0, Nat.zero_le _, rfl, rfl, Below.refl _ _⟩
  case round =>
    obtain ⟨k, hk, rfl, rfl, hbel⟩ := hrel
    by_cases hlt : k < ls.length
    · obtain ⟨ad, rfl, hcell⟩ := (HC.out.below hbel).strAt k hlt
      obtain ⟨s, hss⟩ : ∃ s, s = ls[k] := ⟨_, rfl⟩
      have hst : framesOf (ls.take (k + 1)) = framesOf (ls.take k) ++ frameOf s := by rw [List.take_succ_eq_append_getElem hlt, framesOf_push, hss]
      rw [← hss] at hcell
      have hsl : s.length ≤ 1000 := by rw [hss]; exact HS.out _ (List.getElem_mem hlt)
      have hfl : (framesOf (ls.take k)).length ≤ 100 * 1008 := by
        have h1 := framesOf_len 1000 (ls.take k) (fun l hl => HS.out l (List.mem_of_mem_take hl))
        have h2 : (ls.take k).length ≤ 100 := by simp; omega
        have h3 := Nat.mul_le_mul_right (8 + 1000) h2
        omega
      obtain ⟨F, hF⟩ : ∃ F, F = framesOf (ls.take k) := ⟨_, rfl⟩
      rw [← hF] at hst hfl ⊢
      obtain ⟨G, hG⟩ : ∃ G, G = frameOf s := ⟨_, rfl⟩
      have hgl : G.length ≤ 1008 := by rw [hG, frameOf_length]; omega
      rw [← hG] at hst
      have ka := fun w => run_string_add_sum (P := Try.prog) w (str F) (str G) (by rw [str_size, str_size]; omega)
      rw [str_append] at ka
      have HRS := Lib.hid (by have := fun w => rseal_calls s w (by omega); rw [← hG] at this; exact this)
      have HST := Lib.hid hst
      have HB := Lib.hid hbel
      clear hss hF hG hst hfl hgl hbel
      go_wp2_with fail
      refine (HRS.out _).mono ?_
      rintro e w3 ⟨rfl, b3⟩
      have HB3 := Lib.hid (HB.out.trans (b3.mono HB.out.size))
      clear b3 HB HRS hcell
      go_wp2
      go_roundw
      case rel => exact ⟨k + 1, by omega, by go_num, by rw [HST.out], HB3.out⟩
      case measure => simp [intOf]; omega
    · obtain rfl : k = ls.length := by omega
      rw [List.take_length]
      have HB := Lib.hid hbel
      clear hbel
      go_wp2
      go_ret2
      exact ⟨rfl, HB.out⟩

/- The reference's wal: Act. -/
def z70 : Array Value := #[.slice none 0 0, .int .i64 0, .bool false, .int .i64 0, .slice none 0 0]
def z106 : Array Value := #[.int .i64 0, .slice none 0 0, .int .i64 0, .bool false]
theorem results_rw {fn : Func} {tmps : Array Value} {W : World} {a b u : Tmp} {g h : Nat} {y0 y1 y2 y3 y4 z0 z1 z2 z3 : Value} (hres : fn.results = #[.cell a 70, .cell b 106, .tmp u]) (ha : tmps.getD a undef = .pointer (some ⟨g, 0, Option.none⟩)) (hb : tmps.getD b undef = .pointer (some ⟨h, 0, Option.none⟩))
    (B1 : Blk W g 70 #[y0, y1, y2, y3, y4]) (B2 : Blk W h 106 #[z0, z1, z2, z3]) :
    (results fn tmps).run Try.prog W = .ok (.tuple #[.agg #[y0, y1, y2, y3, y4], .agg #[z0, z1, z2, z3], tmps.getD u undef]) W := by
  have ha' : tmps[a]?.getD undef = .pointer (some ⟨g, 0, Option.none⟩) := by simpa using ha
  have hb' : tmps[b]?.getD undef = .pointer (some ⟨h, 0, Option.none⟩) := by simpa using hb
  have c0 : W.cell? ⟨g, 0, none⟩ = some y0 := B1.cell 0 _ rfl
  have c1 : W.cell? ⟨g, 1, none⟩ = some y1 := B1.cell 1 _ rfl
  have c2 : W.cell? ⟨g, 2, none⟩ = some y2 := B1.cell 2 _ rfl
  have c3 : W.cell? ⟨g, 3, none⟩ = some y3 := B1.cell 3 _ rfl
  have c4 : W.cell? ⟨g, 4, none⟩ = some y4 := B1.cell 4 _ rfl
  have d0 : W.cell? ⟨h, 0, none⟩ = some z0 := B2.cell 0 _ rfl
  have d1 : W.cell? ⟨h, 1, none⟩ = some z1 := B2.cell 1 _ rfl
  have d2 : W.cell? ⟨h, 2, none⟩ = some z2 := B2.cell 2 _ rfl
  have d3 : W.cell? ⟨h, 3, none⟩ = some z3 := B2.cell 3 _ rfl
  simp [results, hres, ha', hb', c0, c1, c2, c3, c4, d0, d1, d2, d3, go_sem]
theorem blk4 {W : World} {b : Nat} {T : TypeId} {y0 y1 y2 y3 : Value} (h : Blk W b T #[y0, y1, y2, y3]) :
    (W.cell? ⟨b, 0, none⟩ = some y0 ∧ W.cell? ⟨b, 1, none⟩ = some y1 ∧ W.cell? ⟨b, 2, none⟩ = some y2 ∧ W.cell? ⟨b, 3, none⟩ = some y3) ∧
    (W.frozen? ⟨b, 0, none⟩ = false ∧ W.frozen? ⟨b, 1, none⟩ = false ∧ W.frozen? ⟨b, 2, none⟩ = false ∧ W.frozen? ⟨b, 3, none⟩ = false) :=
  ⟨⟨h.cell 0 _ rfl, h.cell 1 _ rfl, h.cell 2 _ rfl, h.cell 3 _ rfl⟩, h.free 0 none, h.free 1 none, h.free 2 none, h.free 3 none⟩
theorem four_sets {W : World} {b : Nat} {T : TypeId} {y0 y1 y2 y3 : Value} (h : Blk W b T #[y0, y1, y2, y3]) (z0 z1 z2 z3 : Value) :
    Blk ((((W.setCell ⟨b, 0, Option.none⟩ z0).setCell ⟨b, 1, Option.none⟩ z1).setCell ⟨b, 2, Option.none⟩ z2).setCell ⟨b, 3, Option.none⟩ z3) b T #[z0, z1, z2, z3] ∧
    Upd (fun k => k = b) W ((((W.setCell ⟨b, 0, Option.none⟩ z0).setCell ⟨b, 1, Option.none⟩ z1).setCell ⟨b, 2, Option.none⟩ z2).setCell ⟨b, 3, Option.none⟩ z3) :=
  ⟨by simpa using (((h.set 0 z0).set 1 z1).set 2 z2).set 3 z3, ((((Upd.refl (fun k => k = b) W).set ⟨b, 0, Option.none⟩ z0 (fun _ => rfl)).set ⟨b, 1, Option.none⟩ z1 (fun _ => rfl)).set ⟨b, 2, Option.none⟩ z2 (fun _ => rfl)).set ⟨b, 3, Option.none⟩ z3 (fun _ => rfl)⟩
/-- A disk and a wal handed back: nine cells are set, in a region that draws. -/
theorem nine_ret {W : World} {b h : Nat} {y0 y1 y2 y3 y4 x0 x1 x2 x3 : Value} (B1 : Blk W b 70 #[y0, y1, y2, y3, y4]) (B2 : Blk W h 106 #[x0, x1, x2, x3]) (z0 z1 z2 z3 z4 v0 v1 v2 v3 : Value) :
    Blk ((((((((((W.setCell ⟨b, 0, Option.none⟩ z0).setCell ⟨b, 1, Option.none⟩ z1).setCell ⟨b, 2, Option.none⟩ z2).setCell ⟨b, 3, Option.none⟩ z3).setCell ⟨b, 4, Option.none⟩ z4).setCell ⟨h, 0, Option.none⟩ v0).setCell ⟨h, 1, Option.none⟩ v1).setCell ⟨h, 2, Option.none⟩ v2).setCell ⟨h, 3, Option.none⟩ v3).drew) b 70 #[z0, z1, z2, z3, z4] ∧
    Blk ((((((((((W.setCell ⟨b, 0, Option.none⟩ z0).setCell ⟨b, 1, Option.none⟩ z1).setCell ⟨b, 2, Option.none⟩ z2).setCell ⟨b, 3, Option.none⟩ z3).setCell ⟨b, 4, Option.none⟩ z4).setCell ⟨h, 0, Option.none⟩ v0).setCell ⟨h, 1, Option.none⟩ v1).setCell ⟨h, 2, Option.none⟩ v2).setCell ⟨h, 3, Option.none⟩ v3).drew) h 106 #[v0, v1, v2, v3] ∧
    Upd (fun k => k = b ∨ k = h) W ((((((((((W.setCell ⟨b, 0, Option.none⟩ z0).setCell ⟨b, 1, Option.none⟩ z1).setCell ⟨b, 2, Option.none⟩ z2).setCell ⟨b, 3, Option.none⟩ z3).setCell ⟨b, 4, Option.none⟩ z4).setCell ⟨h, 0, Option.none⟩ v0).setCell ⟨h, 1, Option.none⟩ v1).setCell ⟨h, 2, Option.none⟩ v2).setCell ⟨h, 3, Option.none⟩ v3).drew) := by
  have hne : b ≠ h := B1.typed.ne B2.typed (by decide)
  obtain ⟨e1, u1⟩ := five_sets B1 z0 z1 z2 z3 z4
  obtain ⟨e2, u2⟩ := four_sets (B2.upd u1 (Ne.symm hne)) v0 v1 v2 v3
  exact ⟨(e1.upd u2 hne).below (bdrew (Below.refl _ _)), e2.below (bdrew (Below.refl _ _)), ((u1.mono (fun i _ h => .inl h)).trans u2 (fun i _ h => .inr h)).drewN 1⟩
/-- What is written into boxes between leaves what was handed back. -/
theorem ROut.box {w W1 v v' : World} {A B A' B' : Option Addr} {D D' : DS} {T : Nat → Prop} (h : ROut W1 A B D' A' B' v) (hA : Cells w A (lgs D.logs)) (hB : Cells w B (ints D.keep)) (hl : D'.logs.length = D.logs.length) (hk : D'.keep = D.keep) (hb : Below w.heap.size w W1) (hu : Upd T v v') (hT : ∀ i, T i → w.heap.size ≤ i ∧ i < W1.heap.size) : ROut w A B D' A' B' v' := by
  have hs := hb.size
  refine ⟨?_, ?_, fun ad e => (h.oa ad e).imp id (fun h => by omega), fun ad e => (h.ob ad e).imp id (fun h => by omega), (hb.trans (h.below.mono hb.size)).trans (hu.below (Nat.le_trans hb.size h.below.size) (fun i hi ht => by have := hT i ht; omega))⟩
  · by_cases hne : lgs D'.logs = []
    · rw [hne]; exact Cells.nil _ _
    · refine h.la.upd hu (fun ad e _ ht => ?_)
      have := hT _ ht
      rcases h.oa ad e with h1 | h1
      · have := hA.lt h1 (lgs_ne.2 (hl ▸ lgs_ne.1 hne)); omega
      · omega
  · by_cases hne : ints D'.keep = []
    · rw [hne]; exact Cells.nil _ _
    · refine h.lb.upd hu (fun ad e _ ht => ?_)
      have := hT _ ht
      rcases h.ob ad e with h1 | h1
      · have := hB.lt h1 (hk ▸ hne); omega
      · omega
def rwLs (kind : Nat) (ls xs : List (List UInt8)) (E : Int) : List (List UInt8) := if E = 0 then (match kind with | 0 => ls ++ xs | 1 => ls | _ => xs) else ls
def rwSure (kind : Nat) (ls xs : List (List UInt8)) (sure : Nat) (E : Int) : Nat := if E = 0 then (match kind with | 0 => sure | 1 => ls.length | _ => xs.length) else sure
theorem rwLs_err {kind : Nat} {ls xs : List (List UInt8)} {E : Int} (h : E ≠ 0) : rwLs kind ls xs E = ls := if_neg h
theorem rwSure_err {kind : Nat} {ls xs : List (List UInt8)} {sure : Nat} {E : Int} (h : E ≠ 0) : rwSure kind ls xs sure E = sure := if_neg h
/-- The boxes of Act. -/
theorem act8_boxes (w : World) (cs ws : Array Value) :
    ∃ W0, W0 = (((w.alloc (.cells cs 70)).alloc (.cells ws 106)).alloc (.cells z70 70)).alloc (.cells z106 106) ∧ Below w.heap.size w W0 ∧ W0.heap.size = w.heap.size + 4 ∧ Blk W0 w.heap.size 70 cs ∧ Blk W0 (w.heap.size + 1) 106 ws ∧ Blk W0 (w.heap.size + 2) 70 z70 ∧ Blk W0 (w.heap.size + 3) 106 z106 := by
  refine ⟨_, rfl, ((((Below.refl _ _).alloc (Nat.le_refl _) _).alloc (by simp) _).alloc (by simp; omega) _).alloc (by simp; omega) _, by simp, (((Blk.new w 70 _).below (below_one _ _)).below (below_one _ _)).below (below_one _ _), ?_, ?_, ?_⟩
  · have := ((Blk.new (w.alloc (.cells cs 70)) 106 ws).below (below_one _ (.cells z70 70))).below (below_one _ (.cells z106 106))
    simpa using this
  · have := (Blk.new ((w.alloc (.cells cs 70)).alloc (.cells ws 106)) 70 z70).below (below_one _ (.cells z106 106))
    simpa using this
  · have := Blk.new (((w.alloc (.cells cs 70)).alloc (.cells ws 106)).alloc (.cells z70 70)) 106 z106
    simpa using this
def rdVal2 (D : DS) (A : Option Addr) (c : Nat) (B : Option Addr) (d : Nat) : Value := .agg #[.slice A D.logs.length c, .int .i64 (D.acts : Int), .bool D.down, .int .i64 D.armed, .slice B D.keep.length d]
/-- What the reference's wal hands back. -/
def RW8 (w : World) (A B : Option Addr) (LA : Option Addr) (lg : Int) (ls : List (List UInt8)) (D' : DS) (ls' : List (List UInt8)) (sure' : Nat) (dead' : Bool) (E : Int) (e : Ending) (w' : World) : Prop :=
  ∃ A' c' B' d' LA' lc', e = .returned (.tuple #[rdVal2 D' A' c' B' d', .agg #[.int .i64 lg, .slice LA' ls'.length lc', .int .i64 (sure' : Int), .bool dead'], .int .i64 E]) ∧ ROut w A B D' A' B' w' ∧ Cells w' LA' (strs ls') ∧ (∀ ad, LA' = some ad → (ls' = ls ∧ LA = some ad) ∨ w.heap.size ≤ ad.block)

set_option maxHeartbeats 4000000 in
set_option maxRecDepth 100000 in
theorem ract8_dead (A B : Option Addr) (c d : Nat) (D : DS) (lg : Int) (LA : Option Addr) (lc : Nat) (ls : List (List UInt8)) (sure : Nat) (kind : Int) (X : Option Addr) (xn xc : Nat) (w : World) (hA : Cells w A (lgs D.logs)) (hB : Cells w B (ints D.keep)) (hL : Cells w LA (strs ls)) :
    Calls Try.prog 82 #[.agg #[.slice A D.logs.length c, .int .i64 (D.acts : Int), .bool D.down, .int .i64 D.armed, .slice B D.keep.length d], .agg #[.int .i64 lg, .slice LA ls.length lc, .int .i64 (sure : Int), .bool true], .int .i64 kind, .slice X xn xc] w (RW8 w A B LA lg ls D ls sure true 81) := by
  obtain ⟨W0, hW0, b0, sz, n0, n1, n2, n3⟩ := act8_boxes w #[.slice A D.logs.length c, .int .i64 (D.acts : Int), .bool D.down, .int .i64 D.armed, .slice B D.keep.length d] #[.int .i64 lg, .slice LA ls.length lc, .int .i64 (sure : Int), .bool true]
  have HA := Lib.hid hA
  have HB := Lib.hid hB
  have HL := Lib.hid hL
  have HW0 := Lib.hid hW0
  have B0 := Lib.hid b0
  have SZ := Lib.hid sz
  unfold z70 at n2
  unfold z106 at n3
  unfold z70 z106 at HW0
  clear hA hB hL hW0 b0 sz
  obtain ⟨⟨y0, y1, y2, y3⟩, _⟩ := blk4 n1
  go_enter Try.func82, Try.ntmps82
  go_upto_region 1 with fail
  rw [← HW0.out]
  go_upto_region 2 with fail
  clear y0 y1 y2 y3
  obtain ⟨⟨x0, x1, x2, x3, x4⟩, _⟩ := blk5 n0
  obtain ⟨⟨y0, y1, y2, y3⟩, _⟩ := blk4 n1
  obtain ⟨⟨p0, p1, p2, p3, p4⟩, f0, f1, f2, f3, f4⟩ := blk5 n2
  obtain ⟨⟨q0, q1, q2, q3⟩, g0, g1, g2, g3⟩ := blk4 n3
  have NS := Lib.hid (nine_ret n2 n3 (.slice A D.logs.length c) (.int .i64 (D.acts : Int)) (.bool D.down) (.int .i64 D.armed) (.slice B D.keep.length d) (.int .i64 lg) (.slice LA ls.length lc) (.int .i64 (sure : Int)) (.bool true))
  clear n0 n1 n2 n3
  go_region
  go_wp2_with fail
  try simp only [Exit.inBlock, Exit.then]
  obtain ⟨e1, e2, u9⟩ := NS.out
  refine bodyPost_ret (results_rw rfl rfl rfl e1 e2) rfl ?_
  have hz := SZ.out
  have bl := B0.out.trans (u9.below B0.out.size (fun i hi e => by omega))
  exact ⟨A, c, B, d, LA, lc, rfl, ⟨HA.out.below bl, HB.out.below bl, fun ad e => .inl e, fun ad e => .inl e, bl⟩, HL.out.below bl, fun ad e => .inl ⟨rfl, e⟩⟩

set_option maxHeartbeats 8000000 in
set_option maxRecDepth 100000 in
theorem ract8_live (A B : Option Addr) (c d : Nat) (D : DS) (lg : Int) (LA : Option Addr) (lc : Nat) (ls : List (List UInt8)) (sure : Nat) (kind : Nat) (X : Option Addr) (xc : Nat) (xs : List (List UInt8)) (w : World) (hA : Cells w A (lgs D.logs)) (hB : Cells w B (ints D.keep)) (hL : Cells w LA (strs ls)) (hX : Cells w X (strs xs)) (hx : ∀ l ∈ xs, l.length ≤ 1000) (hx2 : xs.length ≤ 100)
    (hl : D.logs.length ≤ 16) (hk : D.keep.length ≤ 1000000) (hsm : ∀ j (h : j < D.logs.length), D.logs[j].1.length ≤ 4194304 ∧ D.logs[j].2 ≤ D.logs[j].1.length) (hkd : kind = 0 ∨ kind = 1 ∧ xs = [] ∨ kind = 2) (hac : D.acts < 1000000000) (hab : 0 ≤ D.armed) (hab2 : D.armed ≤ 9223372036854775807) (hls : ls.length ≤ 10000000) :
    Calls Try.prog 82 #[.agg #[.slice A D.logs.length c, .int .i64 (D.acts : Int), .bool D.down, .int .i64 D.armed, .slice B D.keep.length d], .agg #[.int .i64 lg, .slice LA ls.length lc, .int .i64 (sure : Int), .bool false], .int .i64 (kind : Int), .slice X xs.length xc] w
      (RW8 w A B LA lg ls (D.act lg (actSz D kind lg (framesOf xs)) (actF kind (framesOf xs))) (rwLs kind ls xs (D.actErr lg (actSz D kind lg (framesOf xs)))) (rwSure kind ls xs sure (D.actErr lg (actSz D kind lg (framesOf xs)))) (decide (D.actErr lg (actSz D kind lg (framesOf xs)) = 71)) (D.actErr lg (actSz D kind lg (framesOf xs)))) := by
  obtain ⟨W0, hW0, b0, sz, n0, n1, n2, n3⟩ := act8_boxes w #[.slice A D.logs.length c, .int .i64 (D.acts : Int), .bool D.down, .int .i64 D.armed, .slice B D.keep.length d] #[.int .i64 lg, .slice LA ls.length lc, .int .i64 (sure : Int), .bool false]
  have HA := Lib.hid hA
  have HB := Lib.hid hB
  have HL := Lib.hid hL
  have HW0 := Lib.hid hW0
  have B0 := Lib.hid b0
  have SZ := Lib.hid sz
  unfold z70 at n2
  unfold z106 at n3
  unfold z70 z106 at HW0
  clear hA hB hL hW0 b0 sz
  have HF := Lib.hid (rframes_calls X xs.length xc xs W0 rfl (hX.below B0.out) hx hx2)
  have hfl : (framesOf xs).length ≤ 1000000 := by
    have h1 := framesOf_len 1000 xs hx
    have h3 := Nat.mul_le_mul_right (8 + 1000) hx2
    omega
  have hkd2 : kind = 0 ∨ kind = 1 ∧ framesOf xs = [] ∨ kind = 2 := by
    rcases hkd with h | ⟨h, h2⟩ | h
    · exact .inl h
    · exact .inr (.inl ⟨h, by rw [h2]; rfl⟩)
    · exact .inr (.inr h)
  have HX := Lib.hid hX
  have HR := Lib.hid (fun W (hb : Below w.heap.size w W) => ract_calls A B c d D kind lg (framesOf xs) W hl hk hsm hfl (HA.out.below hb) (HB.out.below hb) hkd2 hac hab hab2)
  have hD1 := act_len D lg (actSz D kind lg (framesOf xs)) (actF kind (framesOf xs))
  have hD2 := act_keep D lg (actSz D kind lg (framesOf xs)) (actF kind (framesOf xs))
  obtain ⟨D', hD'⟩ : ∃ D', D' = D.act lg (actSz D kind lg (framesOf xs)) (actF kind (framesOf xs)) := ⟨_, rfl⟩
  obtain ⟨E, hE⟩ : ∃ E, E = D.actErr lg (actSz D kind lg (framesOf xs)) := ⟨_, rfl⟩
  rw [← hD'] at hD1 hD2
  rw [← hD', ← hE] at HR
  rw [← hD', ← hE]
  have HD1 := Lib.hid hD1
  have HD2 := Lib.hid hD2
  have hxl : xs.length ≤ 100 := hx2
  clear hX hx hx2 hl hk hsm hkd2 hac hab hab2 hfl hD' hE hD1 hD2
  obtain ⟨⟨y0, y1, y2, y3⟩, _⟩ := blk4 n1
  have N0 := Lib.hid n0
  have N1 := Lib.hid n1
  have N2 := Lib.hid n2
  have N3 := Lib.hid n3
  clear n0 n1 n2 n3
  go_enter Try.func82, Try.ntmps82
  go_upto_region 1 with fail
  rw [← HW0.out]
  clear HW0
  go_wp2_with fail
  refine HF.out.mono ?_
  rintro e v1 ⟨rfl, b1⟩
  clear y0 y1 y2 y3 HF
  obtain ⟨⟨x0, x1, x2, x3, x4⟩, _⟩ := blk5 (N0.out.below b1)
  obtain ⟨⟨y0, y1, y2, y3⟩, _⟩ := blk4 (N1.out.below b1)
  have B1 := Lib.hid b1
  clear b1
  go_wp2_with fail
  refine (HR.out v1 (B0.out.trans (B1.out.mono B0.out.size))).mono ?_
  rintro e v2 ⟨A', c', B', d', rfl, ha, hb, oa, ob, b2⟩
  have RO := Lib.hid (show ROut v1 A B D' A' B' v2 from ⟨ha, hb, oa, ob, b2⟩)
  have B12 := Lib.hid (B1.out.trans (b2.mono B1.out.size))
  clear x0 x1 x2 x3 x4 y0 y1 y2 y3 ha hb oa ob HR
  have n0 := (N0.out.below B1.out).below b2
  obtain ⟨⟨x0, x1, x2, x3, x4⟩, f0, f1, f2, f3, f4⟩ := blk5 n0
  obtain ⟨h0, u0⟩ := five_sets n0 (.slice A' D'.logs.length c') (.int .i64 (D'.acts : Int)) (.bool D'.down) (.int .i64 D'.armed) (.slice B' D'.keep.length d')
  clear b2 n0
  obtain ⟨v3, hv3⟩ : ∃ v3, v3 = (((((v2.setCell ⟨w.heap.size, 0, none⟩ (.slice A' D'.logs.length c')).setCell ⟨w.heap.size, 1, none⟩ (.int .i64 (D'.acts : Int))).setCell ⟨w.heap.size, 2, none⟩ (.bool D'.down)).setCell ⟨w.heap.size, 3, none⟩ (.int .i64 D'.armed)).setCell ⟨w.heap.size, 4, none⟩ (.slice B' D'.keep.length d')) := ⟨_, rfl⟩
  rw [← hv3] at h0 u0
  have HV3 := Lib.hid hv3
  have N13 := Lib.hid ((N1.out.below B12.out).upd u0 (by omega))
  have N23 := Lib.hid ((N2.out.below B12.out).upd u0 (by omega))
  have N33 := Lib.hid ((N3.out.below B12.out).upd u0 (by omega))
  have N03 := Lib.hid h0
  have U0 := Lib.hid u0
  clear hv3 h0 u0 N0 N1 N2 N3
  go_upto_region 7 with fail
  rw [← HV3.out]
  clear HV3 x0 x1 x2 x3 x4 f0 f1 f2 f3 f4
  -- what is left: W is the world at the return
  have FIN := Lib.hid (show ∀ W, Upd (fun i => w.heap.size ≤ i ∧ i < w.heap.size + 4) v3 W → ROut w A B D' A' B' W ∧ Below w.heap.size w W ∧ Cells W LA (strs ls) from fun W hu => by
    have hz := SZ.out
    have hu2 : Upd (fun i => w.heap.size ≤ i ∧ i < w.heap.size + 4) v2 W := (U0.out.mono (fun i _ h => by have h2 : i = w.heap.size := h; omega)).trans hu (fun i _ h => h)
    have hbl := B0.out.trans (B1.out.mono B0.out.size)
    have hr := RO.out.box HA.out HB.out HD1.out HD2.out hbl hu2 (fun i hi => ⟨hi.1, by have := B1.out.size; omega⟩)
    exact ⟨hr, hr.below, HL.out.below hr.below⟩)
  have hz3 : w.heap.size + 4 ≤ v3.heap.size := by have := SZ.out; have := B12.out.size; have := U0.out.size; omega
  have HZ3 := Lib.hid hz3
  clear hz3 RO B1 B12 U0 HA HB HD1 HD2
  by_cases h71 : E = 71
  · subst h71
    have HNE := Lib.hid (show (71 : Int) ≠ 0 by decide)
    have n1 := N13.out.set 3 (.bool true)
    have u1 := (Upd.refl (fun i => w.heap.size ≤ i ∧ i < w.heap.size + 4) v3).set ⟨w.heap.size + 1, 3, none⟩ (.bool true) (fun _ => by simp)
    have n0 := N03.out.upd ((Upd.refl (fun i => i = w.heap.size + 1) v3).set ⟨w.heap.size + 1, 3, none⟩ (.bool true) (fun _ => rfl)) (by omega)
    have n2 := N23.out.upd ((Upd.refl (fun i => i = w.heap.size + 1) v3).set ⟨w.heap.size + 1, 3, none⟩ (.bool true) (fun _ => rfl)) (by omega)
    have n3 := N33.out.upd ((Upd.refl (fun i => i = w.heap.size + 1) v3).set ⟨w.heap.size + 1, 3, none⟩ (.bool true) (fun _ => rfl)) (by omega)
    have n1 : Blk (v3.setCell ⟨w.heap.size + 1, 3, none⟩ (.bool true)) (w.heap.size + 1) 106 #[.int .i64 lg, .slice LA ls.length lc, .int .i64 (sure : Int), .bool true] := by simpa using n1
    have U1 := Lib.hid u1
    have V4 := Lib.hid (And.intro n0 (And.intro n1 (And.intro n2 n3)))
    obtain ⟨⟨y0, y1, y2, y3⟩, g0, g1, g2, g3⟩ := blk4 N13.out
    clear n0 n1 n2 n3 u1 N03 N13 N23 N33
    go_upto_region 10 with fail
    clear y0 y1 y2 y3 g0 g1 g2 g3
    generalize v3.setCell ⟨w.heap.size + 1, 3, none⟩ (.bool true) = v4 at U1 V4 ⊢
    obtain ⟨n0, n1, n2, n3⟩ := V4.out
    clear V4
    obtain ⟨⟨x0, x1, x2, x3, x4⟩, _⟩ := blk5 n0
    obtain ⟨⟨y0, y1, y2, y3⟩, _⟩ := blk4 n1
    obtain ⟨⟨p0, p1, p2, p3, p4⟩, f0, f1, f2, f3, f4⟩ := blk5 n2
    obtain ⟨⟨q0, q1, q2, q3⟩, g0, g1, g2, g3⟩ := blk4 n3
    have NS := Lib.hid (nine_ret n2 n3 (.slice A' D'.logs.length c') (.int .i64 (D'.acts : Int)) (.bool D'.down) (.int .i64 D'.armed) (.slice B' D'.keep.length d') (.int .i64 lg) (.slice LA ls.length lc) (.int .i64 (sure : Int)) (.bool true))
    clear n0 n1 n2 n3
    go_region
    go_wp2_with fail
    try simp only [Exit.inBlock, Exit.then]
    obtain ⟨e1, e2, u9⟩ := NS.out
    refine bodyPost_ret (results_rw rfl rfl rfl e1 e2) rfl ?_
    obtain ⟨r1, r2, r3⟩ := FIN.out _ (U1.out.trans u9 (fun i _ h => by omega))
    try rw [show decide ((71 : Int) = 71) = true by decide]
    rw [rwLs_err HNE.out, rwSure_err HNE.out]
    exact ⟨A', c', B', d', LA, lc, rfl, r1, r3, fun ad e => .inl ⟨rfl, e⟩⟩
  by_cases h00 : E = 0
  case neg =>
    have HNE := Lib.hid h00
    have H71 := Lib.hid h71
    have hb1 : (E == 71) = false := by simpa using h71
    have hb2 : (E != 0) = true := by simpa using h00
    obtain ⟨n0, n1, n2, n3⟩ := And.intro N03.out (And.intro N13.out (And.intro N23.out N33.out))
    clear h71 h00 N03 N13 N23 N33
    go_upto_region 10 with fail
    obtain ⟨⟨x0, x1, x2, x3, x4⟩, _⟩ := blk5 n0
    obtain ⟨⟨y0, y1, y2, y3⟩, _⟩ := blk4 n1
    obtain ⟨⟨p0, p1, p2, p3, p4⟩, f0, f1, f2, f3, f4⟩ := blk5 n2
    obtain ⟨⟨q0, q1, q2, q3⟩, g0, g1, g2, g3⟩ := blk4 n3
    have NS := Lib.hid (nine_ret n2 n3 (.slice A' D'.logs.length c') (.int .i64 (D'.acts : Int)) (.bool D'.down) (.int .i64 D'.armed) (.slice B' D'.keep.length d') (.int .i64 lg) (.slice LA ls.length lc) (.int .i64 (sure : Int)) (.bool false))
    clear n0 n1 n2 n3
    go_region
    go_wp2_with fail
    try simp only [Exit.inBlock, Exit.then]
    obtain ⟨e1, e2, u9⟩ := NS.out
    refine bodyPost_ret (results_rw rfl rfl rfl e1 e2) rfl ?_
    obtain ⟨r1, r2, r3⟩ := FIN.out _ (u9.mono (fun i _ h => by omega))
    try rw [show decide (E = 71) = false by simpa using H71.out]
    rw [rwLs_err HNE.out, rwSure_err HNE.out]
    exact ⟨A', c', B', d', LA, lc, rfl, r1, r3, fun ad e => .inl ⟨rfl, e⟩⟩
  subst h00
  clear h71
  rcases hkd with rfl | ⟨rfl, rfl⟩ | rfl
  · -- Append
    have G0 : Below v3.heap.size v3 (v3.alloc (.cells #[] 9)) := below_one v3 _
    obtain ⟨⟨y0, y1, y2, y3⟩, _⟩ := blk4 (N13.out.below G0)
    have hcl := (FIN.out v3 (Upd.refl _ _)).2.2.below G0
    have HCX := Lib.hid (HX.out.below (FIN.out v3 (Upd.refl _ _)).2.1)
    have HCL := Lib.hid hcl
    clear hcl
    go_wp2_with (with_reducible refine halt_dst 57 ?_)
    refine wpList_append_row rfl (.tmp 54) (.tmp 56) 42 rfl v3.heap.size 9 (.string ByteArray.empty) 1 16 Try.underlying42 Try.info9 rfl (by decide) (.slice (some ⟨v3.heap.size, 0, none⟩) 0 0) 0 [] rfl (row_new v3 v3.heap.size 9 1 (Nat.le_refl _)) LA ls.length lc (strs ls) rfl (by rw [strs_length]; omega) HCL.out (strs_one _) (by simp only [maxLen]; omega) (by omega) G0.size ?_
    intro v5 w5 r5 g5 _
    have r5' : Row w5 v3.heap.size 9 1 v5 ls.length (strs ls) := by simpa using r5
    obtain ⟨A5, c5, rfl, _, _, _, _⟩ := r5'.cells1
    have B5 : Below v3.heap.size v3 w5 := G0.grown g5 G0.size (fun k hk => by simp [Value.ownBlock] at hk; omega)
    have R5 := Lib.hid r5'
    have HB5 := Lib.hid B5
    clear r5 g5 r5' B5 G0 y0 y1 y2 y3 HCL
    go_wp2_with (with_reducible refine halt_dst 59 ?_)
    refine wpList_append_row rfl (.tmp 57) (.tmp 58) 42 rfl v3.heap.size 9 (.string ByteArray.empty) 1 16 Try.underlying42 Try.info9 rfl (by decide) (.slice A5 ls.length c5) ls.length (strs ls) rfl R5.out X xs.length xc (strs xs) rfl (by rw [strs_length]; omega) (HCX.out.below HB5.out) (strs_one _) (by simp only [maxLen]; omega) (by omega) HB5.out.size ?_
    intro v6 w6 r6 g6 _
    have r6' : Row w6 v3.heap.size 9 1 v6 (ls ++ xs).length (strs (ls ++ xs)) := by simpa [strs, List.length_append] using r6
    obtain ⟨A6, c6, rfl, _, _, h6, o6⟩ := r6'.cells1
    have B6 : Below v3.heap.size v3 w6 := HB5.out.grown g6 HB5.out.size (fun k hk => (R5.out.lt k hk).1)
    obtain ⟨L9, hL9⟩ : ∃ L9, L9 = ls ++ xs := ⟨_, rfl⟩
    rw [← hL9] at h6 ⊢
    have HL9 := Lib.hid (show rwLs 0 ls xs 0 = L9 from hL9.symm)
    clear r6 r6' g6 R5 HB5 HCX hL9
    have HB6 := Lib.hid B6
    have H6 := Lib.hid h6
    have O6 := Lib.hid o6
    clear B6 h6 o6
    have n1 := (N13.out.below HB6.out).set 1 (.slice A6 L9.length c6)
    have u1 := (Upd.of_below HB6.out : Upd (fun i => w.heap.size ≤ i ∧ i < w.heap.size + 4) v3 w6).set ⟨w.heap.size + 1, 1, none⟩ (.slice A6 L9.length c6) (fun _ => by simp)
    have uu := (Upd.refl (fun i => i = w.heap.size + 1) w6).set ⟨w.heap.size + 1, 1, none⟩ (.slice A6 L9.length c6) (fun _ => rfl)
    have n0 := (N03.out.below HB6.out).upd uu (by omega)
    have n2 := (N23.out.below HB6.out).upd uu (by omega)
    have n3 := (N33.out.below HB6.out).upd uu (by omega)
    have UU := Lib.hid uu
    have n1 : Blk (w6.setCell ⟨w.heap.size + 1, 1, none⟩ (.slice A6 L9.length c6)) (w.heap.size + 1) 106 #[.int .i64 lg, .slice A6 L9.length c6, .int .i64 (sure : Int), .bool false] := by simpa using n1
    clear uu
    have U1 := Lib.hid u1
    have V4 := Lib.hid (And.intro n0 (And.intro n1 (And.intro n2 n3)))
    obtain ⟨⟨y0, y1, y2, y3⟩, g0, g1, g2, g3⟩ := blk4 (N13.out.below HB6.out)
    clear n0 n1 n2 n3 u1 N03 N13 N23 N33
    go_upto_region 17 with fail
    clear y0 y1 y2 y3 g0 g1 g2 g3
    generalize w6.setCell ⟨w.heap.size + 1, 1, none⟩ (.slice A6 L9.length c6) = v4 at U1 V4 UU ⊢
    obtain ⟨n0, n1, n2, n3⟩ := V4.out
    clear V4
    obtain ⟨⟨x0, x1, x2, x3, x4⟩, _⟩ := blk5 n0
    obtain ⟨⟨y0, y1, y2, y3⟩, _⟩ := blk4 n1
    obtain ⟨⟨p0, p1, p2, p3, p4⟩, f0, f1, f2, f3, f4⟩ := blk5 n2
    obtain ⟨⟨q0, q1, q2, q3⟩, g0, g1, g2, g3⟩ := blk4 n3
    have NS := Lib.hid (nine_ret n2 n3 (.slice A' D'.logs.length c') (.int .i64 (D'.acts : Int)) (.bool D'.down) (.int .i64 D'.armed) (.slice B' D'.keep.length d') (.int .i64 lg) (.slice A6 L9.length c6) (.int .i64 (sure : Int)) (.bool false))
    clear n0 n1 n2 n3
    go_region
    go_wp2_with fail
    try simp only [Exit.inBlock, Exit.then]
    obtain ⟨e1, e2, u9⟩ := NS.out
    refine bodyPost_ret (results_rw rfl rfl rfl e1 e2) rfl ?_
    obtain ⟨r1, r2, r3⟩ := FIN.out _ (U1.out.trans u9 (fun i _ h => by omega))
    have hz := HZ3.out
    rw [HL9.out]
    exact ⟨A', c', B', d', A6, c6, rfl, r1, (H6.out.upd UU.out (fun ad e _ => by have := (O6.out ad e).1; omega)).upd u9 (fun ad e _ => by have := (O6.out ad e).1; omega), fun ad e => .inr (by have := (O6.out ad e).1; omega)⟩
  · -- Sync
    have n1 := N13.out.set 2 (.int .i64 (ls.length : Int))
    have u1 := (Upd.refl (fun i => w.heap.size ≤ i ∧ i < w.heap.size + 4) v3).set ⟨w.heap.size + 1, 2, none⟩ (.int .i64 (ls.length : Int)) (fun _ => by simp)
    have n0 := N03.out.upd ((Upd.refl (fun i => i = w.heap.size + 1) v3).set ⟨w.heap.size + 1, 2, none⟩ (.int .i64 (ls.length : Int)) (fun _ => rfl)) (by omega)
    have n2 := N23.out.upd ((Upd.refl (fun i => i = w.heap.size + 1) v3).set ⟨w.heap.size + 1, 2, none⟩ (.int .i64 (ls.length : Int)) (fun _ => rfl)) (by omega)
    have n3 := N33.out.upd ((Upd.refl (fun i => i = w.heap.size + 1) v3).set ⟨w.heap.size + 1, 2, none⟩ (.int .i64 (ls.length : Int)) (fun _ => rfl)) (by omega)
    have n1 : Blk (v3.setCell ⟨w.heap.size + 1, 2, none⟩ (.int .i64 (ls.length : Int))) (w.heap.size + 1) 106 #[.int .i64 lg, .slice LA ls.length lc, .int .i64 (ls.length : Int), .bool false] := by simpa using n1
    have U1 := Lib.hid u1
    have V4 := Lib.hid (And.intro n0 (And.intro n1 (And.intro n2 n3)))
    obtain ⟨⟨y0, y1, y2, y3⟩, g0, g1, g2, g3⟩ := blk4 N13.out
    clear n0 n1 n2 n3 u1 N03 N13 N23 N33
    go_upto_region 17 with fail
    clear y0 y1 y2 y3 g0 g1 g2 g3
    generalize v3.setCell ⟨w.heap.size + 1, 2, none⟩ (.int .i64 (ls.length : Int)) = v4 at U1 V4 ⊢
    obtain ⟨n0, n1, n2, n3⟩ := V4.out
    clear V4
    obtain ⟨⟨x0, x1, x2, x3, x4⟩, _⟩ := blk5 n0
    obtain ⟨⟨y0, y1, y2, y3⟩, _⟩ := blk4 n1
    obtain ⟨⟨p0, p1, p2, p3, p4⟩, f0, f1, f2, f3, f4⟩ := blk5 n2
    obtain ⟨⟨q0, q1, q2, q3⟩, g0, g1, g2, g3⟩ := blk4 n3
    have NS := Lib.hid (nine_ret n2 n3 (.slice A' D'.logs.length c') (.int .i64 (D'.acts : Int)) (.bool D'.down) (.int .i64 D'.armed) (.slice B' D'.keep.length d') (.int .i64 lg) (.slice LA ls.length lc) (.int .i64 (ls.length : Int)) (.bool false))
    clear n0 n1 n2 n3
    go_region
    go_wp2_with fail
    try simp only [Exit.inBlock, Exit.then]
    obtain ⟨e1, e2, u9⟩ := NS.out
    refine bodyPost_ret (results_rw rfl rfl rfl e1 e2) rfl ?_
    obtain ⟨r1, r2, r3⟩ := FIN.out _ (U1.out.trans u9 (fun i _ h => by omega))
    exact ⟨A', c', B', d', LA, lc, rfl, r1, r3, fun ad e => .inl ⟨rfl, e⟩⟩
  · -- Fresh
    have G0 : Below v3.heap.size v3 (v3.alloc (.cells #[] 9)) := below_one v3 _
    have HCX := Lib.hid ((HX.out.below (FIN.out v3 (Upd.refl _ _)).2.1).below G0)
    go_wp2_with (with_reducible refine halt_dst 47 ?_)
    refine wpList_append_row rfl (.tmp 45) (.tmp 46) 42 rfl v3.heap.size 9 (.string ByteArray.empty) 1 16 Try.underlying42 Try.info9 rfl (by decide) (.slice (some ⟨v3.heap.size, 0, none⟩) 0 0) 0 [] rfl (row_new v3 v3.heap.size 9 1 (Nat.le_refl _)) X xs.length xc (strs xs) rfl (by rw [strs_length]; omega) HCX.out (strs_one _) (by simp only [maxLen]; omega) (by omega) G0.size ?_
    intro v6 w6 r6 g6 _
    have r6' : Row w6 v3.heap.size 9 1 v6 xs.length (strs xs) := by simpa using r6
    obtain ⟨A6, c6, rfl, _, _, h6, o6⟩ := r6'.cells1
    have B6 : Below v3.heap.size v3 w6 := G0.grown g6 G0.size (fun k hk => by simp [Value.ownBlock] at hk; omega)
    clear r6 r6' g6 HCX G0
    have HB6 := Lib.hid B6
    have H6 := Lib.hid h6
    have O6 := Lib.hid o6
    clear B6 h6 o6
    have n1 := ((N13.out.below HB6.out).set 1 (.slice A6 xs.length c6)).set 2 (.int .i64 (xs.length : Int))
    have u1 := ((Upd.of_below HB6.out : Upd (fun i => w.heap.size ≤ i ∧ i < w.heap.size + 4) v3 w6).set ⟨w.heap.size + 1, 1, none⟩ (.slice A6 xs.length c6) (fun _ => by simp)).set ⟨w.heap.size + 1, 2, none⟩ (.int .i64 (xs.length : Int)) (fun _ => by simp)
    have uu := ((Upd.refl (fun i => i = w.heap.size + 1) w6).set ⟨w.heap.size + 1, 1, none⟩ (.slice A6 xs.length c6) (fun _ => rfl)).set ⟨w.heap.size + 1, 2, none⟩ (.int .i64 (xs.length : Int)) (fun _ => rfl)
    have n0 := (N03.out.below HB6.out).upd uu (by omega)
    have n2 := (N23.out.below HB6.out).upd uu (by omega)
    have n3 := (N33.out.below HB6.out).upd uu (by omega)
    have UU := Lib.hid uu
    have n1 : Blk ((w6.setCell ⟨w.heap.size + 1, 1, none⟩ (.slice A6 xs.length c6)).setCell ⟨w.heap.size + 1, 2, none⟩ (.int .i64 (xs.length : Int))) (w.heap.size + 1) 106 #[.int .i64 lg, .slice A6 xs.length c6, .int .i64 (xs.length : Int), .bool false] := by simpa using n1
    clear uu
    have U1 := Lib.hid u1
    have V4 := Lib.hid (And.intro n0 (And.intro n1 (And.intro n2 n3)))
    obtain ⟨⟨y0, y1, y2, y3⟩, g0, g1, g2, g3⟩ := blk4 (N13.out.below HB6.out)
    clear n0 n1 n2 n3 u1 N03 N13 N23 N33
    go_upto_region 17 with fail
    clear y0 y1 y2 y3 g0 g1 g2 g3
    generalize (w6.setCell ⟨w.heap.size + 1, 1, none⟩ (.slice A6 xs.length c6)).setCell ⟨w.heap.size + 1, 2, none⟩ (.int .i64 (xs.length : Int)) = v4 at U1 V4 UU ⊢
    obtain ⟨n0, n1, n2, n3⟩ := V4.out
    clear V4
    obtain ⟨⟨x0, x1, x2, x3, x4⟩, _⟩ := blk5 n0
    obtain ⟨⟨y0, y1, y2, y3⟩, _⟩ := blk4 n1
    obtain ⟨⟨p0, p1, p2, p3, p4⟩, f0, f1, f2, f3, f4⟩ := blk5 n2
    obtain ⟨⟨q0, q1, q2, q3⟩, g0, g1, g2, g3⟩ := blk4 n3
    have NS := Lib.hid (nine_ret n2 n3 (.slice A' D'.logs.length c') (.int .i64 (D'.acts : Int)) (.bool D'.down) (.int .i64 D'.armed) (.slice B' D'.keep.length d') (.int .i64 lg) (.slice A6 xs.length c6) (.int .i64 (xs.length : Int)) (.bool false))
    clear n0 n1 n2 n3
    go_region
    go_wp2_with fail
    try simp only [Exit.inBlock, Exit.then]
    obtain ⟨e1, e2, u9⟩ := NS.out
    refine bodyPost_ret (results_rw rfl rfl rfl e1 e2) rfl ?_
    obtain ⟨r1, r2, r3⟩ := FIN.out _ (U1.out.trans u9 (fun i _ h => by omega))
    have hz := HZ3.out
    exact ⟨A', c', B', d', A6, c6, rfl, r1, (H6.out.upd UU.out (fun ad e _ => by have := (O6.out ad e).1; omega)).upd u9 (fun ad e _ => by have := (O6.out ad e).1; omega), fun ad e => .inr (by have := (O6.out ad e).1; omega)⟩

/- The reference's wal: Open. -/
theorem nine_set {W : World} {b h : Nat} {y0 y1 y2 y3 y4 x0 x1 x2 x3 : Value} (B1 : Blk W b 70 #[y0, y1, y2, y3, y4]) (B2 : Blk W h 106 #[x0, x1, x2, x3]) (z0 z1 z2 z3 z4 v0 v1 v2 v3 : Value) :
    Blk (((((((((W.setCell ⟨b, 0, Option.none⟩ z0).setCell ⟨b, 1, Option.none⟩ z1).setCell ⟨b, 2, Option.none⟩ z2).setCell ⟨b, 3, Option.none⟩ z3).setCell ⟨b, 4, Option.none⟩ z4).setCell ⟨h, 0, Option.none⟩ v0).setCell ⟨h, 1, Option.none⟩ v1).setCell ⟨h, 2, Option.none⟩ v2).setCell ⟨h, 3, Option.none⟩ v3) b 70 #[z0, z1, z2, z3, z4] ∧ Blk (((((((((W.setCell ⟨b, 0, Option.none⟩ z0).setCell ⟨b, 1, Option.none⟩ z1).setCell ⟨b, 2, Option.none⟩ z2).setCell ⟨b, 3, Option.none⟩ z3).setCell ⟨b, 4, Option.none⟩ z4).setCell ⟨h, 0, Option.none⟩ v0).setCell ⟨h, 1, Option.none⟩ v1).setCell ⟨h, 2, Option.none⟩ v2).setCell ⟨h, 3, Option.none⟩ v3) h 106 #[v0, v1, v2, v3] ∧ Upd (fun k => k = b ∨ k = h) W (((((((((W.setCell ⟨b, 0, Option.none⟩ z0).setCell ⟨b, 1, Option.none⟩ z1).setCell ⟨b, 2, Option.none⟩ z2).setCell ⟨b, 3, Option.none⟩ z3).setCell ⟨b, 4, Option.none⟩ z4).setCell ⟨h, 0, Option.none⟩ v0).setCell ⟨h, 1, Option.none⟩ v1).setCell ⟨h, 2, Option.none⟩ v2).setCell ⟨h, 3, Option.none⟩ v3) := by
  have hne : b ≠ h := B1.typed.ne B2.typed (by decide)
  obtain ⟨e1, u1⟩ := five_sets B1 z0 z1 z2 z3 z4
  obtain ⟨e2, u2⟩ := four_sets (B2.upd u1 (Ne.symm hne)) v0 v1 v2 v3
  exact ⟨e1.upd u2 hne, e2, (u1.mono (fun i _ h => .inl h)).trans u2 (fun i _ h => .inr h)⟩
/-- The boxes of Open. -/
theorem open8_boxes (w : World) (cs : Array Value) :
    ∃ W0, W0 = ((w.alloc (.cells cs 70)).alloc (.cells z70 70)).alloc (.cells z106 106) ∧ Below w.heap.size w W0 ∧ W0.heap.size = w.heap.size + 3 ∧ Blk W0 w.heap.size 70 cs ∧ Blk W0 (w.heap.size + 1) 70 z70 ∧ Blk W0 (w.heap.size + 2) 106 z106 := by
  refine ⟨_, rfl, (((Below.refl _ _).alloc (Nat.le_refl _) _).alloc (by simp) _).alloc (by simp; omega) _, by simp, ((Blk.new w 70 _).below (below_one _ _)).below (below_one _ _), ?_, ?_⟩
  · have := (Blk.new (w.alloc (.cells cs 70)) 70 z70).below (below_one _ (.cells z106 106))
    simpa using this
  · have := Blk.new ((w.alloc (.cells cs 70)).alloc (.cells z70 70)) 106 z106
    simpa using this
/-- What the reference's opening hands back. -/
def ROpen (w : World) (A B : Option Addr) (D D' : DS) (lg : Int) (E : Int) (e : Ending) (w' : World) : Prop :=
  ∃ A' c' B' d', ROut w A B D' A' B' w' ∧
    (E ≠ 0 → e = .returned (.tuple #[rdVal2 D' A' c' B' d', .agg #[.int .i64 0, .slice none 0 0, .int .i64 0, .bool false], .int .i64 E])) ∧
    (E = 0 → ∃ L lc, e = .returned (.tuple #[rdVal2 D' A' c' B' d', .agg #[.int .i64 lg, .slice L (scanOf (D.log lg).1).1.length lc, .int .i64 ((scanOf (D.log lg).1).1.length : Int), .bool false], .int .i64 0]) ∧ Cells w' L (strs (scanOf (D.log lg).1).1) ∧ (∀ ad, L = some ad → w.heap.size ≤ ad.block))

set_option maxHeartbeats 8000000 in
set_option maxRecDepth 100000 in
theorem ropen8_calls (A B : Option Addr) (c d : Nat) (D : DS) (lg : Int) (w : World) (hA : Cells w A (lgs D.logs)) (hB : Cells w B (ints D.keep)) (hl : D.logs.length ≤ 16) (hk : D.keep.length ≤ 1000000) (hsm : ∀ j (h : j < D.logs.length), D.logs[j].1.length ≤ 4194304 ∧ D.logs[j].2 ≤ D.logs[j].1.length)
    (hac : D.acts < 1000000000) (hab : 0 ≤ D.armed) (hab2 : D.armed ≤ 9223372036854775807) (hlog : (D.log lg).1.length ≤ 1000000) :
    Calls Try.prog 81 #[.agg #[.slice A D.logs.length c, .int .i64 (D.acts : Int), .bool D.down, .int .i64 D.armed, .slice B D.keep.length d], .int .i64 lg] w (ROpen w A B D (openD D lg) lg (openErrD D lg)) := by
  obtain ⟨W0, hW0, b0, sz, n0, n1, n2⟩ := open8_boxes w #[.slice A D.logs.length c, .int .i64 (D.acts : Int), .bool D.down, .int .i64 D.armed, .slice B D.keep.length d]
  have HA := Lib.hid hA
  have HB := Lib.hid hB
  have HW0 := Lib.hid hW0
  have B0 := Lib.hid b0
  have SZ := Lib.hid sz
  unfold z70 at n1
  unfold z106 at n2
  unfold z70 z106 at HW0
  have HRB := Lib.hid (rbytes_calls A B c d D lg W0 (hA.below b0) hl (fun j h => (hsm j h).1))
  have BX := Lib.hid (show ∀ W, Below W0.heap.size W0 W → Blk W w.heap.size 70 #[.slice A D.logs.length c, .int .i64 (D.acts : Int), .bool D.down, .int .i64 D.armed, .slice B D.keep.length d] ∧ Blk W (w.heap.size + 1) 70 #[.slice none 0 0, .int .i64 0, .bool false, .int .i64 0, .slice none 0 0] ∧ Blk W (w.heap.size + 2) 106 #[.int .i64 0, .slice none 0 0, .int .i64 0, .bool false] from fun W hb => ⟨n0.below hb, n1.below hb, n2.below hb⟩)
  have HH := Lib.hid (And.intro hl (And.intro hk (And.intro hsm (And.intro hac (And.intro hab hab2)))))
  clear hA hB hW0 b0 sz n0 n1 n2 hl hk hsm hac hab hab2
  cases hh : D.has lg with
  | false =>
    have HED := Lib.hid (show openErrD D lg = 70 ∧ openD D lg = D by simp [openErrD, openD, DS.readErr, hh])
    have HRB := Lib.hid (by have := HRB.out; rw [hh, if_neg (by decide)] at this; exact this)
    clear hh
    go_enter Try.func81, Try.ntmps81
    go_upto_region 1 with fail
    rw [← HW0.out]
    clear HW0
    obtain ⟨⟨x0, x1, x2, x3, x4⟩, _⟩ := blk5 (BX.out W0 (Below.refl _ _)).1
    go_wp2_with fail
    refine HRB.out.mono ?_
    rintro e v1 ⟨rfl, b1⟩
    have B1 := Lib.hid b1
    obtain ⟨n0, n1, n2⟩ := BX.out v1 b1
    clear b1 x0 x1 x2 x3 x4
    obtain ⟨⟨x0, x1, x2, x3, x4⟩, _⟩ := blk5 n0
    obtain ⟨⟨p0, p1, p2, p3, p4⟩, f0, f1, f2, f3, f4⟩ := blk5 n1
    obtain ⟨⟨q0, q1, q2, q3⟩, g0, g1, g2, g3⟩ := blk4 n2
    have NS := Lib.hid (nine_set n1 n2 (.slice A D.logs.length c) (.int .i64 (D.acts : Int)) (.bool D.down) (.int .i64 D.armed) (.slice B D.keep.length d) (.int .i64 0) (.slice none 0 0) (.int .i64 0) (.bool false))
    clear n0 n1 n2
    go_wp2_with fail
    try simp only [Exit.inBlock, Exit.then]
    obtain ⟨e1, e2, u9⟩ := NS.out
    refine bodyPost_ret (results_rw rfl rfl rfl e1 e2) rfl ?_
    have hz := SZ.out
    have bl := (B0.out.trans (B1.out.mono B0.out.size)).trans (u9.below (Nat.le_trans B0.out.size B1.out.size) (fun i hi e => by omega))
    rw [HED.out.1, HED.out.2]
    exact ⟨A, c, B, d, ⟨HA.out.below bl, HB.out.below bl, fun ad e => .inl e, fun ad e => .inl e, bl⟩, fun _ => rfl, fun h => absurd h (by decide)⟩
  | true =>
  have HRB := Lib.hid (by have := HRB.out; rw [hh, if_pos rfl] at this; exact this)
  cases hd : D.down with
  | true =>
    have HED := Lib.hid (show openErrD D lg = 71 ∧ openD D lg = D by simp [openErrD, openD, DS.readErr, hh, hd])
    have HDN := Lib.hid hd
    rw [← hd]
    clear hh hd
    go_enter Try.func81, Try.ntmps81
    go_upto_region 1 with fail
    rw [← HW0.out]
    clear HW0
    obtain ⟨⟨x0, x1, x2, x3, x4⟩, _⟩ := blk5 (BX.out W0 (Below.refl _ _)).1
    go_wp2_with fail
    refine HRB.out.mono ?_
    rintro e v1 ⟨rfl, b1⟩
    have B1 := Lib.hid b1
    obtain ⟨n0, n1, n2⟩ := BX.out v1 b1
    have hcell : v1.cell? ⟨w.heap.size, 2, none⟩ = some (.bool true) := by have := n0.cell 2 (.bool D.down) rfl; rw [HDN.out] at this; exact this
    clear b1 x0 x1 x2 x3 x4
    have x2 := hcell
    clear hcell
    go_upto_region 5 with fail
    clear x2
    obtain ⟨⟨x0, x1, x2, x3, x4⟩, _⟩ := blk5 n0
    obtain ⟨⟨p0, p1, p2, p3, p4⟩, f0, f1, f2, f3, f4⟩ := blk5 n1
    obtain ⟨⟨q0, q1, q2, q3⟩, g0, g1, g2, g3⟩ := blk4 n2
    have NS := Lib.hid (nine_set n1 n2 (.slice A D.logs.length c) (.int .i64 (D.acts : Int)) (.bool D.down) (.int .i64 D.armed) (.slice B D.keep.length d) (.int .i64 0) (.slice none 0 0) (.int .i64 0) (.bool false))
    clear n0 n1 n2
    go_wp2_with fail
    try simp only [Exit.inBlock, Exit.then]
    obtain ⟨e1, e2, u9⟩ := NS.out
    refine bodyPost_ret (results_rw rfl rfl rfl e1 e2) rfl ?_
    have hz := SZ.out
    have bl := (B0.out.trans (B1.out.mono B0.out.size)).trans (u9.below (Nat.le_trans B0.out.size B1.out.size) (fun i hi e => by omega))
    rw [HED.out.1, HED.out.2]
    exact ⟨A, c, B, d, ⟨HA.out.below bl, HB.out.below bl, fun ad e => .inl e, fun ad e => .inl e, bl⟩, fun _ => rfl, fun h => absurd h (by decide)⟩
  | false =>
  rw [← hd]
  obtain ⟨i, rfl, hi⟩ := DS.has_iff.1 hh
  obtain ⟨b, hb⟩ : ∃ b, b = (D.log (i : Int)).1 := ⟨_, rfl⟩
  obtain ⟨q, hq⟩ : ∃ q, q = (D.log (i : Int)).2 := ⟨_, rfl⟩
  have hlg : D.log (i : Int) = D.logs[i] := DS.log_at hi
  have hsn := (HH.out.2.2.1 i hi).2
  rw [← hlg, ← hb, ← hq] at hsn
  have hre : D.readErr (i : Int) = 0 := by simp [DS.readErr, hh, hd]
  have hsu : D.sure (i : Int) = q := by rw [hq]; simp [DS.sure, hh]
  have hED : openErrD D (i : Int) = (if (scanOf b).2 < b.length then D.actErr (i : Int) ((scanOf b).2 : Int) else if q < (scanOf b).2 then D.actErr (i : Int) 0 else 0) ∧
      openD D (i : Int) = (if (scanOf b).2 < b.length then D.swap (i : Int) (b.take (scanOf b).2) else if q < (scanOf b).2 then D.sync (i : Int) else D) := by
    unfold openErrD openD
    constructor
    · rw [hre, if_neg (by decide), hsu, ← hb]
    · rw [hre, if_neg (by decide), hsu, ← hb]
  have hle := (scanOf_le b.length b (Nat.le_refl _)).1
  rw [← hb] at HRB hlog
  have hcq : ∀ W, Cells W A (lgs D.logs) → ∃ ad, A = some ad ∧ W.cell? ⟨(ad.add (i * 2)).block, (ad.add (i * 2)).off + 1, none⟩ = some (.string (str (b.drop q))) := fun W h => by
    obtain ⟨ad, e, hc⟩ := h.get (i * 2 + 1) (.string (str (b.drop q))) (by rw [hb, hq, hlg]; exact (lgs_get _ i hi).2)
    exact ⟨ad, e, by rw [add_next] at hc; exact hc⟩
  have HCQ := Lib.hid hcq
  obtain ⟨n, hn⟩ : ∃ n, n = (scanOf b).2 := ⟨_, rfl⟩
  obtain ⟨ls, hls⟩ : ∃ ls, ls = (scanOf b).1 := ⟨_, rfl⟩
  have HSC := Lib.hid (by have := fun W => rscan_calls b W (by omega); rw [← hn, ← hls] at this; exact this)
  have HFI := Lib.hid (show ∀ e W, ROpen w A B D (openD D (i : Int)) (i : Int) (openErrD D (i : Int)) e W ↔ ∃ A' c' B' d', ROut w A B (openD D (i : Int)) A' B' W ∧
    (openErrD D (i : Int) ≠ 0 → e = .returned (.tuple #[rdVal2 (openD D (i : Int)) A' c' B' d', .agg #[.int .i64 0, .slice none 0 0, .int .i64 0, .bool false], .int .i64 (openErrD D (i : Int))])) ∧
    (openErrD D (i : Int) = 0 → ∃ L lc, e = .returned (.tuple #[rdVal2 (openD D (i : Int)) A' c' B' d', .agg #[.int .i64 (i : Int), .slice L ls.length lc, .int .i64 (ls.length : Int), .bool false], .int .i64 0]) ∧ Cells W L (strs ls) ∧ (∀ ad, L = some ad → w.heap.size ≤ ad.block)) from fun e W => by
      unfold ROpen
      rw [← hb, ← hls])
  rw [← hn] at hED hle
  have HED0 := Lib.hid hED
  clear hED
  have HDN := Lib.hid hd
  have HI := Lib.hid hi
  have hz0 : ¬ D.logs.length ≤ i := by omega
  have hz1 : ¬ (i : Int) < 0 := by omega
  have hl16 := HH.out.1
  clear hh hd hb hq hlg hre hsu hcq hn hls hi
  go_enter Try.func81, Try.ntmps81
  go_upto_region 1 with fail
  rw [← HW0.out]
  clear HW0
  obtain ⟨⟨x0, x1, x2, x3, x4⟩, _⟩ := blk5 (BX.out W0 (Below.refl _ _)).1
  go_wp2_with fail
  refine HRB.out.mono ?_
  rintro e v1 ⟨rfl, b1⟩
  have B1 := Lib.hid b1
  clear b1 x0 x1 x2 x3 x4 HRB
  obtain ⟨⟨x0, x1, x2, x3, x4⟩, _⟩ := blk5 (BX.out v1 B1.out).1
  rw [HDN.out] at x2
  go_wp2_with fail
  refine (HSC.out v1).mono ?_
  rintro e v2 ⟨v, rfl, r2, b2⟩
  obtain ⟨L, lc, rfl, _, _, hL, oL⟩ := r2.cells1
  have HL := Lib.hid hL
  have OL := Lib.hid oL
  have B2 := Lib.hid (B1.out.trans (b2.mono B1.out.size))
  have HZ1 := Lib.hid (show w.heap.size + 3 ≤ v1.heap.size by have := SZ.out; have := B1.out.size; omega)
  clear b2 x0 x1 x2 x3 x4 r2 hL oL HSC
  have ACT := Lib.hid (fun (kd : Nat) (s : List UInt8) (hs : s.length ≤ 1000000) (hkd : kd = 0 ∨ kd = 1 ∧ s = [] ∨ kd = 2) (W : World) (hb : Below v2.heap.size v2 W) => ract_calls A B c d D kd (i : Int) s W HH.out.1 HH.out.2.1 HH.out.2.2.1 hs (HA.out.below (B0.out.trans ((B2.out.trans (hb.mono B2.out.size)).mono B0.out.size))) (HB.out.below (B0.out.trans ((B2.out.trans (hb.mono B2.out.size)).mono B0.out.size))) hkd HH.out.2.2.2.1 HH.out.2.2.2.2.1 HH.out.2.2.2.2.2)
  obtain ⟨⟨x0, x1, x2, x3, x4⟩, _⟩ := blk5 (BX.out v2 B2.out).1
  have BW2 := Lib.hid (B0.out.trans (B2.out.mono B0.out.size))
  have FIN := Lib.hid (show ∀ (D' : DS) (E : Int) (A' B' : Option Addr) (v4 W : World) (V : World), openErrD D (i : Int) = E → openD D (i : Int) = D' → D'.logs.length = D.logs.length → D'.keep = D.keep → Below v2.heap.size v2 V → ROut V A B D' A' B' v4 → Upd (fun k => w.heap.size ≤ k ∧ k < w.heap.size + 3) v4 W → ROut w A B D' A' B' W ∧ Cells W L (strs ls) ∧ (∀ ad, L = some ad → w.heap.size ≤ ad.block) from fun D' E A' B' v4 W V h1 h2 h3 h4 h5 h6 h7 => by
    have hz := HZ1.out
    have hb := BW2.out.trans (h5.mono BW2.out.size)
    have hsz := B2.out.size
    have hz2 := SZ.out
    refine ⟨h6.box HA.out HB.out h3 h4 hb h7 (fun k hk => ⟨hk.1, by have := h5.size; omega⟩), ?_, fun ad e => by have := (OL.out ad e).1; omega⟩
    exact ((HL.out.below h5).below h6.below).upd h7 (fun ad e _ hk => by have := (OL.out ad e).1; omega))
  by_cases c1 : n < b.length
  · have hnl : ((b.take n).length : Int) = (n : Int) := by simp; omega
    have HA2 := Lib.hid (show ∀ W, Below v2.heap.size v2 W → Calls Try.prog 75 #[.agg #[.slice A D.logs.length c, .int .i64 (D.acts : Int), .bool D.down, .int .i64 D.armed, .slice B D.keep.length d], .int .i64 2, .int .i64 (i : Int), .string (str (b.take n))] W (RActed W A B (D.swap (i : Int) (b.take n)) (D.actErr (i : Int) (n : Int))) from fun W hb => by
      have := ACT.out 2 (b.take n) (by omega) (.inr (.inr rfl)) W hb
      rw [← hnl]
      exact this)
    have hlen := act_len D (i : Int) ((b.take n).length : Int) (fun l => (b.take n, (b.take n).length))
    have hkeep := act_keep D (i : Int) ((b.take n).length : Int) (fun l => (b.take n, (b.take n).length))
    obtain ⟨D', hD'⟩ : ∃ D', D' = D.swap (i : Int) (b.take n) := ⟨_, rfl⟩
    obtain ⟨E, hE⟩ : ∃ E, E = D.actErr (i : Int) (n : Int) := ⟨_, rfl⟩
    rw [← hD', ← hE] at HA2
    have HED := Lib.hid (show openErrD D (i : Int) = E ∧ openD D (i : Int) = D' by rw [HED0.out.1, HED0.out.2, if_pos c1, if_pos c1, hE, hD']; exact ⟨rfl, rfl⟩)
    have HLK := Lib.hid (show D'.logs.length = D.logs.length ∧ D'.keep = D.keep by rw [hD']; exact ⟨hlen, hkeep⟩)
    have hse : (str b).extract 0 n = str (b.take n) := by rw [str_extract]; simp
    have hsz : (str b).size = b.length := str_size b
    have c1i : (n : Int) < (b.length : Int) := by omega
    have hzz : (0 : Int) ≤ (n : Int) := by omega
    have hle2 : (n : Int) ≤ (b.length : Int) := by omega
    clear hD' hE hlen hkeep HED0 HCQ ACT hnl
    go_upto_region 9 with fail
    have hbr : Below v2.heap.size v2 v2.drew := bdrew (Below.refl _ _)
    go_region_with (first
      | (go_at_call 75; (with_reducible refine Calls.mono (HA2.out _ hbr) ?_); rintro e v4 ⟨A', c', B', d', rfl, ha, hb2, oa, ob, b4⟩; have RO := Lib.hid (show ROut v2.drew A B D' A' B' v4 from ⟨ha, hb2, oa, ob, b4⟩); have n0 := (BX.out v4 (B2.out.trans ((hbr.trans b4).mono B2.out.size))).1; have B4 := Lib.hid (hbr.trans b4); have HBR := Lib.hid hbr; obtain ⟨⟨x0, x1, x2, x3, x4⟩, f0, f1, f2, f3, f4⟩ := blk5 n0))
    all_goals
      clear HA2 hbr ha hb2 oa ob b4 x0 x1 x2 x3 x4 f0 f1 f2 f3 f4
      have N0 := Lib.hid n0
      have BB := Lib.hid (BX.out v4 (B2.out.trans (B4.out.mono B2.out.size)))
      obtain ⟨h0, u0⟩ := five_sets n0 (.slice A' D'.logs.length c') (.int .i64 (D'.acts : Int)) (.bool D'.down) (.int .i64 D'.armed) (.slice B' D'.keep.length d')
      clear n0
      generalize (((((v4.setCell ⟨w.heap.size, 0, none⟩ (.slice A' D'.logs.length c')).setCell ⟨w.heap.size, 1, none⟩ (.int .i64 (D'.acts : Int))).setCell ⟨w.heap.size, 2, none⟩ (.bool D'.down)).setCell ⟨w.heap.size, 3, none⟩ (.int .i64 D'.armed)).setCell ⟨w.heap.size, 4, none⟩ (.slice B' D'.keep.length d')) = v5 at h0 u0 ⊢
      have n0 := h0
      have n1 := BB.out.2.1.upd u0 (by omega)
      have n2 := BB.out.2.2.upd u0 (by omega)
      have U0 := Lib.hid u0
      clear N0 BB h0 u0
      by_cases he : E = 0
      · subst he
        go_upto_region 14 with fail
        obtain ⟨⟨x0, x1, x2, x3, x4⟩, _⟩ := blk5 n0
        obtain ⟨⟨p0, p1, p2, p3, p4⟩, f0, f1, f2, f3, f4⟩ := blk5 n1
        obtain ⟨⟨q0, q1, q2, q3⟩, g0, g1, g2, g3⟩ := blk4 n2
        have NS := Lib.hid (nine_set n1 n2 (.slice A' D'.logs.length c') (.int .i64 (D'.acts : Int)) (.bool D'.down) (.int .i64 D'.armed) (.slice B' D'.keep.length d') (.int .i64 (i : Int)) (.slice L ls.length lc) (.int .i64 (ls.length : Int)) (.bool false))
        clear n0 n1 n2
        go_wp2_with fail
        try simp only [Exit.inBlock, Exit.then]
        obtain ⟨e1, e2, u9⟩ := NS.out
        refine bodyPost_ret (results_rw rfl rfl rfl e1 e2) rfl ?_
        obtain ⟨r1, r2, r3⟩ := FIN.out _ _ _ _ _ _ _ HED.out.1 HED.out.2 HLK.out.1 HLK.out.2 HBR.out RO.out ((U0.out.mono (fun k _ h => by have h2 : k = w.heap.size := h; omega)).trans u9 (fun k _ h => by omega))
        rw [HFI.out, HED.out.1, HED.out.2]
        exact ⟨A', c', B', d', r1, fun h => absurd rfl h, fun _ => ⟨L, lc, rfl, r2, r3⟩⟩
      · have hbe : (E != 0) = true := by simpa using he
        have HE := Lib.hid he
        clear he
        go_upto_region 13 with fail
        obtain ⟨⟨x0, x1, x2, x3, x4⟩, _⟩ := blk5 n0
        obtain ⟨⟨p0, p1, p2, p3, p4⟩, f0, f1, f2, f3, f4⟩ := blk5 n1
        obtain ⟨⟨q0, q1, q2, q3⟩, g0, g1, g2, g3⟩ := blk4 n2
        have NS := Lib.hid (nine_set n1 n2 (.slice A' D'.logs.length c') (.int .i64 (D'.acts : Int)) (.bool D'.down) (.int .i64 D'.armed) (.slice B' D'.keep.length d') (.int .i64 0) (.slice none 0 0) (.int .i64 0) (.bool false))
        clear n0 n1 n2
        go_wp2_with fail
        try simp only [Exit.inBlock, Exit.then]
        obtain ⟨e1, e2, u9⟩ := NS.out
        refine bodyPost_ret (results_rw rfl rfl rfl e1 e2) rfl ?_
        obtain ⟨r1, r2, r3⟩ := FIN.out _ _ _ _ _ _ _ HED.out.1 HED.out.2 HLK.out.1 HLK.out.2 HBR.out RO.out ((U0.out.mono (fun k _ h => by have h2 : k = w.heap.size := h; omega)).trans u9 (fun k _ h => by omega))
        rw [HFI.out, HED.out.1, HED.out.2]
        exact ⟨A', c', B', d', r1, fun _ => rfl, fun h => absurd h HE.out⟩
  · obtain rfl : n = b.length := by omega
    clear c1
    obtain ⟨ad, rfl, hcell⟩ := HCQ.out v2 (HA.out.below BW2.out)
    have hsz : (str b).size = b.length := str_size b
    have hsz2 : (str (b.drop q)).size = b.length - q := by rw [str_size]; simp
    have hq3 := hsn
    clear hsn hle
    by_cases c2 : q < b.length
    · have HA2 := Lib.hid (show ∀ W, Below v2.heap.size v2 W → Calls Try.prog 75 #[.agg #[.slice (some ad) D.logs.length c, .int .i64 (D.acts : Int), .bool D.down, .int .i64 D.armed, .slice B D.keep.length d], .int .i64 1, .int .i64 (i : Int), .string (str [])] W (RActed W (some ad) B (D.sync (i : Int)) (D.actErr (i : Int) 0)) from fun W hb => ACT.out 1 [] (by simp) (.inr (.inl ⟨rfl, rfl⟩)) W hb)
      have hlen := act_len D (i : Int) 0 (fun l => (l.1, l.1.length))
      have hkeep := act_keep D (i : Int) 0 (fun l => (l.1, l.1.length))
      obtain ⟨D', hD'⟩ : ∃ D', D' = D.sync (i : Int) := ⟨_, rfl⟩
      obtain ⟨E, hE⟩ : ∃ E, E = D.actErr (i : Int) 0 := ⟨_, rfl⟩
      rw [← hD', ← hE] at HA2
      have HED := Lib.hid (show openErrD D (i : Int) = E ∧ openD D (i : Int) = D' by rw [HED0.out.1, HED0.out.2, if_neg (Nat.lt_irrefl _), if_neg (Nat.lt_irrefl _), if_pos c2, if_pos c2, hE, hD']; exact ⟨rfl, rfl⟩)
      have HLK := Lib.hid (show D'.logs.length = D.logs.length ∧ D'.keep = D.keep by rw [hD']; exact ⟨hlen, hkeep⟩)
      have hq0 : (0 : Int) < ((b.length - q : Nat) : Int) := by omega
      have hq1 : 0 < b.length - q := by omega
      have hq2 : ¬ b.length ≤ q := by omega
      clear hD' hE hlen hkeep HED0 HCQ ACT
      go_wp2_with fail
      refine (HA2.out v2 (Below.refl _ _)).mono ?_
      rintro e v4 ⟨A', c', B', d', rfl, ha, hb2, oa, ob, b4⟩
      have RO := Lib.hid (show ROut v2 (some ad) B D' A' B' v4 from ⟨ha, hb2, oa, ob, b4⟩)
      have n0 := (BX.out v4 (B2.out.trans (b4.mono B2.out.size))).1
      have B4 := Lib.hid b4
      have HBR := Lib.hid (Below.refl v2.heap.size v2)
      clear x0 x1 x2 x3 x4
      obtain ⟨⟨x0, x1, x2, x3, x4⟩, f0, f1, f2, f3, f4⟩ := blk5 n0
      go_upto_region 12 with fail
      clear HA2 ha hb2 oa ob b4 x0 x1 x2 x3 x4 f0 f1 f2 f3 f4 hq0 hq1 hq2
      have N0 := Lib.hid n0
      have BB := Lib.hid (BX.out v4 (B2.out.trans (B4.out.mono B2.out.size)))
      obtain ⟨h0, u0⟩ := five_sets n0 (.slice A' D'.logs.length c') (.int .i64 (D'.acts : Int)) (.bool D'.down) (.int .i64 D'.armed) (.slice B' D'.keep.length d')
      clear n0
      generalize (((((v4.setCell ⟨w.heap.size, 0, none⟩ (.slice A' D'.logs.length c')).setCell ⟨w.heap.size, 1, none⟩ (.int .i64 (D'.acts : Int))).setCell ⟨w.heap.size, 2, none⟩ (.bool D'.down)).setCell ⟨w.heap.size, 3, none⟩ (.int .i64 D'.armed)).setCell ⟨w.heap.size, 4, none⟩ (.slice B' D'.keep.length d')) = v5 at h0 u0 ⊢
      have n0 := h0
      have n1 := BB.out.2.1.upd u0 (by omega)
      have n2 := BB.out.2.2.upd u0 (by omega)
      have U0 := Lib.hid u0
      clear N0 BB h0 u0
      by_cases he : E = 0
      · subst he
        go_upto_region 14 with fail
        obtain ⟨⟨x0, x1, x2, x3, x4⟩, _⟩ := blk5 n0
        obtain ⟨⟨p0, p1, p2, p3, p4⟩, f0, f1, f2, f3, f4⟩ := blk5 n1
        obtain ⟨⟨q0, q1, q2, q3⟩, g0, g1, g2, g3⟩ := blk4 n2
        have NS := Lib.hid (nine_set n1 n2 (.slice A' D'.logs.length c') (.int .i64 (D'.acts : Int)) (.bool D'.down) (.int .i64 D'.armed) (.slice B' D'.keep.length d') (.int .i64 (i : Int)) (.slice L ls.length lc) (.int .i64 (ls.length : Int)) (.bool false))
        clear n0 n1 n2
        go_wp2_with fail
        try simp only [Exit.inBlock, Exit.then]
        obtain ⟨e1, e2, u9⟩ := NS.out
        refine bodyPost_ret (results_rw rfl rfl rfl e1 e2) rfl ?_
        obtain ⟨r1, r2, r3⟩ := FIN.out _ _ _ _ _ _ _ HED.out.1 HED.out.2 HLK.out.1 HLK.out.2 HBR.out RO.out ((U0.out.mono (fun k _ h => by have h2 : k = w.heap.size := h; omega)).trans u9 (fun k _ h => by omega))
        rw [HFI.out, HED.out.1, HED.out.2]
        exact ⟨A', c', B', d', r1, fun h => absurd rfl h, fun _ => ⟨L, lc, rfl, r2, r3⟩⟩
      · have hbe : (E != 0) = true := by simpa using he
        have HE := Lib.hid he
        clear he
        go_upto_region 13 with fail
        obtain ⟨⟨x0, x1, x2, x3, x4⟩, _⟩ := blk5 n0
        obtain ⟨⟨p0, p1, p2, p3, p4⟩, f0, f1, f2, f3, f4⟩ := blk5 n1
        obtain ⟨⟨q0, q1, q2, q3⟩, g0, g1, g2, g3⟩ := blk4 n2
        have NS := Lib.hid (nine_set n1 n2 (.slice A' D'.logs.length c') (.int .i64 (D'.acts : Int)) (.bool D'.down) (.int .i64 D'.armed) (.slice B' D'.keep.length d') (.int .i64 0) (.slice none 0 0) (.int .i64 0) (.bool false))
        clear n0 n1 n2
        go_wp2_with fail
        try simp only [Exit.inBlock, Exit.then]
        obtain ⟨e1, e2, u9⟩ := NS.out
        refine bodyPost_ret (results_rw rfl rfl rfl e1 e2) rfl ?_
        obtain ⟨r1, r2, r3⟩ := FIN.out _ _ _ _ _ _ _ HED.out.1 HED.out.2 HLK.out.1 HLK.out.2 HBR.out RO.out ((U0.out.mono (fun k _ h => by have h2 : k = w.heap.size := h; omega)).trans u9 (fun k _ h => by omega))
        rw [HFI.out, HED.out.1, HED.out.2]
        exact ⟨A', c', B', d', r1, fun _ => rfl, fun h => absurd h HE.out⟩
    · have HED := Lib.hid (show openErrD D (i : Int) = 0 ∧ openD D (i : Int) = D by rw [HED0.out.1, HED0.out.2, if_neg (Nat.lt_irrefl _), if_neg (Nat.lt_irrefl _), if_neg c2, if_neg c2]; exact ⟨rfl, rfl⟩)
      have hq4 : b.length - q = 0 := by omega
      have RO := Lib.hid (show ROut v2 (some ad) B D (some ad) B v2 from ⟨HA.out.below BW2.out, HB.out.below BW2.out, fun ad e => .inl e, fun ad e => .inl e, Below.refl _ _⟩)
      obtain ⟨n0, n1, n2⟩ := BX.out v2 B2.out
      clear HED0 HCQ ACT
      go_upto_region 14 with fail
      clear x0 x1 x2 x3 x4 hcell hsz hsz2
      obtain ⟨⟨x0, x1, x2, x3, x4⟩, _⟩ := blk5 n0
      obtain ⟨⟨p0, p1, p2, p3, p4⟩, f0, f1, f2, f3, f4⟩ := blk5 n1
      obtain ⟨⟨q0, q1, q2, q3⟩, g0, g1, g2, g3⟩ := blk4 n2
      have NS := Lib.hid (nine_set n1 n2 (.slice (some ad) D.logs.length c) (.int .i64 (D.acts : Int)) (.bool D.down) (.int .i64 D.armed) (.slice B D.keep.length d) (.int .i64 (i : Int)) (.slice L ls.length lc) (.int .i64 (ls.length : Int)) (.bool false))
      clear n0 n1 n2
      go_wp2_with fail
      try simp only [Exit.inBlock, Exit.then]
      obtain ⟨e1, e2, u9⟩ := NS.out
      refine bodyPost_ret (results_rw rfl rfl rfl e1 e2) rfl ?_
      obtain ⟨r1, r2, r3⟩ := FIN.out _ _ _ _ _ _ _ HED.out.1 HED.out.2 rfl rfl (Below.refl _ _) RO.out (u9.mono (fun k _ h => by omega))
      rw [HFI.out, HED.out.1, HED.out.2]
      exact ⟨some ad, c, B, d, r1, fun h => absurd rfl h, fun _ => ⟨L, lc, rfl, r2, r3⟩⟩

/- WalPlays: fresh, has, and both opened. -/
theorem and_1023 (z : Int) : ∃ a : Nat, bits .and .i64 z 1023 = (a : Int) ∧ a ≤ 1023 := by
  refine ⟨(BitVec.ofInt 64 z &&& BitVec.ofInt 64 1023).toNat, ?_, ?_⟩
  · have h : (BitVec.ofInt 64 z &&& BitVec.ofInt 64 1023).toNat ≤ 1023 := by
      rw [BitVec.toNat_and]; exact Nat.le_trans Nat.and_le_right (by decide)
    show IntKind.i64.wrap ((BitVec.ofInt 64 z &&& BitVec.ofInt 64 1023).toNat : Int) = _
    generalize (BitVec.ofInt 64 z &&& BitVec.ofInt 64 1023).toNat = m at h
    rw [IntKind.wrap_i64]; omega
  · rw [BitVec.toNat_and]; exact Nat.le_trans Nat.and_le_right (by decide)
/-- How much of the text a load has. -/
def frLen (s : List UInt8) (z : Int) : Nat := (bits .and .i64 z 1023).toNat % (s.length + 1)
/-- An act's loads. -/
def freshOf (s : List UInt8) (ks : List Int) : List (List UInt8) := ks.map fun z => s.take (frLen s z)
theorem freshOf_len (s : List UInt8) (ks : List Int) : (freshOf s ks).length = ks.length := by simp [freshOf]
theorem freshOf_le {s : List UInt8} {ks : List Int} {n : Nat} (h : s.length ≤ n) : ∀ l ∈ freshOf s ks, l.length ≤ n := by
  intro l hl
  simp only [freshOf, List.mem_map] at hl
  obtain ⟨z, _, rfl⟩ := hl
  simp; omega

set_option maxHeartbeats 4000000 in
set_option maxRecDepth 100000 in
theorem lfresh_calls (kd n : Int) (s : List UInt8) (K : Option Addr) (m c : Nat) (ks : List Int) (w : World) (hm : m = ks.length) (hK : Cells w K (ints ks)) (hs : s.length ≤ 1000) (hks : ks.length ≤ 10) :
    Calls Try.prog 83 #[.agg #[.int .i64 kd, .int .i64 n, .string (str s), .slice K m c]] w fun e w' => ∃ A' c', e = .returned (.slice A' (freshOf s ks).length c') ∧ Cells w' A' (strs (freshOf s ks)) ∧ (∀ ad, A' = some ad → w.heap.size ≤ ad.block) ∧ Below w.heap.size w w' := by
  subst hm
  have b0 := below_one w (.cells #[.int .i64 kd, .int .i64 n, .string (str s), .slice K ks.length c] 92)
  have n0 := Blk.new w 92 #[.int .i64 kd, .int .i64 n, .string (str s), .slice K ks.length c]
  have HK := Lib.hid (hK.below b0)
  obtain ⟨W0, hW0⟩ : ∃ W0, W0 = w.alloc (.cells #[.int .i64 kd, .int .i64 n, .string (str s), .slice K ks.length c] 92) := ⟨_, rfl⟩
  rw [← hW0] at b0 n0 HK
  have HW0 := Lib.hid hW0
  have B0 := Lib.hid b0
  have N0 := Lib.hid n0
  clear hK hW0 b0 n0
  go_enter Try.func83, Try.ntmps83
  go_upto_region 1 with fail
  rw [← HW0.out]
  go_wp2
  go_loopw [3, 4] (fun v i wr => ∃ k : Nat, k ≤ ks.length ∧ i = .int .i64 k ∧ Row wr W0.heap.size 9 1 v k (strs (freshOf s (ks.take k))) ∧ Below W0.heap.size W0 wr) (fun _ i _ => ks.length - (intOf i).toNat)
  case atStart => exact ⟨0, Nat.zero_le _, rfl, row_new W0 _ 9 1 (Nat.le_refl _), below_one _ _⟩
  case round =>
    obtain ⟨k, hk, rfl, hr, hb⟩ := hrel
    obtain ⟨⟨x0, x1, x2, x3⟩, _⟩ := blk4 (N0.out.below hb)
    by_cases hlt : k < ks.length
    · obtain ⟨ad, rfl, hcell⟩ := (HK.out.below hb).get k _ (ints_get ks k hlt)
      obtain ⟨z, hz⟩ : ∃ z, z = ks[k] := ⟨_, rfl⟩
      rw [← hz] at hcell
      obtain ⟨a, ha, hab⟩ := and_1023 z
      obtain ⟨h, hh⟩ : ∃ h, h = a % (s.length + 1) := ⟨_, rfl⟩
      have hfl : frLen s z = h := by unfold frLen; rw [ha, hh]; rfl
      have hle : h ≤ s.length := by have := Nat.mod_lt a (show 0 < s.length + 1 by omega); omega
      have htm : (a : Int).tmod ((s.length : Int) + 1) = (h : Int) := by
        rw [hh, Int.tmod_eq_emod_of_nonneg (by omega)]; push_cast; rfl
      have hst : strs (freshOf s (ks.take (k + 1))) = strs (freshOf s (ks.take k)) ++ [.string (str (s.take h))] := by
        rw [List.take_succ_eq_append_getElem hlt, ← hz]
        simp [freshOf, strs, hfl]
      have hne : ¬ ((s.length : Int) + 1 = 0) := by omega
      have hle2 : (h : Int) ≤ (s.length : Int) := by omega
      have hle0 : (0 : Int) ≤ (h : Int) := by omega
      have hse : (str s).extract 0 h = str (s.take h) := by rw [str_extract]; simp
      have hadd : IntKind.i64.wrap ((s.length : Int) + 1) = (s.length : Int) + 1 := by rw [IntKind.wrap_i64]; omega
      have HR := Lib.hid hr
      have HB := Lib.hid hb
      have HST := Lib.hid hst
      have hsz : (str s).size = s.length := str_size s
      have hbo : Below wr.heap.size wr (wr.alloc (.cells #[.string (str (s.take h))] 9)).drew := bdrew (below_one _ _)
      have HRA := Lib.hid (hr.below hbo)
      have HCA := Lib.hid (show Cells (wr.alloc (.cells #[.string (str (s.take h))] 9)).drew (some ⟨wr.heap.size, 0, none⟩) [.string (str (s.take h))] from
        ⟨fun j v hj => ⟨_, rfl, by
          have hj0 : j = 0 := by have := (List.getElem?_eq_some_iff.1 hj).1; simp at this; omega
          subst hj0
          simp at hj; subst hj
          exact ((Blk.new wr 9 #[.string (str (s.take h))]).below (bdrew (Below.refl _ _))).cell 0 _ rfl⟩, by simp⟩)
      have HBO := Lib.hid (hb.trans (hbo.mono hb.size))
      have hcz := fun W (h : Below W0.heap.size W0 W) => (HK.out.below h).get k _ (ints_get ks k hlt)
      have FK := Lib.hid (show ∀ W, Below W0.heap.size W0 W → W.cell? ⟨w.heap.size, 2, none⟩ = some (.string (str s)) ∧ W.cell? ⟨w.heap.size, 3, none⟩ = some (.slice (some ad) ks.length c) ∧ W.cell? (ad.add k) = some (.int .i64 z) from fun W h => by
        obtain ⟨ad', e, hc⟩ := hcz W h
        cases e
        rw [← hz] at hc
        exact ⟨(N0.out.below h).cell 2 _ rfl, (N0.out.below h).cell 3 _ rfl, hc⟩)
      clear hr hb hz hst hh hfl hbo hab hcz
      go_upto_region 5 with fail
      go_region_held3 (fun W => W.cell? ⟨w.heap.size, 2, none⟩ = some (.string (str s)) ∧ W.cell? ⟨w.heap.size, 3, none⟩ = some (.slice (some ad) ks.length c) ∧ W.cell? (ad.add k) = some (.int .i64 z)) (go_keep)
        (first
          | (refine step_append_row (w := (wr.alloc (.cells #[.string (str (s.take h))] 9)).drew) rfl (.tmp 13) (.tmp 28) 42 rfl W0.heap.size 9 (.string ByteArray.empty) 1 16 Try.underlying42 Try.info9 rfl (by decide) u3 k (strs (freshOf s (ks.take k))) rfl HRA.out (some ⟨wr.heap.size, 0, none⟩) 1 1 [.string (str (s.take h))] rfl rfl HCA.out (by intro u hu; simp at hu; subst hu; rfl) (by simp only [maxLen]; omega) (by omega) HBO.out.size ?_; intro v9 w9 r9 g9 _; have b9 := HBO.out.grown g9 HBO.out.size (fun j hj => (HRA.out.lt j hj).1); obtain ⟨qa, qb, qc⟩ := FK.out w9 b9))
      have R9 := Lib.hid (show Row w9 W0.heap.size 9 1 v9 (k + 1) (strs (freshOf s (ks.take (k + 1)))) by rw [HST.out]; exact r9)
      have B9 := Lib.hid b9
      clear r9 g9 b9 qa qb qc HRA HCA HR HB HBO FK x0 x1 x2 x3 hcell
      go_wp2_with fail
      exact ⟨⟨k + 1, by omega, by go_num, R9.out, B9.out⟩, by simp [intOf]; omega⟩
    · obtain rfl : k = ks.length := by omega
      rw [List.take_length] at hr
      obtain ⟨A', c', rfl, _, _, h9, o9⟩ := hr.cells1
      have H9 := Lib.hid h9
      have O9 := Lib.hid o9
      have BF := Lib.hid (B0.out.trans (hb.mono B0.out.size))
      have BZ := Lib.hid B0.out.size
      clear hr hb h9 o9
      go_wp2
      go_ret
      exact ⟨A', c', by rw [freshOf_len]; rfl, H9.out, fun ad e => by have := (O9.out ad e).1; have := BZ.out; omega, BF.out⟩

set_option maxHeartbeats 4000000 in
set_option maxRecDepth 100000 in
/-- Has the log just these bytes? -/
theorem has_calls (g : Nat) (S : Nat → Prop) (D : DS) (w : World) (h : IsDisk w S g D) (hr : D.readErr 1 = 0) :
    Calls Try.prog 66 #[.pointer (some ⟨g, 0, none⟩), .string (str (D.log 1).1)] w fun e w' => e = .returned (.bool true) ∧ Below w.heap.size w w' := by
  have HR := Lib.hid (by have := dread_calls g S D 1 w h; rw [hr, if_pos rfl, if_pos rfl] at this; exact this)
  obtain ⟨b, hb⟩ : ∃ b, b = (D.log 1).1 := ⟨_, rfl⟩
  rw [← hb] at HR ⊢
  clear hb hr
  go_enter Try.func66, Try.ntmps66
  go_wp2_with fail
  refine HR.out.mono ?_
  rintro e w1 ⟨v, rfl, r1, b1⟩
  obtain ⟨A1, c1, rfl, _, _, h1, _⟩ := r1.cells1
  have kcv := run_string (P := Try.prog) (w := w1) 22 9 5 Try.underlying22 Try.underlying5 Try.underlying9 A1 c1 b h1
  have B1 := Lib.hid b1
  clear r1 b1 h1 HR
  go_wp2
  go_ret
  exact ⟨rfl, B1.out⟩

/- WalPlays: a wal and the reference's, and both opened. -/
def ptrOf (G : Option Nat) : Value := .pointer (G.map fun gw => ⟨gw, 0, none⟩)
/-- The cells of both. -/
def bCells (g : Nat) (G : Option Nat) (D : DS) (A : Option Addr) (c : Nat) (B : Option Addr) (d : Nat) (V : WS) (LA : Option Addr) (n lc : Nat) : Array Value :=
  #[.pointer (some ⟨g, 0, none⟩), ptrOf G, .slice A D.logs.length c, .int .i64 (D.acts : Int), .bool D.down, .int .i64 D.armed, .slice B D.keep.length d, .int .i64 V.log, .slice LA n lc, .int .i64 (V.sure : Int), .bool V.dead]
/-- What is not to be changed beside the reference's cells. -/
def Zone (S : Nat → Prop) (G : Option Nat) (bb : Nat) (i : Nat) : Prop := S i ∨ G = some i ∨ i = bb
/-- A wal and its disk, and the reference's. -/
structure WP (w0 w : World) (bb : Nat) (S : Nat → Prop) (G : Option Nat) (g : Nat) (D : DS) (V : WS) (ls : List (List UInt8)) (A : Option Addr) (c : Nat) (B : Option Addr) (d : Nat) (LA : Option Addr) (lc : Nat) : Prop where
  held : Held w0 w S g D
  la : Beside w (Zone S G bb) A (lgs D.logs)
  lb : Beside w (Zone S G bb) B (ints D.keep)
  ll : Beside w (Zone S G bb) LA (strs ls)
  box : Blk w bb 108 (bCells g G D A c B d V LA ls.length lc)
  bo : ¬ S bb ∧ w0.heap.size ≤ bb
  wal : ∀ gw, G = some gw → Blk w gw 139 (wCells g V) ∧ ¬ S gw ∧ w0.heap.size ≤ gw ∧ V.log = 1
  all : V.all = ls.length
section
variable {w0 w w1 w2 : World} {bb g : Nat} {S S' Z Z' T : Nat → Prop} {G G' : Option Nat} {D D' : DS} {V V' : WS} {ls ls' : List (List UInt8)} {A A' : Option Addr} {c c' : Nat} {B B' : Option Addr} {d d' : Nat} {LA LA' : Option Addr} {lc lc' : Nat} {cs cs' : List Value}
theorem WP.later (h : WP w0 w bb S G g D V ls A c B d LA lc) (hb : Below w.heap.size w w1) : WP w0 w1 bb S G g D V ls A c B d LA lc :=
  ⟨h.held.later hb, h.la.later hb, h.lb.later hb, h.ll.later hb, h.box.below hb, h.bo, fun gw e => ⟨(h.wal gw e).1.below hb, (h.wal gw e).2⟩, h.all⟩
theorem WP.hw {gw : Nat} (h : WP w0 w bb S (some gw) g D V ls A c B d LA lc) : HW w0 w S g gw D V := ⟨h.held, (h.wal gw rfl).1, (h.wal gw rfl).2.1, (h.wal gw rfl).2.2.1⟩
/-- Cells that are the old ones, or new. -/
theorem Beside.moved (h : Beside w Z A cs) (hc : Cells w2 A' cs') (oa : ∀ ad, A' = some ad → A = some ad ∨ w1.heap.size ≤ ad.block) (hne : cs' ≠ [] → cs ≠ []) (hZ : ∀ i, Z' i → i < w1.heap.size ∧ (Z i ∨ w.heap.size ≤ i)) : Beside w2 Z' A' cs' :=
  ⟨hc, fun ad e hn hz => by
    obtain ⟨h1, h2⟩ := hZ _ hz
    rcases oa ad e with h3 | h3
    · rcases h2 with h2 | h2
      · exact h.out ad h3 (hne hn) h2
      · have := h.cells.lt h3 (hne hn); omega
    · omega⟩
theorem Beside.fresh (hc : Cells w2 A' cs') (oa : ∀ ad, A' = some ad → w1.heap.size ≤ ad.block) (hZ : ∀ i, Z' i → i < w1.heap.size) : Beside w2 Z' A' cs' :=
  ⟨hc, fun ad e hn hz => by have := hZ _ hz; have := oa ad e; omega⟩
/-- The last store into both. -/
theorem WP.write (hd : Held w0 w S' g D') (la : Beside w (Zone S' G' bb) A' (lgs D'.logs)) (lb : Beside w (Zone S' G' bb) B' (ints D'.keep)) (ll : Beside w (Zone S' G' bb) LA' (strs ls')) (hx : Blk w1 bb 108 (bCells g G' D' A' c' B' d' V' LA' ls'.length lc')) (hu : Upd (fun i => i = bb) w w1)
    (bo : ¬ S' bb ∧ w0.heap.size ≤ bb) (wal : ∀ gw, G' = some gw → Blk w gw 139 (wCells g V') ∧ ¬ S' gw ∧ w0.heap.size ≤ gw ∧ V'.log = 1) (hbt : ∃ cs, Blk w bb 108 cs) (all : V'.all = ls'.length) : WP w0 w1 bb S' G' g D' V' ls' A' c' B' d' LA' lc' :=
  ⟨hd.upd hu (fun i e hs => bo.1 (e ▸ hs)) (fun i e => by rw [e]; exact bo.2), la.upd hu (fun ad e hn h => la.out ad e hn (.inr (.inr h))), lb.upd hu (fun ad e hn h => lb.out ad e hn (.inr (.inr h))), ll.upd hu (fun ad e hn h => ll.out ad e hn (.inr (.inr h))), hx, bo,
    fun gw e => ⟨(wal gw e).1.upd hu (fun e2 => by
      obtain ⟨cs, hcs⟩ := hbt
      exact (Typed.ne (wal gw e).1.typed hcs.typed (by decide)) e2), (wal gw e).2⟩, all⟩
end
theorem blk11 {W : World} {b : Nat} {T : TypeId} {y0 y1 y2 y3 y4 y5 y6 y7 y8 y9 y10 : Value} (h : Blk W b T #[y0, y1, y2, y3, y4, y5, y6, y7, y8, y9, y10]) :
    (W.cell? ⟨b, 0, none⟩ = some y0 ∧ W.cell? ⟨b, 1, none⟩ = some y1 ∧ W.cell? ⟨b, 2, none⟩ = some y2 ∧ W.cell? ⟨b, 3, none⟩ = some y3 ∧ W.cell? ⟨b, 4, none⟩ = some y4 ∧ W.cell? ⟨b, 5, none⟩ = some y5 ∧ W.cell? ⟨b, 6, none⟩ = some y6 ∧ W.cell? ⟨b, 7, none⟩ = some y7 ∧ W.cell? ⟨b, 8, none⟩ = some y8 ∧ W.cell? ⟨b, 9, none⟩ = some y9 ∧ W.cell? ⟨b, 10, none⟩ = some y10) ∧
    (W.frozen? ⟨b, 0, none⟩ = false ∧ W.frozen? ⟨b, 1, none⟩ = false ∧ W.frozen? ⟨b, 2, none⟩ = false ∧ W.frozen? ⟨b, 3, none⟩ = false ∧ W.frozen? ⟨b, 4, none⟩ = false ∧ W.frozen? ⟨b, 5, none⟩ = false ∧ W.frozen? ⟨b, 6, none⟩ = false ∧ W.frozen? ⟨b, 7, none⟩ = false ∧ W.frozen? ⟨b, 8, none⟩ = false ∧ W.frozen? ⟨b, 9, none⟩ = false ∧ W.frozen? ⟨b, 10, none⟩ = false) :=
  ⟨⟨h.cell 0 _ rfl, h.cell 1 _ rfl, h.cell 2 _ rfl, h.cell 3 _ rfl, h.cell 4 _ rfl, h.cell 5 _ rfl, h.cell 6 _ rfl, h.cell 7 _ rfl, h.cell 8 _ rfl, h.cell 9 _ rfl, h.cell 10 _ rfl⟩, h.free 0 none, h.free 1 none, h.free 2 none, h.free 3 none, h.free 4 none, h.free 5 none, h.free 6 none, h.free 7 none, h.free 8 none, h.free 9 none, h.free 10 none⟩
theorem ten_ret {W : World} {b : Nat} {y0 y1 y2 y3 y4 y5 y6 y7 y8 y9 y10 : Value} (h : Blk W b 108 #[y0, y1, y2, y3, y4, y5, y6, y7, y8, y9, y10]) (z1 z2 z3 z4 z5 z6 z7 z8 z9 z10 : Value) :
    Blk (((((((((((W.setCell ⟨b, 1, none⟩ z1).setCell ⟨b, 2, none⟩ z2).setCell ⟨b, 3, none⟩ z3).setCell ⟨b, 4, none⟩ z4).setCell ⟨b, 5, none⟩ z5).setCell ⟨b, 6, none⟩ z6).setCell ⟨b, 7, none⟩ z7).setCell ⟨b, 8, none⟩ z8).setCell ⟨b, 9, none⟩ z9).setCell ⟨b, 10, none⟩ z10).drew) b 108 #[y0, z1, z2, z3, z4, z5, z6, z7, z8, z9, z10] ∧ Upd (fun i => i = b) W (((((((((((W.setCell ⟨b, 1, none⟩ z1).setCell ⟨b, 2, none⟩ z2).setCell ⟨b, 3, none⟩ z3).setCell ⟨b, 4, none⟩ z4).setCell ⟨b, 5, none⟩ z5).setCell ⟨b, 6, none⟩ z6).setCell ⟨b, 7, none⟩ z7).setCell ⟨b, 8, none⟩ z8).setCell ⟨b, 9, none⟩ z9).setCell ⟨b, 10, none⟩ z10).drew) := by
  refine ⟨Blk.below ?_ (bdrew (Below.refl _ _)), ?_⟩
  · simpa using (((((((((h.set 1 z1).set 2 z2).set 3 z3).set 4 z4).set 5 z5).set 6 z6).set 7 z7).set 8 z8).set 9 z9).set 10 z10
  · exact (((((((((((Upd.refl (fun i => i = b) W).set ⟨b, 1, none⟩ z1 (fun _ => rfl)).set ⟨b, 2, none⟩ z2 (fun _ => rfl)).set ⟨b, 3, none⟩ z3 (fun _ => rfl)).set ⟨b, 4, none⟩ z4 (fun _ => rfl)).set ⟨b, 5, none⟩ z5 (fun _ => rfl)).set ⟨b, 6, none⟩ z6 (fun _ => rfl)).set ⟨b, 7, none⟩ z7 (fun _ => rfl)).set ⟨b, 8, none⟩ z8 (fun _ => rfl)).set ⟨b, 9, none⟩ z9 (fun _ => rfl)).set ⟨b, 10, none⟩ z10 (fun _ => rfl)).drewN 1
theorem open_boxes2 (w : World) (cs ws : Array Value) : ∃ W3, W3 = (w.alloc (.cells cs 70)).alloc (.cells ws 106) ∧ Below w.heap.size w W3 ∧ Blk W3 w.heap.size 70 cs ∧ Blk W3 (w.heap.size + 1) 106 ws := by
  refine ⟨_, rfl, ((Below.refl _ _).alloc (Nat.le_refl _) _).alloc (by simp) _, (Blk.new w 70 cs).below (below_one _ _), ?_⟩
  have := Blk.new (w.alloc (.cells cs 70)) 106 ws
  simpa using this

theorem openD_len (D : DS) (lg : Int) : (openD D lg).logs.length = D.logs.length ∧ (openD D lg).keep = D.keep ∧ (openD D lg).acts ≤ D.acts + 1 := by
  unfold openD
  repeat' split
  · exact ⟨rfl, rfl, Nat.le_succ _⟩
  · exact ⟨act_len _ _ _ _, act_keep _ _ _ _, act_acts _ _ _ _⟩
  · exact ⟨act_len _ _ _ _, act_keep _ _ _ _, act_acts _ _ _ _⟩
  · exact ⟨rfl, rfl, Nat.le_succ _⟩

set_option maxHeartbeats 8000000 in
set_option maxRecDepth 100000 in
theorem bopen_calls (w0 w : World) (bb : Nat) (S : Nat → Prop) (G : Option Nat) (g : Nat) (D : DS) (V : WS) (ls : List (List UInt8)) (A : Option Addr) (c : Nat) (B : Option Addr) (d : Nat) (LA : Option Addr) (lc : Nat) (h : WP w0 w bb S G g D V ls A c B d LA lc)
    (hl : D.logs.length ≤ 16) (hk : D.keep.length ≤ 1000000) (hac : D.acts < 1000000000) (hlog : (D.log 1).1.length ≤ 1000000) :
    Calls Try.prog 62 #[.pointer (some ⟨bb, 0, none⟩)] w fun e w' => e = .returned (.bool true) ∧ ∃ S' G' V' ls' A' c' B' d' LA' lc', WP w0 w' bb S' G' g (openD D 1) V' ls' A' c' B' d' LA' lc' ∧ ls'.length ≤ 1000000 := by
  have H := Lib.hid h
  have HL := Lib.hid (And.intro hl (And.intro hk (And.intro hac hlog)))
  have hbx := h.box
  unfold bCells at hbx
  obtain ⟨⟨x0, x1, x2, x3, x4, x5, x6, x7, x8, x9, x10⟩, _⟩ := blk11 hbx
  clear h hl hk hac hlog hbx
  go_enter Try.func62, Try.ntmps62
  go_wp2_with fail
  refine (wopen_calls H.out.held 1 HL.out.2.2.1).mono ?_
  rintro e w1 ho
  obtain ⟨S1, hd1, hg1, hok⟩ := ho.held
  have hno := ho.no
  have hbx := H.out.box.upd hg1.upd H.out.bo.1
  unfold bCells at hbx
  clear x0 x1 x2 x3 x4 x5 x6 x7 x8 x9 x10
  obtain ⟨⟨x0, x1, x2, x3, x4, x5, x6, x7, x8, x9, x10⟩, _⟩ := blk11 hbx
  have HG1 := Lib.hid hg1
  have hZ : ∀ i, Zone S G bb i → i = bb ∨ S i ∨ G = some i := fun i h => by rcases h with h | h | h; exact .inr (.inl h); exact .inr (.inr h); exact .inl h
  have CA := Lib.hid (show Cells w1 A (lgs D.logs) ∧ Cells w1 B (ints D.keep) from ⟨(H.out.la.upd hg1.upd (fun ad e hn hs => H.out.la.out ad e hn (.inl hs))).cells, (H.out.lb.upd hg1.upd (fun ad e hn hs => H.out.lb.out ad e hn (.inl hs))).cells⟩)
  have HRO := Lib.hid (ropen8_calls A B c d D 1 w1 CA.out.1 CA.out.2 HL.out.1 HL.out.2.1 H.out.held.disk.small HL.out.2.2.1 H.out.held.disk.armed.1 H.out.held.disk.armed.2 HL.out.2.2.2)
  obtain ⟨D', hD'⟩ : ∃ D', D' = openD D 1 := ⟨_, rfl⟩
  obtain ⟨E, hE⟩ : ∃ E, E = openErrD D 1 := ⟨_, rfl⟩
  have HD1 := Lib.hid (by have := hd1; rw [← hD'] at this; exact this)
  have HRO := Lib.hid (by have := HRO.out; rw [← hE, ← hD'] at this; exact this)
  obtain ⟨l1, hl1⟩ : ∃ l1, l1 = (scanOf (D.log 1).1).1 := ⟨_, rfl⟩
  have hl1b : l1.length ≤ 1000000 := by
    have h1 := (scanOf_le _ (D.log 1).1 (Nat.le_refl _))
    have h2 := HL.out.2.2.2
    rw [hl1]; omega
  have HB1 := Lib.hid hl1b
  rw [← hE] at hok hno
  rw [← hl1] at hok
  by_cases he : E = 0
  · obtain ⟨gw, v, rfl, hw, hwS, hwl, hLo⟩ := hok he
    subst he
    have HE := Lib.hid hE
    have HDD := Lib.hid hD'
    have HL1 := Lib.hid hl1
    have HW := Lib.hid hw
    have HWS := Lib.hid (And.intro hwS hwl)
    have HLO := Lib.hid hLo
    clear hE hD' hl1 hw hwS hwl hLo hok hno hl1b hd1 hg1 hbx hZ
    go_wp2_with fail
    refine HRO.out.mono ?_
    rintro e w2 ⟨A', c', B', d', ro, _, rok⟩
    unfold rdVal2 at rok
    rw [← HL1.out] at rok
    obtain ⟨L, lc', rfl, hL, oL⟩ := rok rfl
    have RO := Lib.hid ro
    have HLL := Lib.hid hL
    have OL := Lib.hid oL
    clear ro rok hL oL HRO x0 x1 x2 x3 x4 x5 x6 x7 x8 x9 x10
    go_upto_region 3 with fail
    obtain ⟨W3, hW3, b3, k0, k1⟩ := open_boxes2 w2 #[.slice A' D'.logs.length c', .int .i64 (D'.acts : Int), .bool D'.down, .int .i64 D'.armed, .slice B' D'.keep.length d'] #[.int .i64 1, .slice L l1.length lc', .int .i64 (l1.length : Int), .bool false]
    rw [← hW3]
    clear hW3
    have hb13 : Below w1.heap.size w1 W3 := RO.out.below.trans (b3.mono RO.out.below.size)
    have hbx := (H.out.box.upd HG1.out.upd H.out.bo.1).below hb13
    unfold bCells at hbx
    obtain ⟨⟨x0, x1, x2, x3, x4, x5, x6, x7, x8, x9, x10⟩, f0, f1, f2, f3, f4, f5, f6, f7, f8, f9, f10⟩ := blk11 hbx
    obtain ⟨e4, u4⟩ := ten_ret hbx (.pointer (some ⟨gw, 0, none⟩)) (.slice A' D'.logs.length c') (.int .i64 (D'.acts : Int)) (.bool D'.down) (.int .i64 D'.armed) (.slice B' D'.keep.length d') (.int .i64 1) (.slice L l1.length lc') (.int .i64 (l1.length : Int)) (.bool false)
    have hbbl : bb < w.heap.size := H.out.box.lt
    have hz21 : bb < w2.heap.size := by have := HG1.out.upd.size; have := RO.out.below.size; omega
    have hn1 : w2.heap.size + 1 ≠ bb := by omega
    have hn2 : bb ≠ w2.heap.size + 1 := by omega
    have hn3 : w2.heap.size ≠ bb := by omega
    have hn4 : bb ≠ w2.heap.size := by omega
    clear hz21
    have k14 := k1.upd u4 (by have := hb13.size; have := HG1.out.upd.size; have := RO.out.below.size; omega)
    have hzone : ∀ i, Zone S1 (some gw) bb i → i < w1.heap.size ∧ (Zone S G bb i ∨ w.heap.size ≤ i) := fun i h => by
      have hsz := HG1.out.upd.size
      rcases h with h | h | h
      · exact ⟨(HD1.out.own i h).2, (HG1.out.new i h).imp (fun h => .inl h) id⟩
      · cases h; exact ⟨HW.out.lt, .inr HWS.out.2⟩
      · subst h; exact ⟨by omega, .inl (.inr (.inr rfl))⟩
    have hkp := openD_len D 1
    rw [← HDD.out] at hkp
    have hWP : WP w0 (((((((((((W3.setCell ⟨bb, 1, none⟩ (.pointer (some ⟨gw, 0, none⟩))).setCell ⟨bb, 2, none⟩ (.slice A' D'.logs.length c')).setCell ⟨bb, 3, none⟩ (.int .i64 (D'.acts : Int))).setCell ⟨bb, 4, none⟩ (.bool D'.down)).setCell ⟨bb, 5, none⟩ (.int .i64 D'.armed)).setCell ⟨bb, 6, none⟩ (.slice B' D'.keep.length d')).setCell ⟨bb, 7, none⟩ (.int .i64 1)).setCell ⟨bb, 8, none⟩ (.slice L l1.length lc')).setCell ⟨bb, 9, none⟩ (.int .i64 (l1.length : Int))).setCell ⟨bb, 10, none⟩ (.bool false)).drew) bb S1 (some gw) g D' (freshW l1.length 1) l1 A' c' B' d' L lc' :=
      WP.write (HD1.out.later hb13) (H.out.la.moved (RO.out.la.below b3) (fun ad e => RO.out.oa ad e) (fun h => lgs_ne.2 (by have := lgs_ne.1 h; omega)) hzone) (H.out.lb.moved (RO.out.lb.below b3) (fun ad e => RO.out.ob ad e) (fun h => by rwa [hkp.2.1] at h) hzone) (Beside.fresh (w1 := w1) (HLL.out.below b3) OL.out (fun i h => (hzone i h).1)) (by unfold bCells; exact e4) u4 ⟨fun hs => (HG1.out.new _ hs).elim H.out.bo.1 (fun h => by omega), H.out.bo.2⟩ (fun gw' e => by cases e; exact ⟨HW.out.below hb13, HWS.out.1, Nat.le_trans H.out.held.below.size HWS.out.2, rfl⟩) ⟨_, hbx⟩ rfl
    have WPF := Lib.hid hWP
    have LOF := Lib.hid (show Loads (((((((((((W3.setCell ⟨bb, 1, none⟩ (.pointer (some ⟨gw, 0, none⟩))).setCell ⟨bb, 2, none⟩ (.slice A' D'.logs.length c')).setCell ⟨bb, 3, none⟩ (.int .i64 (D'.acts : Int))).setCell ⟨bb, 4, none⟩ (.bool D'.down)).setCell ⟨bb, 5, none⟩ (.int .i64 D'.armed)).setCell ⟨bb, 6, none⟩ (.slice B' D'.keep.length d')).setCell ⟨bb, 7, none⟩ (.int .i64 1)).setCell ⟨bb, 8, none⟩ (.slice L l1.length lc')).setCell ⟨bb, 9, none⟩ (.int .i64 (l1.length : Int))).setCell ⟨bb, 10, none⟩ (.bool false)).drew) w.heap.size v l1 from ((HLO.out.below hb13).upd u4 (fun k hk => by have h2 : k = bb := hk; omega)))
    have CLF := Lib.hid (show Cells (((((((((((W3.setCell ⟨bb, 1, none⟩ (.pointer (some ⟨gw, 0, none⟩))).setCell ⟨bb, 2, none⟩ (.slice A' D'.logs.length c')).setCell ⟨bb, 3, none⟩ (.int .i64 (D'.acts : Int))).setCell ⟨bb, 4, none⟩ (.bool D'.down)).setCell ⟨bb, 5, none⟩ (.int .i64 D'.armed)).setCell ⟨bb, 6, none⟩ (.slice B' D'.keep.length d')).setCell ⟨bb, 7, none⟩ (.int .i64 1)).setCell ⟨bb, 8, none⟩ (.slice L l1.length lc')).setCell ⟨bb, 9, none⟩ (.int .i64 (l1.length : Int))).setCell ⟨bb, 10, none⟩ (.bool false)).drew) L (strs l1) from ((HLL.out.below b3).upd u4 (fun ad e _ hk => by have h2 : ad.block = bb := hk; have := OL.out ad e; have := HG1.out.upd.size; omega)))
    clear hWP hkp hzone e4 hbx b3
    obtain ⟨⟨y0, y1, y2, y3, y4⟩, _⟩ := blk5 k0
    obtain ⟨⟨q0, q1, q2, q3⟩, _⟩ := blk4 k1
    clear k0 k1 u4 hb13
    go_region
    clear x0 x1 x2 x3 x4 x5 x6 x7 x8 x9 x10 f0 f1 f2 f3 f4 f5 f6 f7 f8 f9 f10 y0 y1 y2 y3 y4 q0 q1 q2 q3
    generalize (((((((((((W3.setCell ⟨bb, 1, none⟩ (.pointer (some ⟨gw, 0, none⟩))).setCell ⟨bb, 2, none⟩ (.slice A' D'.logs.length c')).setCell ⟨bb, 3, none⟩ (.int .i64 (D'.acts : Int))).setCell ⟨bb, 4, none⟩ (.bool D'.down)).setCell ⟨bb, 5, none⟩ (.int .i64 D'.armed)).setCell ⟨bb, 6, none⟩ (.slice B' D'.keep.length d')).setCell ⟨bb, 7, none⟩ (.int .i64 1)).setCell ⟨bb, 8, none⟩ (.slice L l1.length lc')).setCell ⟨bb, 9, none⟩ (.int .i64 (l1.length : Int))).setCell ⟨bb, 10, none⟩ (.bool false)).drew) = W9 at WPF LOF CLF k14 ⊢
    obtain ⟨⟨q0, q1, q2, q3⟩, _⟩ := blk4 k14
    clear k14
    go_wp2_with fail
    refine (same_cells _ L l1.length lc' l1 l1 w.heap.size W9 LOF.out rfl CLF.out (by have := HB1.out; first | omega | simp) (by have := HB1.out; first | omega | simp)).mono ?_
    rintro e wz ⟨rfl, kk, rfl⟩
    have WPZ := Lib.hid (WPF.out.later (bdrewN (Below.refl _ _) kk))
    clear WPF LOF CLF q0 q1 q2 q3
    go_wp2
    go_ret
    rw [← HDD.out]
    exact ⟨by simp, S1, (some gw), (freshW l1.length 1), l1, A', c', B', d', L, lc', WPZ.out, by have := HB1.out; first | omega | simp⟩
  · obtain rfl := hno he
    have HE := Lib.hid he
    have HDD := Lib.hid hD'
    have hbe : (E == 0) = false := by simpa using he
    have hbe2 : ¬ E = 0 := he
    clear hE hD' hl1 hok hno hl1b hd1 hg1 hbx hZ he
    go_wp2_with fail
    refine HRO.out.mono ?_
    rintro e w2 ⟨A', c', B', d', ro, rno, _⟩
    unfold rdVal2 at rno
    obtain rfl := rno HE.out
    have RO := Lib.hid ro
    clear ro rno HRO x0 x1 x2 x3 x4 x5 x6 x7 x8 x9 x10
    go_upto_region 3 with fail
    obtain ⟨W3, hW3, b3, k0, k1⟩ := open_boxes2 w2 #[.slice A' D'.logs.length c', .int .i64 (D'.acts : Int), .bool D'.down, .int .i64 D'.armed, .slice B' D'.keep.length d'] #[.int .i64 0, .slice none 0 0, .int .i64 0, .bool false]
    rw [← hW3]
    clear hW3
    have hb13 : Below w1.heap.size w1 W3 := RO.out.below.trans (b3.mono RO.out.below.size)
    have hbx := (H.out.box.upd HG1.out.upd H.out.bo.1).below hb13
    unfold bCells at hbx
    obtain ⟨⟨x0, x1, x2, x3, x4, x5, x6, x7, x8, x9, x10⟩, f0, f1, f2, f3, f4, f5, f6, f7, f8, f9, f10⟩ := blk11 hbx
    obtain ⟨e4, u4⟩ := ten_ret hbx (.pointer none) (.slice A' D'.logs.length c') (.int .i64 (D'.acts : Int)) (.bool D'.down) (.int .i64 D'.armed) (.slice B' D'.keep.length d') (.int .i64 0) (.slice none 0 0) (.int .i64 0) (.bool false)
    have hbbl : bb < w.heap.size := H.out.box.lt
    have hz21 : bb < w2.heap.size := by have := HG1.out.upd.size; have := RO.out.below.size; omega
    have hn1 : w2.heap.size + 1 ≠ bb := by omega
    have hn2 : bb ≠ w2.heap.size + 1 := by omega
    have hn3 : w2.heap.size ≠ bb := by omega
    have hn4 : bb ≠ w2.heap.size := by omega
    clear hz21
    have k14 := k1.upd u4 (by have := hb13.size; have := HG1.out.upd.size; have := RO.out.below.size; omega)
    have hzone : ∀ i, Zone S1 none bb i → i < w1.heap.size ∧ (Zone S G bb i ∨ w.heap.size ≤ i) := fun i h => by
      have hsz := HG1.out.upd.size
      rcases h with h | h | h
      · exact ⟨(HD1.out.own i h).2, (HG1.out.new i h).imp (fun h => .inl h) id⟩
      · cases h
      · subst h; exact ⟨by omega, .inl (.inr (.inr rfl))⟩
    have hkp := openD_len D 1
    rw [← HDD.out] at hkp
    have hWP : WP w0 (((((((((((W3.setCell ⟨bb, 1, none⟩ (.pointer none)).setCell ⟨bb, 2, none⟩ (.slice A' D'.logs.length c')).setCell ⟨bb, 3, none⟩ (.int .i64 (D'.acts : Int))).setCell ⟨bb, 4, none⟩ (.bool D'.down)).setCell ⟨bb, 5, none⟩ (.int .i64 D'.armed)).setCell ⟨bb, 6, none⟩ (.slice B' D'.keep.length d')).setCell ⟨bb, 7, none⟩ (.int .i64 0)).setCell ⟨bb, 8, none⟩ (.slice none 0 0)).setCell ⟨bb, 9, none⟩ (.int .i64 0)).setCell ⟨bb, 10, none⟩ (.bool false)).drew) bb S1 none g D' ⟨0, 0, 0, false⟩ [] A' c' B' d' none 0 :=
      WP.write (HD1.out.later hb13) (H.out.la.moved (RO.out.la.below b3) (fun ad e => RO.out.oa ad e) (fun h => lgs_ne.2 (by have := lgs_ne.1 h; omega)) hzone) (H.out.lb.moved (RO.out.lb.below b3) (fun ad e => RO.out.ob ad e) (fun h => by rwa [hkp.2.1] at h) hzone) (Beside.fresh (w1 := w1) (Cells.nil _ _) (fun ad e => by cases e) (fun i h => (hzone i h).1)) (by unfold bCells; exact e4) u4 ⟨fun hs => (HG1.out.new _ hs).elim H.out.bo.1 (fun h => by omega), H.out.bo.2⟩ (fun gw' e => by cases e) ⟨_, hbx⟩ rfl
    have WPF := Lib.hid hWP
    have LOF := Lib.hid (show Loads (((((((((((W3.setCell ⟨bb, 1, none⟩ (.pointer none)).setCell ⟨bb, 2, none⟩ (.slice A' D'.logs.length c')).setCell ⟨bb, 3, none⟩ (.int .i64 (D'.acts : Int))).setCell ⟨bb, 4, none⟩ (.bool D'.down)).setCell ⟨bb, 5, none⟩ (.int .i64 D'.armed)).setCell ⟨bb, 6, none⟩ (.slice B' D'.keep.length d')).setCell ⟨bb, 7, none⟩ (.int .i64 0)).setCell ⟨bb, 8, none⟩ (.slice none 0 0)).setCell ⟨bb, 9, none⟩ (.int .i64 0)).setCell ⟨bb, 10, none⟩ (.bool false)).drew) w.heap.size (.slice none 0 0) [] from ⟨[], Row.nil _ _ _ _, fun i u l h => by simp at h⟩)
    have CLF := Lib.hid (show Cells (((((((((((W3.setCell ⟨bb, 1, none⟩ (.pointer none)).setCell ⟨bb, 2, none⟩ (.slice A' D'.logs.length c')).setCell ⟨bb, 3, none⟩ (.int .i64 (D'.acts : Int))).setCell ⟨bb, 4, none⟩ (.bool D'.down)).setCell ⟨bb, 5, none⟩ (.int .i64 D'.armed)).setCell ⟨bb, 6, none⟩ (.slice B' D'.keep.length d')).setCell ⟨bb, 7, none⟩ (.int .i64 0)).setCell ⟨bb, 8, none⟩ (.slice none 0 0)).setCell ⟨bb, 9, none⟩ (.int .i64 0)).setCell ⟨bb, 10, none⟩ (.bool false)).drew) none (strs []) from Cells.nil _ _)
    clear hWP hkp hzone e4 hbx b3
    obtain ⟨⟨y0, y1, y2, y3, y4⟩, _⟩ := blk5 k0
    obtain ⟨⟨q0, q1, q2, q3⟩, _⟩ := blk4 k1
    clear k0 k1 u4 hb13
    go_region
    clear x0 x1 x2 x3 x4 x5 x6 x7 x8 x9 x10 f0 f1 f2 f3 f4 f5 f6 f7 f8 f9 f10 y0 y1 y2 y3 y4 q0 q1 q2 q3
    generalize (((((((((((W3.setCell ⟨bb, 1, none⟩ (.pointer none)).setCell ⟨bb, 2, none⟩ (.slice A' D'.logs.length c')).setCell ⟨bb, 3, none⟩ (.int .i64 (D'.acts : Int))).setCell ⟨bb, 4, none⟩ (.bool D'.down)).setCell ⟨bb, 5, none⟩ (.int .i64 D'.armed)).setCell ⟨bb, 6, none⟩ (.slice B' D'.keep.length d')).setCell ⟨bb, 7, none⟩ (.int .i64 0)).setCell ⟨bb, 8, none⟩ (.slice none 0 0)).setCell ⟨bb, 9, none⟩ (.int .i64 0)).setCell ⟨bb, 10, none⟩ (.bool false)).drew) = W9 at WPF LOF CLF k14 ⊢
    obtain ⟨⟨q0, q1, q2, q3⟩, _⟩ := blk4 k14
    clear k14
    go_wp2_with fail
    refine (same_cells _ none [].length 0 [] [] w.heap.size W9 LOF.out rfl CLF.out (by have := HB1.out; first | omega | simp) (by have := HB1.out; first | omega | simp)).mono ?_
    rintro e wz ⟨rfl, kk, rfl⟩
    have WPZ := Lib.hid (WPF.out.later (bdrewN (Below.refl _ _) kk))
    clear WPF LOF CLF q0 q1 q2 q3
    go_wp2
    go_ret
    rw [← HDD.out]
    exact ⟨by simp, S1, none, ⟨0, 0, 0, false⟩, [], A', c', B', d', none, 0, WPZ.out, by have := HB1.out; first | omega | simp⟩

/- WalPlays: what an act of a wal's answers, on both sides in one form. -/
def kE0 (D : DS) (V : WS) (kind : Nat) (xs : List (List UInt8)) : Int := D.actErr V.log (actSz D kind V.log (framesOf xs))
def kE (D : DS) (V : WS) (kind : Nat) (xs : List (List UInt8)) : Int := if V.dead then 81 else kE0 D V kind xs
def kD (D : DS) (V : WS) (kind : Nat) (xs : List (List UInt8)) : DS := if V.dead then D else D.act V.log (actSz D kind V.log (framesOf xs)) (actF kind (framesOf xs))
def kLs (D : DS) (V : WS) (kind : Nat) (ls xs : List (List UInt8)) : List (List UInt8) := if V.dead then ls else rwLs kind ls xs (kE0 D V kind xs)
def kV (D : DS) (V : WS) (kind : Nat) (ls xs : List (List UInt8)) : WS := if V.dead then V else ⟨(rwLs kind ls xs (kE0 D V kind xs)).length, rwSure kind ls xs V.sure (kE0 D V kind xs), V.log, decide (kE0 D V kind xs = 71)⟩
theorem kV_all {D : DS} {V : WS} {kind : Nat} {ls xs : List (List UInt8)} (h : V.all = ls.length) : (kV D V kind ls xs).all = (kLs D V kind ls xs).length := by
  unfold kV kLs; split
  · exact h
  · rfl
theorem kV_log {D : DS} {V : WS} {kind : Nat} {ls xs : List (List UInt8)} : (kV D V kind ls xs).log = V.log := by
  unfold kV; split <;> rfl
theorem kD_len (D : DS) (V : WS) (kind : Nat) (xs : List (List UInt8)) : (kD D V kind xs).logs.length = D.logs.length ∧ (kD D V kind xs).keep = D.keep ∧ (kD D V kind xs).acts ≤ D.acts + 1 := by
  unfold kD; split
  · exact ⟨rfl, rfl, Nat.le_succ _⟩
  · exact ⟨act_len _ _ _ _, act_keep _ _ _ _, act_acts _ _ _ _⟩
theorem frames_one (s : List UInt8) : framesOf [s] = frameOf s := by simp [framesOf]
section
variable {w0 w : World} {S : Nat → Prop} {g gw : Nat} {D : DS} {V : WS} {ls : List (List UInt8)}
theorem kapp_calls (h : HW w0 w S g gw D V) (hall : V.all = ls.length) (A : Option Addr) (n c : Nat) (s : List UInt8) (hn : n = s.length) (hA : Cells w A (byts s)) (hs : s.length ≤ 1000) (hac : D.acts < 1000000000) (hls : ls.length < 1000000000) :
    Calls Try.prog 58 #[.pointer (some ⟨gw, 0, none⟩), .slice A n c] w fun e w' => e = .returned (.int .i64 (kE D V 0 [s])) ∧ ∃ S', HW w0 w' S' g gw (kD D V 0 [s]) (kV D V 0 ls [s]) ∧ GrewW S S' gw w w' := by
  cases hd : V.dead with
  | true =>
    refine (wappend_dead g gw V A n c w h.wal hd).mono ?_
    rintro e w' ⟨rfl, rfl⟩
    refine ⟨by simp [kE, hd], S, ?_, GrewW.refl⟩
    simp only [kD, kV, hd, if_true]
    exact h
  | false =>
    refine (wappend_calls h A n c s hn hA (by omega) hd hac (by omega)).mono ?_
    rintro e w' ⟨rfl, S', h1, h2⟩
    have e1 : kE0 D V 0 [s] = D.appErr V.log (frameOf s) := by unfold kE0; rw [frames_one]; rfl
    refine ⟨by simp [kE, hd, e1], S', ?_, h2⟩
    have e2 : kD D V 0 [s] = D.append V.log (frameOf s) := by simp only [kD, hd]; rw [frames_one]; rfl
    have e3 : kV D V 0 ls [s] = V.app (D.appErr V.log (frameOf s)) := by
      unfold kV WS.app
      rw [if_neg (by rw [hd]; decide), e1, hd]
      by_cases h0 : D.appErr V.log (frameOf s) = 0
      · simp [rwLs, rwSure, h0, hall]
      · simp [rwLs, rwSure, h0, hall]
    rw [e2, e3]
    exact h1
theorem ksync_calls (h : HW w0 w S g gw D V) (hall : V.all = ls.length) (hac : D.acts < 1000000000) :
    Calls Try.prog 59 #[.pointer (some ⟨gw, 0, none⟩)] w fun e w' => e = .returned (.int .i64 (kE D V 1 [])) ∧ ∃ S', HW w0 w' S' g gw (kD D V 1 []) (kV D V 1 ls []) ∧ GrewW S S' gw w w' := by
  cases hd : V.dead with
  | true =>
    refine (wsync_dead g gw V w h.wal hd).mono ?_
    rintro e w' ⟨rfl, rfl⟩
    refine ⟨by simp [kE, hd], S, ?_, GrewW.refl⟩
    simp only [kD, kV, hd, if_true]
    exact h
  | false =>
    refine (wsync_calls h hd hac).mono ?_
    rintro e w' ⟨rfl, S', h1, h2⟩
    have e1 : kE0 D V 1 [] = D.actErr V.log 0 := rfl
    refine ⟨by simp [kE, hd, e1], S', ?_, h2⟩
    have e2 : kD D V 1 [] = D.sync V.log := by simp only [kD, hd]; rfl
    have e3 : kV D V 1 ls [] = V.syn (D.actErr V.log 0) := by
      unfold kV WS.syn
      rw [if_neg (by rw [hd]; decide), e1, hd]
      by_cases h0 : D.actErr V.log 0 = 0
      · simp [rwLs, rwSure, h0, hall]
      · simp [rwLs, rwSure, h0, hall]
    rw [e2, e3]
    exact h1
theorem kfresh_calls (h : HW w0 w S g gw D V) (hall : V.all = ls.length) (A : Option Addr) (n c : Nat) (xs : List (List UInt8)) (hn : n = xs.length) (hA : LCells w A xs) (hs : ∀ l ∈ xs, l.length ≤ 1000) (hl : xs.length ≤ 100) (hac : D.acts < 1000000000) :
    Calls Try.prog 60 #[.pointer (some ⟨gw, 0, none⟩), .slice A n c] w fun e w' => e = .returned (.int .i64 (kE D V 2 xs)) ∧ ∃ S', HW w0 w' S' g gw (kD D V 2 xs) (kV D V 2 ls xs) ∧ GrewW S S' gw w w' := by
  cases hd : V.dead with
  | true =>
    refine (wfresh_dead g gw V A n c w h.wal hd).mono ?_
    rintro e w' ⟨rfl, rfl⟩
    refine ⟨by simp [kE, hd], S, ?_, GrewW.refl⟩
    simp only [kD, kV, hd, if_true]
    exact h
  | false =>
    refine (wfresh_calls h A n c xs hn hA (by omega) hd hac).mono ?_
    rintro e w' (⟨_, rfl, S', h1, h2⟩ | ⟨⟨l, hl2, h3⟩, _⟩)
    · have e1 : kE0 D V 2 xs = D.actErr V.log ((framesOf xs).length : Int) := rfl
      refine ⟨by simp [kE, hd, e1], S', ?_, h2⟩
      have e2 : kD D V 2 xs = D.swap V.log (framesOf xs) := by simp only [kD, hd]; rfl
      have e3 : kV D V 2 ls xs = V.fre (D.actErr V.log ((framesOf xs).length : Int)) xs.length := by
        unfold kV WS.fre
        rw [if_neg (by rw [hd]; decide), e1, hd]
        by_cases h0 : D.actErr V.log ((framesOf xs).length : Int) = 0
        · simp [rwLs, rwSure, h0, hall]
        · simp [rwLs, rwSure, h0, hall]
      rw [e2, e3]
      exact h1
    · have := hs l hl2; omega
/-- The reference's. -/
theorem k82_calls (A B : Option Addr) (c d : Nat) (D : DS) (V : WS) (LA : Option Addr) (lc : Nat) (ls : List (List UInt8)) (kind : Nat) (X : Option Addr) (xc : Nat) (xs : List (List UInt8)) (w : World) (hA : Cells w A (lgs D.logs)) (hB : Cells w B (ints D.keep)) (hL : Cells w LA (strs ls)) (hX : Cells w X (strs xs)) (hx : ∀ l ∈ xs, l.length ≤ 1000) (hx2 : xs.length ≤ 100)
    (hl : D.logs.length ≤ 16) (hk : D.keep.length ≤ 1000000) (hsm : ∀ j (h : j < D.logs.length), D.logs[j].1.length ≤ 4194304 ∧ D.logs[j].2 ≤ D.logs[j].1.length) (hkd : kind = 0 ∨ kind = 1 ∧ xs = [] ∨ kind = 2) (hac : D.acts < 1000000000) (hab : 0 ≤ D.armed ∧ D.armed ≤ 9223372036854775807) (hls : ls.length ≤ 10000000) :
    Calls Try.prog 82 #[.agg #[.slice A D.logs.length c, .int .i64 (D.acts : Int), .bool D.down, .int .i64 D.armed, .slice B D.keep.length d], .agg #[.int .i64 V.log, .slice LA ls.length lc, .int .i64 (V.sure : Int), .bool V.dead], .int .i64 (kind : Int), .slice X xs.length xc] w
      fun e w' => ∃ A' c' B' d' LA' lc', e = .returned (.tuple #[.agg #[.slice A' (kD D V kind xs).logs.length c', .int .i64 ((kD D V kind xs).acts : Int), .bool (kD D V kind xs).down, .int .i64 (kD D V kind xs).armed, .slice B' (kD D V kind xs).keep.length d'], .agg #[.int .i64 (kV D V kind ls xs).log, .slice LA' (kLs D V kind ls xs).length lc', .int .i64 ((kV D V kind ls xs).sure : Int), .bool (kV D V kind ls xs).dead], .int .i64 (kE D V kind xs)]) ∧
        ROut w A B (kD D V kind xs) A' B' w' ∧ Cells w' LA' (strs (kLs D V kind ls xs)) ∧ (∀ ad, LA' = some ad → (kLs D V kind ls xs = ls ∧ LA = some ad) ∨ w.heap.size ≤ ad.block) := by
  cases hd : V.dead with
  | true =>
    refine (ract8_dead A B c d D V.log LA lc ls V.sure kind X xs.length xc w hA hB hL).mono ?_
    rintro e w' ⟨A', c', B', d', LA', lc', rfl, h1, h2, h3⟩
    simp only [kD, kV, kLs, kE, hd, if_true]
    exact ⟨A', c', B', d', LA', lc', rfl, h1, h2, fun ad e => (h3 ad e).imp (fun x => ⟨trivial, x.2⟩) id⟩
  | false =>
    refine (ract8_live A B c d D V.log LA lc ls V.sure kind X xc xs w hA hB hL hX hx hx2 hl hk hsm hkd hac hab.1 hab.2 hls).mono ?_
    rintro e w' ⟨A', c', B', d', LA', lc', rfl, h1, h2, h3⟩
    simp only [kD, kV, kLs, kE, hd, Bool.false_eq_true, if_false]
    exact ⟨A', c', B', d', LA', lc', rfl, h1, h2, h3⟩
end

/-- How long the logs are. -/
def LBd (D : DS) (k : Nat) : Prop := ∀ l ∈ D.logs, l.1.length ≤ k
theorem LBd.log {D : DS} {k : Nat} (h : LBd D k) (n : Int) : (D.log n).1.length ≤ k := by
  unfold DS.log
  cases hx : D.logs[n.toNat]? with
  | none => simp
  | some l => exact h l (List.mem_of_getElem? hx)
theorem LBd.mono {D : DS} {k k' : Nat} (h : LBd D k) (hk : k ≤ k') : LBd D k' := fun l hl => Nat.le_trans (h l hl) hk
theorem LBd.crash {D : DS} {k : Nat} (h : LBd D k) (ks : List Int) : LBd (D.crash ks) k := by
  unfold DS.crash
  split
  · exact h
  · intro l hl
    obtain ⟨i, hi, rfl⟩ := List.getElem_of_mem hl
    have hi' : i < D.logs.length := by simpa [crashTo_length] using hi
    simp only [crashTo_get, hi', if_true, crashLog]
    exact Nat.le_trans (by simp; omega) (h _ (List.getElem_mem hi'))
theorem LBd.act {D : DS} {k k' : Nat} (h : LBd D k) (n size : Int) (f : List UInt8 × Nat → List UInt8 × Nat) (hk : k ≤ k') (hf : (f (D.log n)).1.length ≤ k') : LBd (D.act n size f) k' := by
  unfold DS.act
  split
  · intro l hl
    rcases List.mem_or_eq_of_mem_set hl with h1 | rfl
    · exact Nat.le_trans (h l h1) hk
    · exact hf
  · unfold DS.fail
    split
    · exact (h.crash _).mono hk
    · exact h.mono hk
theorem LBd.open {D : DS} {k : Nat} (h : LBd D k) (n : Int) : LBd (openD D n) k := by
  unfold openD
  repeat' split
  · exact h
  · exact h.act _ _ _ (Nat.le_refl _) (Nat.le_trans (by simp; omega) (h.log n))
  · exact h.act _ _ _ (Nat.le_refl _) (h.log n)
  · exact h
theorem LBd.k {D : DS} {V : WS} {kind k j : Nat} {xs : List (List UInt8)} (h : LBd D k) (hj : (framesOf xs).length ≤ j) : LBd (kD D V kind xs) (k + j) := by
  unfold kD
  split
  · exact h.mono (by omega)
  · refine h.act _ _ _ (by omega) ?_
    have := h.log V.log
    unfold actF
    split
    · simp; omega
    · simp; omega
    · simp; omega
theorem kLs_len {D : DS} {V : WS} {kind : Nat} {ls xs : List (List UInt8)} : (kLs D V kind ls xs).length ≤ ls.length + xs.length := by
  unfold kLs rwLs
  repeat' split
  all_goals simp

/- WalPlays: a wal and the reference's in the middle of an act. -/
def NoX : Nat → Prop := fun _ => False
/-- A wal and its disk, and the reference's, that may have come less far; X is what is not to be changed besides. -/
structure WQ (w0 w : World) (bb : Nat) (X S : Nat → Prop) (gw g : Nat) (Dr : DS) (Vr : WS) (D : DS) (V : WS) (ls : List (List UInt8)) (A : Option Addr) (c : Nat) (B : Option Addr) (d : Nat) (LA : Option Addr) (lc : Nat) : Prop where
  real : HW w0 w S g gw Dr Vr
  la : Beside w (fun i => Zone S (some gw) bb i ∨ X i) A (lgs D.logs)
  lb : Beside w (fun i => Zone S (some gw) bb i ∨ X i) B (ints D.keep)
  ll : Beside w (fun i => Zone S (some gw) bb i ∨ X i) LA (strs ls)
  box : Blk w bb 108 (bCells g (some gw) D A c B d V LA ls.length lc)
  bo : ¬ S bb ∧ w0.heap.size ≤ bb
  xo : ∀ i, X i → i < w.heap.size ∧ ¬ S i ∧ i ≠ gw ∧ i ≠ bb ∧ w0.heap.size ≤ i
section
variable {w0 w w1 v v2 W : World} {bb gw g : Nat} {X S S' T : Nat → Prop} {Dr Dr' D D' : DS} {Vr Vr' V V' : WS} {ls ls' : List (List UInt8)} {A A' : Option Addr} {c c' : Nat} {B B' : Option Addr} {d d' : Nat} {LA LA' : Option Addr} {lc lc' : Nat}
theorem WP.q (h : WP w0 w bb S (some gw) g D V ls A c B d LA lc) : WQ w0 w bb NoX S gw g D V D V ls A c B d LA lc :=
  ⟨h.hw, ⟨h.la.cells, fun ad e hn hz => hz.elim (h.la.out ad e hn) (fun h => h)⟩, ⟨h.lb.cells, fun ad e hn hz => hz.elim (h.lb.out ad e hn) (fun h => h)⟩, ⟨h.ll.cells, fun ad e hn hz => hz.elim (h.ll.out ad e hn) (fun h => h)⟩, h.box, h.bo, fun i h => h.elim⟩
theorem WQ.p (h : WQ w0 w bb X S gw g D V D V ls A c B d LA lc) (hl : V.log = 1) (ha : V.all = ls.length) : WP w0 w bb S (some gw) g D V ls A c B d LA lc :=
  ⟨h.real.held, ⟨h.la.cells, fun ad e hn hz => h.la.out ad e hn (.inl hz)⟩, ⟨h.lb.cells, fun ad e hn hz => h.lb.out ad e hn (.inl hz)⟩, ⟨h.ll.cells, fun ad e hn hz => h.ll.out ad e hn (.inl hz)⟩, h.box, h.bo, fun gw' e => by cases e; exact ⟨h.real.wal, h.real.out, h.real.lo, hl⟩, ha⟩
theorem WQ.ne (h : WQ w0 w bb X S gw g Dr Vr D V ls A c B d LA lc) : bb ≠ gw := Typed.ne h.box.typed h.real.wal.typed (by decide)
theorem WQ.later (h : WQ w0 w bb X S gw g Dr Vr D V ls A c B d LA lc) (hb : Below w.heap.size w w1) : WQ w0 w1 bb X S gw g Dr Vr D V ls A c B d LA lc :=
  ⟨h.real.later hb, h.la.later hb, h.lb.later hb, h.ll.later hb, h.box.below hb, h.bo, fun i hi => ⟨Nat.lt_of_lt_of_le (h.xo i hi).1 hb.size, (h.xo i hi).2⟩⟩
/-- The real one goes on. -/
theorem WQ.wal (h : WQ w0 w bb X S gw g Dr Vr D V ls A c B d LA lc) (k : HW w0 w1 S' g gw Dr' Vr') (hg : GrewW S S' gw w w1) : WQ w0 w1 bb X S' gw g Dr' Vr' D V ls A c B d LA lc := by
  have hs := hg.upd.size
  have hbl := h.box.lt
  have hs' : ∀ i, S' i → i < w.heap.size → S i := fun i h1 h2 => (hg.new i h1).elim id (fun h => by omega)
  have key : ∀ {A : Option Addr} {cs : List Value}, Beside w (fun i => Zone S (some gw) bb i ∨ X i) A cs → Beside w1 (fun i => Zone S' (some gw) bb i ∨ X i) A cs := fun {A cs} hb => by
    have h1 := hb.upd hg.upd (fun ad e hn hz => hb.out ad e hn (.inl (hz.elim (fun x => .inl x) (fun x => .inr (.inl (by rw [x]))))))
    refine ⟨h1.cells, fun ad e hn hz => ?_⟩
    have hlt := hb.cells.lt e hn
    refine hb.out ad e hn ?_
    rcases hz with (hz | hz | hz) | hz
    · exact .inl (.inl (hs' _ hz hlt))
    · exact .inl (.inr (.inl hz))
    · exact .inl (.inr (.inr hz))
    · exact .inr hz
  refine ⟨k, key h.la, key h.lb, key h.ll, h.box.upd hg.upd (fun hz => hz.elim h.bo.1 h.ne), ⟨fun hs2 => h.bo.1 (hs' _ hs2 hbl), h.bo.2⟩, fun i hi => ?_⟩
  obtain ⟨x1, x2, x3⟩ := h.xo i hi
  exact ⟨by omega, fun h1 => x2 (hs' _ h1 x1), x3⟩
theorem WQ.disk (h : WQ w0 w bb X S gw g Dr Vr D V ls A c B d LA lc) (k : Held w0 w1 S' g Dr') (hg : Grew S S' w w1) : WQ w0 w1 bb X S' gw g Dr' Vr D V ls A c B d LA lc :=
  h.wal (h.real.disk k hg) (GrewW.of_grew hg)
/-- The reference's goes on, and is stored. -/
theorem WQ.refd (h : WQ w0 w bb X S gw g Dr Vr D V ls A c B d LA lc) (hb : Below w.heap.size w v) (ro : ROut v A B D' A' B' v2) (hlen : D'.logs.length = D.logs.length) (hkb : (∀ ad, B' = some ad → v.heap.size ≤ ad.block) ∨ D'.keep = D.keep) (hL : Cells v2 LA' (strs ls')) (oL : ∀ ad, LA' = some ad → (ls' = ls ∧ LA = some ad) ∨ v.heap.size ≤ ad.block)
    (hu : Upd (fun i => i = bb) v2 W) (hx : Blk W bb 108 (bCells g (some gw) D' A' c' B' d' V' LA' ls'.length lc')) : WQ w0 W bb X S gw g Dr Vr D' V' ls' A' c' B' d' LA' lc' := by
  have hs := hb.size
  have hw := h.real.lt
  have hbl := h.box.lt
  have hz : ∀ i, (Zone S (some gw) bb i ∨ X i) → i < w.heap.size := fun i hz => by
    rcases hz with (hz | hz | hz) | hz
    · exact (h.real.held.own i hz).2
    · cases hz; exact hw
    · subst hz; exact hbl
    · exact (h.xo i hz).1
  have hbv : Below w.heap.size w v2 := hb.trans (ro.below.mono hb.size)
  have wr : ∀ {A : Option Addr} {cs : List Value}, Beside v2 (fun i => Zone S (some gw) bb i ∨ X i) A cs → Beside W (fun i => Zone S (some gw) bb i ∨ X i) A cs := fun {A cs} hb => hb.upd hu (fun ad e hn hz => hb.out ad e hn (.inl (.inr (.inr hz))))
  refine ⟨⟨(h.real.held.later hbv).upd hu (fun i e hs => h.bo.1 (e ▸ hs)) (fun i e => by rw [e]; exact h.bo.2), (h.real.wal.below hbv).upd hu (fun e => h.ne e.symm), h.real.out, h.real.lo⟩, wr ?_, wr ?_, wr ?_, hx, h.bo, fun i hi => ⟨Nat.lt_of_lt_of_le (Nat.lt_of_lt_of_le (h.xo i hi).1 hbv.size) hu.size, (h.xo i hi).2⟩⟩
  · exact h.la.moved (w1 := v) ro.la ro.oa (fun hn => lgs_ne.2 (by have := lgs_ne.1 hn; omega)) (fun i hi => ⟨by have := hz i hi; omega, .inl hi⟩)
  · rcases hkb with hkb | hkb
    · exact Beside.fresh (w1 := v) ro.lb hkb (fun i hi => by have := hz i hi; omega)
    · exact h.lb.moved (w1 := v) ro.lb ro.ob (fun hn => by rwa [hkb] at hn) (fun i hi => ⟨by have := hz i hi; omega, .inl hi⟩)
  · refine ⟨hL, fun ad e hn hi => ?_⟩
    rcases oL ad e with ⟨h1, h2⟩ | h1
    · exact h.ll.out ad h2 (by rwa [h1] at hn) hi
    · have := hz _ hi; omega
/-- What is new is set apart. -/
theorem WQ.fence (h : WQ w0 w bb NoX S gw g Dr Vr D V ls A c B d LA lc) (hb : Below w.heap.size w w1) (hX : ∀ i, X i → w.heap.size ≤ i ∧ i < w1.heap.size) : WQ w0 w1 bb X S gw g Dr Vr D V ls A c B d LA lc := by
  have hw := h.real.lt
  have hbl := h.box.lt
  have hs0 := h.real.held.below.size
  have key : ∀ {A : Option Addr} {cs : List Value}, Beside w (fun i => Zone S (some gw) bb i ∨ NoX i) A cs → Beside w1 (fun i => Zone S (some gw) bb i ∨ X i) A cs := fun {A cs} hh =>
    ⟨hh.cells.below hb, fun ad e hn hz => by
      have hlt := hh.cells.lt e hn
      rcases hz with hz | hz
      · exact hh.out ad e hn (.inl hz)
      · have := hX _ hz; omega⟩
  exact ⟨h.real.later hb, key h.la, key h.lb, key h.ll, h.box.below hb, h.bo, fun i hi => ⟨(hX i hi).2, fun hs => by have := (h.real.held.own i hs).2; have := hX i hi; omega, by have := hX i hi; omega, by have := hX i hi; omega, by have := hX i hi; omega⟩⟩
/-- It is written to. -/
theorem WQ.write (h : WQ w0 w bb X S gw g Dr Vr D V ls A c B d LA lc) (hu : Upd T w w1) (hT : ∀ i, T i → X i) : WQ w0 w1 bb X S gw g Dr Vr D V ls A c B d LA lc := by
  have key : ∀ {A : Option Addr} {cs : List Value}, Beside w (fun i => Zone S (some gw) bb i ∨ X i) A cs → Beside w1 (fun i => Zone S (some gw) bb i ∨ X i) A cs := fun {A cs} hh => hh.upd hu (fun ad e hn hz => hh.out ad e hn (.inr (hT _ hz)))
  exact ⟨⟨h.real.held.upd hu (fun i hi hs => (h.xo i (hT i hi)).2.1 hs) (fun i hi => (h.xo i (hT i hi)).2.2.2.2), h.real.wal.upd hu (fun hi => (h.xo _ (hT _ hi)).2.2.1 rfl), h.real.out, h.real.lo⟩, key h.la, key h.lb, key h.ll, h.box.upd hu (fun hi => (h.xo _ (hT _ hi)).2.2.2.1 rfl), h.bo, fun i hi => ⟨Nat.lt_of_lt_of_le (h.xo i hi).1 hu.size, (h.xo i hi).2⟩⟩
/-- The cells of both, one by one. -/
theorem WQ.cells (h : WQ w0 w bb X S gw g Dr Vr D V ls A c B d LA lc) : Blk w bb 108 #[.pointer (some ⟨g, 0, none⟩), .pointer (some ⟨gw, 0, none⟩), .slice A D.logs.length c, .int .i64 (D.acts : Int), .bool D.down, .int .i64 D.armed, .slice B D.keep.length d, .int .i64 V.log, .slice LA ls.length lc, .int .i64 (V.sure : Int), .bool V.dead] := h.box
end
/-- Nine of its cells are stored. -/
theorem nine_bset {W : World} {b : Nat} {y0 y1 y2 y3 y4 y5 y6 y7 y8 y9 y10 : Value} (h : Blk W b 108 #[y0, y1, y2, y3, y4, y5, y6, y7, y8, y9, y10]) (z2 z3 z4 z5 z6 z7 z8 z9 z10 : Value) :
    Blk (((((((((W.setCell ⟨b, 2, none⟩ z2).setCell ⟨b, 3, none⟩ z3).setCell ⟨b, 4, none⟩ z4).setCell ⟨b, 5, none⟩ z5).setCell ⟨b, 6, none⟩ z6).setCell ⟨b, 7, none⟩ z7).setCell ⟨b, 8, none⟩ z8).setCell ⟨b, 9, none⟩ z9).setCell ⟨b, 10, none⟩ z10) b 108 #[y0, y1, z2, z3, z4, z5, z6, z7, z8, z9, z10] ∧
    Upd (fun i => i = b) W (((((((((W.setCell ⟨b, 2, none⟩ z2).setCell ⟨b, 3, none⟩ z3).setCell ⟨b, 4, none⟩ z4).setCell ⟨b, 5, none⟩ z5).setCell ⟨b, 6, none⟩ z6).setCell ⟨b, 7, none⟩ z7).setCell ⟨b, 8, none⟩ z8).setCell ⟨b, 9, none⟩ z9).setCell ⟨b, 10, none⟩ z10) := by
  refine ⟨?_, ?_⟩
  · simpa using ((((((((h.set 2 z2).set 3 z3).set 4 z4).set 5 z5).set 6 z6).set 7 z7).set 8 z8).set 9 z9).set 10 z10
  · exact (((((((((Upd.refl (fun i => i = b) W).set ⟨b, 2, none⟩ z2 (fun _ => rfl)).set ⟨b, 3, none⟩ z3 (fun _ => rfl)).set ⟨b, 4, none⟩ z4 (fun _ => rfl)).set ⟨b, 5, none⟩ z5 (fun _ => rfl)).set ⟨b, 6, none⟩ z6 (fun _ => rfl)).set ⟨b, 7, none⟩ z7 (fun _ => rfl)).set ⟨b, 8, none⟩ z8 (fun _ => rfl)).set ⟨b, 9, none⟩ z9 (fun _ => rfl)).set ⟨b, 10, none⟩ z10 (fun _ => rfl)
/-- Five of its cells are stored. -/
theorem five_bset {W : World} {b : Nat} {y0 y1 y2 y3 y4 y5 y6 y7 y8 y9 y10 : Value} (h : Blk W b 108 #[y0, y1, y2, y3, y4, y5, y6, y7, y8, y9, y10]) (z2 z3 z4 z5 z6 : Value) :
    Blk (((((W.setCell ⟨b, 2, none⟩ z2).setCell ⟨b, 3, none⟩ z3).setCell ⟨b, 4, none⟩ z4).setCell ⟨b, 5, none⟩ z5).setCell ⟨b, 6, none⟩ z6) b 108 #[y0, y1, z2, z3, z4, z5, z6, y7, y8, y9, y10] ∧
    Upd (fun i => i = b) W (((((W.setCell ⟨b, 2, none⟩ z2).setCell ⟨b, 3, none⟩ z3).setCell ⟨b, 4, none⟩ z4).setCell ⟨b, 5, none⟩ z5).setCell ⟨b, 6, none⟩ z6) := by
  refine ⟨?_, ?_⟩
  · simpa using ((((h.set 2 z2).set 3 z3).set 4 z4).set 5 z5).set 6 z6
  · exact (((((Upd.refl (fun i => i = b) W).set ⟨b, 2, none⟩ z2 (fun _ => rfl)).set ⟨b, 3, none⟩ z3 (fun _ => rfl)).set ⟨b, 4, none⟩ z4 (fun _ => rfl)).set ⟨b, 5, none⟩ z5 (fun _ => rfl)).set ⟨b, 6, none⟩ z6 (fun _ => rfl)

/- WalPlays: the reference's acts, from the middle of an act. -/
section
variable {w0 v1 : World} {bb gw g : Nat} {X S : Nat → Prop} {Dr D : DS} {Vr V : WS} {ls : List (List UInt8)} {A : Option Addr} {c : Nat} {B : Option Addr} {d : Nat} {LA : Option Addr} {lc : Nat}
/-- What is left to store. -/
def Due (w0 : World) (bb : Nat) (X S : Nat → Prop) (gw g : Nat) (Dr : DS) (Vr : WS) (D : DS) (V : WS) (ls : List (List UInt8)) (A : Option Addr) (c : Nat) (B : Option Addr) (d : Nat) (LA : Option Addr) (lc : Nat) (w' : World) : Prop :=
  ∀ W, Upd (fun i => i = bb) w' W → Blk W bb 108 (bCells g (some gw) D A c B d V LA ls.length lc) → WQ w0 W bb X S gw g Dr Vr D V ls A c B d LA lc
theorem WQ.k82 (q : WQ w0 v1 bb X S gw g Dr Vr D V ls A c B d LA lc) (kind : Nat) (Xa : Option Addr) (xc : Nat) (xs : List (List UInt8)) (W : World) (hb : Below v1.heap.size v1 W) (hX : Cells W Xa (strs xs)) (hx : ∀ l ∈ xs, l.length ≤ 1000) (hx2 : xs.length ≤ 100)
    (hl : D.logs.length ≤ 16) (hk : D.keep.length ≤ 1000000) (hsm : ∀ j (h : j < D.logs.length), D.logs[j].1.length ≤ 4194304 ∧ D.logs[j].2 ≤ D.logs[j].1.length) (hkd : kind = 0 ∨ kind = 1 ∧ xs = [] ∨ kind = 2) (hac : D.acts < 1000000000) (hab : 0 ≤ D.armed ∧ D.armed ≤ 9223372036854775807) (hls : ls.length ≤ 10000000) :
    Calls Try.prog 82 #[.agg #[.slice A D.logs.length c, .int .i64 (D.acts : Int), .bool D.down, .int .i64 D.armed, .slice B D.keep.length d], .agg #[.int .i64 V.log, .slice LA ls.length lc, .int .i64 (V.sure : Int), .bool V.dead], .int .i64 (kind : Int), .slice Xa xs.length xc] W
      fun e w' => ∃ A' c' B' d' LA' lc', e = .returned (.tuple #[.agg #[.slice A' (kD D V kind xs).logs.length c', .int .i64 ((kD D V kind xs).acts : Int), .bool (kD D V kind xs).down, .int .i64 (kD D V kind xs).armed, .slice B' (kD D V kind xs).keep.length d'], .agg #[.int .i64 (kV D V kind ls xs).log, .slice LA' (kLs D V kind ls xs).length lc', .int .i64 ((kV D V kind ls xs).sure : Int), .bool (kV D V kind ls xs).dead], .int .i64 (kE D V kind xs)]) ∧
        Below v1.heap.size v1 w' ∧ Due w0 bb X S gw g Dr Vr (kD D V kind xs) (kV D V kind ls xs) (kLs D V kind ls xs) A' c' B' d' LA' lc' w' := by
  refine (k82_calls A B c d D V LA lc ls kind Xa xc xs W (q.la.cells.below hb) (q.lb.cells.below hb) (q.ll.cells.below hb) hX hx hx2 hl hk hsm hkd hac hab hls).mono ?_
  rintro e w' ⟨A', c', B', d', LA', lc', rfl, ro, hL, oL⟩
  exact ⟨A', c', B', d', LA', lc', rfl, hb.trans (ro.below.mono hb.size), fun W9 hu hx => q.refd hb ro (kD_len D V kind xs).1 (.inr (kD_len D V kind xs).2.1) hL oL hu hx⟩
/-- The cells of the list are kept. -/
theorem WQ.same (q : WQ w0 v1 bb X S gw g Dr Vr D V ls A c B d LA lc) {W w' : World} {A' B' : Option Addr} {c' d' : Nat} {D' : DS} (hb : Below v1.heap.size v1 W) (ro : ROut W A B D' A' B' w') (hlen : D'.logs.length = D.logs.length) (hkb : (∀ ad, B' = some ad → W.heap.size ≤ ad.block) ∨ D'.keep = D.keep) : Due w0 bb X S gw g Dr Vr D' V ls A' c' B' d' LA lc w' :=
  fun W9 hu hx => q.refd hb ro hlen hkb ((q.ll.cells.below hb).below ro.below) (fun ad e => .inl ⟨rfl, e⟩) hu hx
theorem WQ.k75 (q : WQ w0 v1 bb X S gw g Dr Vr D V ls A c B d LA lc) (s : List UInt8) (W : World) (hb : Below v1.heap.size v1 W) (hs : s.length ≤ 1000000)
    (hl : D.logs.length ≤ 16) (hk : D.keep.length ≤ 1000000) (hsm : ∀ j (h : j < D.logs.length), D.logs[j].1.length ≤ 4194304 ∧ D.logs[j].2 ≤ D.logs[j].1.length) (hac : D.acts < 1000000000) (hab : 0 ≤ D.armed ∧ D.armed ≤ 9223372036854775807) :
    Calls Try.prog 75 #[.agg #[.slice A D.logs.length c, .int .i64 (D.acts : Int), .bool D.down, .int .i64 D.armed, .slice B D.keep.length d], .int .i64 0, .int .i64 1, .string (str s)] W
      fun e w' => ∃ A' c' B' d', e = .returned (.tuple #[.agg #[.slice A' (D.append 1 s).logs.length c', .int .i64 ((D.append 1 s).acts : Int), .bool (D.append 1 s).down, .int .i64 (D.append 1 s).armed, .slice B' (D.append 1 s).keep.length d'], .int .i64 (D.appErr 1 s)]) ∧
        Below v1.heap.size v1 w' ∧ Due w0 bb X S gw g Dr Vr (D.append 1 s) V ls A' c' B' d' LA lc w' := by
  refine (show Calls Try.prog 75 #[.agg #[.slice A D.logs.length c, .int .i64 (D.acts : Int), .bool D.down, .int .i64 D.armed, .slice B D.keep.length d], .int .i64 0, .int .i64 1, .string (str s)] W (RActed W A B (D.append 1 s) (D.appErr 1 s)) from ract_calls A B c d D 0 1 s W hl hk hsm hs (q.la.cells.below hb) (q.lb.cells.below hb) (.inl rfl) hac hab.1 hab.2).mono ?_
  rintro e w' ⟨A', c', B', d', rfl, ha, hb2, oa, ob, b2⟩
  exact ⟨A', c', B', d', rfl, hb.trans (b2.mono hb.size), q.same hb ⟨ha, hb2, oa, ob, b2⟩ (act_len _ _ _ _) (.inr (act_keep _ _ _ _))⟩
theorem WQ.k76 (q : WQ w0 v1 bb X S gw g Dr Vr D V ls A c B d LA lc) (n : Int) (K : Option Addr) (c5 : Nat) (ks : List Int) (W : World) (hb : Below v1.heap.size v1 W) (hK : Cells W K (ints ks)) (hks : ks.length ≤ 10) (hl : D.logs.length ≤ 16) (hk : D.keep.length ≤ 1000000) :
    Calls Try.prog 76 #[.agg #[.slice A D.logs.length c, .int .i64 (D.acts : Int), .bool D.down, .int .i64 D.armed, .slice B D.keep.length d], .int .i64 n, .slice K ks.length c5] W
      fun e w' => ∃ A' c' B' d', e = .returned (.agg #[.slice A' (D.arm n ks).logs.length c', .int .i64 ((D.arm n ks).acts : Int), .bool (D.arm n ks).down, .int .i64 (D.arm n ks).armed, .slice B' (D.arm n ks).keep.length d']) ∧
        Below v1.heap.size v1 w' ∧ Due w0 bb X S gw g Dr Vr (D.arm n ks) V ls A' c' B' d' LA lc w' := by
  refine (rarm_calls A B c d D n K c5 ks W hl hk (by omega) (q.la.cells.below hb) (q.lb.cells.below hb) hK).mono ?_
  rintro e w' ⟨A', c', B', d', rfl, rn⟩
  exact ⟨A', c', B', d', rfl, hb.trans (rn.below.mono hb.size), q.same hb (show ROut W A B (D.arm n ks) A' B' w' from rn.out hl A B D.acts D.down (max n 0)) rfl (.inl rn.new)⟩
theorem WQ.k77 (q : WQ w0 v1 bb X S gw g Dr Vr D V ls A c B d LA lc) (K : Option Addr) (c5 : Nat) (ks : List Int) (W : World) (hb : Below v1.heap.size v1 W) (hK : Cells W K (ints ks)) (hks : ks.length ≤ 10) (hl : D.logs.length ≤ 16) (hk : D.keep.length ≤ 1000000) (hsm : ∀ j (h : j < D.logs.length), D.logs[j].1.length ≤ 4194304 ∧ D.logs[j].2 ≤ D.logs[j].1.length) :
    Calls Try.prog 77 #[.agg #[.slice A D.logs.length c, .int .i64 (D.acts : Int), .bool D.down, .int .i64 D.armed, .slice B D.keep.length d], .slice K ks.length c5] W
      fun e w' => ∃ A' c' B' d', e = .returned (.agg #[.slice A' (D.crash ks).logs.length c', .int .i64 ((D.crash ks).acts : Int), .bool (D.crash ks).down, .int .i64 (D.crash ks).armed, .slice B' (D.crash ks).keep.length d']) ∧
        Below v1.heap.size v1 w' ∧ ∀ w2, Below w'.heap.size w' w2 → Due w0 bb X S gw g Dr Vr { D.crash ks with down := false } V ls A' c' B' d' LA lc w2 := by
  refine (rcrash_calls A B c d D K c5 ks W hl hk (by omega) hsm (q.la.cells.below hb) (q.lb.cells.below hb) hK).mono ?_
  rintro e w' ⟨A', c', B', d', rfl, rn⟩
  have hca : (D.crash ks).acts = D.acts := by unfold DS.crash; split <;> rfl
  obtain ⟨q1, q2, q3, q4, q5⟩ := rn.out (by rw [crash_len]; exact hl) A B 0 false 0
  refine ⟨A', c', B', d', by rw [crash_len, crash_keep, hca], hb.trans (rn.below.mono hb.size), fun w2 h2 => q.same hb ⟨q1.below h2, ?_, q3, q4, q5.trans (h2.mono q5.size)⟩ (crash_len _ _) (.inr (crash_keep _ _))⟩
  show Cells w2 B' (ints (D.crash ks).keep)
  rw [crash_keep]; exact q2.below h2
end
set_option maxHeartbeats 2000000 in
set_option maxRecDepth 100000 in
theorem darm0_calls (g : Nat) (S : Nat → Prop) (D : DS) (n : Int) (A : Option Addr) (n0 c0 : Nat) (ks : List Int) (w : World) (h : IsDisk w S g D) (hn : n0 = ks.length) (hnw : n ≤ 9223372036854775807)
    (hA : Cells w A (ints ks)) (hout : ∀ ad, A = some ad → ints ks ≠ [] → ¬ S ad.block) (hks : ks.length ≤ 1000000000) :
    Calls Try.prog 38 #[.pointer (some ⟨g, 0, none⟩), .int .i64 n, .slice A n0 c0] w fun e w' => e = .returned (.tuple #[]) ∧ IsDisk w' (fun i => S i ∨ w.heap.size ≤ i) g (D.arm n ks) ∧ Upd S w w' := by
  subst hn
  have hD := h.setArmed (max n 0) (by omega)
  have hu := upd_one (w := w) g 3 (.int .i64 (max n 0)) h.foot
  have hA1 : Cells (w.setCell ⟨g, 3, none⟩ (.int .i64 (max n 0))) A (ints ks) := by
    by_cases hne : ints ks = []
    · rw [hne]; exact Cells.nil _ _
    · exact hA.upd hu (fun ad e _ => hout ad e hne)
  have hSg := h.foot
  have e1 : (if n < 0 then 0 else n) = max n 0 := by split <;> omega
  have HE1 := Lib.hid e1
  obtain ⟨L, c, v, kv, hb, hl, hk, ho⟩ := h.at_
  have h3 : w.cell? ⟨g, 3, none⟩ = some (.int .i64 D.armed) := hb.cell 3 _ rfl
  have f3 := hb.free 3 none
  clear e1 h hb hl hk ho
  obtain ⟨L, c, v, kv, hb, hl, hk, ho⟩ := hD.at_
  simp only at hb hl hk
  obtain ⟨K, kc, rfl, _, _, _, _⟩ := hk.cells1
  go_enter Try.func38, Try.ntmps38
  go_upto_region 1 with fail
  rw [HE1.out]
  have hu1 : Upd S w _ := hu
  have hsz : w.heap.size ≤ (w.setCell ⟨g, 3, none⟩ (.int .i64 (max n 0))).heap.size := hu.size
  generalize w.setCell ⟨g, 3, none⟩ (.int .i64 (max n 0)) = W1 at hD hu hu1 hA1 hb hl hk hsz ⊢
  obtain ⟨W2, xs2, hcl, r2, g2⟩ := run_clear_row hk
  have q4 : W1.cell? ⟨g, 4, none⟩ = some (.slice K D.keep.length kc) := hb.cell 4 _ rfl
  have hne : some g ≠ (Value.slice K D.keep.length kc).ownBlock := fun e => (Typed.ne hb.typed (hk.typed g e.symm) (by decide)) rfl
  have hb2 := hb.kept g2 hne
  have hl2 : LogsAt W2 S L D.logs v := hl.same fun i hi hoo => g2.block i hi fun e => by
    rcases hoo with ⟨h1, _⟩ | ⟨h1, _⟩
    · exact (Typed.ne h1 (hk.typed i e.symm) (by decide)) rfl
    · exact (Typed.ne h1 (hk.typed i e.symm) (by decide)) rfl
  have hu2 : Upd S w W2 := hu1.trans (Upd.of_grown (S := S) g2 (fun i hi _ => ho i hi)) (fun i _ h => h)
  have hA2 := hA1.grown g2 (by
    by_cases hne : ints ks = []
    · exact .inl hne
    · exact .inr fun ad e e2 => hout ad e hne (ho _ e2.symm))
  have q5 : W2.cell? ⟨g, 4, none⟩ = some (.slice K D.keep.length kc) := hb2.cell 4 _ rfl
  have r3 := r2.empty
  have ho3 : (Value.slice K 0 0).ownBlock = (Value.slice K D.keep.length kc).ownBlock := by cases K <;> rfl
  have hty : ∀ k, (Value.slice K 0 0).ownBlock = some k → Typed W2 k 3 := fun k e => (r2.typed k (ho3.symm.trans e))
  have hD2 := Lib.hid (And.intro hb2 (And.intro hl2 (And.intro hu2 (And.intro ho (And.intro ho3 hty)))))
  have R3 := Lib.hid r3
  have HA2 := Lib.hid hA2
  have HARM := Lib.hid hD.small
  clear hD hu hu1 hA1 hb hl hk g2 r2 hne hb2 hl2 hu2 hA2 r3 ho3 hty hsz h3 f3 hA
  go_wp2_with (first | simp only [hcl] | with_reducible refine halt_dst 22 ?_)
  refine wpList_append_row rfl (.tmp 20) (.tmp 21) 60 rfl 0 3 (.int .i64 0) 1 8 Try.underlying60 Try.inf3 rfl (by decide) (.slice K 0 0) 0 [] rfl R3.out A ks.length c0 (ints ks) rfl (by rw [ints_length]; omega) HA2.out (ints_one ks) (by simp only [maxLen]; omega) (by omega) (Nat.zero_le _) ?_
  intro v' w' r' g' o'
  have hfin : w'.cell? ⟨g, 4, none⟩ = some (.slice K D.keep.length kc) ∧ w'.frozen? ⟨g, 4, none⟩ = false ∧ IsDisk (w'.setCell ⟨g, 4, none⟩ v') (fun i => S i ∨ w.heap.size ≤ i) g (D.arm n ks) ∧ Upd S w (w'.setCell ⟨g, 4, none⟩ v') := by
    obtain ⟨hb2, hl2, hu2, ho, ho3, hty⟩ := hD2.out
    have hne : some g ≠ (Value.slice K 0 0).ownBlock := fun e => (Typed.ne hb2.typed (hty g e.symm) (by decide)) rfl
    have hb3 := hb2.kept g' hne
    have hl3 : LogsAt w' S L D.logs v := hl2.same fun i hi hoo => g'.block i hi fun e => by
      rcases hoo with ⟨h1, _⟩ | ⟨h1, _⟩
      · exact (Typed.ne h1 (hty i e.symm) (by decide)) rfl
      · exact (Typed.ne h1 (hty i e.symm) (by decide)) rfl
    have hu3 : Upd S w w' := hu2.trans (Upd.of_grown (S := S) g' (fun i hi _ => ho i (ho3.symm.trans hi))) (fun i _ h => h)
    have hne2 : some g ≠ v'.ownBlock := by
      rcases o' with e | ⟨b, e, hb⟩
      · rw [e]; exact hne
      · rw [e]; intro e2; cases e2; have := hb2.lt; omega
    refine ⟨hb3.cell 4 _ rfl, hb3.free 4 none, ⟨⟨L, c, v, v', by simpa [DS.arm] using hb3.set 4 v', (hl3.mono (fun k h => .inl h)).kept (set_grown w' ⟨g, 4, none⟩ v') hb3.typed (by decide) (by decide), ?_, fun k hk => ?_⟩, .inl hSg, HARM.out, by simp only [DS.arm]; omega⟩, hu3.set _ _ (fun _ => hSg)⟩
    · have := r'.kept (set_grown w' ⟨g, 4, none⟩ v') (.inr (by simpa using Ne.symm hne2))
      simpa [DS.arm] using this
    · rcases o' with e | ⟨b, e, hb⟩
      · exact .inl (ho k (ho3.symm.trans (e.symm.trans hk)))
      · rw [e] at hk; cases hk; exact .inr (by have := hu2.size; omega)
  obtain ⟨k0, k1, k2, k3⟩ := hfin
  obtain ⟨A', c', rfl, _, _, _, _⟩ := r'.cells1
  simp only [Nat.zero_add] at k2 k3
  have K2 := Lib.hid k2
  have K3 := Lib.hid k3
  clear k2 k3 r' g' o' q4 q5 hcl
  go_wp2
  (try simp only [Exit.inBlock, Exit.then])
  refine bodyPost_end (results_none rfl _ _ _) rfl ?_
  exact ⟨rfl, K2.out, K3.out⟩
/-- Arm, with a list that lay there ahead of the disk. -/
theorem held_arm0 {w0 w : World} {S : Nat → Prop} {g : Nat} {D : DS} (h : Held w0 w S g D) (n : Int) (A : Option Addr) (m c0 : Nat) (ks : List Int) (hm : m = ks.length) (hn : n ≤ 9223372036854775807) (hA : Cells w0 A (ints ks)) (hbl : ks.length ≤ 1000000000) :
    Calls Try.prog 38 #[.pointer (some ⟨g, 0, none⟩), .int .i64 n, .slice A m c0] w fun e w' => e = .returned (.tuple #[]) ∧ ∃ S', Held w0 w' S' g (D.arm n ks) ∧ Grew S S' w w' :=
  (darm0_calls g _ D n A m c0 ks w h.disk hm hn (hA.below h.below) (fun ad e hne hs => by have h1 := hA.lt e hne; have := h.own _ hs; omega) hbl).mono (by
    rintro e w' ⟨rfl, hd, hu⟩
    exact ⟨rfl, h.step (Below.refl _ _) hd hu⟩)
/-- What is known of a disk and a list behind so many acts. -/
def Good (D : DS) (ls : List (List UInt8)) (j : Nat) : Prop := D.logs.length = 2 ∧ D.keep.length ≤ 10 ∧ D.acts ≤ 2 * j ∧ LBd D (10080 * j) ∧ ls.length ≤ 1000000 + 11 * j
theorem Good.k {D : DS} {V : WS} {ls xs : List (List UInt8)} {j kind : Nat} (h : Good D ls j) (hx : ∀ l ∈ xs, l.length ≤ 1000) (hx2 : xs.length ≤ 10) : Good (kD D V kind xs) (kLs D V kind ls xs) (j + 1) := by
  obtain ⟨h1, h2, h3, h4, h5⟩ := h
  obtain ⟨k1, k2, k3⟩ := kD_len D V kind xs
  have hf : (framesOf xs).length ≤ 10080 := by
    have h1 := framesOf_len 1000 xs hx
    have h3 := Nat.mul_le_mul_right (8 + 1000) hx2
    omega
  have hl := kLs_len (D := D) (V := V) (kind := kind) (ls := ls) (xs := xs)
  exact ⟨by omega, by rw [k2]; exact h2, by omega, (h4.k hf).mono (by omega), by omega⟩
theorem Good.open {D : DS} {ls ls' : List (List UInt8)} {j : Nat} (h : Good D ls j) (hl : ls'.length ≤ 1000000) : Good (openD D 1) ls' (j + 1) := by
  obtain ⟨h1, h2, h3, h4, h5⟩ := h
  obtain ⟨k1, k2, k3⟩ := openD_len D 1
  exact ⟨by omega, by rw [k2]; exact h2, by omega, (h4.open 1).mono (by omega), by omega⟩
theorem Good.app {D : DS} {ls : List (List UInt8)} {j : Nat} {s : List UInt8} (h : Good D ls j) (hs : s.length ≤ 1000) : Good (D.append 1 s) ls (j + 1) := by
  obtain ⟨h1, h2, h3, h4, h5⟩ := h
  have k3 := act_acts D 1 (D.appSize 1 s) (fun l => (l.1 ++ s, l.2))
  refine ⟨by unfold DS.append; rw [act_len]; exact h1, by unfold DS.append; rw [act_keep]; exact h2, by unfold DS.append; omega, h4.act _ _ _ (by omega) ?_, by omega⟩
  have := h4.log 1
  simp; omega
theorem Good.arm {D : DS} {ls : List (List UInt8)} {j : Nat} {n : Int} {ks : List Int} (h : Good D ls j) (hk : ks.length ≤ 10) : Good (D.arm n ks) ls (j + 1) := by
  obtain ⟨h1, h2, h3, h4, h5⟩ := h
  refine ⟨h1, hk, ?_, fun l hl => Nat.le_trans (h4 l hl) (by omega), by omega⟩
  show D.acts ≤ _
  omega
theorem Good.crash {D : DS} {ls : List (List UInt8)} {j : Nat} {ks : List Int} (h : Good D ls j) : Good { D.crash ks with down := false } ls j := by
  obtain ⟨h1, h2, h3, h4, h5⟩ := h
  have hca : (D.crash ks).acts = D.acts := by unfold DS.crash; split <;> rfl
  exact ⟨by show (D.crash ks).logs.length = 2; rw [crash_len]; exact h1, by show (D.crash ks).keep.length ≤ 10; rw [crash_keep]; exact h2, by show (D.crash ks).acts ≤ _; omega, h4.crash ks, h5⟩
theorem Good.mono {D : DS} {ls : List (List UInt8)} {j j' : Nat} (h : Good D ls j) (hj : j ≤ j') : Good D ls j' := by
  obtain ⟨h1, h2, h3, h4, h5⟩ := h
  exact ⟨h1, h2, by omega, h4.mono (by omega), by omega⟩
theorem Good.bounds {D : DS} {ls : List (List UInt8)} {j : Nat} (h : Good D ls j) (hj : j ≤ 98) : D.logs.length ≤ 16 ∧ D.keep.length ≤ 1000000 ∧ D.acts < 1000000000 ∧ (D.log 1).1.length ≤ 1000000 ∧ ls.length ≤ 10000000 := by
  obtain ⟨h1, h2, h3, h4, h5⟩ := h
  have := h4.log 1
  exact ⟨by omega, by omega, by omega, by omega, by omega⟩
theorem sets_one (s : List UInt8) (w : World) : Cells (w.alloc (.cells #[.string (str s)] 9)).drew (some ⟨w.heap.size, 0, none⟩) (strs [s]) :=
  ⟨fun j v hj => ⟨_, rfl, by
    have hj0 : j = 0 := by have := (List.getElem?_eq_some_iff.1 hj).1; simp [strs] at this; omega
    subst hj0
    simp [strs] at hj; subst hj
    exact ((Blk.new w 9 #[.string (str s)]).below (bdrew (Below.refl _ _))).cell 0 _ rfl⟩, by simp [strs]⟩

/- WalPlays: acts among the arguments, opened. -/
section
open Go.ChangeShapes Go.WideShapes Go.ChangeAt Go.RowKit
/-- An act on a wal: kind, n, text, list, and where the list lies. -/
structure Act4 where
  kind : Int
  n : Int
  s : List UInt8
  K : Option Addr
  m : Nat
  c : Nat
  ks : List Int
instance : Inhabited Act4 := ⟨⟨0, 0, [], none, 0, 0, []⟩⟩
def act4 (a : Act4) : List Value := [.int .i64 a.kind, .int .i64 a.n, .string (str a.s), .slice a.K a.m a.c]
def ac4s (l : List Act4) : List Value := l.flatMap act4
theorem ac4s_length (l : List Act4) : (ac4s l).length = l.length * 4 := by
  induction l with
  | nil => rfl
  | cons o l ih => rw [show ac4s (o :: l) = act4 o ++ ac4s l from rfl, List.length_append, ih]; simp [act4]; omega
theorem ac4s_get (l : List Act4) (i : Nat) (h : i < l.length) : (ac4s l)[i * 4]? = some (.int .i64 (l[i]).kind) ∧ (ac4s l)[i * 4 + 1]? = some (.int .i64 (l[i]).n) ∧ (ac4s l)[i * 4 + 2]? = some (.string (str (l[i]).s)) ∧ (ac4s l)[i * 4 + 3]? = some (.slice (l[i]).K (l[i]).m (l[i]).c) := by
  induction l generalizing i with
  | nil => simp at h
  | cons v vs ih =>
    rw [show ac4s (v :: vs) = act4 v ++ ac4s vs from rfl]
    cases i with
    | zero => exact ⟨rfl, rfl, rfl, rfl⟩
    | succ i =>
      have hi : i < vs.length := by simpa using h
      obtain ⟨h0, h1, h2, h3⟩ := ih i hi
      have e : ∀ r, (act4 v ++ ac4s vs)[(i + 1) * 4 + r]? = (ac4s vs)[i * 4 + r]? := fun r => by
        rw [List.getElem?_append_right (by simp [act4]; omega)]
        congr 1
        simp [act4]; omega
      simp only [List.getElem_cons_succ]
      exact ⟨(e 0).trans h0, (e 1).trans h1, (e 2).trans h2, (e 3).trans h3⟩
theorem Cells.act4 {w : World} {A : Option Addr} {l : List Act4} (h : Cells w A (ac4s l)) (k : Nat) (hk : k < l.length) :
    ∃ ad, A = some ad ∧ w.cell? (ad.add (k * 4)) = some (.int .i64 (l[k]).kind) ∧ w.cell? ⟨(ad.add (k * 4)).block, (ad.add (k * 4)).off + 1, none⟩ = some (.int .i64 (l[k]).n) ∧
      w.cell? ⟨(ad.add (k * 4)).block, (ad.add (k * 4)).off + 2, none⟩ = some (.string (str (l[k]).s)) ∧ w.cell? ⟨(ad.add (k * 4)).block, (ad.add (k * 4)).off + 3, none⟩ = some (.slice (l[k]).K (l[k]).m (l[k]).c) := by
  obtain ⟨g0, g1, g2, g3⟩ := ac4s_get l k hk
  obtain ⟨ad, rfl, hc⟩ := h.at_ (by rw [ac4s_length]; omega)
  refine ⟨ad, rfl, hc _ _ g0, ?_, ?_, ?_⟩
  · have := hc _ _ g1; rwa [add_off _ _ _ (by decide)] at this
  · have := hc _ _ g2; rwa [add_off _ _ _ (by decide)] at this
  · have := hc _ _ g3; rwa [add_off _ _ _ (by decide)] at this
/-- What is known of an act. -/
def GoodAct4 (w : World) (a : Act4) : Prop := a.m = a.ks.length ∧ a.m ≤ a.c ∧ Cells w a.K (ints a.ks) ∧ a.n ≤ 9223372036854775807
theorem trod_struct4 {P : Program} {H : Type} {enc : TypeId × Value → H} {w : World} {base : Nat} {spare : Nat → Bool} {held : Bool} {t : TypeId} {f0 f1 f2 f3 : Field} {fuel : Nat} {cs : List Value} {x : DataW H × List MemPlace} (ht : P.underlying t = some (.struct #[f0, f1, f2, f3])) (h : DataW.trod enc P w base spare held fuel t cs = some x) :
    ∃ y0 y1 y2 y3 n, cs.length = P.cellsOf t ∧ DataW.trod enc P w base spare held n f0.type ((cs.drop f0.offset).take (P.cellsOf f0.type)) = some y0 ∧
      DataW.trod enc P w base spare held n f1.type ((cs.drop f1.offset).take (P.cellsOf f1.type)) = some y1 ∧ DataW.trod enc P w base spare held n f2.type ((cs.drop f2.offset).take (P.cellsOf f2.type)) = some y2 ∧
      DataW.trod enc P w base spare held n f3.type ((cs.drop f3.offset).take (P.cellsOf f3.type)) = some y3 := by
  obtain ⟨xs, n, _, _, hl, hlen, hf⟩ := DataW.trod_struct ht h
  match xs, hlen with
  | [y0, y1, y2, y3], _ => exact ⟨y0, y1, y2, y3, n, hl, by simpa using hf 0 f0 rfl, by simpa using hf 1 f1 rfl, by simpa using hf 2 f2 rfl, by simpa using hf 3 f3 rfl⟩
theorem i64_hi {n : Int} (h : (Lit.int .i64 n).wf = true) : n ≤ 9223372036854775807 := by
  simp [Lit.wf] at h
  exact h.2
theorem openFour {P : Program} {H : Type} {enc : TypeId × Value → H} {W : World} {base : Nat} {spare : Nat → Bool} {held : Bool} {e ti : TypeId} {f0 f1 f2 f3 : Field}
    (hu : P.underlying e = some (.struct #[f0, f1, f2, f3])) (h0 : P.underlying f0.type = some (.int .i64)) (h1 : P.underlying f1.type = some (.int .i64)) (h2 : P.underlying f2.type = some .string) (h3 : P.underlying f3.type = some (.slice ti)) (hi : P.underlying ti = some (.int .i64)) (hci : P.cellsOf ti = 1)
    (hc : P.cellsOf e = 4) (hc0 : P.cellsOf f0.type = 1) (hc1 : P.cellsOf f1.type = 1) (hc2 : P.cellsOf f2.type = 1) (hc3 : P.cellsOf f3.type = 1)
    (ho0 : f0.offset = 0) (ho1 : f1.offset = 1) (ho2 : f2.offset = 2) (ho3 : f3.offset = 3) (n : Nat) (cs : List Value) (x : DataW H × List MemPlace) (h : DataW.trod enc P W base spare held n e cs = some x) :
    ∃ a : Act4, cs = act4 a ∧ GoodAct4 W a := by
  obtain ⟨y0, y1, y2, y3, m, hl, g0, g1, g2, g3⟩ := trod_struct4 hu h
  rw [hc0, ho0] at g0
  rw [hc1, ho1] at g1
  rw [hc2, ho2] at g2
  rw [hc3, ho3] at g3
  obtain ⟨a, ha, _, _⟩ := DataW.trod_int h0 g0
  obtain ⟨b, hb, _, hw⟩ := DataW.trod_int h1 g1
  obtain ⟨s, hs, _, _⟩ := DataW.trod_string h2 g2
  obtain ⟨K, len, cap, ks, hk, e1, e2, e3⟩ := ints_at h3 hi hci _ _ _ g3
  obtain ⟨l, rfl⟩ := str_all s
  rw [hc] at hl
  match cs, hl with
  | [p, q, u, v], _ =>
    simp at ha hb hs hk
    subst ha hb hs hk
    exact ⟨⟨a, b, l, K, len, cap, ks⟩, rfl, e1, e2, e3, i64_hi hw⟩
set_option maxRecDepth 100000 in
theorem openActs4 {H : Type} {enc : TypeId × Value → H} {W : World} {base : Nat} {spare : Nat → Bool} {held : Bool} {a : Option Addr} {len cap : Nat} {d : DataW H} {ps : List MemPlace}
    (h : DataW.Trod enc Try.prog W base spare held 103 (.slice a len cap) d ps) (hs : ∀ elems sp, d = .slice elems sp → (elems.length + sp.length) * Try.prog.bytesOf 92 ≤ reachBytes) :
    ∃ l : List Act4, len = l.length ∧ Cells W a (ac4s l) ∧ ∀ x ∈ l, GoodAct4 W x :=
  openFlat act4 4 (GoodAct4 W) (fun _ => rfl) Try.underlying103 (by kernel_rfl)
    (fun n cs x hx => openFour Try.underlying92 Try.underlying3 Try.underlying3 Try.underlying9 Try.underlying60 Try.underlying3 (by kernel_rfl) (by kernel_rfl) (by kernel_rfl) (by kernel_rfl) (by kernel_rfl) (by kernel_rfl) rfl rfl rfl rfl n cs x hx)
    (fun el sp e => by
      have h1 := hs el sp e
      have h2 := reachBytes_lt
      have h3 : Try.prog.bytesOf 92 = 56 := by kernel_rfl
      rw [h3] at h1
      omega) h
end
end Go.Proofs.Ytimjadjopemefaa
