/- DiskPlays: the walk of does. -/
import Derived.Test.YtimjadjopemefaaRdb
set_option linter.unusedVariables false
set_option linter.unusedSimpArgs false
namespace Go.Proofs.Ytimjadjopemefaa
open Go.RowKit

/-- An act on both. -/
def stepP (D : DS) (kd lg n : Int) (s : List UInt8) (ks : List Int) : DS :=
  if kd = 0 then D.append lg s else if kd = 1 then D.sync lg else if kd = 2 then D.swap lg s else if kd = 4 then D.arm n ks else if kd = 5 then D.crash ks else if kd = 6 then { D with down := false } else D
def rdVal (D : DS) (A : Option Addr) (c : Nat) (B : Option Addr) (d : Nat) : Value := .agg #[.slice A D.logs.length c, .int .i64 (D.acts : Int), .bool D.down, .int .i64 D.armed, .slice B D.keep.length d]

/-- The boxes of does. -/
theorem does_boxes (w : World) (cs xs : Array Value) :
    ∃ W0, W0 = ((w.alloc (.cells cs 70)).alloc (.cells xs 62)).alloc (.cells #[.slice none 0 0, .int .i64 0, .bool false, .int .i64 0, .slice none 0 0] 70) ∧ Below w.heap.size w W0 ∧ W0.heap.size = w.heap.size + 3 ∧ Blk W0 w.heap.size 70 cs ∧ Blk W0 (w.heap.size + 1) 62 xs ∧ Blk W0 (w.heap.size + 2) 70 #[.slice none 0 0, .int .i64 0, .bool false, .int .i64 0, .slice none 0 0] := by
  refine ⟨_, rfl, (((Below.refl _ _).alloc (Nat.le_refl _) _).alloc (by simp) _).alloc (by simp; omega) _, by simp, ((Blk.new w 70 _).below (below_one _ _)).below (below_one _ _), ?_, ?_⟩
  · have := (Blk.new (w.alloc (.cells cs 70)) 62 xs).below (below_one _ (.cells #[.slice none 0 0, .int .i64 0, .bool false, .int .i64 0, .slice none 0 0] 70))
    simpa using this
  · have := Blk.new ((w.alloc (.cells cs 70)).alloc (.cells xs 62)) 70 #[.slice none 0 0, .int .i64 0, .bool false, .int .i64 0, .slice none 0 0]
    simpa using this

/-- append of a list of numbers to a new row. -/
theorem step_keep {ops : Array Oper} {o : Oper} {a : Act} {K : Act → World → Prop} {Q : Exit → Act → World → Prop} {E : Prop} {W0 w : World} {gb : Nat} {M : Option Addr} {ks : List Int} {c5 : Nat} (hgd : o.guard = none) (s x : Operand)
    (ho : o.op = .call { callee := .builtin .append, args := #[s, x], argTypes := #[60, 60] }) (hs : a.eval s = .slice (some ⟨gb, 0, none⟩) 0 0) (hx : a.eval x = .slice M ks.length c5)
    (hr : Row w W0.heap.size 3 1 (.slice (some ⟨gb, 0, none⟩) 0 0) 0 []) (hM : Cells w M (ints ks)) (hks : ks.length ≤ 20) (hb : Below W0.heap.size W0 w)
    (h : ∀ A9 c9 w', Row w' W0.heap.size 3 1 (.slice A9 ks.length c9) ks.length (ints ks) → Below W0.heap.size W0 w' → (∀ g l, Bytes w g l → Bytes w' g l) → K (a.put o.dst (.slice A9 ks.length c9)) w') :
    if Region.wanted o (yielded ops a.tmps) = true then Oper.wp Try.prog o a w K Q else E := by
  refine step_append_row hgd s x 60 ho W0.heap.size 3 (.int .i64 0) 1 8 Try.underlying60 Try.inf3 rfl (by decide) _ 0 [] hs hr M ks.length c5 (ints ks) hx (by rw [ints_length]; omega) hM (ints_one _) (by simp only [maxLen]; omega) (by omega) hb.size ?_
  intro v' w' r' g' _
  have r'' : Row w' W0.heap.size 3 1 v' ks.length (ints ks) := by simpa using r'
  obtain ⟨A9, c9, rfl, _, _, _, _⟩ := r''.cells1
  refine h A9 c9 w' r'' (hb.grown g' hb.size (fun k hk => by have := (hr.lt k hk).1; omega)) (fun g l hB => ?_)
  by_cases hg : (some g : Option Nat) = (Value.slice (some ⟨gb, 0, none⟩) 0 0).ownBlock
  · obtain ⟨cur, fr, hh, _⟩ := hB.holds
    obtain ⟨cs, fr2, hh2⟩ := hr.typed g hg.symm
    rw [hh] at hh2
    injection hh2 with hh2
    injection hh2 with _ h2
    cases h2
  · exact hB.kept (g'.block g hB.lt hg)

set_option maxHeartbeats 8000000 in
set_option maxRecDepth 100000 in
theorem pdoes_calls (w0 w : World) (S : Nat → Prop) (g : Nat) (D : DS) (A : Option Addr) (c : Nat) (B : Option Addr) (d : Nat) (kd lg n : Int) (s : List UInt8) (K : Option Addr) (m c5 : Nat) (ks : List Int) (h : PD w0 w S g D A B) (hm : m = ks.length) (hK : Cells w0 K (ints ks))
    (hs : s.length ≤ 2000) (hks : ks.length ≤ 20) (hl : D.logs.length ≤ 16) (hk : D.keep.length ≤ 1000000) (hn : n ≤ 9223372036854775807) (hac : D.acts < 1000000000) :
    Calls Try.prog 45 #[.pointer (some ⟨g, 0, none⟩), .agg #[.slice A D.logs.length c, .int .i64 (D.acts : Int), .bool D.down, .int .i64 D.armed, .slice B D.keep.length d], .agg #[.int .i64 kd, .int .i64 lg, .int .i64 n, .string (str s), .slice K m c5]] w fun e w' =>
      ∃ A' c' B' d' S', e = .returned (.tuple #[rdVal (stepP D kd lg n s ks) A' c' B' d', .bool true]) ∧ PD w0 w' S' g (stepP D kd lg n s ks) A' B' ∧ Grew S S' w w' ∧ (∀ ad, A' = some ad → lgs (stepP D kd lg n s ks).logs ≠ [] → (A = some ad ∧ lgs D.logs ≠ []) ∨ w.heap.size ≤ ad.block) ∧ (∀ ad, B' = some ad → ints (stepP D kd lg n s ks).keep ≠ [] → (B = some ad ∧ ints D.keep ≠ []) ∨ w.heap.size ≤ ad.block) := by
  subst hm
  obtain ⟨W0, hW0, b0, sz, n0, n1, n2⟩ := does_boxes w #[.slice A D.logs.length c, .int .i64 (D.acts : Int), .bool D.down, .int .i64 D.armed, .slice B D.keep.length d] #[.int .i64 kd, .int .i64 lg, .int .i64 n, .string (str s), .slice K ks.length c5]
  have H := Lib.hid h
  have HK := Lib.hid hK
  have HW0 := Lib.hid hW0
  have B0 := Lib.hid b0
  have N0 := Lib.hid n0
  have N1 := Lib.hid n1
  have N2 := Lib.hid n2
  have SZ := Lib.hid sz
  have HL := Lib.hid hl
  have HKL := Lib.hid hk
  have HKS := Lib.hid hks
  have HS := Lib.hid hs
  clear h hK hW0 b0 sz n0 n1 n2 hl hk hks hs
  go_enter Try.func45, Try.ntmps45
  go_upto_region 1 with fail
  rw [← HW0.out]
  go_cut [8, 9] from 19 to 25 (fun s8 s9 wx => ∃ bb c8 A9 c9, s8 = .slice (some ⟨bb, 0, none⟩) s.length c8 ∧ s9 = .slice A9 ks.length c9 ∧ Bytes wx bb s ∧ W0.heap.size ≤ bb ∧ Row wx W0.heap.size 3 1 (.slice A9 ks.length c9) ks.length (ints ks) ∧ Below W0.heap.size W0 wx)
  case first =>
    have kc := fun (w : World) => Lib.run_convert_string_bytes (P := Try.prog) w 9 22 5 (str s) Try.underlying9 Try.underlying22 Try.underlying5
    have FIVE := Lib.hid (show ∀ W, Below W0.heap.size W0 W → W.cell? ⟨w.heap.size + 1, 3, none⟩ = some (.string (str s)) ∧ W.cell? ⟨w.heap.size + 1, 4, none⟩ = some (.slice K ks.length c5) from fun W hb => ⟨(N1.out.below hb).cell 3 _ rfl, (N1.out.below hb).cell 4 _ rfl⟩)
    have CK := Lib.hid (show ∀ W, Below W0.heap.size W0 W → Cells W K (ints ks) from fun W hb => HK.out.below (H.out.held.below.trans ((B0.out.trans (hb.mono B0.out.size)).mono H.out.held.below.size)))
    have hbd : Below W0.heap.size W0 W0.drew := bdrew (Below.refl _ _)
    obtain ⟨q3, q4⟩ := FIVE.out W0 (Below.refl _ _)
    have KB := Lib.hid (show ∀ W, Below W0.heap.size W0 W → Below W0.heap.size W0 (Lib.bytesWorld W 5 (str s)) from fun W hb => hb.trans ((bytesWorld_below W 5 (str s)).mono hb.size))
    have KA := Lib.hid (show ∀ W o, Below W0.heap.size W0 W → Below W0.heap.size W0 (W.alloc o) from fun W o hb => hb.alloc hb.size o)
    have hba : Below W0.heap.size W0 ((Lib.bytesWorld W0.drew 5 (str s)).alloc (.cells #[] 3)) := KA.out _ _ (KB.out _ hbd)
    have hbb : Below W0.heap.size W0 (Lib.bytesWorld (W0.alloc (.cells #[] 3)).drew 5 (str s)) := KB.out _ (bdrew (KA.out _ _ (Below.refl _ _)))
    have hbc : Below W0.heap.size W0 (W0.alloc (.cells #[] 3)).drew := bdrew (KA.out _ _ (Below.refl _ _))
    have HRA := Lib.hid (row_new (Lib.bytesWorld W0.drew 5 (str s)) W0.heap.size 3 1 (KB.out _ hbd).size)
    have HRC := Lib.hid ((row_new W0 W0.heap.size 3 1 (Nat.le_refl _)).below (bdrew (Below.refl _ _)))
    have HRB := Lib.hid (((row_new W0 W0.heap.size 3 1 (Nat.le_refl _)).below (bdrew (Below.refl _ _))).below (bytesWorld_below (W0.alloc (.cells #[] 3)).drew 5 (str s)))
    have HBA := Lib.hid (show Bytes ((Lib.bytesWorld W0.drew 5 (str s)).alloc (.cells #[] 3)) W0.heap.size s from (bytesWorld_bytes W0.drew s).kept ((below_one _ _).block _ (bytesWorld_bytes W0.drew s).lt))
    have HBB := Lib.hid (show Bytes (Lib.bytesWorld (W0.alloc (.cells #[] 3)).drew 5 (str s)) (W0.heap.size + 1) s by have := bytesWorld_bytes (W0.alloc (.cells #[] 3)).drew s; simpa using this)
    obtain ⟨qa3, qa4⟩ := FIVE.out _ hba
    obtain ⟨qb3, qb4⟩ := FIVE.out _ hbb
    obtain ⟨qc3, qc4⟩ := FIVE.out _ hbc
    obtain ⟨qd3, qd4⟩ := FIVE.out _ (KB.out _ hbd)
    obtain ⟨qe3, qe4⟩ := FIVE.out _ hbd
    go_region_law ((first
        | (refine step_keep (W0 := W0) (w := (Lib.bytesWorld W0.drew 5 (str s)).alloc (.cells #[] 3)) (gb := (Lib.bytesWorld W0.drew 5 (str s)).heap.size) rfl (.tmp 22) (.tmp 24) rfl rfl rfl HRA.out (CK.out _ hba) HKS.out hba ?_; rintro A9 c9 w9 r9 b9 y9; obtain ⟨q93, q94⟩ := FIVE.out _ b9)
        | (refine step_keep (W0 := W0) (w := Lib.bytesWorld (W0.alloc (.cells #[] 3)).drew 5 (str s)) (gb := W0.heap.size) rfl (.tmp 22) (.tmp 24) rfl rfl rfl HRB.out (CK.out _ hbb) HKS.out hbb ?_; rintro A9 c9 w9 r9 b9 y9; obtain ⟨q93, q94⟩ := FIVE.out _ b9)
        | (refine step_keep (W0 := W0) (w := (W0.alloc (.cells #[] 3)).drew) (gb := W0.heap.size) rfl (.tmp 22) (.tmp 24) rfl rfl rfl HRC.out (CK.out _ hbc) HKS.out hbc ?_; rintro A9 c9 w9 r9 b9 y9; obtain ⟨q93, q94⟩ := FIVE.out _ b9)))
    all_goals
      go_wp2_with fail
      go_meet
      first
        | exact ⟨W0.heap.size, _, A9, c9, by rw [str_size], rfl, y9 _ _ HBA.out, Nat.le_refl _, r9, b9⟩
        | exact ⟨W0.heap.size + 1, _, A9, c9, by rw [str_size], rfl, y9 _ _ HBB.out, Nat.le_succ _, r9, b9⟩
        | exact ⟨w9.heap.size, _, A9, c9, by rw [str_size], rfl, bytesWorld_bytes w9 s, b9.size, r9.below (bytesWorld_below w9 5 (str s)), KB.out _ b9⟩
  case rest =>
    obtain ⟨bb, c8, A9, c9, rfl, rfl, hB, hbb, hR, bw⟩ := hcut
    obtain ⟨w2, rfl⟩ : ∃ x, x = wc := ⟨_, rfl⟩
    have hz := SZ.out
    have bwc : Below w.heap.size w w2 := B0.out.trans (bw.mono B0.out.size)
    have n0 := N0.out.below bw
    have n1 := N1.out.below bw
    have n2 := N2.out.below bw
    have hbl := hB.lt
    have BOX := Lib.hid (show ∀ W, Upd S w2 W → Blk W w.heap.size 70 #[.slice A D.logs.length c, .int .i64 (D.acts : Int), .bool D.down, .int .i64 D.armed, .slice B D.keep.length d] ∧ Blk W (w.heap.size + 1) 62 #[.int .i64 kd, .int .i64 lg, .int .i64 n, .string (str s), .slice K ks.length c5] from
      fun W hu => ⟨n0.upd hu (fun hs => by have := (H.out.held.own _ hs).2; omega), n1.upd hu (fun hs => by have := (H.out.held.own _ hs).2; omega)⟩)
    have BWC := Lib.hid bwc
    have LT := Lib.hid (show w.heap.size < w2.heap.size by have := bw.size; omega)
    have HB := Lib.hid hB
    have HBB := Lib.hid hbb
    obtain ⟨A9', c9', e9, _, _, hrc, hrb⟩ := hR.cells1
    cases e9
    have HRC := Lib.hid hrc
    have HKO := Lib.hid (show ∀ ad, A9 = some ad → w.heap.size ≤ ad.block from fun ad e => by have := (hrb ad e).1; omega)
    have HR := Lib.hid hR
    have N2 := Lib.hid n2
    have CA := Lib.hid (show ∀ W, Upd S w2 W → Cells W A (lgs D.logs) ∧ Cells W B (ints D.keep) from fun W hu => ⟨((H.out.la.later bwc).upd hu H.out.la.out).cells, ((H.out.lb.later bwc).upd hu H.out.lb.out).cells⟩)
    obtain ⟨y0, y1, y2, y3, y4⟩ := (blk5 n1).1
    clear hrc hrb hB hbb hR bw bwc n0 n1 n2 hbl hz HW0 N0 N1
    go_upto_block 0 with fail
    go_cut [10, 11] from 12 to 138 (fun s10 s11 wx => ∃ E A' c' B' d' S', s10 = .int .i64 E ∧ s11 = .int .i64 E ∧ Stepped w0 w w2 wx S S' g D (stepP D kd lg n s ks) A B A' B' ∧
      Blk wx w.heap.size 70 #[.slice A' (stepP D kd lg n s ks).logs.length c', .int .i64 ((stepP D kd lg n s ks).acts : Int), .bool (stepP D kd lg n s ks).down, .int .i64 (stepP D kd lg n s ks).armed, .slice B' (stepP D kd lg n s ks).keep.length d'] ∧ Upd (fun i => S i ∨ i = w.heap.size) w2 wx)
    case first =>
      by_cases k0 : kd = 0
      · have hkb : (kd == 0) = true := by simpa using k0
        have HSP := Lib.hid (show stepP D kd lg n s ks = D.append lg s by simp [stepP, k0])
        have HRA := Lib.hid (show ∀ W, Cells W A (lgs D.logs) → Cells W B (ints D.keep) → Calls Try.prog 75 #[.agg #[.slice A D.logs.length c, .int .i64 (D.acts : Int), .bool D.down, .int .i64 D.armed, .slice B D.keep.length d], .int .i64 0, .int .i64 lg, .string (str s)] W (RActed W A B (D.append lg s) (D.appErr lg s)) from
          fun W h1 h2 => ract_calls A B c d D 0 lg s W HL.out HKL.out H.out.held.disk.small (by have := HS.out; simp; try omega) h1 h2 (.inl rfl) hac H.out.held.disk.armed.1 H.out.held.disk.armed.2)
        clear k0
        go_wp2_with fail
        refine (held_append H.out.held BWC.out lg _ s.length c8 s rfl (HB.out.cells (by have := HS.out; omega)) (fun ad e => by cases e; exact .inr (Nat.le_trans B0.out.size HBB.out)) (by have := HS.out; omega) hac).mono ?_
        rintro e v1 ⟨rfl, S1, h1, g1⟩
        clear y0 y1 y2 y3 y4
        obtain ⟨m0, m1⟩ := BOX.out v1 g1.upd
        obtain ⟨x0, x1, x2, x3, x4⟩ := (blk5 m0).1
        obtain ⟨y0, y1, y2, y3, y4⟩ := (blk5 m1).1
        have G1 := Lib.hid g1
        have H1 := Lib.hid h1
        have M0 := Lib.hid m0
        clear g1 h1 m0 m1
        go_wp2_with fail
        refine (HRA.out v1 (CA.out v1 G1.out.upd).1 (CA.out v1 G1.out.upd).2).mono ?_
        rintro e v2 ⟨A', c', B', d', rfl, ha, hb, oa, ob, b2⟩
        have RO := Lib.hid (show ROut v1 A B (D.append lg s) A' B' v2 from ⟨ha, hb, oa, ob, b2⟩)
        clear ha hb oa ob b2
        have m2 := M0.out.below RO.out.below
        have M2 := Lib.hid m2
        clear x0 x1 x2 x3 x4 y0 y1 y2 y3 y4
        obtain ⟨⟨x0, x1, x2, x3, x4⟩, f0, f1, f2, f3, f4⟩ := blk5 m2
        clear m2
        go_wp2_with fail
        go_meet
        rw [HSP.out]
        exact ⟨_, A', c', B', d', S1, rfl, rfl, arm_done H.out H.out.held.below BWC.out H1.out G1.out RO.out (act_len _ _ _ _) (.inr (act_keep _ _ _ _)) LT.out M2.out _ _ _ _ _⟩
      · have hkb0 : (kd == 0) = false := by simpa using k0
        by_cases k1 : kd = 1
        · have hkb : (kd == 1) = true := by simpa using k1
          have HSP := Lib.hid (show stepP D kd lg n s ks = D.sync lg by simp [stepP, k1])
          have HRA := Lib.hid (show ∀ W, Cells W A (lgs D.logs) → Cells W B (ints D.keep) → Calls Try.prog 75 #[.agg #[.slice A D.logs.length c, .int .i64 (D.acts : Int), .bool D.down, .int .i64 D.armed, .slice B D.keep.length d], .int .i64 1, .int .i64 lg, .string (str [])] W (RActed W A B (D.sync lg) (D.actErr lg 0)) from
            fun W h1 h2 => ract_calls A B c d D 1 lg [] W HL.out HKL.out H.out.held.disk.small (by have := HS.out; simp; try omega) h1 h2 (.inr (.inl ⟨rfl, rfl⟩)) hac H.out.held.disk.armed.1 H.out.held.disk.armed.2)
          clear k1
          go_wp2_with fail
          refine (held_sync (H.out.held.later BWC.out) lg hac).mono ?_
          rintro e v1 ⟨rfl, S1, h1, g1⟩
          clear y0 y1 y2 y3 y4
          obtain ⟨m0, m1⟩ := BOX.out v1 g1.upd
          obtain ⟨x0, x1, x2, x3, x4⟩ := (blk5 m0).1
          obtain ⟨y0, y1, y2, y3, y4⟩ := (blk5 m1).1
          have G1 := Lib.hid g1
          have H1 := Lib.hid h1
          have M0 := Lib.hid m0
          clear g1 h1 m0 m1
          go_wp2_with fail
          refine (HRA.out v1 (CA.out v1 G1.out.upd).1 (CA.out v1 G1.out.upd).2).mono ?_
          rintro e v2 ⟨A', c', B', d', rfl, ha, hb, oa, ob, b2⟩
          have RO := Lib.hid (show ROut v1 A B (D.sync lg) A' B' v2 from ⟨ha, hb, oa, ob, b2⟩)
          clear ha hb oa ob b2
          have m2 := M0.out.below RO.out.below
          have M2 := Lib.hid m2
          clear x0 x1 x2 x3 x4 y0 y1 y2 y3 y4
          obtain ⟨⟨x0, x1, x2, x3, x4⟩, f0, f1, f2, f3, f4⟩ := blk5 m2
          clear m2
          go_wp2_with fail
          go_meet
          rw [HSP.out]
          exact ⟨_, A', c', B', d', S1, rfl, rfl, arm_done H.out H.out.held.below BWC.out H1.out G1.out RO.out (act_len _ _ _ _) (.inr (act_keep _ _ _ _)) LT.out M2.out _ _ _ _ _⟩
        · have hkb1 : (kd == 1) = false := by simpa using k1
          by_cases k2 : kd = 2
          · have hkb : (kd == 2) = true := by simpa using k2
            have HSP := Lib.hid (show stepP D kd lg n s ks = D.swap lg s by simp [stepP, k2])
            have HRA := Lib.hid (show ∀ W, Cells W A (lgs D.logs) → Cells W B (ints D.keep) → Calls Try.prog 75 #[.agg #[.slice A D.logs.length c, .int .i64 (D.acts : Int), .bool D.down, .int .i64 D.armed, .slice B D.keep.length d], .int .i64 2, .int .i64 lg, .string (str s)] W (RActed W A B (D.swap lg s) (D.actErr lg (s.length : Int))) from
              fun W h1 h2 => ract_calls A B c d D 2 lg s W HL.out HKL.out H.out.held.disk.small (by have := HS.out; simp; try omega) h1 h2 (.inr (.inr rfl)) hac H.out.held.disk.armed.1 H.out.held.disk.armed.2)
            clear k2
            go_wp2_with fail
            refine (held_swap H.out.held BWC.out lg _ s.length c8 s rfl (HB.out.cells (by have := HS.out; omega)) (fun ad e => by cases e; exact .inr (Nat.le_trans B0.out.size HBB.out)) hac).mono ?_
            rintro e v1 ⟨rfl, S1, h1, g1⟩
            clear y0 y1 y2 y3 y4
            obtain ⟨m0, m1⟩ := BOX.out v1 g1.upd
            obtain ⟨x0, x1, x2, x3, x4⟩ := (blk5 m0).1
            obtain ⟨y0, y1, y2, y3, y4⟩ := (blk5 m1).1
            have G1 := Lib.hid g1
            have H1 := Lib.hid h1
            have M0 := Lib.hid m0
            clear g1 h1 m0 m1
            go_wp2_with fail
            refine (HRA.out v1 (CA.out v1 G1.out.upd).1 (CA.out v1 G1.out.upd).2).mono ?_
            rintro e v2 ⟨A', c', B', d', rfl, ha, hb, oa, ob, b2⟩
            have RO := Lib.hid (show ROut v1 A B (D.swap lg s) A' B' v2 from ⟨ha, hb, oa, ob, b2⟩)
            clear ha hb oa ob b2
            have m2 := M0.out.below RO.out.below
            have M2 := Lib.hid m2
            clear x0 x1 x2 x3 x4 y0 y1 y2 y3 y4
            obtain ⟨⟨x0, x1, x2, x3, x4⟩, f0, f1, f2, f3, f4⟩ := blk5 m2
            clear m2
            go_wp2_with fail
            go_meet
            rw [HSP.out]
            exact ⟨_, A', c', B', d', S1, rfl, rfl, arm_done H.out H.out.held.below BWC.out H1.out G1.out RO.out (act_len _ _ _ _) (.inr (act_keep _ _ _ _)) LT.out M2.out _ _ _ _ _⟩
          · have hkb2 : (kd == 2) = false := by simpa using k2
            by_cases k3 : kd = 3
            · have hkb : (kd == 3) = true := by simpa using k3
              have HSP := Lib.hid (show stepP D kd lg n s ks = D by simp [stepP, k3])
              clear k3
              go_wp2_with fail
              refine (dread_calls g S D lg w2 (H.out.held.later BWC.out).disk).mono ?_
              rintro e v1 ⟨v, rfl, r1, b1⟩
              obtain ⟨G, hG⟩ : ∃ G, G = (if D.readErr lg = 0 then (D.log lg).1 else []) := ⟨_, rfl⟩
              have hGl : (if D.readErr lg = 0 then (D.log lg).1.length else 0) = G.length := by rw [hG]; split <;> rfl
              rw [hGl, ← hG] at r1
              obtain ⟨A7, c7, rfl, _, _, h7, g7⟩ := r1.cells1
              have hu1 : Upd S w2 v1 := Upd.of_below b1
              obtain ⟨m0, m1⟩ := BOX.out v1 hu1
              obtain ⟨x0, x1, x2, x3, x4⟩ := (blk5 m0).1
              clear y0 y1 y2 y3 y4
              obtain ⟨y0, y1, y2, y3, y4⟩ := (blk5 m1).1
              have HRB := Lib.hid (rbytes_calls A B c d D lg v1 (CA.out v1 hu1).1 HL.out (fun j h => (H.out.held.disk.small j h).1))
              have R1 := Lib.hid r1
              have B1 := Lib.hid b1
              have G7 := Lib.hid g7
              have C7 := Lib.hid h7
              have M0 := Lib.hid m0
              clear hu1 r1 b1 g7 h7 hGl m0 m1
              have GL := Lib.hid (show G.length ≤ 4194304 by
                rw [hG]; split
                · unfold DS.log
                  cases hx : D.logs[lg.toNat]? with
                  | none => simp
                  | some z => obtain ⟨hlt, rfl⟩ := List.getElem?_eq_some_iff.1 hx; exact (H.out.held.disk.small _ hlt).1
                · simp)
              have hcase : (D.has lg = false ∧ D.readErr lg = 70 ∧ G = []) ∨ (D.has lg = true ∧ D.down = true ∧ D.readErr lg = 71 ∧ G = []) ∨ (D.has lg = true ∧ D.down = false ∧ D.readErr lg = 0 ∧ G = (D.log lg).1) := by
                subst hG
                unfold DS.readErr
                cases D.has lg <;> cases D.down <;> simp
              have HC := Lib.hid hcase
              clear hcase hG
              rcases HC.out with ⟨h1, h2, h3⟩ | ⟨h1, h2, h3, h4⟩ | ⟨h1, h2, h3, h4⟩
              · have HRB := Lib.hid (by have := HRB.out; rw [h1, if_neg (by decide)] at this; exact this)
                rw [h2]
                have HG := Lib.hid h3
                clear h1 h2 h3
                clear HC
                go_wp2_with fail
                refine HRB.out.mono ?_
                rintro e v2 ⟨rfl, b2⟩
                have m2 := M0.out.below b2
                clear x0 x1 x2 x3 x4
                obtain ⟨x0, x1, x2, x3, x4⟩ := (blk5 m2).1
                have kcv := run_string (P := Try.prog) (w := v2) 22 9 5 Try.underlying22 Try.underlying5 Try.underlying9 A7 c7 G (C7.out.below b2)
                rw [show str G = str [] by rw [HG.out]] at kcv
                have hsl := R1.out.slots8
                have SL := Lib.hid (hsl.below b2)
                have B2 := Lib.hid (B1.out.trans (b2.mono B1.out.size))
                clear b2 m2 hsl HRB R1 B1 C7
                go_wp2_with fail
                clear kcv x0 x1 x2 x3 x4 y0 y1 y2 y3 y4
                go_loopw [16] (fun i wr => ∃ k : Nat, k ≤ G.length ∧ i = .int .i64 k ∧ Slots .u8 wr A7 G.length ∧ Upd (At A7) v2 wr) (fun i _ => G.length - (intOf i).toNat)
                case atStart => exact ⟨0, Nat.zero_le _, rfl, SL.out, Upd.refl _ _⟩
                case round =>
                  obtain ⟨k, hk, rfl, hs, hu⟩ := hrel
                  clear SL
                  by_cases hlt : k < G.length
                  · obtain ⟨gg, xx, e7, z0, z1, hset⟩ := hs.get hlt
                    subst e7
                    have HU := Lib.hid hu
                    have HST := Lib.hid hset
                    have hgl := GL.out
                    clear hs hu hset
                    go_wp2
                    go_roundw
                    case rel => exact ⟨k + 1, by omega, by go_num, HST.out _, HU.out.set _ _ (fun _ => ⟨_, rfl, rfl⟩)⟩
                    case measure => simp [intOf]; omega
                  · obtain rfl : k = G.length := by omega
                    have HX := Lib.hid (B2.out.trans (hu.below B2.out.size (fun i hi h => by
                      obtain ⟨ad, e, hb⟩ := h
                      have := (G7.out ad e).1
                      omega)))
                    clear hs hu
                    go_wp2
                    go_meet
                    rw [HSP.out]
                    obtain ⟨q1, q2⟩ := Stepped.same H.out BWC.out HX.out
                    exact ⟨70, A, c, B, d, S, rfl, rfl, q1, (BOX.out wr q2).1, q2.mono (fun i _ h => .inl h)⟩
              · have HRB := Lib.hid (by have := HRB.out; rw [h1, if_pos rfl] at this; exact this)
                rw [h3]
                have HG := Lib.hid h4
                have HD := Lib.hid h2
                clear h1 h2 h3 h4
                clear HC
                go_wp2_with fail
                refine HRB.out.mono ?_
                rintro e v2 ⟨rfl, b2⟩
                have m2 := M0.out.below b2
                rw [HD.out] at m2
                clear x0 x1 x2 x3 x4
                obtain ⟨x0, x1, x2, x3, x4⟩ := (blk5 m2).1
                have kcv := run_string (P := Try.prog) (w := v2) 22 9 5 Try.underlying22 Try.underlying5 Try.underlying9 A7 c7 G (C7.out.below b2)
                rw [show str G = { data := #[] } by rw [HG.out]; rfl] at kcv
                have hsl := R1.out.slots8
                have SL := Lib.hid (hsl.below b2)
                have B2 := Lib.hid (B1.out.trans (b2.mono B1.out.size))
                clear b2 m2 hsl HRB R1 B1 C7
                go_wp2_with fail
                clear kcv x0 x1 x2 x3 x4 y0 y1 y2 y3 y4
                go_loopw [16] (fun i wr => ∃ k : Nat, k ≤ G.length ∧ i = .int .i64 k ∧ Slots .u8 wr A7 G.length ∧ Upd (At A7) v2 wr) (fun i _ => G.length - (intOf i).toNat)
                case atStart => exact ⟨0, Nat.zero_le _, rfl, SL.out, Upd.refl _ _⟩
                case round =>
                  obtain ⟨k, hk, rfl, hs, hu⟩ := hrel
                  clear SL
                  by_cases hlt : k < G.length
                  · obtain ⟨gg, xx, e7, z0, z1, hset⟩ := hs.get hlt
                    subst e7
                    have HU := Lib.hid hu
                    have HST := Lib.hid hset
                    have hgl := GL.out
                    clear hs hu hset
                    go_wp2
                    go_roundw
                    case rel => exact ⟨k + 1, by omega, by go_num, HST.out _, HU.out.set _ _ (fun _ => ⟨_, rfl, rfl⟩)⟩
                    case measure => simp [intOf]; omega
                  · obtain rfl : k = G.length := by omega
                    have HX := Lib.hid (B2.out.trans (hu.below B2.out.size (fun i hi h => by
                      obtain ⟨ad, e, hb⟩ := h
                      have := (G7.out ad e).1
                      omega)))
                    clear hs hu
                    go_wp2
                    go_meet
                    rw [HSP.out]
                    obtain ⟨q1, q2⟩ := Stepped.same H.out BWC.out HX.out
                    exact ⟨71, A, c, B, d, S, rfl, rfl, q1, (BOX.out wr q2).1, q2.mono (fun i _ h => .inl h)⟩
              · have HRB := Lib.hid (by have := HRB.out; rw [h1, if_pos rfl, ← h4] at this; exact this)
                rw [h3]
                have HD := Lib.hid h2
                clear h1 h2 h3 h4
                clear HC
                go_wp2_with fail
                refine HRB.out.mono ?_
                rintro e v2 ⟨rfl, b2⟩
                have m2 := M0.out.below b2
                rw [HD.out] at m2
                clear x0 x1 x2 x3 x4
                obtain ⟨x0, x1, x2, x3, x4⟩ := (blk5 m2).1
                have kcv := run_string (P := Try.prog) (w := v2) 22 9 5 Try.underlying22 Try.underlying5 Try.underlying9 A7 c7 G (C7.out.below b2)
                have hsl := R1.out.slots8
                have SL := Lib.hid (hsl.below b2)
                have B2 := Lib.hid (B1.out.trans (b2.mono B1.out.size))
                clear b2 m2 hsl HRB R1 B1 C7
                go_wp2_with fail
                clear kcv x0 x1 x2 x3 x4 y0 y1 y2 y3 y4
                go_loopw [16] (fun i wr => ∃ k : Nat, k ≤ G.length ∧ i = .int .i64 k ∧ Slots .u8 wr A7 G.length ∧ Upd (At A7) v2 wr) (fun i _ => G.length - (intOf i).toNat)
                case atStart => exact ⟨0, Nat.zero_le _, rfl, SL.out, Upd.refl _ _⟩
                case round =>
                  obtain ⟨k, hk, rfl, hs, hu⟩ := hrel
                  clear SL
                  by_cases hlt : k < G.length
                  · obtain ⟨gg, xx, e7, z0, z1, hset⟩ := hs.get hlt
                    subst e7
                    have HU := Lib.hid hu
                    have HST := Lib.hid hset
                    have hgl := GL.out
                    clear hs hu hset
                    go_wp2
                    go_roundw
                    case rel => exact ⟨k + 1, by omega, by go_num, HST.out _, HU.out.set _ _ (fun _ => ⟨_, rfl, rfl⟩)⟩
                    case measure => simp [intOf]; omega
                  · obtain rfl : k = G.length := by omega
                    have HX := Lib.hid (B2.out.trans (hu.below B2.out.size (fun i hi h => by
                      obtain ⟨ad, e, hb⟩ := h
                      have := (G7.out ad e).1
                      omega)))
                    clear hs hu
                    go_wp2
                    go_meet
                    rw [HSP.out]
                    obtain ⟨q1, q2⟩ := Stepped.same H.out BWC.out HX.out
                    exact ⟨0, A, c, B, d, S, rfl, rfl, q1, (BOX.out wr q2).1, q2.mono (fun i _ h => .inl h)⟩
            · have hkb3 : (kd == 3) = false := by simpa using k3
              by_cases k4 : kd = 4
              · have hkb : (kd == 4) = true := by simpa using k4
                have HSP := Lib.hid (show stepP D kd lg n s ks = D.arm n ks by simp [stepP, k4])
                clear k4
                go_wp2_with fail
                refine (held_arm H.out.held BWC.out n A9 ks.length c9 ks rfl hn HRC.out (fun ad e => .inr (HKO.out ad e)) (by have := HKS.out; omega)).mono ?_
                rintro e v1 ⟨rfl, S1, h1, g1⟩
                clear y0 y1 y2 y3 y4
                obtain ⟨m0, m1⟩ := BOX.out v1 g1.upd
                obtain ⟨x0, x1, x2, x3, x4⟩ := (blk5 m0).1
                obtain ⟨y0, y1, y2, y3, y4⟩ := (blk5 m1).1
                have G1 := Lib.hid g1
                have H1 := Lib.hid h1
                have M0 := Lib.hid m0
                clear g1 h1 m0 m1
                go_wp2_with fail
                refine (rarm_calls A B c d D n K c5 ks v1 HL.out HKL.out (by have := HKS.out; omega) (CA.out v1 G1.out.upd).1 (CA.out v1 G1.out.upd).2 (HK.out.below H1.out.below)).mono ?_
                rintro e v2 ⟨A', c', B', d', rfl, rn⟩
                have RO := Lib.hid (show ROut v1 A B (D.arm n ks) A' B' v2 from rn.out HL.out A B D.acts D.down (max n 0))
                have RN := Lib.hid rn
                clear rn
                have m2 := M0.out.below RO.out.below
                have M2 := Lib.hid m2
                clear x0 x1 x2 x3 x4 y0 y1 y2 y3 y4
                obtain ⟨⟨x0, x1, x2, x3, x4⟩, f0, f1, f2, f3, f4⟩ := blk5 m2
                clear m2
                go_wp2_with fail
                go_meet
                rw [HSP.out]
                exact ⟨_, A', c', B', d', S1, rfl, rfl, arm_done H.out H.out.held.below BWC.out H1.out G1.out RO.out rfl (.inl RN.out.new) LT.out M2.out _ _ _ _ _⟩
              · have hkb4 : (kd == 4) = false := by simpa using k4
                by_cases k5 : kd = 5
                · have hkb : (kd == 5) = true := by simpa using k5
                  have HSP := Lib.hid (show stepP D kd lg n s ks = D.crash ks by simp [stepP, k5])
                  clear k5
                  go_wp2_with fail
                  refine (held_crash H.out.held BWC.out A9 ks.length c9 ks rfl HRC.out (fun ad e => .inr (HKO.out ad e))).mono ?_
                  rintro e v1 ⟨rfl, S1, h1, g1⟩
                  clear y0 y1 y2 y3 y4
                  obtain ⟨m0, m1⟩ := BOX.out v1 g1.upd
                  obtain ⟨x0, x1, x2, x3, x4⟩ := (blk5 m0).1
                  obtain ⟨y0, y1, y2, y3, y4⟩ := (blk5 m1).1
                  have G1 := Lib.hid g1
                  have H1 := Lib.hid h1
                  have M0 := Lib.hid m0
                  clear g1 h1 m0 m1
                  go_wp2_with fail
                  refine (rcrash_calls A B c d D K c5 ks v1 HL.out HKL.out (by have := HKS.out; omega) H.out.held.disk.small (CA.out v1 G1.out.upd).1 (CA.out v1 G1.out.upd).2 (HK.out.below H1.out.below)).mono ?_
                  rintro e v2 ⟨A', c', B', d', rfl, rn⟩
                  have RO := Lib.hid (show ROut v1 A B (D.crash ks) A' B' v2 by
                    obtain ⟨q1, q2, q3, q4, q5⟩ := rn.out (by rw [crash_len]; exact HL.out) A B 0 false 0
                    exact ⟨q1, by rw [crash_keep]; exact q2, q3, q4, q5⟩)
                  have hca : (D.crash ks).acts = D.acts := by unfold DS.crash; split <;> rfl
                  have HCR := Lib.hid (And.intro (crash_len D ks) (And.intro (crash_keep D ks) hca))
                  clear rn hca
                  have m2 := M0.out.below RO.out.below
                  have M2 := Lib.hid m2
                  clear x0 x1 x2 x3 x4 y0 y1 y2 y3 y4
                  obtain ⟨⟨x0, x1, x2, x3, x4⟩, f0, f1, f2, f3, f4⟩ := blk5 m2
                  clear m2
                  go_wp2_with fail
                  go_meet
                  rw [HSP.out, HCR.out.1, HCR.out.2.1, HCR.out.2.2]
                  exact ⟨_, A', c', B', d', S1, rfl, rfl, arm_done H.out H.out.held.below BWC.out H1.out G1.out RO.out (crash_len _ _) (.inr (crash_keep _ _)) LT.out M2.out _ _ _ _ _⟩
                · have hkb5 : (kd == 5) = false := by simpa using k5
                  by_cases k6 : kd = 6
                  · have hkb : (kd == 6) = true := by simpa using k6
                    have HSP := Lib.hid (show stepP D kd lg n s ks = ⟨D.logs, D.acts, false, D.armed, D.keep⟩ by simp [stepP, k6])
                    clear k6
                    go_wp2_with fail
                    refine (held_up (H.out.held.later BWC.out)).mono ?_
                    rintro e v1 ⟨rfl, S1, h1, g1⟩
                    clear y0 y1 y2 y3 y4
                    obtain ⟨m0, m1⟩ := BOX.out v1 g1.upd
                    obtain ⟨x0, x1, x2, x3, x4⟩ := (blk5 m0).1
                    obtain ⟨y0, y1, y2, y3, y4⟩ := (blk5 m1).1
                    have G1 := Lib.hid g1
                    have H1 := Lib.hid h1
                    have M0 := Lib.hid m0
                    clear g1 h1 m0 m1
                    go_wp2_with fail
                    refine (rup_calls A B D.logs.length c D.keep.length d D.acts D.down D.armed v1).mono ?_
                    rintro e v2 ⟨rfl, b2⟩
                    have RO := Lib.hid (show ROut v1 A B ⟨D.logs, D.acts, false, D.armed, D.keep⟩ A B v2 from ⟨(CA.out v1 G1.out.upd).1.below b2, (CA.out v1 G1.out.upd).2.below b2, fun ad e => .inl e, fun ad e => .inl e, b2⟩)
                    clear b2
                    have m2 := M0.out.below RO.out.below
                    have M2 := Lib.hid m2
                    clear x0 x1 x2 x3 x4 y0 y1 y2 y3 y4
                    obtain ⟨⟨x0, x1, x2, x3, x4⟩, f0, f1, f2, f3, f4⟩ := blk5 m2
                    clear m2
                    go_wp2_with fail
                    go_meet
                    rw [HSP.out]
                    exact ⟨_, A, c, B, d, S1, rfl, rfl, arm_done H.out H.out.held.below BWC.out H1.out G1.out RO.out rfl (.inr rfl) LT.out M2.out _ _ _ _ _⟩
                  · have hkb6 : (kd == 6) = false := by simpa using k6
                    have HSP := Lib.hid (show stepP D kd lg n s ks = D by simp [stepP, k0, k1, k2, k3, k4, k5, k6])
                    clear k0 k1 k2 k3 k4 k5 k6 y1 y2 y3 y4
                    go_wp2_with fail
                    go_meet
                    rw [HSP.out]
                    obtain ⟨hs, hu⟩ := Stepped.same H.out BWC.out (Below.refl _ _)
                    exact ⟨_, A, c, B, d, S, rfl, rfl, hs, (BOX.out w2 (Upd.refl _ _)).1, hu.mono (fun i _ h => .inl h)⟩
    case rest =>
      obtain ⟨E, A', c', B', d', S', rfl, rfl, hst, hbx, hu⟩ := hcut
      obtain ⟨w3, rfl⟩ : ∃ x, x = wc := ⟨_, rfl⟩
      have hz := SZ.out
      have hbl := HB.out.lt
      have hbb := HBB.out
      have hown := fun i (h : S i) => (H.out.held.own i h).2
      obtain ⟨A9', c9', e9, _, _, _, h9⟩ := HR.out.cells1
      cases e9
      have hA9 : ∀ i, At A9 i → W0.heap.size ≤ i ∧ i < w2.heap.size := fun i h => by
        obtain ⟨ad, e, rfl⟩ := h
        exact h9 ad e
      have s1 : Slots .u8 w3 (some ⟨bb, 0, none⟩) s.length := HB.out.slots.upd hu (fun i h hi hs => by
        obtain ⟨ad, e, rfl⟩ := h
        cases e
        rcases hs with hs | hs
        · have : bb < w.heap.size := hown _ hs
          omega
        · have : bb = w.heap.size := hs
          omega)
      have s2 : Slots .i64 w3 A9 ks.length := HR.out.slots64.upd hu (fun i h hi hs => by
        have := hA9 i h
        rcases hs with hs | hs
        · have := hown _ hs; omega
        · omega)
      have hne : ∀ i, At A9 i → i ≠ bb := fun i h e => by
        obtain ⟨ad, e2, rfl⟩ := h
        have ht := HR.out.typed ad.block (by rw [e2]; rfl)
        obtain ⟨cur, fr, hh, _⟩ := HB.out.holds
        exact (Typed.ne ht ⟨_, _, hh⟩ (by decide)) e
      have n2 := N2.out.upd hu (fun hs => by
        rcases hs with hs | hs
        · have := hown _ hs; omega
        · omega)
      have S1 := Lib.hid s1
      have S2 := Lib.hid s2
      have HA9 := Lib.hid hA9
      have HNE := Lib.hid hne
      have N2 := Lib.hid n2
      have N0 := Lib.hid hbx
      have HST := Lib.hid hst
      have BBR := Lib.hid (And.intro hbb hbl)
      have UW := Lib.hid (show Upd S w w3 from (Upd.trans (S' := fun i => S i ∨ i = w.heap.size) (Upd.of_below BWC.out) hu (fun i hi h => h.elim id (fun h => by omega))))
      clear HB HR HBB hz hbl hbb hown h9 hA9 s1 s2 hne n2 hbx hst hu CA BOX HRC HKO
      have HFIN := Lib.hid (show ∀ (W3 W4 W5 : World), Upd (fun i => i = bb) w3 W3 → Upd (At A9) W3 W4 → Upd (fun k => k = w.heap.size + 2) W4 W5 → Stepped w0 w w2 W5 S S' g D (stepP D kd lg n s ks) A B A' B' from fun W3 W4 W5 h3 h4 h5 => by
        have hz := SZ.out
        have hb := BBR.out
        exact (((HST.out.upd H.out.held.below h3 (fun i hi => by omega)).upd H.out.held.below h4 (fun i hi => by have := HA9.out i hi; omega)).upd H.out.held.below h5 (fun i hi => by omega)))
      have N03 := Lib.hid (show ∀ (W3 W4 : World), Upd (fun i => i = bb) w3 W3 → Upd (At A9) W3 W4 → Blk W4 w.heap.size 70 #[.slice A' (stepP D kd lg n s ks).logs.length c', .int .i64 ((stepP D kd lg n s ks).acts : Int), .bool (stepP D kd lg n s ks).down, .int .i64 (stepP D kd lg n s ks).armed, .slice B' (stepP D kd lg n s ks).keep.length d'] ∧
          Blk W4 (w.heap.size + 2) 70 #[.slice none 0 0, .int .i64 0, .bool false, .int .i64 0, .slice none 0 0] from fun W3 W4 h3 h4 => by
        have hz := SZ.out
        have hb := BBR.out
        exact ⟨(N0.out.upd h3 (by omega)).upd h4 (fun hi => by have := HA9.out _ hi; omega), (N2.out.upd h3 (by omega)).upd h4 (fun hi => by have := HA9.out _ hi; omega)⟩)
      obtain ⟨D', hD'⟩ : ∃ D', D' = stepP D kd lg n s ks := ⟨_, rfl⟩
      rw [← hD'] at HST N0 HFIN N03
      have HD' := Lib.hid hD'
      clear hD'
      clear N0 N2
      go_wp2
      go_loopw [17] (fun i wr => ∃ k : Nat, k ≤ s.length ∧ i = .int .i64 k ∧ Slots .u8 wr (some ⟨bb, 0, none⟩) s.length ∧ Upd (fun i => i = bb) w3 wr) (fun i _ => s.length - (intOf i).toNat)
      case atStart => exact ⟨0, Nat.zero_le _, rfl, S1.out, Upd.refl _ _⟩
      case round =>
        obtain ⟨k, hk, rfl, hs, hu⟩ := hrel
        clear S1
        by_cases hlt : k < s.length
        · obtain ⟨gg, xx, e7, z0, z1, hset⟩ := hs.get hlt
          cases e7
          have HU := Lib.hid hu
          have HST := Lib.hid hset
          have hgl := HS.out
          clear hs hu hset
          go_wp2
          go_roundw
          case rel => exact ⟨k + 1, by omega, by go_num, HST.out _, HU.out.set _ _ (fun _ => rfl)⟩
          case measure => simp [intOf]; omega
        · obtain rfl : k = s.length := by omega
          obtain ⟨w4, rfl⟩ : ∃ x, x = wr := ⟨_, rfl⟩
          have U4 := Lib.hid hu
          have S2 := Lib.hid (S2.out.upd hu (fun i h _ => HNE.out i h))
          clear hs hu
          go_wp2
          go_loopw [18] (fun i wr => ∃ k : Nat, k ≤ ks.length ∧ i = .int .i64 k ∧ Slots .i64 wr A9 ks.length ∧ Upd (At A9) w4 wr) (fun i _ => ks.length - (intOf i).toNat)
          case atStart => exact ⟨0, Nat.zero_le _, rfl, S2.out, Upd.refl _ _⟩
          case round =>
            obtain ⟨k, hk, rfl, hs, hu⟩ := hrel
            clear S2
            by_cases hlt : k < ks.length
            · obtain ⟨gg, xx, e7, z0, z1, hset⟩ := hs.get hlt
              subst e7
              have HU := Lib.hid hu
              have HST := Lib.hid hset
              have hgl := HKS.out
              clear hs hu hset
              go_wp2
              go_roundw
              case rel => exact ⟨k + 1, by omega, by go_num, HST.out _, HU.out.set _ _ (fun _ => ⟨_, rfl, rfl⟩)⟩
              case measure => simp [intOf]; omega
            · obtain rfl : k = ks.length := by omega
              obtain ⟨m0, m2⟩ := N03.out w4 wr U4.out hu
              obtain ⟨⟨x0, x1, x2, x3, x4⟩, _⟩ := blk5 m0
              obtain ⟨⟨p0, p1, p2, p3, p4⟩, g0, g1, g2, g3, g4⟩ := blk5 m2
              obtain ⟨E10, U10⟩ := five_sets m2 (.slice A' D'.logs.length c') (.int .i64 (D'.acts : Int)) (.bool D'.down) (.int .i64 D'.armed) (.slice B' D'.keep.length d')
              have EE := Lib.hid E10
              have FF := Lib.hid (HFIN.out w4 wr _ U4.out hu U10)
              have UU := Lib.hid (show Upd S w _ from ((UW.out.trans U4.out (fun i hi h => by have := BBR.out; have := B0.out.size; have h2 : i = bb := h; omega)).trans hu (fun i hi h => by have := HA9.out i h; have := B0.out.size; omega)).trans U10 (fun i hi h => by have h2 : i = w.heap.size + 2 := h; omega))
              clear hs hu m0 m2 E10 U10 HFIN N03
              go_wp2_with fail
              try simp only [Exit.inBlock, Exit.then]
              refine bodyPost_ret (results_rd2 rfl rfl (EE.out.cell 0 _ rfl) (EE.out.cell 1 _ rfl) (EE.out.cell 2 _ rfl) (EE.out.cell 3 _ rfl) (EE.out.cell 4 _ rfl)) rfl ?_
              rw [← HD'.out]
              have hlt := LT.out
              exact ⟨A', c', B', d', S', rfl, FF.out.pd, ⟨fun i hi => (FF.out.new i hi).imp id (fun h => by omega), UU.out⟩, fun ad e hne => (FF.out.pa ad e hne).imp id (fun h => by omega), fun ad e hne => (FF.out.pb ad e hne).imp id (fun h => by omega)⟩
end Go.Proofs.Ytimjadjopemefaa
