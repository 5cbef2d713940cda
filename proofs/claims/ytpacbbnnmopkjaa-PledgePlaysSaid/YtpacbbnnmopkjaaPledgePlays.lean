/- PledgePlays: the walk of the law. -/
import Derived.Test.YtpacbbnnmopkjaaRp8
set_option linter.unusedVariables false
set_option linter.unusedSimpArgs false
namespace Go.Proofs.Ytpacbbnnmopkjaa
open Go.RowKit

/-- The pledge, and the reference's in its box. -/
structure PPl (w0 w : World) (x : Tr) (g b7 : Nat) (p : PS) (L : List Sd) (A : Option Addr) (c : Nat) : Prop where
  at_ : PLt w0 w x g p
  m : Blk w b7 65 #[.int .i64 x.id, .int .i64 x.frm, .int .i64 x.to, .int .i64 x.n, .slice A L.length c]
  cs : Cells w A (sds L)
  out : ∀ ad, A = some ad → ad.block ≠ g ∧ ad.block ≠ b7
  ne : b7 ≠ g
  lb : w0.heap.size ≤ b7
section
variable {w0 w w' : World} {x : Tr} {g b7 : Nat} {p p' : PS} {L L' : List Sd} {A A' : Option Addr} {c c' : Nat}
theorem PPl.later (h : PPl w0 w x g b7 p L A c) (hb : Below w.heap.size w w') : PPl w0 w' x g b7 p L A c := ⟨h.at_.later hb, h.m.below hb, h.cs.below hb, h.out, h.ne, h.lb⟩
theorem PPl.upd (h : PPl w0 w x g b7 p L A c) (hp : IsPledge w' g x p') (hu : Upd (fun k => k = g) w w') : PPl w0 w' x g b7 p' L A c :=
  ⟨h.at_.upd hp hu, h.m.upd hu h.ne, h.cs.upd hu (fun ad e _ hk => (h.out ad e).1 hk), h.out, h.ne, h.lb⟩
theorem PPl.five (h : PPl w0 w x g b7 p L A c) : w.cell? ⟨b7, 0, Option.none⟩ = some (.int .i64 x.id) ∧ w.cell? ⟨b7, 1, Option.none⟩ = some (.int .i64 x.frm) ∧ w.cell? ⟨b7, 2, Option.none⟩ = some (.int .i64 x.to) ∧ w.cell? ⟨b7, 3, Option.none⟩ = some (.int .i64 x.n) ∧ w.cell? ⟨b7, 4, Option.none⟩ = some (.slice A L.length c) :=
  ⟨h.m.cell 0 _ rfl, h.m.cell 1 _ rfl, h.m.cell 2 _ rfl, h.m.cell 3 _ rfl, h.m.cell 4 _ rfl⟩
/-- m = n -/
theorem PPl.store (h : PPl w0 w x g b7 p L A c) (hC : Cells w A' (sds L')) (ho : ∀ ad, A' = some ad → ad.block ≠ g ∧ ad.block ≠ b7) {W9 : World}
    (hW : W9 = (((((w.setCell ⟨b7, 0, Option.none⟩ (.int .i64 x.id)).setCell ⟨b7, 1, Option.none⟩ (.int .i64 x.frm)).setCell ⟨b7, 2, Option.none⟩ (.int .i64 x.to)).setCell ⟨b7, 3, Option.none⟩ (.int .i64 x.n)).setCell ⟨b7, 4, Option.none⟩ (.slice A' L'.length c'))) :
    PPl w0 W9 x g b7 p L' A' c' := by
  obtain ⟨h1, h2⟩ := five_sets h.m (.int .i64 x.id) (.int .i64 x.frm) (.int .i64 x.to) (.int .i64 x.n) (.slice A' L'.length c')
  rw [hW]
  exact ⟨⟨h.at_.pl.upd h2 (fun e => h.ne e.symm), h.at_.lg, h.at_.bl.trans (h2.below h.at_.bl.size (fun i hi e => by have := h.lb; omega))⟩, h1, hC.upd h2 (fun ad e _ hk => (ho ad e).2 hk), ho, h.ne, h.lb⟩
end
theorem rdo_le (L : List Sd) (o : Sd) : (rdo L o).length ≤ L.length + 1 := by
  unfold rdo; split <;> simp
theorem trErr_idp {x : Tr} (h : trErr x = 0) : 1 ≤ x.id ∧ x.id ≤ 1000000 := by
  unfold trErr at h
  split at h
  · cases h
  · omega

set_option maxHeartbeats 8000000 in
set_option maxRecDepth 100000 in
theorem pledgePlays_core (x : Tr) (A : Option Addr) (n c : Nat) (l : List Sd) (w : World) (hn : n = l.length) (hA : Cells w A (sds l)) :
    Calls Try.prog 9 #[.agg #[.int .i64 x.id, .int .i64 x.frm, .int .i64 x.to, .int .i64 x.n], .slice A n c] w fun e w' => e = .returned (.bool true) ∧ Below w.heap.size w w' := by
  subst hn
  have hlen : l.length ≤ 9223372036854775807 := by have := hA.small; rw [sds_length] at this; omega
  have HA := Lib.hid hA
  clear hA
  obtain ⟨W0, hW0⟩ : ∃ W0, W0 = w.alloc (.cells #[.int .i64 x.id, .int .i64 x.frm, .int .i64 x.to, .int .i64 x.n] 53) := ⟨_, rfl⟩
  have b0 : Below w.heap.size w W0 := by rw [hW0]; exact pbelow_one _ _
  have nx : Blk W0 w.heap.size 53 #[.int .i64 x.id, .int .i64 x.frm, .int .i64 x.to, .int .i64 x.n] := by rw [hW0]; exact Blk.new _ _ _
  have HNX := Lib.hid (pnew_calls x W0)
  have HW0 := Lib.hid hW0
  have B0 := Lib.hid b0
  have NX := Lib.hid nx
  rw [show trVal x = .agg #[.int .i64 x.id, .int .i64 x.frm, .int .i64 x.to, .int .i64 x.n] from rfl] at HNX
  clear b0 hW0 nx
  go_enter Try.func9, Try.ntmps9
  go_wp2_with fail
  rw [← HW0.out]
  clear HW0
  refine HNX.out.mono ?_
  rintro e w1 ⟨hx1, hx2, b1⟩
  have NX := Lib.hid (NX.out.below b1)
  have B1 := Lib.hid (B0.out.trans (b1.mono B0.out.size))
  clear b1 HNX
  by_cases hex : trErr x = 0
  · obtain ⟨g, rfl, hp, hpl⟩ := hx2 hex
    have P1 := Lib.hid (show PLt w w1 x g PS.none from ⟨hp, Nat.le_trans B0.out.size hpl, B1.out⟩)
    have hxi := trErr_idp hex
    have HEX := Lib.hid hex
    clear hx1 hx2 hp hpl B0 B1 hex
    go_wp2_with fail
    refine (pawake_calls w1).mono ?_
    rintro e w2 ⟨rfl, b2⟩
    have P2 := Lib.hid (P1.out.later b2)
    have NX := Lib.hid (NX.out.below b2)
    clear P1 b2
    have c0 : w2.cell? ⟨w.heap.size, 0, Option.none⟩ = some (.int .i64 x.id) := NX.out.cell 0 _ rfl
    have c1 : w2.cell? ⟨w.heap.size, 1, Option.none⟩ = some (.int .i64 x.frm) := NX.out.cell 1 _ rfl
    have c2 : w2.cell? ⟨w.heap.size, 2, Option.none⟩ = some (.int .i64 x.to) := NX.out.cell 2 _ rfl
    have c3 : w2.cell? ⟨w.heap.size, 3, Option.none⟩ = some (.int .i64 x.n) := NX.out.cell 3 _ rfl
    go_wp2_with fail
    refine (rnew_calls x w2).mono ?_
    rintro e w3 ⟨rfl, b3⟩
    rw [HEX.out]
    have P3 := Lib.hid (P2.out.later b3)
    have NX := Lib.hid (NX.out.below b3)
    clear P2 b3 HEX c0 c1 c2 c3
    go_upto_region 6 with fail
    -- what is asked of the new pledge
    have FOUR := Lib.hid (show ∀ W, Below w3.heap.size w3 W → W.cell? ⟨w.heap.size, 0, Option.none⟩ = some (.int .i64 x.id) ∧ W.cell? ⟨w.heap.size, 1, Option.none⟩ = some (.int .i64 x.frm) ∧ W.cell? ⟨w.heap.size, 2, Option.none⟩ = some (.int .i64 x.to) ∧ W.cell? ⟨w.heap.size, 3, Option.none⟩ = some (.int .i64 x.n) from fun W hb =>
      ⟨(NX.out.below hb).cell 0 _ rfl, (NX.out.below hb).cell 1 _ rfl, (NX.out.below hb).cell 2 _ rfl, (NX.out.below hb).cell 3 _ rfl⟩)
    obtain ⟨c0, c1, c2, c3⟩ := FOUR.out w3 (Below.refl _ _)
    have HT := Lib.hid (fun W (hb : Below w3.heap.size w3 W) => (transfer_calls g x _ W (P3.out.later hb).pl).mono (R' := fun e W' => e = .returned (.agg #[.int .i64 x.id, .int .i64 x.frm, .int .i64 x.to, .int .i64 x.n]) ∧ Below w3.heap.size w3 W') (by
      rintro e W' ⟨rfl, hb'⟩; exact ⟨rfl, hb.trans (hb'.mono hb.size)⟩))
    have HP1 := Lib.hid (fun W (hb : Below w3.heap.size w3 W) => (part_calls g x _ true W (P3.out.later hb).pl hxi.1 hxi.2).mono (R' := fun e W' => e = .returned (.agg #[.int .i64 (partId x true), .int .i64 (partAcc x true), .int .i64 x.n, .bool true]) ∧ Below w3.heap.size w3 W') (by
      rintro e W' ⟨rfl, hb'⟩; exact ⟨rfl, hb.trans (hb'.mono hb.size)⟩))
    have HP2 := Lib.hid (fun W (hb : Below w3.heap.size w3 W) => (part_calls g x _ false W (P3.out.later hb).pl hxi.1 hxi.2).mono (R' := fun e W' => e = .returned (.agg #[.int .i64 (partId x false), .int .i64 (partAcc x false), .int .i64 x.n, .bool false]) ∧ Below w3.heap.size w3 W') (by
      rintro e W' ⟨rfl, hb'⟩; exact ⟨rfl, hb.trans (hb'.mono hb.size)⟩))
    have HR1 := Lib.hid (fun W (hb : Below w3.heap.size w3 W) => (rpart_calls x true W hxi.1 hxi.2).mono (R' := fun e W' => e = .returned (.agg #[.int .i64 (partId x true), .int .i64 (partAcc x true), .int .i64 x.n, .bool true]) ∧ Below w3.heap.size w3 W') (by
      rintro e W' ⟨rfl, hb'⟩; exact ⟨rfl, hb.trans (hb'.mono hb.size)⟩))
    have HR2 := Lib.hid (fun W (hb : Below w3.heap.size w3 W) => (rpart_calls x false W hxi.1 hxi.2).mono (R' := fun e W' => e = .returned (.agg #[.int .i64 (partId x false), .int .i64 (partAcc x false), .int .i64 x.n, .bool false]) ∧ Below w3.heap.size w3 W') (by
      rintro e W' ⟨rfl, hb'⟩; exact ⟨rfl, hb.trans (hb'.mono hb.size)⟩))
    generalize partId x true = i1 at *
    generalize partAcc x true = a1 at *
    generalize partId x false = i2 at *
    generalize partAcc x false = a2 at *
    have hbd : Below w3.heap.size w3 w3.drew := pbelow_drew (Below.refl _ _)
    clear hxi
    go_region_held3 (fun W => W.cell? ⟨w.heap.size, 0, Option.none⟩ = some (.int .i64 x.id) ∧ W.cell? ⟨w.heap.size, 1, Option.none⟩ = some (.int .i64 x.frm) ∧ W.cell? ⟨w.heap.size, 2, Option.none⟩ = some (.int .i64 x.to) ∧ W.cell? ⟨w.heap.size, 3, Option.none⟩ = some (.int .i64 x.n)) (go_keep)
      (first
        | (go_at_call 28; (with_reducible refine Calls.mono (HT.out _ hbd) ?_); rintro e wa ⟨rfl, hba⟩; obtain ⟨s0, s1, s2, s3⟩ := FOUR.out _ hba)
        | (go_at_call 29; (with_reducible refine Calls.mono (HP1.out _ hba) ?_); rintro e wb ⟨rfl, hbb⟩; obtain ⟨u0, u1, u2, u3⟩ := FOUR.out _ hbb)
        | (go_at_call 30; (with_reducible refine Calls.mono (HR1.out _ hbb) ?_); rintro e wc ⟨rfl, hbc⟩; obtain ⟨v0, v1, v2, v3⟩ := FOUR.out _ hbc)
        | (go_at_call 29; (with_reducible refine Calls.mono (HP2.out _ hbc) ?_); rintro e wd ⟨rfl, hbd2⟩; obtain ⟨y0, y1, y2, y3⟩ := FOUR.out _ hbd2)
        | (go_at_call 30; (with_reducible refine Calls.mono (HR2.out _ hbd2) ?_); rintro e we ⟨rfl, hbe⟩; obtain ⟨z0, z1, z2, z3⟩ := FOUR.out _ hbe))
    have Pe := P3.out.later hbe
    have hgl := Blk.lt Pe.pl
    have hwl := Pe.bl.size
    have S7 : PPl w (we.alloc (.cells #[.int .i64 x.id, .int .i64 x.frm, .int .i64 x.to, .int .i64 x.n, .slice Option.none 0 0] 65)) x g we.heap.size PS.none [] Option.none 0 :=
      ⟨Pe.later (pbelow_one _ _), Blk.new _ _ _, Cells.nil _ _, (fun ad e => by cases e), by omega, hwl⟩
    have S7 := Lib.hid S7
    obtain ⟨c0, c1, c2, c3⟩ := FOUR.out _ hbe
    clear HT HP1 HP2 HR1 HR2 s0 s1 s2 s3 u0 u1 u2 u3 v0 v1 v2 v3 y0 y1 y2 y3 z0 z1 z2 z3 hba hbb hbc hbd2 hbe hbd Pe hgl hwl FOUR P3 NX
    go_upto_region 9 with fail
    generalize we.alloc (Obj.cells #[.int .i64 x.id, .int .i64 x.frm, .int .i64 x.to, .int .i64 x.n, .slice Option.none 0 0] 65) = W7 at S7 ⊢
    generalize we.heap.size = b7 at S7 ⊢
    clear c0 c1 c2 c3
    go_wp2
    go_loopw [8] (fun i wr => ∃ k : Nat, k ≤ l.length ∧ k ≤ 30 ∧ i = .int .i64 k ∧ ∃ p L A c, PPl w wr x g b7 p L A c ∧ Alike p L ∧ L.length ≤ k) (fun i _ => 30 - (intOf i).toNat)
    case atStart => exact ⟨0, Nat.zero_le _, by omega, rfl, PS.none, [], Option.none, 0, S7.out, alike_none, Nat.le_refl _⟩
    case round =>
      obtain ⟨k, hk, hk30, rfl, p, L, B, d, hS, hal, hLk⟩ := hrel
      have S := Lib.hid hS
      have AL := Lib.hid hal
      clear S7 hS hal
      by_cases hgo : k < l.length ∧ k < 30
      · obtain ⟨hlt, hlt2⟩ := hgo
        obtain ⟨ad, rfl, d0, d1, d2, d3⟩ := (HA.out.below S.out.at_.bl).said k hlt
        obtain ⟨s, hse⟩ : ∃ s, s = l[k] := ⟨_, rfl⟩
        rw [← hse] at d0 d1 d2 d3
        clear hse
        go_wp2_with fail
        refine (kind_calls s wr).mono ?_
        rintro e w4 ⟨rfl, b4⟩
        have hr := kindOf_range s
        obtain ⟨o, ho⟩ : ∃ o, o = kindOf s := ⟨_, rfl⟩
        rw [← ho] at hr ⊢
        have HR := Lib.hid hr
        have b5 := b4.alloc b4.size (.cells #[.int .i64 o.kind, .bool o.pays, .bool o.yes, .int .i64 o.t] 67)
        have n5 := Blk.new w4 67 #[.int .i64 o.kind, .bool o.pays, .bool o.yes, .int .i64 o.t]
        have hgb : g < w4.heap.size ∧ b7 < w4.heap.size := ⟨Nat.lt_of_lt_of_le (Blk.lt S.out.at_.pl) b4.size, Nat.lt_of_lt_of_le S.out.m.lt b4.size⟩
        have S := Lib.hid (S.out.later b5)
        have N9 := Lib.hid n5
        clear b4 b5 n5 d0 d1 d2 d3 ho hr
        go_upto_region 13 with fail
        generalize w4.alloc (Obj.cells #[.int .i64 o.kind, .bool o.pays, .bool o.yes, .int .i64 o.t] 67) = W5 at S N9 ⊢
        generalize w4.heap.size = b9 at N9 hgb ⊢
        obtain ⟨hg9, hb9⟩ := hgb
        have o0 : W5.cell? ⟨b9, 0, Option.none⟩ = some (.int .i64 o.kind) := N9.out.cell 0 _ rfl
        have o1 : W5.cell? ⟨b9, 1, Option.none⟩ = some (.bool o.pays) := N9.out.cell 1 _ rfl
        have o2 : W5.cell? ⟨b9, 2, Option.none⟩ = some (.bool o.yes) := N9.out.cell 2 _ rfl
        have o3 : W5.cell? ⟨b9, 3, Option.none⟩ = some (.int .i64 o.t) := N9.out.cell 3 _ rfl
        obtain ⟨f0, f1, f2, f3, f4⟩ := S.out.five
        go_wp2_with fail
        refine (rdo_calls x.id x.frm x.to x.n B L.length d L o W5 rfl (by omega) S.out.cs).mono ?_
        rintro e w6 ⟨A', c', rfl, hC6, b6, ho6⟩
        have hle := rdo_le L o
        have hae := alike_err AL.out o
        have hak := alike_keeps AL.out o HR.out
        obtain ⟨L', hL'⟩ : ∃ L', L' = rdo L o := ⟨_, rfl⟩
        obtain ⟨E, hE⟩ : ∃ E, E = rdoErr L o := ⟨_, rfl⟩
        rw [← hL'] at hC6 hle hak ⊢
        rw [← hE] at hae ⊢
        have HAE := Lib.hid hae
        have AL := Lib.hid hak
        have S5 := S.out
        have hout6 : ∀ ad, A' = some ad → ad.block ≠ g ∧ ad.block ≠ b7 := fun ad e => by
          rcases ho6 ad e with h | h
          · exact S5.out ad h
          · have h1 := Blk.lt S5.at_.pl
            have h2 := S5.m.lt
            omega
        have b7' := b6.alloc b6.size (.cells #[.int .i64 x.id, .int .i64 x.frm, .int .i64 x.to, .int .i64 x.n, .slice A' L'.length c'] 65)
        have n10 := Blk.new w6 65 #[.int .i64 x.id, .int .i64 x.frm, .int .i64 x.to, .int .i64 x.n, .slice A' L'.length c']
        have S := Lib.hid (S.out.later b7')
        have N9 := Lib.hid (N9.out.below b7')
        have C6 := Lib.hid (hC6.below (pbelow_one w6 (.cells #[.int .i64 x.id, .int .i64 x.frm, .int .i64 x.to, .int .i64 x.n, .slice A' L'.length c'] 65)))
        have O6 := Lib.hid hout6
        have N10 := Lib.hid n10
        clear b6 b7' n10 hC6 ho6 hae hak hL' hE o0 o1 o2 o3 f0 f1 f2 f3 f4 hout6 S5
        go_upto_region 14 with fail
        generalize w6.alloc (Obj.cells #[.int .i64 x.id, .int .i64 x.frm, .int .i64 x.to, .int .i64 x.n, .slice A' L'.length c'] 65) = W6 at S N9 C6 N10 ⊢
        generalize w6.heap.size = b10 at N10 ⊢
        obtain ⟨f0, f1, f2, f3, f4⟩ := S.out.five
        have h0 : W6.cell? ⟨b10, 0, Option.none⟩ = some (.int .i64 x.id) := N10.out.cell 0 _ rfl
        have h1 : W6.cell? ⟨b10, 1, Option.none⟩ = some (.int .i64 x.frm) := N10.out.cell 1 _ rfl
        have h2 : W6.cell? ⟨b10, 2, Option.none⟩ = some (.int .i64 x.to) := N10.out.cell 2 _ rfl
        have h3 : W6.cell? ⟨b10, 3, Option.none⟩ = some (.int .i64 x.n) := N10.out.cell 3 _ rfl
        have h4 : W6.cell? ⟨b10, 4, Option.none⟩ = some (.slice A' L'.length c') := N10.out.cell 4 _ rfl
        have g0 := S.out.m.free 0 Option.none
        have g1 := S.out.m.free 1 Option.none
        have g2 := S.out.m.free 2 Option.none
        have g3 := S.out.m.free 3 Option.none
        have g4 := S.out.m.free 4 Option.none
        have SS := Lib.hid (fun W9 (hW : W9 = _) => S.out.store (c' := c') C6.out O6.out (W9 := W9) hW)
        have hu5 := Lib.hid (five_sets S.out.m (.int .i64 x.id) (.int .i64 x.frm) (.int .i64 x.to) (.int .i64 x.n) (.slice A' L'.length c')).2
        clear C6 O6 N10 S
        go_upto_region 15 with fail
        have S := Lib.hid (SS.out _ rfl)
        have N9 := Lib.hid (N9.out.upd hu5.out (by omega))
        clear SS hu5 f0 f1 f2 f3 f4 h0 h1 h2 h3 h4 g0 g1 g2 g3 g4
        generalize ((((World.setCell W6 ⟨b7, 0, Option.none⟩ (.int .i64 x.id)).setCell ⟨b7, 1, Option.none⟩ (.int .i64 x.frm)).setCell ⟨b7, 2, Option.none⟩ (.int .i64 x.to)).setCell ⟨b7, 3, Option.none⟩ (.int .i64 x.n)).setCell ⟨b7, 4, Option.none⟩ (.slice A' L'.length c') = W8 at S N9 ⊢
        have o0 : W8.cell? ⟨b9, 0, Option.none⟩ = some (.int .i64 o.kind) := N9.out.cell 0 _ rfl
        have o1 : W8.cell? ⟨b9, 1, Option.none⟩ = some (.bool o.pays) := N9.out.cell 1 _ rfl
        have o2 : W8.cell? ⟨b9, 2, Option.none⟩ = some (.bool o.yes) := N9.out.cell 2 _ rfl
        have o3 : W8.cell? ⟨b9, 3, Option.none⟩ = some (.int .i64 o.t) := N9.out.cell 3 _ rfl
        go_wp2_with fail
        refine (do_calls g x p o W8 S.out.at_.pl).mono ?_
        rintro e w9 ⟨rfl, h9, u9⟩
        rw [HAE.out]
        have S := Lib.hid (S.out.upd h9 u9)
        obtain ⟨q, hq⟩ : ∃ q, q = p.does o := ⟨_, rfl⟩
        rw [← hq] at S AL
        have hrd := alike_ready AL.out
        have hlf := alike_left AL.out
        have hft := AL.out.fate
        have hat := AL.out.at_
        clear h9 u9 hq o0 o1 o2 o3 N9 HAE
        have hEE : (E == E) = true := by simp
        go_wp2_with fail
        refine (fate_calls g x q w9 S.out.at_.pl).mono ?_
        rintro e wa ⟨rfl, na, rfl⟩
        have S := Lib.hid (S.out.later (pbelow_drewN2 w9 na))
        generalize w9.drewN na = wa at S ⊢
        have HRD := Lib.hid hrd
        have HLF := Lib.hid hlf
        rw [hft, hat]
        clear hrd hlf hft hat
        obtain ⟨f0, f1, f2, f3, f4⟩ := S.out.five
        go_wp2_with fail
        refine (rfate_calls (.int .i64 x.id) (.int .i64 x.frm) (.int .i64 x.to) (.int .i64 x.n) A' L'.length c' L' wa rfl S.out.cs).mono ?_
        rintro e wb ⟨rfl, bb⟩
        have S := Lib.hid (S.out.later bb)
        generalize (rfate L').1 = ft at *
        generalize (rfate L').2 = at2 at *
        clear bb f0 f1 f2 f3 f4
        go_wp2_with fail
        refine (ready_calls g x q wb S.out.at_.pl).mono ?_
        rintro e wc ⟨rfl, nc, rfl⟩
        have S := Lib.hid (S.out.later (pbelow_drewN2 wb nc))
        generalize wb.drewN nc = wc at S ⊢
        rw [HRD.out]
        obtain ⟨f0, f1, f2, f3, f4⟩ := S.out.five
        go_wp2_with fail
        refine (rready_calls x.id x.frm x.to x.n A' L'.length c' L' wc rfl S.out.cs).mono ?_
        rintro e wd ⟨rfl, bd⟩
        have S := Lib.hid (S.out.later bd)
        generalize (rready L').1 = r1 at *
        generalize (rready L').2 = r2 at *
        clear bd f0 f1 f2 f3 f4 HRD
        go_upto_region 21 with fail
        have FIVE := Lib.hid (show ∀ W, Below wd.heap.size wd W → W.cell? ⟨b7, 0, Option.none⟩ = some (.int .i64 x.id) ∧ W.cell? ⟨b7, 1, Option.none⟩ = some (.int .i64 x.frm) ∧ W.cell? ⟨b7, 2, Option.none⟩ = some (.int .i64 x.to) ∧ W.cell? ⟨b7, 3, Option.none⟩ = some (.int .i64 x.n) ∧ W.cell? ⟨b7, 4, Option.none⟩ = some (.slice A' L'.length c') from fun W hb => (S.out.later hb).five)
        have HL := Lib.hid (fun W (hb : Below wd.heap.size wd W) => (left_calls g x q W (S.out.later hb).at_.pl).mono (R' := fun e W' => ∃ A2 c2, e = .returned (.slice A2 (rleft L').length c2) ∧ Cells W' A2 (bls (rleft L')) ∧ Below wd.heap.size wd W') (by
          rintro e W' ⟨A2, c2, rfl, hC, hb', _⟩
          have hlf := HLF.out
          rw [hlf] at hC ⊢
          exact ⟨A2, c2, rfl, hC, hb.trans (hb'.mono hb.size)⟩))
        have HRL := Lib.hid (fun W (hb : Below wd.heap.size wd W) => (rleft_calls x.id x.frm x.to x.n A' L'.length c' L' W rfl (S.out.later hb).cs).mono (R' := fun e W' => ∃ A2 c2, e = .returned (.slice A2 (rleft L').length c2) ∧ Cells W' A2 (bls (rleft L')) ∧ Below wd.heap.size wd W' ∧ Below W.heap.size W W') (by
          rintro e W' ⟨A2, c2, rfl, hC, hb'⟩
          exact ⟨A2, c2, rfl, hC, hb.trans (hb'.mono hb.size), hb'⟩))
        have HSM := Lib.hid (fun W A2 c2 B2 d2 (hb : Below wd.heap.size wd W) (h1 : Cells W A2 (bls (rleft L'))) (h2 : Cells W B2 (bls (rleft L'))) => (psame_calls A2 B2 _ c2 _ d2 (rleft L') W rfl rfl h1 h2).mono (R' := fun e W' => e = .returned (.bool true) ∧ Below wd.heap.size wd W') (by
          rintro e W' ⟨rfl, j, rfl⟩
          exact ⟨rfl, hb.trans ((pbelow_drewN2 W j).mono hb.size)⟩))
        obtain ⟨f0, f1, f2, f3, f4⟩ := S.out.five
        have hbd : Below wd.heap.size wd wd.drew := pbelow_drew (Below.refl _ _)
        have hLk2 : L'.length ≤ k + 1 := by omega
        generalize (rleft L').length = nl at HL HRL HSM
        clear HLF
        go_region_held3 (fun W => W.cell? ⟨b7, 0, Option.none⟩ = some (.int .i64 x.id) ∧ W.cell? ⟨b7, 1, Option.none⟩ = some (.int .i64 x.frm) ∧ W.cell? ⟨b7, 2, Option.none⟩ = some (.int .i64 x.to) ∧ W.cell? ⟨b7, 3, Option.none⟩ = some (.int .i64 x.n) ∧ W.cell? ⟨b7, 4, Option.none⟩ = some (.slice A' L'.length c')) (go_keep)
          (first
            | (go_at_call 39; (with_reducible refine Calls.mono (HL.out _ hbd) ?_); rintro e wf ⟨A2, c2, rfl, hC, hbf⟩; obtain ⟨s0, s1, s2, s3, s4⟩ := FIVE.out _ hbf)
            | (go_at_call 40; (with_reducible refine Calls.mono (HRL.out _ hbf) ?_); rintro e wg ⟨B2, d2, rfl, hC2, hbg, hbl⟩; obtain ⟨u0, u1, u2, u3, u4⟩ := FIVE.out _ hbg)
            | (go_at_call 38; (with_reducible refine Calls.mono (HSM.out _ _ _ _ _ hbg (hC.below hbl) hC2) ?_); rintro e wh ⟨rfl, hbh⟩; obtain ⟨v0, v1, v2, v3, v4⟩ := FIVE.out _ hbh))
        all_goals
          have S := Lib.hid (S.out.later hbh)
          clear HL HRL HSM FIVE hC hC2 hbf hbg hbl hbh s0 s1 s2 s3 s4 u0 u1 u2 u3 u4 v0 v1 v2 v3 v4 f0 f1 f2 f3 f4 hbd
          go_wp2_with fail
          exact ⟨⟨k + 1, by omega, by omega, by go_num, q, L', A', c', S.out, AL.out, hLk2⟩, by simp [intOf]; omega⟩
      · have BL := Lib.hid S.out.at_.bl
        clear S AL
        by_cases hlt : k < l.length
        case' pos =>
          obtain rfl : k = 30 := by omega
          clear hgo
          go_wp2
        case' neg =>
          obtain rfl : k = l.length := by omega
          clear hgo
          go_wp2
        all_goals
          go_ret
          exact ⟨rfl, BL.out⟩
  · have h := hx1 hex
    subst h
    have hz : (trErr x == 0) = false := by simpa using hex
    obtain ⟨E, hEe⟩ : ∃ E, E = trErr x := ⟨_, rfl⟩
    have HEE := Lib.hid hEe
    rw [← hEe] at hz ⊢
    have hz0 : ¬ E = 0 := by simpa using hz
    have hz2 : (E != 0) = true := by simpa using hz0
    clear hx1 hx2 hex hEe B0
    go_wp2_with fail
    refine (pawake_calls w1).mono ?_
    rintro e w3 ⟨rfl, b3⟩
    have B3 := Lib.hid (B1.out.trans (b3.mono B1.out.size))
    have NX := Lib.hid (NX.out.below b3)
    have c0 : w3.cell? ⟨w.heap.size, 0, Option.none⟩ = some (.int .i64 x.id) := NX.out.cell 0 _ rfl
    have c1 : w3.cell? ⟨w.heap.size, 1, Option.none⟩ = some (.int .i64 x.frm) := NX.out.cell 1 _ rfl
    have c2 : w3.cell? ⟨w.heap.size, 2, Option.none⟩ = some (.int .i64 x.to) := NX.out.cell 2 _ rfl
    have c3 : w3.cell? ⟨w.heap.size, 3, Option.none⟩ = some (.int .i64 x.n) := NX.out.cell 3 _ rfl
    clear B1 b3
    go_wp2_with fail
    refine (rnew_calls x w3).mono ?_
    rintro e w4 ⟨rfl, b4⟩
    rw [← HEE.out]
    have B4 := Lib.hid (B3.out.trans (b4.mono B3.out.size))
    clear B3 b4 HEE c0 c1 c2 c3 NX
    go_wp2
    go_ret
    exact ⟨by simp, B4.out⟩
theorem pledgePlays_walk (v0 : Value) (x : Tr) (A : Option Addr) (n c : Nat) (l : List Sd) (w : World) (w0 : v0 = trVal x) (w1 : n = l.length ∧ Cells w A (sds l)) :
    Calls Try.prog 9 #[v0, .slice A n c] w fun e w' => e = .returned (.bool true) ∧ Below w.heap.size w w' := by
  subst w0
  exact pledgePlays_core x A n c l w w1.1 w1.2
end Go.Proofs.Ytpacbbnnmopkjaa
