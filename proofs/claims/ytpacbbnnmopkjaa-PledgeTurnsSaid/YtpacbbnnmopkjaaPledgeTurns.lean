/- PledgeTurns: the walk of the law. -/
import Derived.Test.YtpacbbnnmopkjaaPg7
import Derived.Test.YtpacbbnnmopkjaaOpp
set_option linter.unusedVariables false
set_option linter.unusedSimpArgs false
namespace Go.Proofs.Ytpacbbnnmopkjaa
open Go.RowKit

theorem pbelow_drewN (w : World) (n : Nat) : Below w.heap.size w (w.drewN n) := ⟨rfl, rfl, rfl, Nat.le_refl _, fun _ _ => rfl⟩
/-- Two pledges, and two calls in their boxes. -/
structure Duo (w0 w : World) (x : Tr) (a b : Sd) (p q : Nat) (P Q : PS) : Prop where
  ba : Blk w (w0.heap.size + 1) 67 #[.int .i64 a.kind, .bool a.pays, .bool a.yes, .int .i64 a.t]
  bb : Blk w (w0.heap.size + 2) 67 #[.int .i64 b.kind, .bool b.pays, .bool b.yes, .int .i64 b.t]
  pl : IsPledge w p x P
  ql : IsPledge w q x Q
  ne : p ≠ q
  lp : w0.heap.size + 3 ≤ p
  lq : w0.heap.size + 3 ≤ q
  bl : Below w0.heap.size w0 w
section
variable {w0 w w' : World} {x : Tr} {a b : Sd} {p q : Nat} {P P' Q Q' : PS}
theorem Duo.later (h : Duo w0 w x a b p q P Q) (hb : Below w.heap.size w w') : Duo w0 w' x a b p q P Q :=
  ⟨h.ba.below hb, h.bb.below hb, h.pl.below hb, h.ql.below hb, h.ne, h.lp, h.lq, h.bl.trans (hb.mono h.bl.size)⟩
theorem Duo.updP (h : Duo w0 w x a b p q P Q) (hp : IsPledge w' p x P') (hu : Upd (fun k => k = p) w w') : Duo w0 w' x a b p q P' Q :=
  ⟨h.ba.upd hu (by have := h.lp; omega), h.bb.upd hu (by have := h.lp; omega), hp, h.ql.upd hu (fun e => h.ne e.symm), h.ne, h.lp, h.lq, h.bl.trans (hu.below h.bl.size (fun i hi e => by have := h.lp; omega))⟩
theorem Duo.updQ (h : Duo w0 w x a b p q P Q) (hq : IsPledge w' q x Q') (hu : Upd (fun k => k = q) w w') : Duo w0 w' x a b p q P Q' :=
  ⟨h.ba.upd hu (by have := h.lq; omega), h.bb.upd hu (by have := h.lq; omega), h.pl.upd hu (fun e => h.ne e), hq, h.ne, h.lp, h.lq, h.bl.trans (hu.below h.bl.size (fun i hi e => by have := h.lq; omega))⟩
theorem Duo.four (h : Duo w0 w x a b p q P Q) : w.cell? ⟨w0.heap.size + 1, 2, Option.none⟩ = some (.bool a.yes) ∧ w.cell? ⟨w0.heap.size + 1, 3, Option.none⟩ = some (.int .i64 a.t) ∧
    w.cell? ⟨w0.heap.size + 2, 2, Option.none⟩ = some (.bool b.yes) ∧ w.cell? ⟨w0.heap.size + 2, 3, Option.none⟩ = some (.int .i64 b.t) :=
  ⟨h.ba.cell 2 _ rfl, h.ba.cell 3 _ rfl, h.bb.cell 2 _ rfl, h.bb.cell 3 _ rfl⟩
theorem duo_voteP (h : Duo w0 w x a b p q P Q) (pays yes : Bool) (t : Int) :
    Calls Try.prog 41 #[.pointer (some ⟨p, 0, Option.none⟩), .bool pays, .bool yes, .int .i64 t] w fun e w' => e = .returned (.int .i64 (P.voteErr pays yes t)) ∧ Duo w0 w' x a b p q (P.vote pays yes t) Q :=
  (vote_calls p x P pays yes t w h.pl).mono (by rintro e w' ⟨rfl, h1, h2⟩; exact ⟨rfl, h.updP h1 h2⟩)
theorem duo_voteQ (h : Duo w0 w x a b p q P Q) (pays yes : Bool) (t : Int) :
    Calls Try.prog 41 #[.pointer (some ⟨q, 0, Option.none⟩), .bool pays, .bool yes, .int .i64 t] w fun e w' => e = .returned (.int .i64 (Q.voteErr pays yes t)) ∧ Duo w0 w' x a b p q P (Q.vote pays yes t) :=
  (vote_calls q x Q pays yes t w h.ql).mono (by rintro e w' ⟨rfl, h1, h2⟩; exact ⟨rfl, h.updQ h1 h2⟩)
end

set_option maxHeartbeats 4000000 in
set_option maxRecDepth 100000 in
theorem pledgeTurns_core (x : Tr) (a b : Sd) (w : World) :
    Calls Try.prog 11 #[.agg #[.int .i64 x.id, .int .i64 x.frm, .int .i64 x.to, .int .i64 x.n], .agg #[.int .i64 a.kind, .bool a.pays, .bool a.yes, .int .i64 a.t], .agg #[.int .i64 b.kind, .bool b.pays, .bool b.yes, .int .i64 b.t]] w fun e w' => e = .returned (.bool true) ∧ Below w.heap.size w w' := by
  obtain ⟨W0, hW0⟩ : ∃ W0, W0 = ((w.alloc (.cells #[.int .i64 x.id, .int .i64 x.frm, .int .i64 x.to, .int .i64 x.n] 53)).alloc (.cells #[.int .i64 a.kind, .bool a.pays, .bool a.yes, .int .i64 a.t] 67)).alloc (.cells #[.int .i64 b.kind, .bool b.pays, .bool b.yes, .int .i64 b.t] 67) := ⟨_, rfl⟩
  have b0 : Below w.heap.size w W0 := by rw [hW0]; exact (((Below.refl _ _).alloc (Nat.le_refl _) _).alloc (by simp) _).alloc (by simp; omega) _
  have nx : Blk W0 w.heap.size 53 #[.int .i64 x.id, .int .i64 x.frm, .int .i64 x.to, .int .i64 x.n] := by rw [hW0]; exact ((Blk.new w 53 _).below (pbelow_one _ _)).below (pbelow_one _ _)
  have na : Blk W0 (w.heap.size + 1) 67 #[.int .i64 a.kind, .bool a.pays, .bool a.yes, .int .i64 a.t] := by
    have := (Blk.new (w.alloc (.cells #[.int .i64 x.id, .int .i64 x.frm, .int .i64 x.to, .int .i64 x.n] 53)) 67 #[.int .i64 a.kind, .bool a.pays, .bool a.yes, .int .i64 a.t]).below (pbelow_one _ (.cells #[.int .i64 b.kind, .bool b.pays, .bool b.yes, .int .i64 b.t] 67))
    rw [hW0]; simpa using this
  have nb : Blk W0 (w.heap.size + 2) 67 #[.int .i64 b.kind, .bool b.pays, .bool b.yes, .int .i64 b.t] := by
    have := Blk.new ((w.alloc (.cells #[.int .i64 x.id, .int .i64 x.frm, .int .i64 x.to, .int .i64 x.n] 53)).alloc (.cells #[.int .i64 a.kind, .bool a.pays, .bool a.yes, .int .i64 a.t] 67)) 67 #[.int .i64 b.kind, .bool b.pays, .bool b.yes, .int .i64 b.t]
    rw [hW0]; simpa using this
  have hWs : W0.heap.size = w.heap.size + 3 := by rw [hW0]; simp
  have HNX := Lib.hid (pnew_calls x W0)
  have F0 := Lib.hid (And.intro b0 hWs)
  have NX := Lib.hid nx
  have NA := Lib.hid na
  have NB := Lib.hid nb
  have HW0 := Lib.hid hW0
  rw [show trVal x = .agg #[.int .i64 x.id, .int .i64 x.frm, .int .i64 x.to, .int .i64 x.n] from rfl] at HNX
  clear b0 nx na nb hW0 hWs
  go_enter Try.func11, Try.ntmps11
  go_wp2_with fail
  have hsz2 : w.heap.size + 1 + 1 = w.heap.size + 2 := rfl
  rw [← HW0.out]
  clear HW0 hsz2
  refine HNX.out.mono ?_
  rintro e w1 ⟨hx1, hx2, b1⟩
  have HNY := Lib.hid (pnew_calls x w1)
  rw [show trVal x = .agg #[.int .i64 x.id, .int .i64 x.frm, .int .i64 x.to, .int .i64 x.n] from rfl] at HNY
  have NX1 := Lib.hid (NX.out.below b1)
  have B1 := Lib.hid b1
  have c0 : w1.cell? ⟨w.heap.size, 0, Option.none⟩ = some (.int .i64 x.id) := NX1.out.cell 0 _ rfl
  have c1 : w1.cell? ⟨w.heap.size, 1, Option.none⟩ = some (.int .i64 x.frm) := NX1.out.cell 1 _ rfl
  have c2 : w1.cell? ⟨w.heap.size, 2, Option.none⟩ = some (.int .i64 x.to) := NX1.out.cell 2 _ rfl
  have c3 : w1.cell? ⟨w.heap.size, 3, Option.none⟩ = some (.int .i64 x.n) := NX1.out.cell 3 _ rfl
  clear b1 HNX NX
  by_cases hex : trErr x = 0
  · obtain ⟨p, rfl, hp, hpl⟩ := hx2 hex
    have HP := Lib.hid hp
    have HPL := Lib.hid hpl
    clear hx1 hx2 hp hpl
    go_wp2_with fail
    refine HNY.out.mono ?_
    rintro e w2 ⟨hy1, hy2, b2⟩
    obtain ⟨q, rfl, hq, hql⟩ := hy2 hex
    have D2 := Lib.hid (show Duo w w2 x a b p q PS.none PS.none from by
      have hpw := Blk.lt HP.out
      have h3 := F0.out.2
      have h1 := B1.out.size
      have h4 := HPL.out
      exact ⟨(NA.out.below B1.out).below b2, (NB.out.below B1.out).below b2, HP.out.below b2, hq, by omega, by omega, by omega, (F0.out.1.trans (B1.out.mono F0.out.1.size)).trans (b2.mono (by omega))⟩)
    clear hy1 hy2 hq hql b2 HNY NX1 NA NB B1 HP HPL c0 c1 c2 c3 hex F0
    go_wp2_with fail
    refine (pawake_calls w2).mono ?_
    rintro e w3 ⟨rfl, b3⟩
    have D3 := Lib.hid (D2.out.later b3)
    clear D2 b3
    go_upto_region 5 with fail
    obtain ⟨l1, l2, l3, l4, l5⟩ := turns_law a.yes b.yes a.t b.t
    obtain ⟨G, hG⟩ : ∃ G, G = PS.none.voteErr true a.yes a.t := ⟨_, rfl⟩
    obtain ⟨I, hI⟩ : ∃ I, I = PS.none.voteErr false b.yes b.t := ⟨_, rfl⟩
    obtain ⟨P1, hP1⟩ : ∃ P, P = PS.none.vote true a.yes a.t := ⟨_, rfl⟩
    obtain ⟨Q1, hQ1⟩ : ∃ P, P = PS.none.vote false b.yes b.t := ⟨_, rfl⟩
    rw [← hP1, ← hI] at l2
    rw [← hQ1, ← hG] at l1
    rw [← hQ1, ← hI] at l3
    rw [← hQ1, ← hG] at l4
    rw [← hP1, ← hQ1] at l5
    obtain ⟨Q2, hQ2⟩ : ∃ P, P = Q1.vote true a.yes a.t := ⟨_, rfl⟩
    rw [← hQ2] at l3 l4 l5
    obtain ⟨Q3, hQ3⟩ : ∃ P, P = Q2.vote false b.yes b.t := ⟨_, rfl⟩
    rw [← hQ3] at l4 l5
    obtain ⟨Z, hZ⟩ : ∃ P, P = P1.vote false b.yes b.t := ⟨_, rfl⟩
    rw [← hZ] at l5
    have D3d := D3.out.later (w' := w3.drew) (pbelow_drew (Below.refl _ _))
    obtain ⟨k0, k1, k2, k3⟩ := D3.out.four
    have HV1 := duo_voteP D3d true a.yes a.t
    rw [← hP1, ← hG] at HV1
    have HV2 := fun w' (h : Duo w w' x a b p q P1 PS.none) => duo_voteP h false b.yes b.t
    rw [l2, ← hZ] at HV2
    have HU1 := fun w' (h : Duo w w' x a b p q Z PS.none) => duo_voteQ h false b.yes b.t
    rw [← hI, ← hQ1] at HU1
    have HU2 := fun w' (h : Duo w w' x a b p q Z Q1) => duo_voteQ h true a.yes a.t
    rw [← l1, ← hQ2] at HU2
    have HU3 := fun w' (h : Duo w w' x a b p q Z Q2) => duo_voteQ h false b.yes b.t
    rw [l3, ← hQ3] at HU3
    have HU4 := fun w' (h : Duo w w' x a b p q Z Q3) => duo_voteQ h true a.yes a.t
    rw [l4, l5] at HU4
    have HV1 := Lib.hid HV1
    have HV2 := Lib.hid HV2
    have HU1 := Lib.hid HU1
    have HU2 := Lib.hid HU2
    have HU3 := Lib.hid HU3
    have HU4 := Lib.hid HU4
    clear D3 D3d l1 l2 l3 l4 l5 hG hI hP1 hQ1 hQ2 hQ3 hZ
    go_region_held3 (fun W => W.cell? ⟨w.heap.size + 1, 2, Option.none⟩ = some (.bool a.yes) ∧ W.cell? ⟨w.heap.size + 1, 3, Option.none⟩ = some (.int .i64 a.t) ∧ W.cell? ⟨w.heap.size + 2, 2, Option.none⟩ = some (.bool b.yes) ∧ W.cell? ⟨w.heap.size + 2, 3, Option.none⟩ = some (.int .i64 b.t)) (go_keep)
      (first
        | (go_at_call 41; (with_reducible refine Calls.mono HV1.out ?_); rintro e w4 ⟨rfl, d4⟩; obtain ⟨z0, z1, z2, z3⟩ := d4.four)
        | (go_at_call 41; (with_reducible refine Calls.mono (HV2.out _ d4) ?_); rintro e w5 ⟨rfl, d5⟩; obtain ⟨y0, y1, y2, y3⟩ := d5.four))
    have D5 := Lib.hid d5
    clear HV1 HV2 d4 d5 k0 k1 k2 k3 z0 z1 z2 z3
    go_upto_region 6 with fail
    have HV1 := Lib.hid (HU1.out _ (D5.out.later (pbelow_drew (Below.refl _ _))))
    have HV2 := HU2
    clear HU1 HU2 D5
    go_region_held3 (fun W => W.cell? ⟨w.heap.size + 1, 2, Option.none⟩ = some (.bool a.yes) ∧ W.cell? ⟨w.heap.size + 1, 3, Option.none⟩ = some (.int .i64 a.t) ∧ W.cell? ⟨w.heap.size + 2, 2, Option.none⟩ = some (.bool b.yes) ∧ W.cell? ⟨w.heap.size + 2, 3, Option.none⟩ = some (.int .i64 b.t)) (go_keep)
      (first
        | (go_at_call 41; (with_reducible refine Calls.mono HV1.out ?_); rintro e w4 ⟨rfl, d4⟩; obtain ⟨z0, z1, z2, z3⟩ := d4.four)
        | (go_at_call 41; (with_reducible refine Calls.mono (HV2.out _ d4) ?_); rintro e w5 ⟨rfl, d5⟩; obtain ⟨y0, y1, y2, y3⟩ := d5.four))
    have D5 := Lib.hid d5
    clear HV1 HV2 d4 d5 z0 z1 z2 z3
    go_upto_region 7 with fail
    have HV1 := Lib.hid (HU3.out _ (D5.out.later (pbelow_drew (Below.refl _ _))))
    have HV2 := HU4
    clear HU3 HU4 D5
    go_region_held3 (fun W => W.cell? ⟨w.heap.size + 1, 2, Option.none⟩ = some (.bool a.yes) ∧ W.cell? ⟨w.heap.size + 1, 3, Option.none⟩ = some (.int .i64 a.t) ∧ W.cell? ⟨w.heap.size + 2, 2, Option.none⟩ = some (.bool b.yes) ∧ W.cell? ⟨w.heap.size + 2, 3, Option.none⟩ = some (.int .i64 b.t)) (go_keep)
      (first
        | (go_at_call 41; (with_reducible refine Calls.mono HV1.out ?_); rintro e w4 ⟨rfl, d4⟩; obtain ⟨z0, z1, z2, z3⟩ := d4.four)
        | (go_at_call 41; (with_reducible refine Calls.mono (HV2.out _ d4) ?_); rintro e w5 ⟨rfl, d5⟩; obtain ⟨y0, y1, y2, y3⟩ := d5.four))
    have D5 := Lib.hid d5
    clear HV1 HV2 d4 d5 z0 z1 z2 z3
    go_wp2_with fail
    refine (ready_calls p x Z w5 D5.out.pl).mono ?_
    rintro e w6 ⟨rfl, n6, rfl⟩
    have D6 := Lib.hid (D5.out.later (pbelow_drewN w5 n6))
    clear D5
    generalize w5.drewN n6 = w6 at D6 ⊢
    go_wp2_with fail
    refine (ready_calls q x Z w6 D6.out.ql).mono ?_
    rintro e w7 ⟨rfl, n7, rfl⟩
    have D7 := Lib.hid (D6.out.later (pbelow_drewN w6 n7))
    clear D6
    generalize w6.drewN n7 = w7 at D7 ⊢
    go_wp2_with fail
    refine (fate_calls p x Z w7 D7.out.pl).mono ?_
    rintro e w8 ⟨rfl, n8, rfl⟩
    have D8 := Lib.hid (D7.out.later (pbelow_drewN w7 n8))
    clear D7
    generalize w7.drewN n8 = w8 at D8 ⊢
    go_wp2_with fail
    refine (fate_calls q x Z w8 D8.out.ql).mono ?_
    rintro e w9 ⟨rfl, n9, rfl⟩
    have D9 := Lib.hid (D8.out.later (pbelow_drewN w8 n9))
    clear D8
    generalize w8.drewN n9 = w9 at D9 ⊢
    go_wp2_with fail
    refine (left_calls p x Z w9 D9.out.pl).mono ?_
    rintro e wa ⟨A, c, rfl, hA, ba, _⟩
    have Da := Lib.hid (D9.out.later ba)
    have HA := Lib.hid hA
    clear D9 hA ba
    go_wp2_with fail
    refine (left_calls q x Z wa Da.out.ql).mono ?_
    rintro e wb ⟨B, d, rfl, hB, bb, _⟩
    have HA2 := Lib.hid (HA.out.below bb)
    have HB := Lib.hid hB
    have BL := Lib.hid (Da.out.later bb).bl
    clear Da hB bb HA
    go_wp2_with fail
    refine (psame_calls A B _ c _ d Z.left wb rfl rfl HA2.out HB.out).mono ?_
    rintro e wc ⟨rfl, nc, rfl⟩
    have BLc := Lib.hid (BL.out.trans ((pbelow_drewN wb nc).mono BL.out.size))
    clear HA2 HB BL
    go_wp2
    go_ret
    exact ⟨by simp, BLc.out⟩
  · have h := hx1 hex
    subst h
    have hz : (trErr x == 0) = false := by simpa using hex
    have HEX := Lib.hid hex
    obtain ⟨E, hEe⟩ : ∃ E, E = trErr x := ⟨_, rfl⟩
    have hEe2 := Lib.hid hEe
    rw [← hEe] at hz ⊢
    have hz0 : ¬ E = 0 := by simpa using hz
    have B1' := Lib.hid (F0.out.1.trans (B1.out.mono F0.out.1.size))
    clear hx1 hx2 hex hEe
    go_wp2_with fail
    refine HNY.out.mono ?_
    rintro e w2 ⟨hy1, hy2, b2⟩
    have h := hy1 HEX.out
    subst h
    rw [← hEe2.out]
    have B2 := Lib.hid (B1'.out.trans (b2.mono B1'.out.size))
    clear hy1 hy2 b2 HNY NX1 NA NB B1 B1' c0 c1 c2 c3 HEX hEe2 F0
    go_wp2_with fail
    refine (pawake_calls w2).mono ?_
    rintro e w3 ⟨rfl, b3⟩
    have B3 := Lib.hid (B2.out.trans (b3.mono B2.out.size))
    clear B2 b3
    go_wp2_with fail
    refine (pawake_calls w3).mono ?_
    rintro e w4 ⟨rfl, b4⟩
    have B4 := Lib.hid (B3.out.trans (b4.mono B3.out.size))
    clear B3 b4
    go_wp2
    go_ret
    exact ⟨by simp, B4.out⟩
theorem pledgeTurns_walk (v0 : Value) (x : Tr) (v1 : Value) (a : Sd) (v2 : Value) (b : Sd) (w : World) (w0 : v0 = trVal x) (w1 : v1 = .agg (sd4 a).toArray) (w2 : v2 = .agg (sd4 b).toArray) :
    Calls Try.prog 11 #[v0, v1, v2] w fun e w' => e = .returned (.bool true) ∧ Below w.heap.size w w' := by
  subst w0 w1 w2
  exact pledgeTurns_core x a b w
end Go.Proofs.Ytpacbbnnmopkjaa
