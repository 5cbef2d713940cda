/- PledgeFates: the walk of the law. -/
import Derived.Test.YtpacbbnnmopkjaaPledgeEnds
set_option linter.unusedVariables false
set_option linter.unusedSimpArgs false
namespace Go.Proofs.Ytpacbbnnmopkjaa
open Go.RowKit

/-- What the law keeps: the pledge, and with which stamps the sides said yes. -/
structure PFt (w0 w : World) (x : Tr) (g b9 : Nat) (p : PS) (y : Int × Int) : Prop where
  at_ : PAt w0 w x g p
  yes : Blk w b9 84 #[.int .i64 y.1, .int .i64 y.2]
  ticks : Ticks p y
  ne : b9 ≠ g
  lb : w0.heap.size ≤ b9
section
variable {w0 w w' : World} {x : Tr} {g b9 : Nat} {p p' : PS} {y : Int × Int}
theorem PFt.later (h : PFt w0 w x g b9 p y) (hb : Below w.heap.size w w') : PFt w0 w' x g b9 p y := ⟨h.at_.later hb, h.yes.below hb, h.ticks, h.ne, h.lb⟩
end
theorem pft_fate {w0 w : World} {x : Tr} {g b9 : Nat} {p : PS} {y : Int × Int} (h : PFt w0 w x g b9 p y) : Calls Try.prog 34 #[.pointer (some ⟨g, 0, Option.none⟩)] w fun e w' => e = .returned (.tuple #[.int .i64 p.fate, .int .i64 p.at_]) ∧ PFt w0 w' x g b9 p y :=
  (fate_calls g x p w h.at_.pl).mono (by rintro e w' ⟨rfl, n, rfl⟩; exact ⟨rfl, h.later (pbelow_drewN2 _ _)⟩)
theorem tick_yes {p : PS} {o : Sd} {y : Int × Int} (he : p.doErr o = 0) (hk : o.kind = 0) (hy : o.yes = true) : tick p o y = if o.pays then (o.t, y.2) else (y.1, o.t) := if_pos ⟨he, hk, hy⟩
theorem tick_no {p : PS} {o : Sd} {y : Int × Int} (h : ¬ (p.doErr o = 0 ∧ o.kind = 0 ∧ o.yes = true)) : tick p o y = y := if_neg h

set_option maxHeartbeats 4000000 in
set_option maxRecDepth 100000 in
theorem pledgeFates_core (x : Tr) (A : Option Addr) (n c : Nat) (l : List Sd) (w : World) (hn : n = l.length) (hA : Cells w A (sds l)) :
    Calls Try.prog 10 #[.agg #[.int .i64 x.id, .int .i64 x.frm, .int .i64 x.to, .int .i64 x.n], .slice A n c] w fun e w' => e = .returned (.bool true) ∧ Below w.heap.size w w' := by
  subst hn
  have hlen : l.length ≤ 9223372036854775807 := by have := hA.small; rw [sds_length] at this; omega
  have HA := Lib.hid hA
  clear hA
  obtain ⟨W0, hW0⟩ : ∃ W0, W0 = w.alloc (.cells #[.int .i64 x.id, .int .i64 x.frm, .int .i64 x.to, .int .i64 x.n] 53) := ⟨_, rfl⟩
  have b0 : Below w.heap.size w W0 := by rw [hW0]; exact pbelow_one _ _
  have HNX := Lib.hid (pnew_calls x W0)
  have HW0 := Lib.hid hW0
  have B0 := Lib.hid b0
  rw [show trVal x = .agg #[.int .i64 x.id, .int .i64 x.frm, .int .i64 x.to, .int .i64 x.n] from rfl] at HNX
  clear b0 hW0
  go_enter Try.func10, Try.ntmps10
  go_wp2_with fail
  rw [← HW0.out]
  clear HW0
  refine HNX.out.mono ?_
  rintro e w1 ⟨hx1, hx2, b1⟩
  have B1 := Lib.hid (B0.out.trans (b1.mono B0.out.size))
  clear b1 HNX
  by_cases hex : trErr x = 0
  · obtain ⟨g, rfl, hp, hpl⟩ := hx2 hex
    have P1 := Lib.hid (show PAt w w1 x g PS.none from ⟨hp, Nat.le_trans B0.out.size hpl, good_none, B1.out⟩)
    clear hx1 hx2 hp hpl B0 B1 hex
    go_wp2_with fail
    refine (pawake_calls w1).mono ?_
    rintro e w2 ⟨rfl, b2⟩
    have P2 := P1.out.later b2
    have hgl := Blk.lt P2.pl
    have hwl := P2.bl.size
    have F2 : PFt w (w2.alloc (.cells #[.int .i64 0, .int .i64 0] 84)) x g w2.heap.size PS.none (0, 0) := ⟨P2.later (pbelow_one _ _), Blk.new _ _ _, ticks_none, by omega, hwl⟩
    have F2 := Lib.hid F2
    clear P1 b2 P2 hgl hwl
    go_upto_region 6 with fail
    generalize w2.alloc (Obj.cells #[.int .i64 0, .int .i64 0] 84) = W2 at F2 ⊢
    generalize w2.heap.size = b9 at F2 ⊢
    go_wp2
    go_loopw [7, 8, 10] (fun f a i wr => ∃ k : Nat, k ≤ l.length ∧ k ≤ 40 ∧ i = .int .i64 k ∧ f = .int .i64 (playTo l k).fate ∧ a = .int .i64 (playTo l k).at_ ∧ ∃ y, PFt w wr x g b9 (playTo l k) y) (fun _ _ i _ => 40 - (intOf i).toNat)
    case atStart => exact ⟨0, Nat.zero_le _, by omega, rfl, rfl, rfl, (0, 0), F2.out⟩
    case round =>
      obtain ⟨k, hk, hk40, rfl, rfl, rfl, y, hp⟩ := hrel
      clear F2
      have HP := Lib.hid hp
      clear hp
      by_cases hgo : k < l.length ∧ k < 40
      · obtain ⟨hlt, hlt2⟩ := hgo
        obtain ⟨ad, rfl, d0, d1, d2, d3⟩ := (HA.out.below HP.out.at_.bl).said k hlt
        have hs := playTo_succ l k hlt
        obtain ⟨p, hpe⟩ : ∃ p, p = playTo l k := ⟨_, rfl⟩
        rw [← hpe] at HP hs ⊢
        obtain ⟨s, hse⟩ : ∃ s, s = l[k] := ⟨_, rfl⟩
        rw [← hse] at d0 d1 d2 d3 hs
        have HS := Lib.hid hs
        clear hs hse hpe
        go_wp2_with fail
        refine (kind_calls s wr).mono ?_
        rintro e w4 ⟨rfl, b4⟩
        have hr := kindOf_range s
        obtain ⟨o, ho⟩ : ∃ o, o = kindOf s := ⟨_, rfl⟩
        rw [← ho] at HS hr ⊢
        have HR := Lib.hid hr
        have P4 := HP.out.later b4
        have hgl := Blk.lt P4.at_.pl
        have hyl := P4.yes.lt
        have n5 := Blk.new w4 67 #[.int .i64 o.kind, .bool o.pays, .bool o.yes, .int .i64 o.t]
        have P5 := Lib.hid (P4.later (pbelow_one w4 (.cells #[.int .i64 o.kind, .bool o.pays, .bool o.yes, .int .i64 o.t] 67)))
        have hn1 : w4.heap.size ≠ g := by omega
        have hn2 : w4.heap.size ≠ b9 := by omega
        have N5 := Lib.hid n5
        clear HP b4 d0 d1 d2 d3 ho hr P4 n5 hgl hyl
        go_wp2_with fail
        generalize w4.alloc (Obj.cells #[.int .i64 o.kind, .bool o.pays, .bool o.yes, .int .i64 o.t] 67) = W5 at P5 N5 ⊢
        generalize w4.heap.size = b5 at hn1 hn2 N5 ⊢
        refine (do_calls g x p o W5 P5.out.at_.pl).mono ?_
        rintro e w6 ⟨rfl, h6, u6⟩
        have A6 := Lib.hid (P5.out.at_.upd h6 u6 (P5.out.at_.good.does _ HR.out))
        have Y6 := P5.out.yes.upd u6 P5.out.ne
        have n6 := N5.out.upd u6 hn1
        have o0 : w6.cell? ⟨b5, 0, Option.none⟩ = some (.int .i64 o.kind) := n6.cell 0 _ rfl
        have o1 : w6.cell? ⟨b5, 1, Option.none⟩ = some (.bool o.pays) := n6.cell 1 _ rfl
        have o2 : w6.cell? ⟨b5, 2, Option.none⟩ = some (.bool o.yes) := n6.cell 2 _ rfl
        have o3 : w6.cell? ⟨b5, 3, Option.none⟩ = some (.int .i64 o.t) := n6.cell 3 _ rfl
        have z0 : w6.cell? ⟨b9, 0, Option.none⟩ = some (.int .i64 y.1) := Y6.cell 0 _ rfl
        have z1 : w6.cell? ⟨b9, 1, Option.none⟩ = some (.int .i64 y.2) := Y6.cell 1 _ rfl
        have z2 : w6.frozen? ⟨b9, 0, Option.none⟩ = false := Y6.free 0 Option.none
        have z3 : w6.frozen? ⟨b9, 1, Option.none⟩ = false := Y6.free 1 Option.none
        have TK := Lib.hid (ticks_does P5.out.ticks o)
        have GS := Lib.hid (fun hf => P5.out.at_.good.stays o hf)
        have NE := Lib.hid (And.intro P5.out.ne P5.out.lb)
        have HY6 := Lib.hid Y6
        clear h6 u6 P5 n6 N5 Y6
        -- what is told behind it
        have key : ∀ (W : World) (y' : Int × Int), W = w6 ∧ y' = y ∨ (W = w6.setCell ⟨b9, 0, Option.none⟩ (.int .i64 o.t) ∧ y' = (o.t, y.2)) ∨ (W = w6.setCell ⟨b9, 1, Option.none⟩ (.int .i64 o.t) ∧ y' = (y.1, o.t)) → tick p o y = y' → PFt w W x g b9 (p.does o) y' := by
          intro W y' hW ht
          have hne := NE.out.1
          have hlb := NE.out.2
          have htk := TK.out
          rw [ht] at htk
          have hA := A6.out
          rcases hW with ⟨rfl, rfl⟩ | ⟨rfl, rfl⟩ | ⟨rfl, rfl⟩
          · exact ⟨hA, HY6.out, htk, hne, hlb⟩
          · have hu : Upd (fun k => k = b9) w6 (w6.setCell ⟨b9, 0, Option.none⟩ (.int .i64 o.t)) := (Upd.refl _ _).set _ _ (fun _ => rfl)
            exact ⟨⟨hA.pl.upd hu (fun e => hne e.symm), hA.lg, hA.good, hA.bl.trans (hu.below hA.bl.size (fun i hi e => by omega))⟩, by simpa using HY6.out.set 0 (.int .i64 o.t), htk, hne, hlb⟩
          · have hu : Upd (fun k => k = b9) w6 (w6.setCell ⟨b9, 1, Option.none⟩ (.int .i64 o.t)) := (Upd.refl _ _).set _ _ (fun _ => rfl)
            exact ⟨⟨hA.pl.upd hu (fun e => hne e.symm), hA.lg, hA.good, hA.bl.trans (hu.below hA.bl.size (fun i hi e => by omega))⟩, by simpa using HY6.out.set 1 (.int .i64 o.t), htk, hne, hlb⟩
        have KEY := Lib.hid key
        clear key A6 TK NE HY6
        obtain ⟨p', hp'⟩ : ∃ p', p' = p.does o := ⟨_, rfl⟩
        rw [← hp'] at HS GS KEY
        clear hp'
        obtain ⟨ok, op, oy, ot⟩ := o
        simp only at o0 o1 o2 o3
        by_cases he : PS.doErr p ⟨ok, op, oy, ot⟩ = 0
        case' neg =>
          have F7 := Lib.hid (KEY.out _ _ (.inl ⟨rfl, rfl⟩) (tick_no (fun h => he h.1)))
          have heb : (PS.doErr p ⟨ok, op, oy, ot⟩ == 0) = false := by simpa using he
          generalize PS.doErr p ⟨ok, op, oy, ot⟩ = E at he heb ⊢
          clear KEY
          go_wp2_with fail
        case' pos =>
          rw [he]
          by_cases hkd : ok = 0
          case' neg =>
            have F7 := Lib.hid (KEY.out _ _ (.inl ⟨rfl, rfl⟩) (tick_no (fun h => hkd h.2.1)))
            have hkb : (ok == 0) = false := by simpa using hkd
            clear KEY he
            go_wp2_with fail
          case' pos =>
            cases oy
            case' false =>
              have F7 := Lib.hid (KEY.out _ _ (.inl ⟨rfl, rfl⟩) (tick_no (fun h => by cases h.2.2)))
              have hkb : (ok == 0) = true := by simpa using hkd
              clear KEY he hkd
              go_wp2_with fail
            case' true =>
              have hkb : (ok == 0) = true := by simpa using hkd
              cases op
              case' false =>
                have F7 := Lib.hid (KEY.out _ _ (.inr (.inr ⟨rfl, rfl⟩)) (tick_yes he hkd rfl))
                clear KEY he hkd
                go_wp2_with fail
              case' true =>
                have F7 := Lib.hid (KEY.out _ _ (.inr (.inl ⟨rfl, rfl⟩)) (tick_yes he hkd rfl))
                clear KEY he hkd
                go_wp2_with fail
        all_goals
          refine (pft_fate F7.out).mono ?_
          rintro e w7 ⟨rfl, f7⟩
          obtain ⟨y', f7⟩ : ∃ y', PFt w w7 x g b9 p' y' := ⟨_, f7⟩
          obtain ⟨t1, t2, t3⟩ := f7.at_.good.told f7.ticks
          have z0 : w7.cell? ⟨b9, 0, Option.none⟩ = some (.int .i64 y'.1) := f7.yes.cell 0 _ rfl
          have z1 : w7.cell? ⟨b9, 1, Option.none⟩ = some (.int .i64 y'.2) := f7.yes.cell 1 _ rfl
          have F8 := Lib.hid f7
          have gs := GS.out
          obtain ⟨f', hf'⟩ : ∃ f', f' = p'.fate := ⟨_, rfl⟩
          obtain ⟨a', ha'⟩ : ∃ a', a' = p'.at_ := ⟨_, rfl⟩
          obtain ⟨f0, hf0⟩ : ∃ f, f = p.fate := ⟨_, rfl⟩
          obtain ⟨a0, ha0⟩ : ∃ a, a = p.at_ := ⟨_, rfl⟩
          rw [← hf', ← hf0, ← ha', ← ha0] at gs
          rw [← hf', ← ha'] at t1 t3
          rw [← hf'] at t2
          rw [← hf', ← ha', ← hf0, ← ha0]
          have HF' := Lib.hid hf'
          have HA' := Lib.hid ha'
          generalize y'.1 = u at z0 t1
          generalize y'.2 = v at z1 t1
          clear F7 f7 GS hf' ha' hf0 ha0 o0 o1 o2 o3
          by_cases h0 : f0 = 0
          case' pos =>
            subst h0
            clear gs
          case' neg =>
            obtain ⟨e1, e2⟩ := gs h0
            subst e1 e2
            have hb3 : (f' == 0) = false := by simpa using h0
            clear gs
          all_goals
            by_cases h2 : f' = 2
            case' pos =>
              obtain ⟨q1, q2, q3, q4⟩ := t1 h2
              subst h2
              have q1 : ¬ u < 1 := by omega
              have q2 : ¬ v < 1 := by omega
              have q3 : ¬ a' < u := by omega
              have q4 : ¬ a' < v := by omega
              clear t1 t2 t3
              go_wp2
            case' neg =>
              have q0 := t3 h2
              subst q0
              have hb2 : (f' == 2) = false := by simpa using h2
              have hb1 : (f' == 1) = false := by simpa using t2
              clear t1 t3
              go_wp2
            all_goals
              go_roundw
              case rel => exact ⟨k + 1, by omega, by omega, by go_num, by rw [HS.out, ← HF'.out], by rw [HS.out, ← HA'.out], y', by rw [HS.out]; exact F8.out⟩
              case measure => simp [intOf]; omega
      · by_cases hlt : k < l.length
        case' pos =>
          obtain rfl : k = 40 := by omega
          clear hgo
          have BL := Lib.hid HP.out.at_.bl
          generalize playTo l 40 = p at *
          clear HP
          go_wp2
        case' neg =>
          obtain rfl : k = l.length := by omega
          clear hgo
          have BL := Lib.hid HP.out.at_.bl
          generalize playTo l l.length = p at *
          clear HP
          go_wp2
        all_goals
          go_ret
          exact ⟨rfl, BL.out⟩
  · have h := hx1 hex
    subst h
    have hz : (trErr x == 0) = false := by simpa using hex
    obtain ⟨E, hEe⟩ : ∃ E, E = trErr x := ⟨_, rfl⟩
    rw [← hEe] at hz ⊢
    have hz0 : ¬ E = 0 := by simpa using hz
    clear hx1 hx2 hex hEe B0
    go_wp2_with fail
    refine (pawake_calls w1).mono ?_
    rintro e w3 ⟨rfl, b3⟩
    have B3 := Lib.hid (B1.out.trans (b3.mono B1.out.size))
    clear B1 b3
    go_wp2_with fail
    refine (pawake_calls w3).mono ?_
    rintro e w4 ⟨rfl, b4⟩
    have B4 := Lib.hid (B3.out.trans (b4.mono B3.out.size))
    clear B3 b4
    go_wp2
    go_ret
    exact ⟨by simp, B4.out⟩
theorem pledgeFates_walk (v0 : Value) (x : Tr) (A : Option Addr) (n c : Nat) (l : List Sd) (w : World) (w0 : v0 = trVal x) (w1 : n = l.length ∧ Cells w A (sds l)) :
    Calls Try.prog 10 #[v0, .slice A n c] w fun e w' => e = .returned (.bool true) ∧ Below w.heap.size w w' := by
  subst w0
  exact pledgeFates_core x A n c l w w1.1 w1.2
end Go.Proofs.Ytpacbbnnmopkjaa
