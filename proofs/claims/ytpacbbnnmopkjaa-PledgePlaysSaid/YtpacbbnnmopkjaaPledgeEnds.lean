/- PledgeEnds: the walk of the law. -/
import Derived.Test.YtpacbbnnmopkjaaPg7
import Derived.Test.YtpacbbnnmopkjaaOpp
set_option linter.unusedVariables false
set_option linter.unusedSimpArgs false
namespace Go.Proofs.Ytpacbbnnmopkjaa
open Go.RowKit

theorem sds_length (l : List Sd) : (sds l).length = l.length * 4 := flat_len sd4 4 (fun _ => rfl) l
theorem padd_off (a : Addr) (n k : Nat) (hk : 0 < k) : a.add (n + k) = ⟨(a.add n).block, (a.add n).off + k, Option.none⟩ := by
  unfold Addr.add
  by_cases h : n = 0
  · subst h; simp; omega
  · simp [h]; omega
theorem Cells.said {w : World} {A : Option Addr} {l : List Sd} (h : Cells w A (sds l)) (k : Nat) (hk : k < l.length) :
    ∃ ad, A = some ad ∧ w.cell? (ad.add (k * 4)) = some (.int .i64 (l[k]).kind) ∧ w.cell? ⟨(ad.add (k * 4)).block, (ad.add (k * 4)).off + 1, Option.none⟩ = some (.bool (l[k]).pays) ∧
      w.cell? ⟨(ad.add (k * 4)).block, (ad.add (k * 4)).off + 2, Option.none⟩ = some (.bool (l[k]).yes) ∧ w.cell? ⟨(ad.add (k * 4)).block, (ad.add (k * 4)).off + 3, Option.none⟩ = some (.int .i64 (l[k]).t) := by
  have g := fun j (hj : j < 4) => flat_get sd4 4 (fun _ => rfl) l k j hk hj
  obtain ⟨ad, rfl, h0⟩ := h.get _ _ (g 0 (by decide))
  obtain ⟨a1, e, h1⟩ := h.get _ _ (g 1 (by decide))
  cases e
  obtain ⟨a2, e, h2⟩ := h.get _ _ (g 2 (by decide))
  cases e
  obtain ⟨a3, e, h3⟩ := h.get _ _ (g 3 (by decide))
  cases e
  rw [padd_off _ _ _ (by decide)] at h1 h2 h3
  exact ⟨ad, rfl, h0, h1, h2, h3⟩

/-- A pledge behind some calls, that lies above what was there. -/
structure PAt (w0 w : World) (x : Tr) (g : Nat) (p : PS) : Prop where
  pl : IsPledge w g x p
  lg : w0.heap.size ≤ g
  good : Good p
  bl : Below w0.heap.size w0 w
section
variable {w0 w w' : World} {x : Tr} {g : Nat} {p p' : PS}
theorem PAt.later (h : PAt w0 w x g p) (hb : Below w.heap.size w w') : PAt w0 w' x g p := ⟨h.pl.below hb, h.lg, h.good, h.bl.trans (hb.mono h.bl.size)⟩
theorem PAt.upd (h : PAt w0 w x g p) (hp : IsPledge w' g x p') (hu : Upd (fun k => k = g) w w') (hg : Good p') : PAt w0 w' x g p' :=
  ⟨hp, h.lg, hg, h.bl.trans (hu.below h.bl.size (fun i hi e => by have := h.lg; omega))⟩
end
theorem pbelow_drewN2 (w : World) (n : Nat) : Below w.heap.size w (w.drewN n) := ⟨rfl, rfl, rfl, Nat.le_refl _, fun _ _ => rfl⟩
/-- The same, without the good. -/
structure PLt (w0 w : World) (x : Tr) (g : Nat) (p : PS) : Prop where
  pl : IsPledge w g x p
  lg : w0.heap.size ≤ g
  bl : Below w0.heap.size w0 w
section
variable {w0 w w' : World} {x : Tr} {g : Nat} {p p' : PS}
theorem PAt.lt (h : PAt w0 w x g p) : PLt w0 w x g p := ⟨h.pl, h.lg, h.bl⟩
theorem PLt.later (h : PLt w0 w x g p) (hb : Below w.heap.size w w') : PLt w0 w' x g p := ⟨h.pl.below hb, h.lg, h.bl.trans (hb.mono h.bl.size)⟩
theorem PLt.upd (h : PLt w0 w x g p) (hp : IsPledge w' g x p') (hu : Upd (fun k => k = g) w w') : PLt w0 w' x g p' :=
  ⟨hp, h.lg, h.bl.trans (hu.below h.bl.size (fun i hi e => by have := h.lg; omega))⟩
end
def playTo (l : List Sd) (k : Nat) : PS := (l.take k).foldl (fun p s => p.does (kindOf s)) PS.none
theorem playTo_succ (l : List Sd) (k : Nat) (hk : k < l.length) : playTo l (k + 1) = (playTo l k).does (kindOf l[k]) := by
  unfold playTo
  rw [List.take_succ_eq_append_getElem hk, List.foldl_append]; rfl
theorem acked_succ (p : PS) (l : List Bool) (k : Nat) (hk : k < l.length) : acked p (l.take (k + 1)) = (acked p (l.take k)).ack l[k] := by
  unfold acked
  rw [List.take_succ_eq_append_getElem hk, List.foldl_append]; rfl

set_option maxHeartbeats 4000000 in
set_option maxRecDepth 100000 in
theorem pledgeEnds_core (x : Tr) (A : Option Addr) (n c : Nat) (l : List Sd) (w : World) (hn : n = l.length) (hA : Cells w A (sds l)) :
    Calls Try.prog 12 #[.agg #[.int .i64 x.id, .int .i64 x.frm, .int .i64 x.to, .int .i64 x.n], .slice A n c] w fun e w' => e = .returned (.bool true) ∧ Below w.heap.size w w' := by
  subst hn
  have hlen : l.length ≤ 9223372036854775807 := by have := hA.small; rw [sds_length] at this; omega
  have HA := Lib.hid hA
  clear hA
  obtain ⟨W0, hW0⟩ : ∃ W0, W0 = w.alloc (.cells #[.int .i64 x.id, .int .i64 x.frm, .int .i64 x.to, .int .i64 x.n] 53) := ⟨_, rfl⟩
  have b0 : Below w.heap.size w W0 := by rw [hW0]; exact pbelow_one _ _
  have HNX := Lib.hid (pnew_calls x W0)
  have HW0 := Lib.hid hW0
  have B0 := Lib.hid b0
  rw [show trVal x = .agg #[.int .i64 x.id, .int .i64 x.frm, .int .i64 x.to, .int .i64 x.n] from rfl] at HNX
  clear b0 hW0
  go_enter Try.func12, Try.ntmps12
  go_wp2_with fail
  rw [← HW0.out]
  clear HW0
  refine HNX.out.mono ?_
  rintro e w1 ⟨hx1, hx2, b1⟩
  have B1 := Lib.hid (B0.out.trans (b1.mono B0.out.size))
  clear b1 HNX
  by_cases hex : trErr x = 0
  · obtain ⟨g, rfl, hp, hpl⟩ := hx2 hex
    have P1 := Lib.hid (show PAt w w1 x g PS.none from ⟨hp, Nat.le_trans B0.out.size hpl, good_none, B1.out⟩)
    clear hx1 hx2 hp hpl B0 B1 hex
    go_wp2_with fail
    refine (pawake_calls w1).mono ?_
    rintro e w2 ⟨rfl, b2⟩
    have P2 := Lib.hid (P1.out.later b2)
    clear P1 b2
    go_wp2
    go_loopw [7] (fun i wr => ∃ k : Nat, k ≤ l.length ∧ k ≤ 30 ∧ i = .int .i64 k ∧ PAt w wr x g (playTo l k)) (fun i _ => 30 - (intOf i).toNat)
    case atStart => exact ⟨0, Nat.zero_le _, by omega, rfl, P2.out⟩
    case round =>
      obtain ⟨k, hk, hk30, rfl, hp⟩ := hrel
      clear P2
      have HP := Lib.hid hp
      clear hp
      by_cases hgo : k < l.length ∧ k < 30
      · obtain ⟨hlt, hlt2⟩ := hgo
        obtain ⟨ad, rfl, d0, d1, d2, d3⟩ := (HA.out.below HP.out.bl).said k hlt
        have hs := playTo_succ l k hlt
        obtain ⟨s, hse⟩ : ∃ s, s = l[k] := ⟨_, rfl⟩
        rw [← hse] at d0 d1 d2 d3 hs
        have HS := Lib.hid hs
        clear hs hse
        go_wp2_with fail
        refine (kind_calls s wr).mono ?_
        rintro e w4 ⟨rfl, b4⟩
        have P4 := Lib.hid (HP.out.later b4)
        clear HP b4 d0 d1 d2 d3
        go_wp2_with fail
        refine (do_calls g x _ (kindOf s) w4 P4.out.pl).mono ?_
        rintro e w5 ⟨rfl, h5, u5⟩
        have P5 := Lib.hid (P4.out.upd h5 u5 (P4.out.good.does _ (kindOf_range s)))
        clear P4 h5 u5
        go_wp2
        go_roundw
        case rel => exact ⟨k + 1, by omega, by omega, by go_num, by rw [HS.out]; exact P5.out⟩
        case measure => simp [intOf]; omega
      · obtain ⟨p, hpe⟩ : ∃ p, p = playTo l k := ⟨_, rfl⟩
        rw [← hpe] at HP
        have hgd := HP.out.good
        clear hpe
        by_cases hlt : k < l.length
        case' pos =>
          obtain rfl : k = 30 := by omega
          clear hgo
          go_wp2_with fail
        case' neg =>
          obtain rfl : k = l.length := by omega
          clear hgo
          go_wp2_with fail
        all_goals
          refine (ready_calls g x p wr HP.out.pl).mono ?_
          rintro e w2 ⟨rfl, n2, rfl⟩
          have P2 := Lib.hid (HP.out.later (pbelow_drewN2 wr n2)).lt
          clear HP
          generalize wr.drewN n2 = w2 at P2 ⊢
          by_cases hr : p.ready.2 = true
          case' pos =>
            obtain ⟨he, hf⟩ := hgd.commits hr
            rw [hr]
            generalize p.ready.1 = t at he hf ⊢
            clear hgd hr
            have HE := Lib.hid he
            have HF := Lib.hid hf
            clear he hf
            go_wp2_with fail
            refine (commit_calls g x p t w2 P2.out.pl).mono ?_
            rintro e w3 ⟨rfl, h3, u3⟩
            rw [HE.out]
            have P3 := Lib.hid (P2.out.upd h3 u3)
            generalize p.commit t = Z at P3 HF
            clear P2 h3 u3 HE
            go_wp2_with fail
          case' neg =>
            have hr2 : p.ready.2 = false := by simpa using hr
            rw [hr2]
            generalize p.ready.1 = t
            clear hr hr2 hgd
            go_wp2_with fail
            refine (fate_calls g x p w2 P2.out.pl).mono ?_
            rintro e w3 ⟨rfl, n3, rfl⟩
            have P3 := Lib.hid (P2.out.later (pbelow_drewN2 w2 n3))
            clear P2
            generalize w2.drewN n3 = w3 at P3 ⊢
            by_cases hf0 : p.fate = 0
            case' pos =>
              obtain ⟨he, hf⟩ := abort_ends hf0
              rw [hf0]
              clear hf0
              have HE := Lib.hid he
              have HF := Lib.hid hf
              clear he hf
              go_wp2_with fail
              refine (abort_calls g x p w3 P3.out.pl).mono ?_
              rintro e w4 ⟨rfl, h4, u4⟩
              rw [HE.out]
              have P3 := Lib.hid (P3.out.upd h4 u4)
              generalize p.abort = Z at P3 HF
              clear h4 u4 HE
              go_wp2_with fail
            case' neg =>
              have hfb : (p.fate == 0) = false := by simpa using hf0
              have HF := Lib.hid hf0
              obtain ⟨Z, hZ⟩ : ∃ Z, Z = p := ⟨_, rfl⟩
              have HZ := Lib.hid hZ
              rw [← hZ] at P3 HF
              generalize p.fate = f at hfb hf0 ⊢
              generalize p.at_ = a at *
              clear hZ HZ
              go_wp2_with fail
        all_goals
          refine (left_calls g x Z _ P3.out.pl).mono ?_
          rintro e w5 ⟨A2, c2, rfl, hA2, b5, ho2⟩
          have hgl := Blk.lt P3.out.pl
          have P5 := Lib.hid (P3.out.later b5)
          have HO := Lib.hid (show ∀ ad, A2 = some ad → ad.block ≠ g from fun ad e => by have := ho2 ad e; omega)
          have hll : Z.left.length ≤ 2 := by rw [← leftTo_two]; exact leftTo_le Z 2
          have HLE := Lib.hid (acked_left HF.out)
          have HFA := Lib.hid (fun (k : Nat) => acked_fate (Z.left.take k) Z)
          generalize Z.left = L at *
          have HA2 := Lib.hid hA2
          clear P3 b5 ho2 hA2 hgl
          go_wp2
          go_loopw [13] (fun i wr => ∃ k : Nat, k ≤ L.length ∧ i = .int .i64 k ∧ PLt w wr x g (acked Z (L.take k)) ∧ Cells wr A2 (bls L)) (fun i _ => L.length - (intOf i).toNat)
          case atStart => exact ⟨0, Nat.zero_le _, rfl, P5.out, HA2.out⟩
          case round =>
            obtain ⟨k2, hk2, rfl, hp, hc⟩ := hrel
            clear P5 HA2
            have HP := Lib.hid hp
            have HC := Lib.hid hc
            clear hp hc
            by_cases hlt2 : k2 < L.length
            · obtain ⟨ad2, rfl, d0⟩ := HC.out.bl k2 hlt2
              have HS := Lib.hid (acked_succ Z L k2 hlt2)
              generalize L[k2] = b at d0 HS
              have he : PS.ackErr (acked Z (L.take k2)) = 0 := by unfold PS.ackErr; rw [HFA.out k2, if_neg HF.out]
              have HE := Lib.hid he
              clear he
              go_wp2_with fail
              refine (ack_calls g x _ b wr HP.out.pl).mono ?_
              rintro e w6 ⟨rfl, h6, u6⟩
              rw [HE.out]
              have P6 := Lib.hid (HP.out.upd h6 u6)
              have C6 := Lib.hid (HC.out.upd u6 (fun ad e _ h => HO.out ad e h))
              clear h6 u6 d0 HP HC HE
              go_wp2
              go_roundw
              case rel => exact ⟨k2 + 1, by omega, by go_num, by rw [HS.out]; exact P6.out, C6.out⟩
              case measure => simp [intOf]; omega
            · obtain rfl : k2 = L.length := by omega
              have hz : (acked Z (L.take L.length)).fate ≠ 0 := by rw [HFA.out]; exact HF.out
              have hlf : (acked Z (L.take L.length)).left = [] := by rw [List.take_of_length_le (Nat.le_refl _)]; exact HLE.out
              obtain ⟨Y, hY⟩ : ∃ Y, Y = acked Z (L.take L.length) := ⟨_, rfl⟩
              rw [← hY] at HP hz hlf
              have HLF := Lib.hid hlf
              have hzb : (Y.fate == 0) = false := by simpa using hz
              clear hY hlf HC
              go_wp2_with fail
              refine (fate_calls g x Y wr HP.out.pl).mono ?_
              rintro e w7 ⟨rfl, n7, rfl⟩
              have P7 := Lib.hid (HP.out.later (pbelow_drewN2 wr n7))
              clear HP
              generalize wr.drewN n7 = w7 at P7 ⊢
              generalize Y.fate = f2 at hz hzb ⊢
              generalize Y.at_ = a2
              go_wp2_with fail
              refine (left_calls g x Y w7 P7.out.pl).mono ?_
              rintro e w8 ⟨A3, c3, rfl, _, b8, _⟩
              rw [HLF.out]
              have B8 := Lib.hid (P7.out.later b8).bl
              clear P7 b8
              go_wp2
              go_ret
              have hzt : (f2 != 0) = true := by simpa using hz
              exact ⟨by rw [show (true : Bool) = (f2 != 0) from hzt.symm]; rfl, B8.out⟩
  · have h := hx1 hex
    subst h
    have hz : (trErr x == 0) = false := by simpa using hex
    obtain ⟨E, hEe⟩ : ∃ E, E = trErr x := ⟨_, rfl⟩
    rw [← hEe] at hz ⊢
    have hz0 : ¬ E = 0 := by simpa using hz
    clear hx1 hx2 hex hEe B0
    go_wp2_with fail
    refine (pawake_calls w1).mono ?_
    rintro e w3 ⟨rfl, b3⟩
    have B3 := Lib.hid (B1.out.trans (b3.mono B1.out.size))
    clear B1 b3
    go_wp2_with fail
    refine (pawake_calls w3).mono ?_
    rintro e w4 ⟨rfl, b4⟩
    have B4 := Lib.hid (B3.out.trans (b4.mono B3.out.size))
    clear B3 b4
    go_wp2
    go_ret
    exact ⟨by simp, B4.out⟩
theorem pledgeEnds_walk (v0 : Value) (x : Tr) (A : Option Addr) (n c : Nat) (l : List Sd) (w : World) (w0 : v0 = trVal x) (w1 : n = l.length ∧ Cells w A (sds l)) :
    Calls Try.prog 12 #[v0, .slice A n c] w fun e w' => e = .returned (.bool true) ∧ Below w.heap.size w w' := by
  subst w0
  exact pledgeEnds_core x A n c l w w1.1 w1.2
end Go.Proofs.Ytpacbbnnmopkjaa
