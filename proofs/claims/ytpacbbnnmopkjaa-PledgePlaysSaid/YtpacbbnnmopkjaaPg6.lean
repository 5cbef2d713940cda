/- The walk of law16's awake. -/
import Derived.Test.YtpacbbnnmopkjaaPg5
set_option linter.unusedVariables false
set_option linter.unusedSimpArgs false
namespace Go.Proofs.Ytpacbbnnmopkjaa
open Go.RowKit

theorem Try.fieldN (w : World) (y0 y1 y2 y3 : Int) : (Instr.field 53 (.agg #[.int .i64 y0, .int .i64 y1, .int .i64 y2, .int .i64 y3]) 3).run Try.prog w = .ok (.int .i64 y3) w := by
  kernel_rfl
/-- What lies there while the example is played. -/
structure AwP (w0 w : World) (g : Nat) (p : PS) (a b : Nat) (A : Option Addr) : Prop where
  pl : IsPledge w g ⟨7, 1, 2, 200⟩ p
  pa : Blk w a 61 #[.int .i64 13, .int .i64 1, .int .i64 200, .bool true]
  pb : Blk w b 61 #[.int .i64 14, .int .i64 2, .int .i64 200, .bool false]
  cs : Cells w A (bls [true, false])
  hg : w0.heap.size ≤ g
  na : a ≠ g
  nb : b ≠ g
  nc : ∀ ad, A = some ad → ad.block ≠ g
  bl : Below w0.heap.size w0 w
theorem AwP.upd {w0 w w' : World} {g : Nat} {p p' : PS} {a b : Nat} {A : Option Addr} (h : AwP w0 w g p a b A) (hp : IsPledge w' g ⟨7, 1, 2, 200⟩ p') (hu : Upd (fun k => k = g) w w') : AwP w0 w' g p' a b A :=
  ⟨hp, h.pa.upd hu h.na, h.pb.upd hu h.nb, h.cs.upd hu (fun ad e _ => h.nc ad e), h.hg, h.na, h.nb, h.nc, h.bl.trans (hu.below h.bl.size (fun i hi e => by have := h.hg; omega))⟩
theorem AwP.later {w0 w w' : World} {g : Nat} {p : PS} {a b : Nat} {A : Option Addr} (h : AwP w0 w g p a b A) (hb : Below w.heap.size w w') : AwP w0 w' g p a b A :=
  ⟨h.pl.below hb, h.pa.below hb, h.pb.below hb, h.cs.below hb, h.hg, h.na, h.nb, h.nc, h.bl.trans (hb.mono h.bl.size)⟩

set_option maxHeartbeats 4000000 in
set_option maxRecDepth 100000 in
theorem pawake_calls (w : World) : Calls Try.prog 26 #[] w fun e w' => e = .returned (.bool true) ∧ Below w.heap.size w w' := by
  go_enter Try.func26, Try.ntmps26
  go_wp2_with fail
  refine (pnew_calls ⟨7, 1, 2, 200⟩ w).mono ?_
  rintro e w1 ⟨_, h1, b1⟩
  obtain ⟨g, rfl, hp, hg⟩ := h1 (by decide)
  have HP := Lib.hid hp
  have hgl : g < w1.heap.size := Blk.lt hp
  clear h1 hp
  go_wp2_with fail
  refine (part_calls g ⟨7, 1, 2, 200⟩ _ true w1 HP.out (by decide) (by decide)).mono ?_
  rintro e w2 ⟨rfl, b2⟩
  rw [show partId ⟨7, 1, 2, 200⟩ true = 13 from rfl, show partAcc ⟨7, 1, 2, 200⟩ true = 1 from rfl]
  have HP2 := Lib.hid (HP.out.below b2)
  clear HP
  go_wp2_with fail
  refine (part_calls g ⟨7, 1, 2, 200⟩ _ false w2 HP2.out (by decide) (by decide)).mono ?_
  rintro e w3 ⟨rfl, b3⟩
  rw [show partId ⟨7, 1, 2, 200⟩ false = 14 from rfl, show partAcc ⟨7, 1, 2, 200⟩ false = 2 from rfl]
  have b4 := pbelow_one w3 (.cells #[.int .i64 13, .int .i64 1, .int .i64 200, .bool true] 61)
  have b5 := pbelow_one (w3.alloc (.cells #[.int .i64 13, .int .i64 1, .int .i64 200, .bool true] 61)) (.cells #[.int .i64 14, .int .i64 2, .int .i64 200, .bool false] 61)
  have n4 := (Blk.new w3 61 #[.int .i64 13, .int .i64 1, .int .i64 200, .bool true]).below b5
  have n5 := Blk.new (w3.alloc (.cells #[.int .i64 13, .int .i64 1, .int .i64 200, .bool true] 61)) 61 #[.int .i64 14, .int .i64 2, .int .i64 200, .bool false]
  rw [World.size_alloc] at n5
  have hp5 := ((HP2.out.below b3).below b4).below b5
  have hb5 : Below w.heap.size w _ := (((b1.trans (b2.mono b1.size)).trans (b3.mono (Nat.le_trans b1.size b2.size))).trans (b4.mono (Nat.le_trans b1.size (Nat.le_trans b2.size b3.size)))).trans (b5.mono (Nat.le_trans b1.size (Nat.le_trans b2.size (Nat.le_trans b3.size b4.size))))
  have hn4 : w3.heap.size ≠ g := by have := b2.size; have := b3.size; omega
  have hn5 : w3.heap.size + 1 ≠ g := by have := b2.size; have := b3.size; omega
  have hgl5 : g < ((w3.alloc (.cells #[.int .i64 13, .int .i64 1, .int .i64 200, .bool true] 61)).alloc (.cells #[.int .i64 14, .int .i64 2, .int .i64 200, .bool false] 61)).heap.size := Blk.lt hp5
  have HP5 := Lib.hid hp5
  have HB5 := Lib.hid hb5
  have N4 := Lib.hid n4
  have N5 := Lib.hid n5
  clear HP2 b1 b2 b3 b4 b5 n4 n5 hp5 hb5 hgl
  go_wp2_with fail
  generalize (w3.alloc (Obj.cells #[.int .i64 13, .int .i64 1, .int .i64 200, .bool true] 61)).alloc (Obj.cells #[.int .i64 14, .int .i64 2, .int .i64 200, .bool false] 61) = W5 at HP5 HB5 N4 N5 hgl5 ⊢
  refine (left_calls g ⟨7, 1, 2, 200⟩ _ W5 HP5.out).mono ?_
  rintro e w6 ⟨A, c, rfl, hc, b6, ho⟩
  rw [show PS.left PS.none = [true, false] from rfl] at hc ⊢
  have aw : AwP w w6 g PS.none w3.heap.size (w3.heap.size + 1) A := ⟨HP5.out.below b6, N4.out.below b6, N5.out.below b6, hc, hg, hn4, hn5, fun ad e => by have := ho ad e; omega, HB5.out.trans (b6.mono HB5.out.size)⟩
  have AW := Lib.hid aw
  generalize w3.heap.size = q4 at AW ⊢
  clear HP5 HB5 N4 N5 hc b6 ho aw hn4 hn5 hgl5 hg
  go_wp2_with fail
  refine (vote_calls g ⟨7, 1, 2, 200⟩ _ true true 5 w6 AW.out.pl).mono ?_
  rintro e w7 ⟨rfl, h7, u7⟩
  rw [show PS.vote PS.none true true 5 = ⟨⟨true, true, 5⟩, ⟨false, false, 0⟩, false, false, 0, 0⟩ from rfl] at h7
  rw [show PS.voteErr PS.none true true 5 = 0 from rfl]
  have AW7 := Lib.hid (AW.out.upd h7 u7)
  clear AW h7 u7
  go_wp2_with fail
  refine (vote_calls g ⟨7, 1, 2, 200⟩ _ false true 8 w7 AW7.out.pl).mono ?_
  rintro e w8 ⟨rfl, h8, u8⟩
  rw [show PS.vote ⟨⟨true, true, 5⟩, ⟨false, false, 0⟩, false, false, 0, 0⟩ false true 8 = ⟨⟨true, true, 5⟩, ⟨true, true, 8⟩, false, false, 0, 0⟩ from rfl] at h8
  rw [show PS.voteErr ⟨⟨true, true, 5⟩, ⟨false, false, 0⟩, false, false, 0, 0⟩ false true 8 = 0 from rfl]
  have AW8 := Lib.hid (AW7.out.upd h8 u8)
  clear AW7 h8 u8
  go_wp2_with fail
  refine (ready_calls g ⟨7, 1, 2, 200⟩ _ w8 AW8.out.pl).mono ?_
  rintro e w9 ⟨rfl, q, rfl⟩
  rw [show PS.ready ⟨⟨true, true, 5⟩, ⟨true, true, 8⟩, false, false, 0, 0⟩ = (8, true) from rfl]
  have AW9 := Lib.hid (AW8.out.later (w' := w8.drewN q) ⟨rfl, rfl, rfl, Nat.le_refl _, fun _ _ => rfl⟩)
  clear AW8
  go_wp2_with fail
  refine (commit_calls g ⟨7, 1, 2, 200⟩ _ 7 _ AW9.out.pl).mono ?_
  rintro e wa ⟨rfl, ha, ua⟩
  rw [show PS.commit ⟨⟨true, true, 5⟩, ⟨true, true, 8⟩, false, false, 0, 0⟩ 7 = ⟨⟨true, true, 5⟩, ⟨true, true, 8⟩, false, false, 0, 0⟩ from rfl] at ha
  rw [show PS.commitErr ⟨⟨true, true, 5⟩, ⟨true, true, 8⟩, false, false, 0, 0⟩ 7 = 178 from rfl]
  have AWA := Lib.hid (AW9.out.upd ha ua)
  clear AW9 ha ua
  go_wp2_with fail
  refine (commit_calls g ⟨7, 1, 2, 200⟩ _ 9 _ AWA.out.pl).mono ?_
  rintro e wb ⟨rfl, hb, ub⟩
  rw [show PS.commit ⟨⟨true, true, 5⟩, ⟨true, true, 8⟩, false, false, 0, 0⟩ 9 = ⟨⟨true, true, 5⟩, ⟨true, true, 8⟩, false, false, 2, 9⟩ from rfl] at hb
  rw [show PS.commitErr ⟨⟨true, true, 5⟩, ⟨true, true, 8⟩, false, false, 0, 0⟩ 9 = 0 from rfl]
  have AWB := Lib.hid (AWA.out.upd hb ub)
  clear AWA hb ub
  go_wp2_with fail
  refine (abort_calls g ⟨7, 1, 2, 200⟩ _ _ AWB.out.pl).mono ?_
  rintro e wc ⟨rfl, hc, uc⟩
  rw [show PS.abort ⟨⟨true, true, 5⟩, ⟨true, true, 8⟩, false, false, 2, 9⟩ = ⟨⟨true, true, 5⟩, ⟨true, true, 8⟩, false, false, 2, 9⟩ from rfl] at hc
  rw [show PS.abortErr ⟨⟨true, true, 5⟩, ⟨true, true, 8⟩, false, false, 2, 9⟩ = 176 from rfl]
  have AWC := Lib.hid (AWB.out.upd hc uc)
  clear AWB hc uc
  go_wp2_with fail
  refine (ack_calls g ⟨7, 1, 2, 200⟩ _ true _ AWC.out.pl).mono ?_
  rintro e wd ⟨rfl, hd, ud⟩
  rw [show PS.ack ⟨⟨true, true, 5⟩, ⟨true, true, 8⟩, false, false, 2, 9⟩ true = ⟨⟨true, true, 5⟩, ⟨true, true, 8⟩, true, false, 2, 9⟩ from rfl] at hd
  rw [show PS.ackErr ⟨⟨true, true, 5⟩, ⟨true, true, 8⟩, false, false, 2, 9⟩ = 0 from rfl]
  have AWD := Lib.hid (AWC.out.upd hd ud)
  clear AWC hd ud
  go_wp2_with fail
  refine (left_calls g ⟨7, 1, 2, 200⟩ _ _ AWD.out.pl).mono ?_
  rintro e we ⟨A2, c2, rfl, hc2, be, _⟩
  rw [show PS.left ⟨⟨true, true, 5⟩, ⟨true, true, 8⟩, true, false, 2, 9⟩ = [false] from rfl] at hc2 ⊢
  have AWE := Lib.hid (AWD.out.later be)
  have HC2 := Lib.hid hc2
  clear AWD hc2 be
  go_wp2_with fail
  refine (fate_calls g ⟨7, 1, 2, 200⟩ _ _ AWE.out.pl).mono ?_
  rintro e wf ⟨rfl, q2, rfl⟩
  have bf : Below we.heap.size we (we.drewN q2) := ⟨rfl, rfl, rfl, Nat.le_refl _, fun _ _ => rfl⟩
  have awf := AWE.out.later bf
  have hc2 := HC2.out.below bf
  obtain ⟨ad, rfl, e0⟩ := awf.cs.get 0 (.bool true) rfl
  obtain ⟨ad2, rfl, e1⟩ := hc2.get 0 (.bool false) rfl
  have a0 := awf.pa.cell 0 _ rfl
  have a1 := awf.pa.cell 1 _ rfl
  have a2 := awf.pa.cell 2 _ rfl
  have a3 := awf.pa.cell 3 _ rfl
  have d0 := awf.pb.cell 0 _ rfl
  have d1 := awf.pb.cell 1 _ rfl
  have d2 := awf.pb.cell 2 _ rfl
  have d3 := awf.pb.cell 3 _ rfl
  have AWF := Lib.hid awf
  have hT := Lib.hid (transfer_calls g ⟨7, 1, 2, 200⟩ _ _ awf.pl)
  clear awf hc2 bf AWE HC2
  have add0 : ∀ a : Addr, a.add 0 = a := fun a => by simp [Addr.add]
  rw [add0] at e0 e1
  have e0' : we.cell? ad = some (.bool true) := e0
  have e1' : we.cell? ad2 = some (.bool false) := e1
  clear add0
  go_wp2_with fail
  refine hT.out.mono ?_
  rintro e wg ⟨rfl, bg⟩
  have HB := Lib.hid (AWF.out.later bg).bl
  clear bg AWF hT
  have kf := Try.fieldN
  go_wp2
  go_ret
  exact ⟨rfl, HB.out⟩
end Go.Proofs.Ytpacbbnnmopkjaa
