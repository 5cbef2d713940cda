/- The walks of wal's Append and Sync. -/
import Derived.Test.YtimjadjopemefaaWa1
import Derived.Deep.RegionHeld3
set_option linter.unusedVariables false
set_option linter.unusedSimpArgs false
namespace Go.Proofs.Ytimjadjopemefaa
open Go.RowKit

def WS.met (V : WS) (E : Int) : WS := { V with dead := V.dead || decide (E = 71) }
def WS.app (V : WS) (E : Int) : WS := { V with dead := V.dead || decide (E = 71), all := if E = 0 then V.all + 1 else V.all }
def WS.syn (V : WS) (E : Int) : WS := { V with dead := V.dead || decide (E = 71), sure := if E = 0 then V.all else V.sure }

set_option maxHeartbeats 1000000 in
theorem wappend_dead (g gw : Nat) (V : WS) (A : Option Addr) (n c : Nat) (w : World) (h : Blk w gw 139 (wCells g V)) (hd : V.dead = true) :
    Calls Try.prog 58 #[.pointer (some ⟨gw, 0, none⟩), .slice A n c] w fun e w' => e = .returned (.int .i64 81) ∧ w = w' := by
  have c4 : w.cell? ⟨gw, 4, none⟩ = some (.bool V.dead) := h.cell 4 _ rfl
  rw [hd] at c4
  clear h hd
  go_enter Try.func58, Try.ntmps58
  go_wp2
  go_ret
  exact ⟨rfl, rfl⟩
set_option maxHeartbeats 1000000 in
theorem wappend_long (g gw : Nat) (V : WS) (A : Option Addr) (n c : Nat) (w : World) (h : Blk w gw 139 (wCells g V)) (hd : V.dead = false) (hn : 65536 < n) (hm : n ≤ 9223372036854775807) :
    Calls Try.prog 58 #[.pointer (some ⟨gw, 0, none⟩), .slice A n c] w fun e w' => e = .returned (.int .i64 30) ∧ w = w' := by
  have c4 : w.cell? ⟨gw, 4, none⟩ = some (.bool V.dead) := h.cell 4 _ rfl
  rw [hd] at c4
  clear h hd
  go_enter Try.func58, Try.ntmps58
  go_wp2_with fail
  refine (seal_long A n c w hn hm).mono ?_
  rintro e w1 ⟨rfl, rfl⟩
  go_wp2
  go_ret
  exact ⟨rfl, rfl⟩

set_option maxHeartbeats 4000000 in
set_option maxRecDepth 100000 in
theorem wappend_calls {w0 w : World} {S : Nat → Prop} {g gw : Nat} {D : DS} {V : WS} (h : HW w0 w S g gw D V) (A : Option Addr) (n c : Nat) (l : List UInt8) (hn : n = l.length) (hA : Cells w A (byts l)) (hl : l.length ≤ 65536) (hd : V.dead = false) (hac : D.acts < 1000000000) (hall : V.all < 1000000000) :
    Calls Try.prog 58 #[.pointer (some ⟨gw, 0, none⟩), .slice A n c] w fun e w' => e = .returned (.int .i64 (D.appErr V.log (frameOf l))) ∧ ∃ S', HW w0 w' S' g gw (D.append V.log (frameOf l)) (V.app (D.appErr V.log (frameOf l))) ∧ GrewW S S' gw w w' := by
  subst hn
  have H := Lib.hid h
  have HA := Lib.hid hA
  have c4 : w.cell? ⟨gw, 4, none⟩ = some (.bool false) := by have := h.wal.cell 4 (.bool V.dead) rfl; rw [hd] at this; exact this
  clear h hA
  obtain ⟨E, hE⟩ : ∃ E, E = D.appErr V.log (frameOf l) := ⟨_, rfl⟩
  obtain ⟨D', hD'⟩ : ∃ D', D' = D.append V.log (frameOf l) := ⟨_, rfl⟩
  rw [← hE, ← hD']
  have HE := Lib.hid hE
  have HD := Lib.hid hD'
  clear hE hD'
  go_enter Try.func58, Try.ntmps58
  go_wp2_with fail
  refine (seal_calls A l.length c l w rfl HA.out hl).mono ?_
  rintro e w1 ⟨v1, rfl, r1, b1⟩
  obtain ⟨B, cb, rfl, _, _, hB, hBo⟩ := r1.cells1
  have b1d : Below w.heap.size w w1.drew := bdrew b1
  have h1 := H.out.later b1d
  have hap := held_append H.out.held b1d V.log B (8 + l.length) cb (frameOf l) (by rw [frameOf_length]) (hB.below (bdrew (Below.refl _ _))) (fun ad e => .inr (hBo ad e).1) (by rw [frameOf_length]; omega) hac
  rw [← HE.out, ← HD.out] at hap
  have HAP := Lib.hid hap
  have H1 := Lib.hid h1
  have B1 := Lib.hid b1d
  have c2 : w1.cell? ⟨gw, 2, none⟩ = some (.pointer (some ⟨g, 0, none⟩)) := h1.wal.cell 2 _ rfl
  have c3 : w1.cell? ⟨gw, 3, none⟩ = some (.int .i64 V.log) := h1.wal.cell 3 _ rfl
  have HM := Lib.hid (fun W (hb : Blk W gw 139 (wCells g V)) => met_calls g gw V E W hb)
  clear HE HD hap h1 b1 b1d r1 hB hBo c4
  go_upto_region 6 with fail
  go_region_held3 (fun W => W.cell? ⟨gw, 2, none⟩ = some (.pointer (some ⟨g, 0, none⟩)) ∧ W.cell? ⟨gw, 3, none⟩ = some (.int .i64 V.log)) (go_keep)
    (first
      | (go_at_call 40; (with_reducible refine Calls.mono HAP.out ?_); rintro e w2 ⟨rfl, S2, hd2, hg2⟩; have h2 := H1.out.disk hd2 hg2; have hb2 := h2.wal; have y2 : w2.cell? ⟨gw, 2, none⟩ = some (.pointer (some ⟨g, 0, none⟩)) := hb2.cell 2 _ rfl; have y3 : w2.cell? ⟨gw, 3, none⟩ = some (.int .i64 V.log) := hb2.cell 3 _ rfl)
      | (go_at_call 80; (with_reducible refine Calls.mono (HM.out _ hb2) ?_); rintro e w3 ⟨rfl, hb3, hu3⟩; have z2 : w3.cell? ⟨gw, 2, none⟩ = some (.pointer (some ⟨g, 0, none⟩)) := hb3.cell 2 _ rfl; have z3 : w3.cell? ⟨gw, 3, none⟩ = some (.int .i64 V.log) := hb3.cell 3 _ rfl))
  all_goals
    have h3 := h2.turn hb3 hu3
    have g3 : GrewW S S2 gw w w3 := (GrewW.later B1.out).trans ((GrewW.of_grew hg2).trans (GrewW.turn hu3))
    have q0 : w3.cell? ⟨gw, 0, none⟩ = some (.int .i64 (V.all : Int)) := hb3.cell 0 _ rfl
    have f0 := hb3.free 0 none
    have HT := Lib.hid (show HW w0 (w3.setCell ⟨gw, 0, none⟩ (.int .i64 ((V.all : Int) + 1))) S2 g gw D' (V.app 0) ∧ GrewW S S2 gw w (w3.setCell ⟨gw, 0, none⟩ (.int .i64 ((V.all : Int) + 1))) ∨ E ≠ 0 from by
      by_cases he : E = 0
      · left
        have hu : Upd (fun k => k = gw) w3 (w3.setCell ⟨gw, 0, none⟩ (.int .i64 ((V.all : Int) + 1))) := (Upd.refl _ _).set _ _ (fun _ => rfl)
        refine ⟨h3.turn (V' := V.app 0) ?_ hu, g3.trans (GrewW.turn hu)⟩
        have := hb3.set 0 (.int .i64 ((V.all : Int) + 1))
        simpa [wCells, WS.app, he] using this
      · exact .inr he)
    have H3 := Lib.hid h3
    have G3 := Lib.hid g3
    clear HAP HM H1 hd2 hg2 h2 hb2 y2 y3 z2 z3 hb3 hu3 h3 g3 c2 c3
    by_cases he : E = 0
    · subst he
      go_wp2
      go_ret
      obtain ⟨t1, t2⟩ := HT.out.resolve_right (fun h => h rfl)
      exact ⟨rfl, S2, t1, t2⟩
    · have heb : (E == 0) = false := by simpa using he
      have hV : V.app E = { V with dead := V.dead || decide (E = 71) } := by simp [WS.app, he]
      have HV := Lib.hid hV
      clear hV
      go_wp2
      go_ret
      exact ⟨rfl, S2, by rw [HV.out]; exact H3.out, G3.out⟩

set_option maxHeartbeats 1000000 in
theorem wsync_dead (g gw : Nat) (V : WS) (w : World) (h : Blk w gw 139 (wCells g V)) (hd : V.dead = true) :
    Calls Try.prog 59 #[.pointer (some ⟨gw, 0, none⟩)] w fun e w' => e = .returned (.int .i64 81) ∧ w = w' := by
  have c4 : w.cell? ⟨gw, 4, none⟩ = some (.bool V.dead) := h.cell 4 _ rfl
  rw [hd] at c4
  clear h hd
  go_enter Try.func59, Try.ntmps59
  go_wp2
  go_ret
  exact ⟨rfl, rfl⟩
set_option maxHeartbeats 4000000 in
set_option maxRecDepth 100000 in
theorem wsync_calls {w0 w : World} {S : Nat → Prop} {g gw : Nat} {D : DS} {V : WS} (h : HW w0 w S g gw D V) (hd : V.dead = false) (hac : D.acts < 1000000000) :
    Calls Try.prog 59 #[.pointer (some ⟨gw, 0, none⟩)] w fun e w' => e = .returned (.int .i64 (D.actErr V.log 0)) ∧ ∃ S', HW w0 w' S' g gw (D.sync V.log) (V.syn (D.actErr V.log 0)) ∧ GrewW S S' gw w w' := by
  have c4 : w.cell? ⟨gw, 4, none⟩ = some (.bool false) := by have := h.wal.cell 4 (.bool V.dead) rfl; rw [hd] at this; exact this
  obtain ⟨E, hE⟩ : ∃ E, E = D.actErr V.log 0 := ⟨_, rfl⟩
  obtain ⟨D', hD'⟩ : ∃ D', D' = D.sync V.log := ⟨_, rfl⟩
  have b1d : Below w.heap.size w w.drew := bdrew (Below.refl _ _)
  have h1 := h.later b1d
  have hap := held_sync h1.held V.log hac
  rw [← hE, ← hD'] at hap
  rw [← hE, ← hD']
  have HAP := Lib.hid hap
  have H1 := Lib.hid h1
  have B1 := Lib.hid b1d
  have c2 : w.cell? ⟨gw, 2, none⟩ = some (.pointer (some ⟨g, 0, none⟩)) := h.wal.cell 2 _ rfl
  have c3 : w.cell? ⟨gw, 3, none⟩ = some (.int .i64 V.log) := h.wal.cell 3 _ rfl
  have HM := Lib.hid (fun W (hb : Blk W gw 139 (wCells g V)) => met_calls g gw V E W hb)
  clear hE hD' hap h1 b1d h
  go_enter Try.func59, Try.ntmps59
  go_wp2_with fail
  go_region_held3 (fun W => W.cell? ⟨gw, 2, none⟩ = some (.pointer (some ⟨g, 0, none⟩)) ∧ W.cell? ⟨gw, 3, none⟩ = some (.int .i64 V.log)) (go_keep)
    (first
      | (go_at_call 52; (with_reducible refine Calls.mono HAP.out ?_); rintro e w2 ⟨rfl, S2, hd2, hg2⟩; have h2 := H1.out.disk hd2 hg2; have hb2 := h2.wal; have y2 : w2.cell? ⟨gw, 2, none⟩ = some (.pointer (some ⟨g, 0, none⟩)) := hb2.cell 2 _ rfl; have y3 : w2.cell? ⟨gw, 3, none⟩ = some (.int .i64 V.log) := hb2.cell 3 _ rfl)
      | (go_at_call 80; (with_reducible refine Calls.mono (HM.out _ hb2) ?_); rintro e w3 ⟨rfl, hb3, hu3⟩; have z2 : w3.cell? ⟨gw, 2, none⟩ = some (.pointer (some ⟨g, 0, none⟩)) := hb3.cell 2 _ rfl; have z3 : w3.cell? ⟨gw, 3, none⟩ = some (.int .i64 V.log) := hb3.cell 3 _ rfl))
  all_goals
    have h3 := h2.turn hb3 hu3
    have g3 : GrewW S S2 gw w w3 := (GrewW.later B1.out).trans ((GrewW.of_grew hg2).trans (GrewW.turn hu3))
    have q0 : w3.cell? ⟨gw, 0, none⟩ = some (.int .i64 (V.all : Int)) := hb3.cell 0 _ rfl
    have q1 : w3.cell? ⟨gw, 1, none⟩ = some (.int .i64 (V.sure : Int)) := hb3.cell 1 _ rfl
    have f1 := hb3.free 1 none
    have HT := Lib.hid (show HW w0 (w3.setCell ⟨gw, 1, none⟩ (.int .i64 (V.all : Int))) S2 g gw D' (V.syn 0) ∧ GrewW S S2 gw w (w3.setCell ⟨gw, 1, none⟩ (.int .i64 (V.all : Int))) ∨ E ≠ 0 from by
      by_cases he : E = 0
      · left
        have hu : Upd (fun k => k = gw) w3 (w3.setCell ⟨gw, 1, none⟩ (.int .i64 (V.all : Int))) := (Upd.refl _ _).set _ _ (fun _ => rfl)
        refine ⟨h3.turn (V' := V.syn 0) ?_ hu, g3.trans (GrewW.turn hu)⟩
        have := hb3.set 1 (.int .i64 (V.all : Int))
        simpa [wCells, WS.syn, he] using this
      · exact .inr he)
    have H3 := Lib.hid h3
    have G3 := Lib.hid g3
    clear HAP HM H1 hd2 hg2 h2 hb2 y2 y3 z2 z3 hb3 hu3 h3 g3 c2 c3
    by_cases he : E = 0
    · subst he
      go_wp2
      go_ret
      obtain ⟨t1, t2⟩ := HT.out.resolve_right (fun h => h rfl)
      exact ⟨rfl, S2, t1, t2⟩
    · have heb : (E == 0) = false := by simpa using he
      have hV : V.syn E = { V with dead := V.dead || decide (E = 71) } := by simp [WS.syn, he]
      have HV := Lib.hid hV
      clear hV
      go_wp2
      go_ret
      exact ⟨rfl, S2, by rw [HV.out]; exact H3.out, G3.out⟩
end Go.Proofs.Ytimjadjopemefaa
