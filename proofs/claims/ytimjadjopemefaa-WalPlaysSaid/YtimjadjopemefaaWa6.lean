/- The walk of the wal law's awake. -/
import Derived.Test.YtimjadjopemefaaWa5
import Derived.Test.YtimjadjopemefaaLw1
import Derived.Test.YtimjadjopemefaaDkd
set_option linter.unusedVariables false
set_option linter.unusedSimpArgs false
namespace Go.Proofs.Ytimjadjopemefaa
open Go.RowKit

theorem frame_bb : frameOf [98, 98] = [0, 0, 0, 2, 70, 49, 124, 156, 98, 98] := by decide +kernel
theorem scan_nil : scanOf [] = ([], 0) := by decide +kernel
theorem scan_ab : scanOf [0, 0, 0, 1, 229, 140, 151, 146, 97, 0, 0, 0, 2, 70, 49, 124, 156, 98] = ([[97]], 9) := by decide +kernel
/-- Opened, with nothing left open. -/
theorem opened_ok {w0 w w' : World} {S : Nat → Prop} {g : Nat} {D D' : DS} {lg : Int} {ls : List (List UInt8)} {k : Nat} {e : Ending} (hw : w0.heap.size ≤ w.heap.size) (h : Opened w0 w S g D lg e w') (he : openErrD D lg = 0) (hd : openD D lg = D') (hl : scanOf (D.log lg).1 = (ls, k)) :
    ∃ S' gw v, e = .returned (.tuple #[.pointer (some ⟨gw, 0, none⟩), v, .int .i64 0]) ∧ HW w0 w' S' g gw D' (freshW ls.length lg) ∧ Grew S S' w w' ∧ w.heap.size ≤ gw ∧ Loads w' w.heap.size v ls := by
  obtain ⟨S', h1, h2, h3⟩ := h.held
  obtain ⟨gw, v, e1, e2, e3, e4, e5⟩ := h3 he
  rw [hl] at e2 e5
  rw [hd] at h1
  exact ⟨S', gw, v, e1, ⟨h1, e2, e3, Nat.le_trans hw e4⟩, h2, e4, e5⟩
def aw0 : DS := ⟨[([], 0)], 0, false, 0, []⟩
def aw1 : DS := ⟨[([0, 0, 0, 1, 229, 140, 151, 146, 97], 0)], 1, false, 0, []⟩
def aw2 : DS := ⟨[([0, 0, 0, 1, 229, 140, 151, 146, 97], 9)], 2, false, 0, []⟩
def aw3 : DS := ⟨[([0, 0, 0, 1, 229, 140, 151, 146, 97, 0, 0, 0, 2, 70, 49, 124, 156, 98, 98], 9)], 3, false, 0, []⟩
def aw4 : DS := ⟨[([0, 0, 0, 1, 229, 140, 151, 146, 97, 0, 0, 0, 2, 70, 49, 124, 156, 98], 18)], 3, true, 0, []⟩
def aw5 : DS := ⟨[([0, 0, 0, 1, 229, 140, 151, 146, 97, 0, 0, 0, 2, 70, 49, 124, 156, 98], 18)], 3, false, 0, []⟩
def aw6 : DS := ⟨[([0, 0, 0, 1, 229, 140, 151, 146, 97], 9)], 4, false, 0, []⟩
theorem aw_open0 : openErrD aw0 0 = 0 ∧ openD aw0 0 = aw0 := ⟨by decide +kernel, by kernel_rfl⟩
theorem aw_app1 : aw0.appErr 0 (frameOf [97]) = 0 ∧ aw0.append 0 (frameOf [97]) = aw1 := by rw [frame_a]; exact ⟨rfl, rfl⟩
theorem aw_sync : aw1.actErr 0 0 = 0 ∧ aw1.sync 0 = aw2 := ⟨rfl, rfl⟩
theorem aw_app2 : aw2.appErr 0 (frameOf [98, 98]) = 0 ∧ aw2.append 0 (frameOf [98, 98]) = aw3 := by rw [frame_bb]; exact ⟨rfl, rfl⟩
theorem aw_crash : aw3.crash [9] = aw4 := rfl
theorem aw_open5 : openErrD aw5 0 = 0 ∧ openD aw5 0 = aw6 := ⟨by decide +kernel, by kernel_rfl⟩

set_option maxHeartbeats 4000000 in
set_option maxRecDepth 100000 in
theorem wawake_calls (w : World) : Calls Try.prog 53 #[] w fun e w' => e = .returned (.bool true) ∧ Below w.heap.size w w' := by
  have kc := fun (w : World) (C : Array Value) (n c : Nat) => Lib.run_convert_bytes_const (P := Try.prog) w 22 5 C n c Try.underlying22 Try.underlying5
  go_enter Try.func53, Try.ntmps53
  go_wp2_with fail
  refine (held_new 1 w w (Below.refl _ _) (by decide) (by decide)).mono ?_
  rintro e w1 ⟨g, S1, rfl, h1, _⟩
  have h1 : Held w w1 S1 g aw0 := h1
  have H1 := Lib.hid h1
  clear h1
  go_wp2_with fail
  refine (wopen_calls H1.out 0 (by decide)).mono ?_
  rintro e w2 ho
  obtain ⟨S2, gw, v2, rfl, h2, g2, l2, o2⟩ := opened_ok H1.out.below.size ho aw_open0.1 aw_open0.2 (ls := []) (k := 0) scan_nil
  obtain ⟨vs2, hr2, _⟩ := o2.row
  obtain ⟨A2, c2, rfl, _, _, _, _⟩ := hr2.cells1
  have H2 := Lib.hid h2
  clear ho h2 g2 o2 hr2 H1 l2
  go_wp2_with fail
  refine (wappend_calls (H2.out.later (below_one w2 _)) _ 1 1 [97] rfl ((dbytes_const w2 [97] 1 _ rfl rfl).cells (by simp)) (by decide) rfl (by decide) (by decide)).mono ?_
  rintro e w3 ⟨rfl, S3, h3, g3⟩
  rw [show (freshW ([] : List (List UInt8)).length 0).log = 0 from rfl] at h3 ⊢
  rw [aw_app1.1, aw_app1.2] at h3
  rw [aw_app1.1]
  have H3 := Lib.hid h3
  clear h3 g3 H2
  go_wp2_with fail
  refine (wsync_calls H3.out rfl (by decide)).mono ?_
  rintro e w4 ⟨rfl, S4, h4, g4⟩
  rw [show (WS.app (freshW ([] : List (List UInt8)).length 0) 0).log = 0 from rfl] at h4 ⊢
  rw [aw_sync.1, aw_sync.2] at h4
  rw [aw_sync.1]
  have H4 := Lib.hid h4
  clear h4 g4 H3
  go_wp2_with fail
  refine (wappend_calls (H4.out.later (below_one w4 _)) _ 2 2 [98, 98] rfl ((dbytes_const w4 [98, 98] 2 _ rfl rfl).cells (by simp)) (by decide) rfl (by decide) (by decide)).mono ?_
  rintro e w5 ⟨rfl, S5, h5, g5⟩
  rw [show (WS.syn (WS.app (freshW ([] : List (List UInt8)).length 0) 0) 0).log = 0 from rfl] at h5 ⊢
  rw [aw_app2.1, aw_app2.2] at h5
  rw [aw_app2.1]
  rw [show WS.app (WS.syn (WS.app (freshW ([] : List (List UInt8)).length 0) 0) 0) 0 = ⟨2, 1, 0, false⟩ from rfl] at h5
  have H5 := Lib.hid h5
  clear h5 g5 H4
  go_wp2_with fail
  refine (wlen_calls g gw _ w5 H5.out.wal).mono ?_
  rintro e w' ⟨rfl, rfl⟩
  go_wp2_with fail
  refine (wsure_calls g gw _ w5 H5.out.wal).mono ?_
  rintro e w' ⟨rfl, rfl⟩
  go_wp2_with fail
  refine (held_crash H5.out.held (below_one w5 _) _ 1 1 [9] rfl (cells_new w5 #[.int .i64 9] 3 (by simp)) (fun ad e => by cases e; exact .inr (Nat.le_refl _))).mono ?_
  rintro e w6 ⟨rfl, S6, h6, _⟩
  rw [aw_crash] at h6
  have H6 := Lib.hid h6
  clear h6 H5
  go_wp2_with fail
  refine (held_up H6.out).mono ?_
  rintro e w7 ⟨rfl, S7, h7, _⟩
  have h7 : Held w w7 S7 g aw5 := h7
  have H7 := Lib.hid h7
  clear h7 H6
  go_wp2_with fail
  refine (wopen_calls H7.out 0 (by decide)).mono ?_
  rintro e w8 ho
  obtain ⟨S8, gw8, v8, rfl, h8, g8, l8, o8⟩ := opened_ok H7.out.below.size ho aw_open5.1 aw_open5.2 (ls := [[97]]) (k := 9) scan_ab
  obtain ⟨vs8, hr8, hf8⟩ := o8.row
  obtain ⟨A8, c8, rfl, _, hl8, hc8, _⟩ := hr8.cells1
  obtain ⟨u, rfl⟩ : ∃ u, vs8 = [u] := by
    match vs8, hl8 with
    | [u], _ => exact ⟨u, rfl⟩
  obtain ⟨ad, rfl, hcu⟩ := hc8.get 0 u rfl
  obtain ⟨B8, rfl, hB8, _⟩ := hf8 0 u [97] rfl rfl
  have add0 : ad.add 0 = ad := by simp [Addr.add]
  rw [add0] at hcu
  have H8 := Lib.hid h8
  have HB8 := Lib.hid hB8
  have hcu' : w8.cell? ad = some (.slice B8 1 1) := hcu
  clear ho h8 g8 o8 hr8 hf8 H7 l8 hc8 hl8 hB8 add0 hcu
  go_wp2_with (with_reducible refine halt_dst 95 ?_)
  refine wpList_string (by rfl) (.tmp 94) 22 9 5 (by rfl) Try.underlying22 Try.underlying5 Try.underlying9 B8 1 1 [97] (by rfl) rfl HB8.out ?_
  have hstr := str_toList [97]
  go_wp2_with fail
  refine (dsure_calls _ _ _ 0 w8 H8.out.held.disk).mono ?_
  rintro e w' ⟨rfl, rfl⟩
  have HBB := Lib.hid H8.out.below
  rw [show aw6.sure 0 = 9 from rfl]
  go_wp2
  go_ret
  exact ⟨rfl, HBB.out⟩
end Go.Proofs.Ytimjadjopemefaa
