/- The walk of the disk law's awake. -/
import Derived.Test.YtimjadjopemefaaDka
import Derived.Lib.SlBytesConst
set_option linter.unusedVariables false
set_option linter.unusedSimpArgs false
namespace Go.Proofs.Ytimjadjopemefaa
open Go.RowKit

theorem dbytes_const (w : World) (l : List UInt8) (n : Nat) (cs : Array Value) (hcs : cs = (byts l).toArray) (hn : n = l.length) : Bytes (w.alloc (.cells cs 5 (n, n + 1))) w.heap.size l := by
  subst hcs hn
  refine ⟨_, _, heap_alloc_new w _, by simp [byts], by simp [byts, List.take_of_length_le], fun j hj => ?_⟩
  simp; omega
theorem below_one (w : World) (o : Obj) : Below w.heap.size w (w.alloc o) := (Below.refl _ _).alloc (Nat.le_refl _) o

set_option maxHeartbeats 4000000 in
set_option maxRecDepth 100000 in
theorem dawake_calls (w : World) : Calls Try.prog 37 #[] w fun e w' => e = .returned (.bool true) ∧ Below w.heap.size w w' := by
  have kc := fun (w : World) (C : Array Value) (n c : Nat) => Lib.run_convert_bytes_const (P := Try.prog) w 22 5 C n c Try.underlying22 Try.underlying5
  go_enter Try.func37, Try.ntmps37
  go_wp2_with fail
  refine (held_new 2 w w (Below.refl _ _) (by decide) (by decide)).mono ?_
  rintro e w1 ⟨g, S1, rfl, h1, _⟩
  have H1 := Lib.hid h1
  clear h1
  go_wp2_with fail
  refine (held_append H1.out (below_one w1 _) 0 _ 2 2 [97, 98] rfl ((dbytes_const w1 [97, 98] 2 _ rfl rfl).cells (by simp)) (fun ad e => by cases e; exact .inr (Nat.le_refl _)) (by simp) (by decide)).mono ?_
  rintro e w2 ⟨rfl, S2, h2, _⟩
  rw [show (freshD 2).append 0 [97, 98] = ⟨[([97, 98], 0), ([], 0)], 1, false, 0, []⟩ from rfl] at h2
  rw [show (freshD 2).appErr 0 [97, 98] = 0 from rfl]
  have H2 := Lib.hid h2
  clear h2 H1
  go_wp2_with fail
  refine (held_sync H2.out 0 (by decide)).mono ?_
  rintro e w3 ⟨rfl, S3, h3, _⟩
  rw [show DS.sync ⟨[([97, 98], 0), ([], 0)], 1, false, 0, []⟩ 0 = ⟨[([97, 98], 2), ([], 0)], 2, false, 0, []⟩ from rfl] at h3
  rw [show DS.actErr ⟨[([97, 98], 0), ([], 0)], 1, false, 0, []⟩ 0 0 = 0 from rfl]
  have H3 := Lib.hid h3
  clear h3 H2
  go_wp2_with fail
  refine (held_append H3.out (below_one w3 _) 0 _ 3 3 [99, 100, 101] rfl ((dbytes_const w3 [99, 100, 101] 3 _ rfl rfl).cells (by simp)) (fun ad e => by cases e; exact .inr (Nat.le_refl _)) (by simp) (by decide)).mono ?_
  rintro e w4 ⟨rfl, S4, h4, _⟩
  rw [show DS.append ⟨[([97, 98], 2), ([], 0)], 2, false, 0, []⟩ 0 [99, 100, 101] = ⟨[([97, 98, 99, 100, 101], 2), ([], 0)], 3, false, 0, []⟩ from rfl] at h4
  rw [show DS.appErr ⟨[([97, 98], 2), ([], 0)], 2, false, 0, []⟩ 0 [99, 100, 101] = 0 from rfl]
  have H4 := Lib.hid h4
  clear h4 H3
  go_wp2_with fail
  refine (held_crash H4.out (below_one w4 _) _ 1 1 [2] rfl (cells_new w4 #[.int .i64 2] 3 (by simp)) (fun ad e => by cases e; exact .inr (Nat.le_refl _))).mono ?_
  rintro e w5 ⟨rfl, S5, h5, _⟩
  rw [show DS.crash ⟨[([97, 98, 99, 100, 101], 2), ([], 0)], 3, false, 0, []⟩ [2] = ⟨[([97, 98, 99, 100], 4), ([], 0)], 3, true, 0, []⟩ from rfl] at h5
  have H5 := Lib.hid h5
  clear h5 H4
  go_wp2_with fail
  refine (ddown_calls _ _ _ w5 H5.out.disk).mono ?_
  rintro e w6 ⟨rfl, rfl⟩
  go_wp2_with fail
  refine (held_up H5.out).mono ?_
  rintro e w6 ⟨rfl, S6, h6, _⟩
  have H6 := Lib.hid h6
  clear h6 H5
  go_wp2_with fail
  refine (held_read H6.out 0).mono ?_
  rintro e w7 ⟨A7, c7, rfl, o7, h7, _⟩
  rw [show DS.readErr ⟨[([97, 98, 99, 100], 4), ([], 0)], 3, false, 0, []⟩ 0 = 0 from rfl, if_pos rfl, show (DS.log ⟨[([97, 98, 99, 100], 4), ([], 0)], 3, false, 0, []⟩ 0).1 = [97, 98, 99, 100] from rfl] at o7 ⊢
  have H7 := Lib.hid h7
  have O7 := Lib.hid o7
  clear h7 H6 o7
  go_wp2_with fail
  refine (held_arm H7.out (Below.refl _ _) 2 none 0 0 [] rfl (by decide) (Cells.nil _ _) (fun ad e => by cases e) (by simp)).mono ?_
  rintro e w8 ⟨rfl, S8, h8, g8⟩
  rw [show DS.arm ⟨[([97, 98, 99, 100], 4), ([], 0)], 3, false, 0, []⟩ 2 [] = ⟨[([97, 98, 99, 100], 4), ([], 0)], 3, false, 2, []⟩ from rfl] at h8
  have H8 := Lib.hid h8
  have O8 := Lib.hid (O7.out.next g8)
  clear h8 H7 O7 g8
  go_wp2_with fail
  refine (held_append H8.out (below_one w8 _) 1 _ 1 1 [120] rfl ((dbytes_const w8 [120] 1 _ rfl rfl).cells (by simp)) (fun ad e => by cases e; exact .inr (Nat.le_refl _)) (by simp) (by decide)).mono ?_
  rintro e w9 ⟨rfl, S9, h9, g9⟩
  rw [show DS.append ⟨[([97, 98, 99, 100], 4), ([], 0)], 3, false, 2, []⟩ 1 [120] = ⟨[([97, 98, 99, 100], 4), ([120], 0)], 4, false, 1, []⟩ from rfl] at h9
  rw [show DS.appErr ⟨[([97, 98, 99, 100], 4), ([], 0)], 3, false, 2, []⟩ 1 [120] = 0 from rfl]
  have H9 := Lib.hid h9
  have O9 := Lib.hid ((O8.out.later (below_one w8 _)).next g9)
  clear h9 H8 O8 g9
  go_wp2_with fail
  refine (held_sync H9.out 1 (by decide)).mono ?_
  rintro e wa ⟨rfl, Sa, ha, ga⟩
  rw [show DS.sync ⟨[([97, 98, 99, 100], 4), ([120], 0)], 4, false, 1, []⟩ 1 = ⟨[([97, 98, 99, 100], 4), ([], 0)], 4, true, 0, []⟩ from rfl] at ha
  rw [show DS.actErr ⟨[([97, 98, 99, 100], 4), ([120], 0)], 4, false, 1, []⟩ 1 0 = 71 from rfl]
  have HA := Lib.hid ha
  have OA := Lib.hid (O9.out.next ga)
  clear ha H9 O9 ga
  go_wp2_with fail
  refine (held_up HA.out).mono ?_
  rintro e wb ⟨rfl, Sb, hb, gb⟩
  have HB := Lib.hid hb
  have OB := Lib.hid (OA.out.next gb)
  clear hb HA OA gb
  go_wp2_with fail
  refine (held_read HB.out 1).mono ?_
  rintro e wc ⟨Ac, cc, rfl, oc, hc, bc⟩
  rw [show DS.readErr ⟨[([97, 98, 99, 100], 4), ([], 0)], 4, false, 0, []⟩ 1 = 0 from rfl, if_pos rfl, show (DS.log ⟨[([97, 98, 99, 100], 4), ([], 0)], 4, false, 0, []⟩ 1).1 = [] from rfl] at oc ⊢
  have HC := Lib.hid hc
  have OC := Lib.hid (OB.out.later bc)
  clear hc HB OB bc oc
  go_wp2_with (with_reducible refine halt_dst 79 ?_)
  refine wpList_string rfl (.tmp 78) 22 9 5 rfl Try.underlying22 Try.underlying5 Try.underlying9 A7 4 c7 [97, 98, 99, 100] rfl rfl OC.out.cells ?_
  have hstr := str_toList [97, 98, 99, 100]
  go_wp2_with fail
  refine (dsure_calls _ _ _ 0 wc HC.out.disk).mono ?_
  rintro e w' ⟨rfl, rfl⟩
  go_wp2_with fail
  refine (dacts_calls _ _ _ wc HC.out.disk).mono ?_
  rintro e w' ⟨rfl, rfl⟩
  have HBB := Lib.hid HC.out.below
  go_wp2
  go_ret
  exact ⟨rfl, HBB.out⟩
end Go.Proofs.Ytimjadjopemefaa
