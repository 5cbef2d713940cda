/- The walk of moietyref16.Left. -/
import Derived.Test.YtpacbbnnmopkjaaRp4
set_option linter.unusedVariables false
set_option linter.unusedSimpArgs false
namespace Go.Proofs.Ytpacbbnnmopkjaa
open Go.RowKit

def rdone (l : List Sd) (i : Nat) : Bool := if (rfate l).1 = 0 then (rvote l (decide (i = 0))).isSome else rack l (decide (i = 0))
def rleftTo (l : List Sd) (k : Nat) : List Bool := (if 0 < k then (if rdone l 0 = true then [] else [true]) else []) ++ (if 1 < k then (if rdone l 1 = true then [] else [false]) else [])
theorem rleftTo_two (l : List Sd) : rleftTo l 2 = rleft l := by
  unfold rleftTo rleft rdone
  rw [(vtOf_get (rvote l true)).1, (vtOf_get (rvote l false)).1]
  rfl
theorem rleftTo_le (l : List Sd) (k : Nat) : (rleftTo l k).length ≤ 2 := by
  unfold rleftTo
  split <;> split <;> (try split) <;> (try split) <;> simp
theorem rack_take {l : List Sd} {k : Nat} {b : Bool} (hk : k < l.length) : rack (l.take (k + 1)) b = (rack (l.take k) b || (decide (2 < (l[k]).kind) && ((l[k]).pays == b))) := by
  rw [List.take_succ_eq_append_getElem hk, rack_append]
theorem row_ne {B : Option Addr} {n c k : Nat} (h : ∀ ad, B = some ad → ad.block ≠ k) : (Value.slice B n c).ownBlock ≠ some k := by
  intro e
  cases B with
  | none => simp [Value.ownBlock] at e
  | some ad => simp [Value.ownBlock] at e; exact h ad rfl e
theorem row_ne' {B : Option Addr} {n c k z : Nat} {v : Value} (h : ∀ ad, B = some ad → ad.block ≠ k) (o : v.ownBlock = (Value.slice B n c).ownBlock ∨ ∃ b, v.ownBlock = some b ∧ z ≤ b) (hz : k < z) : v.ownBlock ≠ some k := by
  rcases o with o | ⟨b, o, hb⟩
  · rw [o]; exact row_ne h
  · rw [o]; intro e; cases e; omega
theorem two_bools (w : World) : Cells (w.alloc (.cells #[.bool true, .bool false] 4)) (some ⟨w.heap.size, 0, Option.none⟩) [.bool true, .bool false] := cells_new w #[.bool true, .bool false] 4 (by simp)

set_option maxHeartbeats 4000000 in
set_option maxRecDepth 100000 in
theorem rleft_calls (i f t n : Int) (A : Option Addr) (m c : Nat) (l : List Sd) (w : World) (hm : m = l.length) (hA : Cells w A (sds l)) :
    Calls Try.prog 40 #[.agg #[.int .i64 i, .int .i64 f, .int .i64 t, .int .i64 n, .slice A m c]] w fun e w' => ∃ B d, e = .returned (.slice B (rleft l).length d) ∧ Cells w' B (bls (rleft l)) ∧ Below w.heap.size w w' := by
  subst hm
  have hlen : l.length ≤ 2305843009213693952 := by have := hA.small; rw [sds_length] at this; omega
  obtain ⟨W0, hW0⟩ : ∃ W0, W0 = w.alloc (.cells #[.int .i64 i, .int .i64 f, .int .i64 t, .int .i64 n, .slice A l.length c] 65) := ⟨_, rfl⟩
  have b0 : Below w.heap.size w W0 := by rw [hW0]; exact pbelow_one _ _
  have n2 : Blk W0 w.heap.size 65 #[.int .i64 i, .int .i64 f, .int .i64 t, .int .i64 n, .slice A l.length c] := by rw [hW0]; exact Blk.new w 65 _
  have HA := Lib.hid (hA.below b0)
  have HW0 := Lib.hid hW0
  have B0 := Lib.hid b0
  have N2 := Lib.hid n2
  have HF := Lib.hid (rfate_calls (.int .i64 i) (.int .i64 f) (.int .i64 t) (.int .i64 n) A l.length c l W0 rfl HA.out)
  clear hA b0 n2 hW0
  go_enter Try.func40, Try.ntmps40
  go_wp2_with fail
  rw [← HW0.out]
  clear HW0
  refine HF.out.mono ?_
  rintro e w1 ⟨rfl, b1⟩
  have N2 := Lib.hid (N2.out.below b1)
  have HA := Lib.hid (HA.out.below b1)
  have B0 := Lib.hid (B0.out.trans (b1.mono B0.out.size))
  obtain ⟨F, hF⟩ : ∃ F, F = (rfate l).1 := ⟨_, rfl⟩
  rw [← hF]
  have HFF := Lib.hid hF
  generalize (rfate l).2 = G
  clear b1 HF hF
  -- two blocks: the row of what is left, the two sides
  obtain ⟨W3, hW3⟩ : ∃ W3, W3 = (w1.alloc (.cells #[] 4)).alloc (.cells #[.bool true, .bool false] 4) := ⟨_, rfl⟩
  have b3 : Below w1.heap.size w1 W3 := by rw [hW3]; exact (pbelow_one _ _).alloc (by simp) _
  have r3 : Row W3 w1.heap.size 4 1 (.slice (some ⟨w1.heap.size, 0, Option.none⟩) 0 0) 0 [] := by rw [hW3]; exact (row_new w1 w1.heap.size 4 1 (Nat.le_refl _)).alloc _
  have c3 : Cells W3 (some ⟨w1.heap.size + 1, 0, Option.none⟩) [.bool true, .bool false] := by
    have := two_bools (w1.alloc (.cells #[] 4))
    rw [World.size_alloc] at this
    rw [hW3]; exact this
  have hz3 : W3.heap.size = w1.heap.size + 2 := by rw [hW3]; simp
  have B3 := Lib.hid b3
  have R3 := Lib.hid r3
  have C3 := Lib.hid c3
  have HZ3 := Lib.hid hz3
  have HW3 := Lib.hid hW3
  have hbase : w.heap.size ≤ w1.heap.size := B0.out.size
  clear b3 r3 c3 hz3 hW3
  go_wp2
  rw [← HW3.out]
  clear HW3
  obtain ⟨b5, hb5⟩ : ∃ b5, b5 = w1.heap.size := ⟨_, rfl⟩
  rw [← hb5] at R3 C3 HZ3 B3 hbase ⊢
  have HB5 := Lib.hid hb5
  clear hb5
  go_loopw [5, 19] (fun v q wr => ∃ k : Nat, k ≤ 2 ∧ q = .int .i64 k ∧ ∃ B d, v = .slice B (rleftTo l k).length d ∧ Row wr b5 4 1 (.slice B (rleftTo l k).length d) (rleftTo l k).length (bls (rleftTo l k)) ∧ Below b5 w1 wr ∧ b5 + 1 < wr.heap.size ∧ Cells wr (some ⟨b5 + 1, 0, Option.none⟩) [.bool true, .bool false] ∧ ∀ ad, B = some ad → ad.block ≠ b5 + 1) (fun _ q _ => 2 - (intOf q).toNat)
  case atStart => exact ⟨0, by omega, rfl, _, 0, rfl, R3.out, B3.out, by have := HZ3.out; omega, C3.out, fun ad e => by cases e; simp⟩
  case round =>
    obtain ⟨k, hk, rfl, B, d, rfl, hr, hb, hbz, hcc, hnb⟩ := hrel
    clear R3 C3
    by_cases hlt : k < 2
    · have hbw : Below w1.heap.size w1 wr := HB5.out ▸ hb
      have N4 := N2.out.below hbw
      have hA4 := HA.out.below hbw
      have hnx : rleftTo l (k + 1) = rleftTo l k ++ (if rdone l k = true then [] else [decide (k = 0)]) := by
        obtain rfl | rfl : k = 0 ∨ k = 1 := by omega
        · unfold rleftTo; simp
        · unfold rleftTo; simp
      have hll := rleftTo_le l k
      have hpk : wr.cell? ⟨b5 + 1, k, Option.none⟩ = some (.bool (decide (k = 0))) := by
        have hadd : (⟨b5 + 1, 0, Option.none⟩ : Addr).add k = ⟨b5 + 1, k, Option.none⟩ := by unfold Addr.add; split <;> simp_all
        rw [← hadd]
        obtain ⟨ad, e, h⟩ := hcc.get k (.bool (decide (k = 0))) (by rcases (show k = 0 ∨ k = 1 by omega) with h | h <;> subst h <;> rfl)
        cases e; exact h
      have hdn : rdone l k = if F = 0 then (rvote l (decide (k = 0))).isSome else rack l (decide (k = 0)) := by rw [HFF.out]; rfl
      have c0 : wr.cell? ⟨w.heap.size, 0, Option.none⟩ = some (.int .i64 i) := N4.cell 0 _ rfl
      have c1 : wr.cell? ⟨w.heap.size, 1, Option.none⟩ = some (.int .i64 f) := N4.cell 1 _ rfl
      have c2 : wr.cell? ⟨w.heap.size, 2, Option.none⟩ = some (.int .i64 t) := N4.cell 2 _ rfl
      have c3 : wr.cell? ⟨w.heap.size, 3, Option.none⟩ = some (.int .i64 n) := N4.cell 3 _ rfl
      have c4 : wr.cell? ⟨w.heap.size, 4, Option.none⟩ = some (.slice A l.length c) := N4.cell 4 _ rfl
      have HNX := Lib.hid hnx
      have HR := Lib.hid hr
      have HBL := Lib.hid hb
      have HCC := Lib.hid hcc
      have HNB := Lib.hid hnb
      have HN4 := Lib.hid N4
      have HA4 := Lib.hid hA4
      have HDN := Lib.hid hdn
      clear hnx hr hb hcc hnb N4 hA4 hdn hbw
      have hkc : (k : Int) < 2 := by omega
      obtain ⟨pb, hpb⟩ : ∃ pb, pb = decide (k = 0) := ⟨_, rfl⟩
      rw [← hpb] at hpk HNX HDN
      clear hpb
      generalize rdone l k = dn at HNX HDN
      obtain ⟨L, hL⟩ : ∃ L, L = rleftTo l k := ⟨_, rfl⟩
      rw [← hL] at HNX HR hll ⊢
      clear hL
      obtain ⟨nn, hn⟩ : ∃ n, n = L.length := ⟨_, rfl⟩
      rw [← hn] at hll HR ⊢
      have HN := Lib.hid hn
      clear hn
      go_wp2_with fail
      refine (rvote_calls0 _ _ _ _ A l.length c l pb wr rfl HA4.out).mono ?_
      rintro e w5 ⟨rfl, b5'⟩
      obtain ⟨a, ha⟩ : ∃ a, a = (rvote l pb).getD sd0 := ⟨_, rfl⟩
      obtain ⟨ok, hok⟩ : ∃ a, a = (rvote l pb).isSome := ⟨_, rfl⟩
      rw [← hok] at HDN
      rw [← ha, ← hok]
      have b6 := b5'.alloc b5'.size (.cells #[.int .i64 a.kind, .bool a.pays, .bool a.yes, .int .i64 a.t] 67)
      have HN5 := Lib.hid (HN4.out.below b6)
      have HA5 := Lib.hid (HA4.out.below b6)
      have HR5 := Lib.hid (HR.out.below b6)
      have HCC5 := Lib.hid (HCC.out.below b6)
      have HBL5 := Lib.hid (HBL.out.trans (b6.mono (by omega)))
      have hrs6 := b6.size
      clear b5' ha hok HN4 HA4 HR HCC HBL c0 c1 c2 c3 c4 hpk
      go_upto_region 7 with fail
      generalize w5.alloc (Obj.cells #[.int .i64 a.kind, .bool a.pays, .bool a.yes, .int .i64 a.t] 67) = W6 at HN5 HA5 HR5 HCC5 HBL5 hrs6 ⊢
      have c4 : W6.cell? ⟨w.heap.size, 4, Option.none⟩ = some (.slice A l.length c) := HN5.out.cell 4 _ rfl
      by_cases hf0 : F = 0
      case pos =>
        have hdn := HDN.out
        rw [if_pos hf0] at hdn
        subst hf0 hdn
        clear HFF
        cases dn
        · go_wp2_with (with_reducible refine halt_dst 63 ?_)
          refine wpList_append_lit rfl (.tmp 60) (.tmp 62) 80 rfl b5 4 (.bool false) 1 1 Try.underlying80 Try.info4 rfl (by decide) (.slice B nn d) nn (bls L) rfl HR5.out 1 1 #[.bool pb] rfl rfl (by intro u hu; simp at hu; subst hu; rfl) (by simp only [maxLen]; omega) (by omega) (by omega) (by simp) ?_
          intro v7 w7 r7 g7 o7
          have hb7 := HBL5.out.grown g7 (by omega) (fun q hq => (HR5.out.lt q hq).1)
          have hc7 := HCC5.out.grown g7 (.inr (fun ad e h => by cases e; exact (row_ne HNB.out) h.symm))
          have hnb7 := row_ne' (k := b5 + 1) HNB.out o7 (by omega)
          have hz7 := g7.size
          have hnx := HNX.out
          simp only [Bool.false_eq_true, if_false] at hnx
          obtain ⟨B2, d2, rfl, _, _, _, _⟩ := r7.cells1
          have HN2 := Lib.hid hnx
          have HR2 := Lib.hid r7
          have HB2 := Lib.hid hb7
          have HC2 := Lib.hid hc7
          have HNB2 := Lib.hid (show ∀ ad, B2 = some ad → ad.block ≠ b5 + 1 from fun ad e h => by subst e; exact hnb7 (by simp [Value.ownBlock, h]))
          clear hnx g7 o7 hb7 r7 hc7 hnb7
          go_wp2
          go_roundw
          case rel => exact ⟨k + 1, by omega, by go_num, B2, d2, by rw [HN2.out]; simp [← HN.out], by rw [HN2.out]; simpa [bls, ← HN.out] using HR2.out, HB2.out, by omega, HC2.out, HNB2.out⟩
          case measure => simp [intOf]; omega
        · go_wp2
          go_roundw
          case rel =>
            have hnx := HNX.out
            simp only [if_true, List.append_nil] at hnx
            exact ⟨k + 1, by omega, by go_num, B, d, by rw [hnx, ← HN.out], by rw [hnx, ← HN.out]; exact HR5.out, HBL5.out, by omega, HCC5.out, HNB.out⟩
          case measure => simp [intOf]; omega
      case neg =>
        have hfb : (F == 0) = false := by simpa using hf0
        have hdn := HDN.out
        rw [if_neg hf0] at hdn
        have HD2 := Lib.hid hdn
        clear hdn hf0 HDN
        go_wp2
        go_loopw [9, 10] (fun s9 q wx => ∃ j : Nat, j ≤ l.length ∧ q = .int .i64 j ∧ s9 = .bool (rack (l.take j) pb) ∧ Hid (wx = W6)) (fun _ q _ => l.length - (intOf q).toNat)
        case atStart => exact ⟨0, Nat.zero_le _, rfl, rfl, Lib.hid rfl⟩
        case round =>
          obtain ⟨j, hj, rfl, rfl, hwx⟩ := hrel
          have hww := hwx.out
          subst hww
          by_cases hlj : j < l.length
          · obtain ⟨ad, rfl, d0, d1, d2, d3⟩ := HA5.out.said j hlj
            have hst := rack_take (b := pb) hlj
            generalize l[j] = s at *
            obtain ⟨sk, sp, sy, st⟩ := s
            simp only at d0 d1 d2 d3 hst
            generalize rack (l.take j) pb = r at *
            have HST := Lib.hid hst
            clear hst
            cases r
            · by_cases h2 : 2 < sk
              · have hpp : sp = pb ∨ sp = !pb := by cases sp <;> cases pb <;> simp
                rcases hpp with rfl | rfl
                · cases sp
                  all_goals
                    go_wp2
                    go_roundw
                    case rel => exact ⟨j + 1, by omega, by go_num, by rw [HST.out]; simp [h2], by first | exact Lib.hid rfl | exact Lib.hid trivial⟩
                    case measure => simp [intOf]; omega
                · cases pb
                  all_goals
                    go_wp2
                    go_roundw
                    case rel => exact ⟨j + 1, by omega, by go_num, by rw [HST.out]; simp, by first | exact Lib.hid rfl | exact Lib.hid trivial⟩
                    case measure => simp [intOf]; omega
              · go_wp2
                go_roundw
                case rel => exact ⟨j + 1, by omega, by go_num, by rw [HST.out]; simp [h2], by first | exact Lib.hid rfl | exact Lib.hid trivial⟩
                case measure => simp [intOf]; omega
            · go_wp2
              go_roundw
              case rel => exact ⟨j + 1, by omega, by go_num, by rw [HST.out]; simp, by first | exact Lib.hid rfl | exact Lib.hid trivial⟩
              case measure => simp [intOf]; omega
          · obtain rfl : j = l.length := by omega
            have hq : rack (l.take l.length) pb = dn := by rw [List.take_of_length_le (Nat.le_refl _)]; exact HD2.out.symm
            rw [hq]
            clear hq HD2
            cases dn
            · go_wp2_with (with_reducible refine halt_dst 63 ?_)
              refine wpList_append_lit rfl (.tmp 60) (.tmp 62) 80 rfl b5 4 (.bool false) 1 1 Try.underlying80 Try.info4 rfl (by decide) (.slice B nn d) nn (bls L) rfl HR5.out 1 1 #[.bool pb] rfl rfl (by intro u hu; simp at hu; subst hu; rfl) (by simp only [maxLen]; omega) (by omega) (by omega) (by simp) ?_
              intro v7 w7 r7 g7 o7
              have hb7 := HBL5.out.grown g7 (by omega) (fun q hq => (HR5.out.lt q hq).1)
              have hc7 := HCC5.out.grown g7 (.inr (fun ad e h => by cases e; exact (row_ne HNB.out) h.symm))
              have hnb7 := row_ne' (k := b5 + 1) HNB.out o7 (by omega)
              have hz7 := g7.size
              have hnx := HNX.out
              simp only [Bool.false_eq_true, if_false] at hnx
              obtain ⟨B2, d2, rfl, _, _, _, _⟩ := r7.cells1
              have HN2 := Lib.hid hnx
              have HR2 := Lib.hid r7
              have HB2 := Lib.hid hb7
              have HC2 := Lib.hid hc7
              have HNB2 := Lib.hid (show ∀ ad, B2 = some ad → ad.block ≠ b5 + 1 from fun ad e h => by subst e; exact hnb7 (by simp [Value.ownBlock, h]))
              clear hnx g7 o7 hb7 r7 hc7 hnb7
              go_wp2
              go_roundw
              case rel => exact ⟨k + 1, by omega, by go_num, B2, d2, by rw [HN2.out]; simp [← HN.out], by rw [HN2.out]; simpa [bls, ← HN.out] using HR2.out, HB2.out, by omega, HC2.out, HNB2.out⟩
              case measure => simp [intOf]; omega
            · go_wp2
              go_roundw
              case rel =>
                have hnx := HNX.out
                simp only [if_true, List.append_nil] at hnx
                exact ⟨k + 1, by omega, by go_num, B, d, by rw [hnx, ← HN.out], by rw [hnx, ← HN.out]; exact HR5.out, HBL5.out, by omega, HCC5.out, HNB.out⟩
              case measure => simp [intOf]; omega
    · obtain rfl : k = 2 := by omega
      have hl2 := rleftTo_two l
      rw [hl2] at hr ⊢
      clear hl2
      have HR := Lib.hid hr
      have HBL := Lib.hid (B0.out.trans (hb.mono hbase))
      clear hr hb hcc hnb
      go_wp2
      go_ret
      obtain ⟨B2, d2, he, _, _, hc, _⟩ := HR.out.cells1
      cases he
      exact ⟨B, d, rfl, hc, HBL.out⟩
end Go.Proofs.Ytpacbbnnmopkjaa
