/- The walks of moietyref03's Scan and Same. -/
import Derived.Test.YtimjadjopemefaaRs2
set_option linter.unusedVariables false
set_option linter.unusedSimpArgs false
namespace Go.Proofs.Ytimjadjopemefaa
open Go.RowKit
attribute [local go_sem] str_size str_get str_toList str_append str_extract

def strs (ls : List (List UInt8)) : List Value := ls.map fun l => .string (str l)
theorem strs_length (ls : List (List UInt8)) : (strs ls).length = ls.length := by simp [strs]
theorem strs_push (ls : List (List UInt8)) (l : List UInt8) : strs (ls ++ [l]) = strs ls ++ [.string (str l)] := by simp [strs]
theorem strs_one (l : List (List UInt8)) : ∀ u ∈ strs l, u.oneCell' = true := by
  intro u hu; simp only [strs, List.mem_map] at hu; obtain ⟨b, _, rfl⟩ := hu; rfl
theorem Try.info9 : (Try.prog.info? 9).map (fun i => (i.zero, i.size, i.bytes)) = some (some (.string ByteArray.empty), 1, 16) := by kernel_rfl

structure RScanRel (b : List UInt8) (w : World) (v i : Value) (wr : World) : Prop where
  out : ∃ (k : Nat) (ls : List (List UInt8)), i = .int .i64 k ∧ k ≤ b.length ∧ (scanOf b).1 = ls ++ (scanOf (b.drop k)).1 ∧ (scanOf b).2 = k + (scanOf (b.drop k)).2 ∧ Row wr w.heap.size 9 1 v ls.length (strs ls) ∧ Below w.heap.size w wr ∧ 8 * ls.length ≤ k

theorem ropen_calls (l : List UInt8) (w : World) (hl : l.length ≤ 1000000000) :
    Calls Try.prog 30 #[.string (str l)] w fun e w' => e = .returned (.tuple #[.string (str (openLoad l)), .int .i64 (openLen l), .int .i64 (openErr l)]) ∧ Below w.heap.size w w' := by
  by_cases h : l.length < 8
  · refine (ropen_short l w h).mono ?_
    rintro e w' ⟨rfl, rfl⟩
    have he : openErr l = 31 := by unfold openErr; rw [if_pos h]
    have hz : openErr l ≠ 0 := by rw [he]; decide
    exact ⟨by rw [openLoad_no hz]; exact ret_sii (openLen_no hz).symm he.symm, Below.refl _ _⟩
  · exact ropen_calls8 l w (by omega) hl

set_option maxHeartbeats 1000000 in
theorem rscan_calls (b : List UInt8) (w : World) (hb2 : b.length ≤ 1000000000) :
    Calls Try.prog 32 #[.string (str b)] w fun e w' => ∃ v, e = .returned (.tuple #[v, .int .i64 (scanOf b).2]) ∧ Row w' w.heap.size 9 1 v (scanOf b).1.length (strs (scanOf b).1) ∧ Below w.heap.size w w' := by
  go_enter Try.func32, Try.ntmps32
  go_wp2
  go_loopw [4, 5] (fun v i wr => RScanRel b w v i wr) (fun _ i _ => b.length - (intOf i).toNat)
  case atStart => exact ⟨0, [], rfl, Nat.zero_le _, by simp, by simp, row_new w _ 9 1 (Nat.le_refl _), (Below.refl _ _).alloc (Nat.le_refl _) _, by simp⟩
  case round =>
    obtain ⟨k, ls, rfl, hk, hs1, hs2, hrow, hbel, hlk⟩ := hrel
    have HS1 := Lib.hid hs1
    have HS2 := Lib.hid hs2
    clear hs1 hs2
    have hdrop : (b.drop k).take (b.length - k) = b.drop k := List.take_of_length_le (by simp)
    go_wp2_with fail
    have HD := Lib.hid hdrop
    clear hdrop
    refine (ropen_calls (b.drop k) wr (by simp; omega)).mono ?_
    rintro e w1 ⟨rfl, hb1⟩
    by_cases he : openErr (b.drop k) = 0
    · have hol := openLen_le he
      have hstep := scanOf_ok he
      rw [List.length_drop] at hol
      have HST := Lib.hid hstep
      rw [he]
      clear hstep he
      have hlen : openLen (b.drop k) ≤ b.length - k := hol.2
      have hlen8 : 8 ≤ openLen (b.drop k) := hol.1
      clear hol
      generalize hm : openLen (b.drop k) = m at hlen hlen8
      have HM := Lib.hid hm
      clear hm
      have hrow1 := hrow.below hb1
      go_wp2_with (with_reducible refine halt_dst 27 ?_)
      refine wpList_append_lit rfl (.tmp 24) (.tmp 26) 42 rfl w.heap.size 9 (.string ByteArray.empty) 1 16 Try.underlying42 Try.info9 rfl (by decide) u4 _ (strs ls) rfl hrow1 1 1 _ rfl rfl ?c1 ?c2 ?c3 ?c4 ?c5 ?_
      case c1 => intro x hx; simp at hx; subst hx; rfl
      case c2 => simp only [maxLen]; omega
      case c3 => omega
      case c4 => exact Nat.le_trans hbel.size hb1.size
      case c5 => simp
      intro v4 w4 r4 g4 _
      have hb4 : Below w.heap.size w w4 := (hbel.trans (hb1.mono hbel.size)).grown g4 (Nat.le_trans hbel.size hb1.size) (fun j hj => (hrow1.lt j hj).1)
      have hL : Row w4 w.heap.size 9 1 v4 (ls ++ [openLoad (b.drop k)]).length (strs (ls ++ [openLoad (b.drop k)])) := by
        rw [strs_push, List.length_append]; exact r4
      have e1 : (scanOf b).1 = (ls ++ [openLoad (b.drop k)]) ++ (scanOf (b.drop (k + m))).1 := by
        rw [HS1.out, HST.out, HM.out, List.drop_drop]; simp
      have e2 : (scanOf b).2 = (k + m) + (scanOf (b.drop (k + m))).2 := by
        rw [HS2.out, HST.out, HM.out, List.drop_drop]; simp only []; omega
      have E1 := Lib.hid e1
      have E2 := Lib.hid e2
      clear e1 e2 r4 g4 hrow hrow1 hbel hb1
      go_wp2
      go_roundw
      case rel => exact ⟨k + m, ls ++ [openLoad (b.drop k)], by go_num, by omega, E1.out, E2.out, hL, hb4, by simp; omega⟩
      case measure => simp [intOf]; omega
    · have hne : (openErr (b.drop k) == 0) = false := by simpa using he
      have hne2 : (openErr (b.drop k) != 0) = true := by simpa using he
      have hstep := scanOf_no he
      rw [hstep] at HS1 HS2
      have E1 := Lib.hid (show (scanOf b).1 = ls by have := HS1.out; simpa using this)
      have E2 := Lib.hid (show (scanOf b).2 = k by have := HS2.out; simpa using this)
      clear hstep he HS1 HS2
      go_wp2
      go_ret2
      refine ⟨u4, ?_, ?_, hbel.trans (hb1.mono hbel.size)⟩
      · rw [E2.out]; rfl
      · rw [E1.out]; exact hrow.below hb1

/-- As lists: the same? -/
theorem same_calls (v u : Value) (ls ms : List (List UInt8)) (base base' : Nat) (w : World) (hv : Loads w base v ls) (hu : Row w base' 9 1 u ms.length (strs ms)) (hl : ls.length ≤ 1000000000) (hm : ms.length ≤ 1000000000) :
    Calls Try.prog 33 #[v, u] w fun e w' => e = .returned (.bool (decide (ls = ms))) ∧ ∃ k, w' = w.drewN k := by
  obtain ⟨vs, hrow, hfull⟩ := hv.row
  obtain ⟨A, c, rfl, hc, hvl, hcA, _⟩ := hrow.cells1
  obtain ⟨B, d, rfl, hd, hul, hcB, _⟩ := hu.cells1
  have HF := Lib.hid hfull
  clear hfull hv hrow hu
  by_cases hlen : ls.length = ms.length
  · have hcA2 : ∀ k (hk : k < ls.length), ∃ ad A3, A = some ad ∧ w.cell? (ad.add k) = some (.slice A3 (ls[k]'hk).length (ls[k]'hk).length) ∧ Cells w A3 (byts (ls[k]'hk)) := fun k hk => by
      have hk2 : k < vs.length := by omega
      obtain ⟨ad, e, hcell⟩ := hcA.get k _ (List.getElem?_eq_getElem hk2)
      obtain ⟨A3, hv3, hc3, _⟩ := HF.out k _ _ (List.getElem?_eq_getElem hk2) (List.getElem?_eq_getElem hk)
      exact ⟨ad, A3, e, by rw [hcell, hv3], hc3⟩
    have hcB2 : ∀ k (hk : k < ms.length), ∃ ad, B = some ad ∧ w.cell? (ad.add k) = some (.string (str (ms[k]'hk))) := fun k hk => hcB.get k _ (by simp [strs, hk])
    have HA := Lib.hid hcA2
    have HB := Lib.hid hcB2
    have HM := Lib.hid hlen
    rw [← hlen]
    rw [← hlen] at hd
    clear hcA2 hcB2 hcA hcB HF hvl hul hlen hm
    have heq : ((ls.length : Int) != (ls.length : Int)) = false := by simp
    go_enter Try.func33, Try.ntmps33
    go_wp2
    go_loopw [5] (fun i wr => ∃ k : Nat, k ≤ ls.length ∧ i = .int .i64 k ∧ ls.take k = ms.take k ∧ ∃ j, wr = w.drewN j) (fun i _ => ls.length - (intOf i).toNat)
    case atStart => exact ⟨0, Nat.zero_le _, rfl, by simp, 0, rfl⟩
    case round =>
      obtain ⟨k, hk, rfl, hpre, j, rfl⟩ := hrel
      have HP := Lib.hid hpre
      clear hpre
      by_cases hlt : k < ls.length
      · have hlt2 : k < ms.length := by have := HM.out; omega
        obtain ⟨ad, A3, rfl, hca, hc3⟩ := HA.out k hlt
        obtain ⟨bd, rfl, hcb⟩ := HB.out k hlt2
        obtain ⟨x, hx⟩ : ∃ x, x = ls[k] := ⟨_, rfl⟩
        obtain ⟨y, hy⟩ : ∃ y, y = ms[k] := ⟨_, rfl⟩
        rw [← hx] at hca hc3
        rw [← hy] at hcb
        have hconv : ∀ nq, (convert 22 9 (.slice A3 x.length x.length)).run Try.prog (w.drewN nq) = .ok (.string (str x)) (w.drewN nq) := fun nq =>
          run_string 22 9 5 Try.underlying22 Try.underlying5 Try.underlying9 A3 x.length x (hc3.drewN nq)
        have HX := Lib.hid hx
        have HY := Lib.hid hy
        clear hx hy hc3
        by_cases hxy : x = y
        · have hb : (x == y) = true := by simpa using hxy
          have hb2 : (x != y) = false := by simpa using hxy
          have HXY := Lib.hid hxy
          clear hxy
          go_wp2
          go_quiet (fail)
          go_wp2
          go_roundw
          case rel => exact ⟨k + 1, by omega, by go_num, by rw [List.take_succ_eq_append_getElem hlt, List.take_succ_eq_append_getElem hlt2, HP.out, ← HX.out, ← HY.out, HXY.out], _, rfl⟩
          case measure => simp [intOf]; omega
        · have hb : (x == y) = false := by simpa using hxy
          have hb2 : (x != y) = true := by simpa using hxy
          have hne : ls ≠ ms := fun e => hxy (by rw [HX.out, HY.out]; simp [e])
          have hdd : decide (ls = ms) = false := by simpa using hne
          have HDD := Lib.hid hdd
          clear hxy hdd hne
          go_wp2
          go_quiet (fail)
          go_wp2
          go_ret
          exact ⟨by rw [HDD.out]; rfl, j + nq, by rw [World.drewN_drewN]⟩
      · have hall : ls = ms := by
          have h1 := HP.out
          have h2 := HM.out
          rwa [List.take_of_length_le (by omega), List.take_of_length_le (by omega)] at h1
        have HDD := Lib.hid (show decide (ls = ms) = true by simpa using hall)
        clear hall
        go_wp2
        go_ret
        exact ⟨by rw [HDD.out]; rfl, _, rfl⟩
  · have hne : ls ≠ ms := fun h => hlen (by rw [h])
    have hd : decide (ls = ms) = false := by simpa using hne
    have HDD := Lib.hid hd
    have hn : ¬ (ls.length : Int) = (ms.length : Int) := by omega
    clear hd hlen hne hvl hul
    go_enter Try.func33, Try.ntmps33
    go_wp2
    go_ret
    exact ⟨by rw [HDD.out]; rfl, 0, rfl⟩
end Go.Proofs.Ytimjadjopemefaa
