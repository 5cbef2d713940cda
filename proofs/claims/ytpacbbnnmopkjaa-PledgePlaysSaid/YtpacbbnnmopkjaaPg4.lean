/- The walks of pledge's Transfer, Part, Left; law16's kind and do. -/
import Derived.Test.YtpacbbnnmopkjaaPg3
set_option linter.unusedVariables false
set_option linter.unusedSimpArgs false
namespace Go.Proofs.Ytpacbbnnmopkjaa
open Go.RowKit

theorem results_tr {fn : Func} {tmps : Array Value} {W : World} {a : Tmp} {g : Nat} {y0 y1 y2 y3 : Value} (hres : fn.results = #[.cell a 53]) (ha : tmps.getD a undef = .pointer (some ⟨g, 0, Option.none⟩))
    (c0 : W.cell? ⟨g, 0, Option.none⟩ = some y0) (c1 : W.cell? ⟨g, 1, Option.none⟩ = some y1) (c2 : W.cell? ⟨g, 2, Option.none⟩ = some y2) (c3 : W.cell? ⟨g, 3, Option.none⟩ = some y3) :
    (results fn tmps).run Try.prog W = .ok (.agg #[y0, y1, y2, y3]) W := by
  have ha' : tmps[a]?.getD undef = .pointer (some ⟨g, 0, Option.none⟩) := by simpa using ha
  simp [results, hres, ha', c0, c1, c2, c3, go_sem]
theorem results_part {fn : Func} {tmps : Array Value} {W : World} {a : Tmp} {g : Nat} {y0 y1 y2 y3 : Value} (hres : fn.results = #[.cell a 61]) (ha : tmps.getD a undef = .pointer (some ⟨g, 0, Option.none⟩))
    (c0 : W.cell? ⟨g, 0, Option.none⟩ = some y0) (c1 : W.cell? ⟨g, 1, Option.none⟩ = some y1) (c2 : W.cell? ⟨g, 2, Option.none⟩ = some y2) (c3 : W.cell? ⟨g, 3, Option.none⟩ = some y3) :
    (results fn tmps).run Try.prog W = .ok (.agg #[y0, y1, y2, y3]) W := by
  have ha' : tmps[a]?.getD undef = .pointer (some ⟨g, 0, Option.none⟩) := by simpa using ha
  simp [results, hres, ha', c0, c1, c2, c3, go_sem]
theorem results_said {fn : Func} {tmps : Array Value} {W : World} {a : Tmp} {g : Nat} {y0 y1 y2 y3 : Value} (hres : fn.results = #[.cell a 67]) (ha : tmps.getD a undef = .pointer (some ⟨g, 0, Option.none⟩))
    (c0 : W.cell? ⟨g, 0, Option.none⟩ = some y0) (c1 : W.cell? ⟨g, 1, Option.none⟩ = some y1) (c2 : W.cell? ⟨g, 2, Option.none⟩ = some y2) (c3 : W.cell? ⟨g, 3, Option.none⟩ = some y3) :
    (results fn tmps).run Try.prog W = .ok (.agg #[y0, y1, y2, y3]) W := by
  have ha' : tmps[a]?.getD undef = .pointer (some ⟨g, 0, Option.none⟩) := by simpa using ha
  simp [results, hres, ha', c0, c1, c2, c3, go_sem]
theorem pbelow_one (w : World) (o : Obj) : Below w.heap.size w (w.alloc o) := (Below.refl _ _).alloc (Nat.le_refl _) o

set_option maxHeartbeats 1000000 in
theorem transfer_calls (g : Nat) (x : Tr) (p : PS) (w : World) (h : IsPledge w g x p) : Calls Try.prog 28 #[.pointer (some ⟨g, 0, Option.none⟩)] w fun e w' => e = .returned (.agg #[.int .i64 x.id, .int .i64 x.frm, .int .i64 x.to, .int .i64 x.n]) ∧ Below w.heap.size w w' := by
  have c0 : w.cell? ⟨g, 0, Option.none⟩ = some (.int .i64 x.id) := Blk.cell h 0 _ rfl
  have c1 : w.cell? ⟨g, 1, Option.none⟩ = some (.int .i64 x.frm) := Blk.cell h 1 _ rfl
  have c2 : w.cell? ⟨g, 2, Option.none⟩ = some (.int .i64 x.to) := Blk.cell h 2 _ rfl
  have c3 : w.cell? ⟨g, 3, Option.none⟩ = some (.int .i64 x.n) := Blk.cell h 3 _ rfl
  have hgl : g < w.heap.size := Blk.lt h
  have HB := Lib.hid (pbelow_one w (.cells #[.int .i64 x.id, .int .i64 x.frm, .int .i64 x.to, .int .i64 x.n] 53))
  have HN := Lib.hid (Blk.new w 53 #[.int .i64 x.id, .int .i64 x.frm, .int .i64 x.to, .int .i64 x.n])
  clear h
  go_enter Try.func28, Try.ntmps28
  go_wp2
  (try simp only [Exit.inBlock, Exit.then])
  refine bodyPost_ret (results_tr rfl rfl (HN.out.cell 0 _ rfl) (HN.out.cell 1 _ rfl) (HN.out.cell 2 _ rfl) (HN.out.cell 3 _ rfl)) rfl ?_
  exact ⟨rfl, HB.out⟩

def partId (x : Tr) (pays : Bool) : Int := if pays then 2 * x.id - 1 else 2 * x.id
def partAcc (x : Tr) (pays : Bool) : Int := if pays then x.frm else x.to
set_option maxHeartbeats 1000000 in
theorem part_calls (g : Nat) (x : Tr) (p : PS) (pays : Bool) (w : World) (h : IsPledge w g x p) (h1 : 1 ≤ x.id) (h2 : x.id ≤ 1000000) : Calls Try.prog 29 #[.pointer (some ⟨g, 0, Option.none⟩), .bool pays] w fun e w' => e = .returned (.agg #[.int .i64 (partId x pays), .int .i64 (partAcc x pays), .int .i64 x.n, .bool pays]) ∧ Below w.heap.size w w' := by
  have c0 : w.cell? ⟨g, 0, Option.none⟩ = some (.int .i64 x.id) := Blk.cell h 0 _ rfl
  have c1 : w.cell? ⟨g, 1, Option.none⟩ = some (.int .i64 x.frm) := Blk.cell h 1 _ rfl
  have c2 : w.cell? ⟨g, 2, Option.none⟩ = some (.int .i64 x.to) := Blk.cell h 2 _ rfl
  have c3 : w.cell? ⟨g, 3, Option.none⟩ = some (.int .i64 x.n) := Blk.cell h 3 _ rfl
  have hgl : g < w.heap.size := Blk.lt h
  unfold partId partAcc
  clear h
  generalize x.id = id at c0 h1 h2 ⊢
  generalize x.frm = frm at c1 ⊢
  generalize x.to = to at c2 ⊢
  generalize x.n = n at c3 ⊢
  cases pays
  · have HB := Lib.hid (pbelow_drew (pbelow_one w (.cells #[.int .i64 (2 * id), .int .i64 to, .int .i64 n, .bool false] 61)))
    have HN := Lib.hid ((Blk.new w 61 #[.int .i64 (2 * id), .int .i64 to, .int .i64 n, .bool false]).below (pbelow_drew (Below.refl _ _)))
    go_enter Try.func29, Try.ntmps29
    go_wp2_with fail
    go_region
    all_goals go_wp2_with fail
    all_goals (try simp only [Exit.inBlock, Exit.then])
    all_goals refine bodyPost_ret (results_part rfl rfl (HN.out.cell 0 _ rfl) (HN.out.cell 1 _ rfl) (HN.out.cell 2 _ rfl) (HN.out.cell 3 _ rfl)) rfl ?_
    all_goals exact ⟨rfl, HB.out⟩
  · have HB := Lib.hid (pbelow_drew (pbelow_one w (.cells #[.int .i64 (2 * id - 1), .int .i64 frm, .int .i64 n, .bool true] 61)))
    have HN := Lib.hid ((Blk.new w 61 #[.int .i64 (2 * id - 1), .int .i64 frm, .int .i64 n, .bool true]).below (pbelow_drew (Below.refl _ _)))
    go_enter Try.func29, Try.ntmps29
    go_wp2_with fail
    go_region
    all_goals go_wp2_with fail
    all_goals (try simp only [Exit.inBlock, Exit.then])
    all_goals refine bodyPost_ret (results_part rfl rfl (HN.out.cell 0 _ rfl) (HN.out.cell 1 _ rfl) (HN.out.cell 2 _ rfl) (HN.out.cell 3 _ rfl)) rfl ?_
    all_goals exact ⟨rfl, HB.out⟩

/-- A list of bools. -/
def bls (l : List Bool) : List Value := l.map .bool
theorem bls_length (l : List Bool) : (bls l).length = l.length := by simp [bls]
theorem Try.info4 : (Try.prog.info? 4).map (fun i => (i.zero, i.size, i.bytes)) = some (some (.bool false), 1, 1) := by kernel_rfl
theorem Try.index0 (w : World) : (Instr.index 101 (.agg #[.bool true, .bool false]) (.int .i64 0)).run Try.prog w = .ok (.bool true) w := by kernel_rfl
theorem Try.index1 (w : World) : (Instr.index 101 (.agg #[.bool true, .bool false]) (.int .i64 1)).run Try.prog w = .ok (.bool false) w := by kernel_rfl
def PS.done (p : PS) (i : Nat) : Bool := if i = 0 then (if p.fate = 0 then p.v0.said else p.a0) else (if p.fate = 0 then p.v1.said else p.a1)
def PS.leftTo (p : PS) (k : Nat) : List Bool := (if 0 < k then (if p.done 0 = true then [] else [true]) else []) ++ (if 1 < k then (if p.done 1 = true then [] else [false]) else [])
theorem leftTo_two (p : PS) : p.leftTo 2 = p.left := by unfold PS.leftTo PS.left PS.done; rfl
theorem leftTo_le (p : PS) (k : Nat) : (p.leftTo k).length ≤ 2 := by
  unfold PS.leftTo
  split <;> split <;> (try split) <;> (try split) <;> simp

set_option maxHeartbeats 4000000 in
set_option maxRecDepth 100000 in
theorem left_calls (g : Nat) (x : Tr) (p : PS) (w : World) (h : IsPledge w g x p) : Calls Try.prog 39 #[.pointer (some ⟨g, 0, Option.none⟩)] w fun e w' => ∃ A c, e = .returned (.slice A p.left.length c) ∧ Cells w' A (bls p.left) ∧ Below w.heap.size w w' ∧ ∀ ad, A = some ad → w.heap.size ≤ ad.block := by
  have HP := Lib.hid h
  clear h
  go_enter Try.func39, Try.ntmps39
  go_wp2
  go_loopw [3, 8] (fun v i wr => ∃ k : Nat, k ≤ 2 ∧ i = .int .i64 k ∧ ∃ A c, v = .slice A (p.leftTo k).length c ∧ Row wr w.heap.size 4 1 (.slice A (p.leftTo k).length c) (p.leftTo k).length (bls (p.leftTo k)) ∧ Below w.heap.size w wr) (fun _ i _ => 2 - (intOf i).toNat)
  case atStart => exact ⟨0, by omega, rfl, Option.none, 0, rfl, Row.nil _ _ _ _, Below.refl _ _⟩
  case round =>
    obtain ⟨k, hk, rfl, A, c, rfl, hr, hb⟩ := hrel
    by_cases hlt : k < 2
    · have hP := HP.out.below hb
      have hdk : (if p.fate = 0 then (if k = 0 then p.v0.said else p.v1.said) else (if k = 0 then p.a0 else p.a1)) = p.done k := by
        obtain rfl | rfl : k = 0 ∨ k = 1 := by omega
        · unfold PS.done; rfl
        · unfold PS.done; rfl
      have hnx : p.leftTo (k + 1) = p.leftTo k ++ (if p.done k = true then [] else [decide (k = 0)]) := by
        obtain rfl | rfl : k = 0 ∨ k = 1 := by omega
        · unfold PS.leftTo; simp
        · unfold PS.leftTo; simp
      have hll := leftTo_le p k
      have d0 : wr.cell? ⟨g, 4 + 3 * k, Option.none⟩ = some (.bool (if k = 0 then p.v0.said else p.v1.said)) := by
        obtain rfl | rfl : k = 0 ∨ k = 1 := by omega
        · exact Blk.cell hP 4 _ rfl
        · exact Blk.cell hP 7 _ rfl
      have d1 : wr.cell? ⟨g, 10 + k, Option.none⟩ = some (.bool (if k = 0 then p.a0 else p.a1)) := by
        obtain rfl | rfl : k = 0 ∨ k = 1 := by omega
        · exact Blk.cell hP 10 _ rfl
        · exact Blk.cell hP 11 _ rfl
      have d2 : wr.cell? ⟨g, 12, Option.none⟩ = some (.int .i64 p.fate) := Blk.cell hP 12 _ rfl
      have HNX := Lib.hid hnx
      have HR := Lib.hid hr
      have HBL := Lib.hid hb
      have hbs := hb.size
      clear hnx hP hr hb
      obtain ⟨dn, hdn⟩ : ∃ dn, dn = p.done k := ⟨_, rfl⟩
      rw [← hdn] at hdk HNX
      have hfc : ∃ f, f = p.fate := ⟨_, rfl⟩
      obtain ⟨f, hf⟩ := hfc
      rw [← hf] at hdk d2
      clear hdn hf
      obtain ⟨L, hL⟩ : ∃ L, L = p.leftTo k := ⟨_, rfl⟩
      rw [← hL] at HNX HR hll ⊢
      clear hL
      obtain ⟨n, hn⟩ : ∃ n, n = L.length := ⟨_, rfl⟩
      rw [← hn] at hll HR ⊢
      have HN := Lib.hid hn
      clear hn
      by_cases hf0 : f = 0
      case' pos =>
        subst hf0
        rw [if_pos rfl] at hdk
        rw [hdk] at d0
        clear hdk
      case' neg =>
        have hf2 : (f == 0) = false := by simpa using hf0
        rw [if_neg hf0] at hdk
        rw [hdk] at d1
        clear hdk hf0
      all_goals
        obtain rfl | rfl : k = 0 ∨ k = 1 := by omega
        all_goals
          simp only [Nat.mul_zero, Nat.mul_one, Nat.add_zero, Nat.reduceAdd, Nat.reduceMul] at d0 d1
          have i0 := Try.index0
          have i1 := Try.index1
          cases dn
          · go_wp2_with (with_reducible refine halt_dst 35 ?_)
            refine wpList_append_lit rfl (.tmp 32) (.tmp 34) 80 rfl w.heap.size 4 (.bool false) 1 1 Try.underlying80 Try.info4 rfl (by decide) (.slice A n c) n (bls L) rfl HR.out 1 1 #[.bool _] rfl rfl (by intro u hu; simp at hu; subst hu; rfl) (by simp only [maxLen]; omega) (by omega) hbs (by simp) ?_
            intro v2 w2 r2 g2 o2
            have hb2 := HBL.out.grown g2 hbs (fun j hj => (HR.out.lt j hj).1)
            obtain ⟨A2, c2, rfl, _, _, _, _⟩ := r2.cells1
            have hnx := HNX.out
            simp only [Bool.false_eq_true, if_false] at hnx
            have HN2 := Lib.hid hnx
            have HR2 := Lib.hid r2
            have HB2 := Lib.hid hb2
            clear hnx g2 o2 hb2 r2
            go_wp2
            go_roundw
            case rel =>
              first
                | exact ⟨0 + 1, by omega, by go_num, A2, c2, by rw [HN2.out]; simp [← HN.out], by rw [HN2.out]; simpa [bls, ← HN.out] using HR2.out, HB2.out⟩
                | exact ⟨1 + 1, by omega, by go_num, A2, c2, by rw [HN2.out]; simp [← HN.out], by rw [HN2.out]; simpa [bls, ← HN.out] using HR2.out, HB2.out⟩
            case measure => simp [intOf]
          · have hnx := HNX.out
            simp only [if_true, List.append_nil] at hnx
            have HN2 := Lib.hid hnx
            clear hnx
            go_wp2
            go_roundw
            case rel =>
              first
                | exact ⟨0 + 1, by omega, by go_num, A, c, by rw [HN2.out, ← HN.out], by rw [HN2.out, ← HN.out]; exact HR.out, HBL.out⟩
                | exact ⟨1 + 1, by omega, by go_num, A, c, by rw [HN2.out, ← HN.out], by rw [HN2.out, ← HN.out]; exact HR.out, HBL.out⟩
            case measure => simp [intOf]
    · obtain rfl : k = 2 := by omega
      have hl := leftTo_two p
      rw [hl] at hr ⊢
      clear hl
      have HR := Lib.hid hr
      have HBL := Lib.hid hb
      clear hr hb
      go_wp2
      go_ret
      obtain ⟨A2, c2, he, _, _, hc, hbb⟩ := HR.out.cells1
      cases he
      exact ⟨A, c, rfl, hc, HBL.out, fun ad e => (hbb ad e).1⟩
end Go.Proofs.Ytpacbbnnmopkjaa
