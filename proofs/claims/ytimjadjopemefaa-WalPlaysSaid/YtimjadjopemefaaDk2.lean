/- The walks of package disk's small methods: New, Down, Up, Acts, Sure, Read. -/
import Derived.Test.YtimjadjopemefaaDk1
set_option linter.unusedVariables false
set_option linter.unusedSimpArgs false
namespace Go.Proofs.Ytimjadjopemefaa
open Go.RowKit

theorem Try.info126 : (Try.prog.info? 126).map (fun i => (i.zero, i.size, i.bytes)) = some (some (.agg #[.slice none 0 0, .int .i64 0]), 2, 32) := by kernel_rfl
theorem Try.inf5 : (Try.prog.info? 5).map (fun i => (i.zero, i.size, i.bytes)) = some (some (.int .u8 0), 1, 1) := by kernel_rfl
theorem made_logs (n i : Nat) (hi : i < n) : (madeCells #[.slice none 0 0, .int .i64 0] (n * 2))[i * 2]? = some (.slice none 0 0) ∧ (madeCells #[.slice none 0 0, .int .i64 0] (n * 2))[i * 2 + 1]? = some (.int .i64 0) := by
  have h1 : i * 2 < n * 2 := by omega
  have h2 : i * 2 + 1 < n * 2 := by omega
  constructor
  · simp only [madeCells, Array.getElem?_map, Array.getElem?_range, h1, if_true, Option.map_some]
    rw [show i * 2 % (#[Value.slice none 0 0, Value.int .i64 0] : Array Value).size = 0 by simp]; rfl
  · simp only [madeCells, Array.getElem?_map, Array.getElem?_range, h2, if_true, Option.map_some]
    rw [show (i * 2 + 1) % (#[Value.slice none 0 0, Value.int .i64 0] : Array Value).size = 1 by simp]; rfl
theorem made_u8 (n : Nat) : (madeCells (Value.int .u8 0).cells (n * 1)).toList = byts (List.replicate n 0) := by
  apply List.ext_getElem?
  intro i
  simp only [madeCells, byts, Array.getElem?_toList, Array.getElem?_map, Array.getElem?_range, List.getElem?_map, List.getElem?_replicate, Nat.mul_one]
  split <;> simp [Value.cells, byt, Nat.mod_one]

section
variable {w : World} {S : Nat → Prop} {g : Nat} {D : DS}
theorem IsDisk.setDown (h : IsDisk w S g D) (b : Bool) : IsDisk (w.setCell ⟨g, 2, none⟩ (.bool b)) S g { D with down := b } := by
  obtain ⟨L, c, v, kv, hb, hl, hk, ho⟩ := h.at_
  refine ⟨⟨L, c, v, kv, by simpa using hb.set 2 (.bool b), hl.kept (set_grown w ⟨g, 2, none⟩ _) hb.typed (by decide) (by decide), hk.kept (set_grown w ⟨g, 2, none⟩ _) (.inr fun e => (Typed.ne hb.typed (hk.typed g e) (by decide)) rfl), ho⟩, h.foot, h.small, h.armed⟩
theorem IsDisk.setArmed (h : IsDisk w S g D) (x : Int) (hx : 0 ≤ x ∧ x ≤ 9223372036854775807) : IsDisk (w.setCell ⟨g, 3, none⟩ (.int .i64 x)) S g { D with armed := x } := by
  obtain ⟨L, c, v, kv, hb, hl, hk, ho⟩ := h.at_
  refine ⟨⟨L, c, v, kv, by simpa using hb.set 3 (.int .i64 x), hl.kept (set_grown w ⟨g, 3, none⟩ _) hb.typed (by decide) (by decide), hk.kept (set_grown w ⟨g, 3, none⟩ _) (.inr fun e => (Typed.ne hb.typed (hk.typed g e) (by decide)) rfl), ho⟩, h.foot, h.small, hx⟩
theorem IsDisk.setActs (h : IsDisk w S g D) (x : Nat) : IsDisk (w.setCell ⟨g, 1, none⟩ (.int .i64 (x : Int))) S g { D with acts := x } := by
  obtain ⟨L, c, v, kv, hb, hl, hk, ho⟩ := h.at_
  refine ⟨⟨L, c, v, kv, by simpa using hb.set 1 (.int .i64 (x : Int)), hl.kept (set_grown w ⟨g, 1, none⟩ _) hb.typed (by decide) (by decide), hk.kept (set_grown w ⟨g, 1, none⟩ _) (.inr fun e => (Typed.ne hb.typed (hk.typed g e) (by decide)) rfl), ho⟩, h.foot, h.small, h.armed⟩
theorem upd_one (g j : Nat) (v : Value) (hg : S g) : Upd S w (w.setCell ⟨g, j, none⟩ v) := (Upd.refl S w).set _ _ (fun _ => hg)
end

set_option maxHeartbeats 1000000 in
theorem ddown_calls (g : Nat) (S : Nat → Prop) (D : DS) (w : World) (h : IsDisk w S g D) :
    Calls Try.prog 41 #[.pointer (some ⟨g, 0, none⟩)] w fun e w' => e = .returned (.bool D.down) ∧ w = w' := by
  obtain ⟨L, c, v, kv, hb, _⟩ := h.at_
  have h1 : w.cell? ⟨g, 2, none⟩ = some (.bool D.down) := hb.cell 2 _ rfl
  go_enter Try.func41, Try.ntmps41
  go_wp2
  go_ret
  exact ⟨rfl, rfl⟩
set_option maxHeartbeats 1000000 in
theorem dacts_calls (g : Nat) (S : Nat → Prop) (D : DS) (w : World) (h : IsDisk w S g D) :
    Calls Try.prog 48 #[.pointer (some ⟨g, 0, none⟩)] w fun e w' => e = .returned (.int .i64 (D.acts : Int)) ∧ w = w' := by
  obtain ⟨L, c, v, kv, hb, _⟩ := h.at_
  have h1 : w.cell? ⟨g, 1, none⟩ = some (.int .i64 (D.acts : Int)) := hb.cell 1 _ rfl
  go_enter Try.func48, Try.ntmps48
  go_wp2
  go_ret
  exact ⟨rfl, rfl⟩
set_option maxHeartbeats 1000000 in
theorem dup_calls (g : Nat) (S : Nat → Prop) (D : DS) (w : World) (h : IsDisk w S g D) :
    Calls Try.prog 42 #[.pointer (some ⟨g, 0, none⟩)] w fun e w' => e = .returned (.tuple #[]) ∧ IsDisk w' S g { D with down := false } ∧ Upd S w w' := by
  have h2 := Lib.hid (And.intro (h.setDown false) (upd_one (w := w) g 2 (.bool false) h.foot))
  obtain ⟨L, c, v, kv, hb, _⟩ := h.at_
  have h1 : w.cell? ⟨g, 2, none⟩ = some (.bool D.down) := hb.cell 2 _ rfl
  have f1 := hb.free 2 none
  go_enter Try.func42, Try.ntmps42
  go_wp2
  (try simp only [Exit.inBlock, Exit.then])
  refine bodyPost_end (results_none rfl _ _ _) rfl ?_
  exact ⟨rfl, h2.out⟩

/-- A log, if there is one. -/
def DS.log (D : DS) (n : Int) : List UInt8 × Nat := D.logs[n.toNat]?.getD ([], 0)
def DS.sure (D : DS) (n : Int) : Nat := if D.has n then (D.log n).2 else 0
def DS.readErr (D : DS) (n : Int) : Int := if D.has n then (if D.down then 71 else 0) else 70
theorem DS.has_iff {D : DS} {n : Int} : D.has n = true ↔ ∃ i : Nat, n = (i : Int) ∧ i < D.logs.length := by
  unfold DS.has
  simp only [Bool.and_eq_true, decide_eq_true_eq]
  constructor
  · rintro ⟨h1, h2⟩; exact ⟨n.toNat, by omega, by omega⟩
  · rintro ⟨i, rfl, h⟩; omega
theorem DS.log_at {D : DS} {i : Nat} (h : i < D.logs.length) : D.log (i : Int) = D.logs[i] := by simp [DS.log, h]

set_option maxHeartbeats 1000000 in
theorem dsure_calls (g : Nat) (S : Nat → Prop) (D : DS) (n : Int) (w : World) (h : IsDisk w S g D) :
    Calls Try.prog 50 #[.pointer (some ⟨g, 0, none⟩), .int .i64 n] w fun e w' => e = .returned (.int .i64 (D.sure n : Int)) ∧ w = w' := by
  have H := Lib.hid (dhas_calls g S D n w h)
  cases hh : D.has n with
  | false =>
    have hs : D.sure n = 0 := by simp [DS.sure, hh]
    rw [hs]
    clear hs h
    go_enter Try.func50, Try.ntmps50
    go_wp2_with fail
    refine H.out.mono ?_
    rintro e w1 ⟨rfl, rfl⟩
    rw [hh]
    go_wp2
    go_ret
    exact ⟨rfl, rfl⟩
  | true =>
    obtain ⟨i, rfl, hi⟩ := DS.has_iff.1 hh
    have hs : D.sure (i : Int) = D.logs[i].2 := by simp [DS.sure, hh, DS.log_at hi]
    rw [hs]
    obtain ⟨L, c, v, kv, hb, hl, _⟩ := h.at_
    have h0 : w.cell? ⟨g, 0, none⟩ = some (.slice (some ⟨L, 0, none⟩) D.logs.length c) := hb.cell 0 _ rfl
    have h1 := (hl.cells hi).2
    clear hb hl h hs
    go_enter Try.func50, Try.ntmps50
    go_wp2_with fail
    refine H.out.mono ?_
    rintro e w1 ⟨rfl, rfl⟩
    rw [hh]
    go_wp2
    go_ret
    exact ⟨rfl, rfl⟩

set_option maxHeartbeats 1000000 in
theorem dread_calls (g : Nat) (S : Nat → Prop) (D : DS) (n : Int) (w : World) (h : IsDisk w S g D) :
    Calls Try.prog 43 #[.pointer (some ⟨g, 0, none⟩), .int .i64 n] w fun e w' => ∃ v, e = .returned (.tuple #[v, .int .i64 (D.readErr n)]) ∧ Row w' w.heap.size 5 1 v (if D.readErr n = 0 then (D.log n).1.length else 0) (byts (if D.readErr n = 0 then (D.log n).1 else [])) ∧ Below w.heap.size w w' := by
  have H := Lib.hid (dhas_calls g S D n w h)
  cases hh : D.has n with
  | false =>
    have hs : D.readErr n = 70 := by simp [DS.readErr, hh]
    rw [hs]
    clear hs h
    go_enter Try.func43, Try.ntmps43
    go_wp2_with fail
    refine H.out.mono ?_
    rintro e w1 ⟨rfl, rfl⟩
    rw [hh]
    go_wp2
    go_ret2
    exact ⟨_, rfl, by simpa [byts] using Row.nil _ _ _ _, Below.refl _ _⟩
  | true =>
    obtain ⟨L, c, v, kv, hb, hl, _⟩ := h.at_
    have hd2 : w.cell? ⟨g, 2, none⟩ = some (.bool D.down) := hb.cell 2 _ rfl
    cases hdn : D.down with
    | true =>
      have hs : D.readErr n = 71 := by simp [DS.readErr, hh, hdn]
      rw [hs]
      rw [hdn] at hd2
      clear hs h hl hb
      go_enter Try.func43, Try.ntmps43
      go_wp2_with fail
      refine H.out.mono ?_
      rintro e w1 ⟨rfl, rfl⟩
      rw [hh]
      go_wp2
      go_ret2
      exact ⟨_, rfl, by simpa [byts] using Row.nil _ _ _ _, Below.refl _ _⟩
    | false =>
      have hs : D.readErr n = 0 := by simp [DS.readErr, hh, hdn]
      rw [hs, if_pos rfl, if_pos rfl]
      obtain ⟨i, rfl, hi⟩ := DS.has_iff.1 hh
      rw [DS.log_at hi]
      have h0 : w.cell? ⟨g, 0, none⟩ = some (.slice (some ⟨L, 0, none⟩) D.logs.length c) := hb.cell 0 _ rfl
      have h1 := (hl.cells hi).1
      have hr := hl.row i hi
      have hsm := (h.small i hi).1
      obtain ⟨b, hbb⟩ : ∃ b, b = D.logs[i].1 := ⟨_, rfl⟩
      rw [← hbb] at hr hsm ⊢
      obtain ⟨A, c2, hv, hnc, hcm, hA, _⟩ := hr.cells (by rw [byts_length]; omega)
      rw [hv] at h1
      rw [hdn] at hd2
      have hgl := hb.lt
      have hLl := hl.lt
      have HA := Lib.hid hA
      clear hb hl h hs hr hv hbb hA hnc hcm
      go_enter Try.func43, Try.ntmps43
      go_wp2_with fail
      refine H.out.mono ?_
      rintro e w1 ⟨rfl, rfl⟩
      rw [hh]
      go_wp2_with (with_reducible refine halt_dst 26 ?_)
      refine wpList_maken rfl _ _ 22 rfl w.heap.size 5 (.int .u8 0) 1 1 Try.underlying22 Try.inf5 .i64 .i64 _ _ b.length rfl rfl rfl rfl (by omega) (by simp only [maxLen]; omega) (Nat.le_refl _) ?_
      intro w5 r5 b5 _
      have g0 : w5.cell? ⟨g, 0, none⟩ = some (.slice (some ⟨L, 0, none⟩) D.logs.length c) := (b5.cell hgl).trans h0
      have g1 := (b5.cell (p := ⟨L, i * 2, none⟩) hLl).trans h1
      have hA5 := HA.out.below b5
      have HR5 := Lib.hid r5
      have HB5 := Lib.hid b5
      have HA5 := Lib.hid hA5
      clear r5 b5 hA5
      go_wp2_with (with_reducible refine halt_dst 36 ?_)
      refine wpList_copy rfl _ _ 22 22 rfl 5 (.int .u8 0) 1 1 Try.underlying22 Try.inf5 (by decide) w.heap.size b.length A b.length c2 w.heap.size (byts b) _ rfl rfl HR5.out (by rw [byts_length]; omega) HA5.out (byts_one b) ?_
      intro w6 r6 g6
      have HR6 := Lib.hid r6
      have hb6 : Below w.heap.size w w6 := ⟨g6.os.trans HB5.out.os, g6.tape.trans HB5.out.tape, g6.output.trans HB5.out.output, Nat.le_trans HB5.out.size g6.size, fun k hk => (g6.block k (Nat.lt_of_lt_of_le hk HB5.out.size) (by simp; omega)).trans (HB5.out.block k hk)⟩
      have HB6 := Lib.hid hb6
      clear r6 g6 hb6 g0 g1
      go_wp2
      go_ret2
      exact ⟨_, rfl, HR6.out, HB6.out⟩
end Go.Proofs.Ytimjadjopemefaa
