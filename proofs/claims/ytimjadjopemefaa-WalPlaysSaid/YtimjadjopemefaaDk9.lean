/- The walks of disk's Append, Sync, Swap. -/
import Derived.Test.YtimjadjopemefaaDk8
set_option linter.unusedVariables false
set_option linter.unusedSimpArgs false
namespace Go.Proofs.Ytimjadjopemefaa
open Go.RowKit

theorem DS.act_ok {D : DS} {i : Nat} {size : Int} {f : List UInt8 × Nat → List UInt8 × Nat} (he : D.actErr (i : Int) size = 0) (hi : i < D.logs.length) : D.act (i : Int) size f = { D.pre with logs := D.logs.set i (f D.logs[i]) } := by
  unfold DS.act
  rw [if_pos he, DS.log_at hi]; rfl
theorem DS.act_no {D : DS} {n size : Int} {f : List UInt8 × Nat → List UInt8 × Nat} (he : D.actErr n size ≠ 0) : D.act n size f = D.fail n size := by
  unfold DS.act
  rw [if_neg he]
theorem DS.actErr_has {D : DS} {n size : Int} (he : D.actErr n size = 0) : ∃ i : Nat, n = (i : Int) ∧ i < D.logs.length := by
  refine DS.has_iff.1 ?_
  unfold DS.actErr at he
  split at he
  · assumption
  · cases he
theorem DS.actErr_size {D : DS} {n size : Int} (he : D.actErr n size = 0) : size ≤ 4194304 := by
  unfold DS.actErr at he
  split at he
  · split at he
    · cases he
    · split at he
      · cases he
      · omega
  · cases he
def DS.appSize (D : DS) (n : Int) (b : List UInt8) : Int := (b.length : Int) + (if D.has n then ((D.log n).1.length : Int) else 0)
def DS.appErr (D : DS) (n : Int) (b : List UInt8) : Int := D.actErr n (D.appSize n b)
def DS.append (D : DS) (n : Int) (b : List UInt8) : DS := D.act n (D.appSize n b) (fun l => (l.1 ++ b, l.2))
def DS.sync (D : DS) (n : Int) : DS := D.act n 0 (fun l => (l.1, l.1.length))
def DS.swap (D : DS) (n : Int) (b : List UInt8) : DS := D.act n (b.length : Int) (fun l => (b, b.length))
theorem set_small {ls : List (List UInt8 × Nat)} {i : Nat} {x : List UInt8 × Nat} (h : ∀ j (h : j < ls.length), ls[j].1.length ≤ 4194304 ∧ ls[j].2 ≤ ls[j].1.length) (hx : x.1.length ≤ 4194304 ∧ x.2 ≤ x.1.length) :
    ∀ j (h : j < (ls.set i x).length), (ls.set i x)[j].1.length ≤ 4194304 ∧ (ls.set i x)[j].2 ≤ (ls.set i x)[j].1.length := by
  intro j hj
  rw [List.getElem_set]
  split
  · exact hx
  · exact h j (by simpa using hj)

/-- Append, from the world in which the argument lies in a box. -/
theorem app_any (g : Nat) (S : Nat → Prop) (D : DS) (n size : Int) (A : Option Addr) (c0 B : Nat) (b : List UInt8) (w : World) (h : IsDisk w S g D) (hB : Blk w B 22 #[.slice A b.length c0]) (hA : Cells w A (byts b)) (hout : ∀ ad, A = some ad → ¬ S ad.block) (hac : D.acts < 1000000000) (hs : size = D.appSize n b) :
    Calls Try.prog 73 #[.pointer (some ⟨g, 0, none⟩), .int .i64 n, .int .i64 size, .func (.func 74) #[] #[.pointer (some ⟨B, 0, none⟩)]] w fun e w' => e = .returned (.int .i64 (D.appErr n b)) ∧ IsDisk w' (fun k => S k ∨ w.heap.size ≤ k) g (D.append n b) ∧ Upd S w w' := by
  subst hs
  unfold DS.appErr DS.append
  by_cases he : D.actErr n (D.appSize n b) = 0
  · obtain ⟨i, rfl, hi⟩ := DS.actErr_has he
    have hsz := DS.actErr_size he
    have hh : D.has (i : Int) = true := DS.has_iff.2 ⟨i, rfl, hi⟩
    have hln : D.logs[i].1.length + b.length ≤ 4194304 := by
      unfold DS.appSize at hsz
      rw [if_pos hh, DS.log_at hi] at hsz
      omega
    rw [DS.act_ok he hi, he]
    refine act_app g S D i _ B _ w h he hac (by simp) (set_small h.small ⟨by simp; omega, by have := (h.small i hi).2; simp; omega⟩) fun w1 L v hl hu => ?_
    have hBg : B ≠ g := by obtain ⟨_, _, _, _, hb, _⟩ := h.at_; exact Typed.ne hB.typed hb.typed (by decide)
    refine (app_clo L i B S D.logs v A c0 b w1 hl hi (hB.upd hu hBg) (hA.upd hu (fun ad e _ h2 => hout ad e (by rw [h2]; exact h.foot))) hln).mono ?_
    rintro e w2 ⟨rfl, v', hl2, hu2⟩
    exact ⟨rfl, v', hl2.mono (fun k hk => hk.imp id (fun h => Nat.le_trans hu.size h)), hu2⟩
  · rw [DS.act_no he]
    refine (act_err g S D n _ _ w h he).mono ?_
    rintro e w' ⟨rfl, hd, hu⟩
    exact ⟨rfl, hd.mono (fun k hk => .inl hk), hu⟩

set_option maxHeartbeats 2000000 in
set_option maxRecDepth 100000 in
theorem dappend_calls (g : Nat) (S : Nat → Prop) (D : DS) (n : Int) (A : Option Addr) (m c0 : Nat) (b : List UInt8) (w : World) (h : IsDisk w S g D) (hm : m = b.length) (hA : Cells w A (byts b)) (hout : ∀ ad, A = some ad → ¬ S ad.block) (hb : b.length ≤ 1000000000) (hac : D.acts < 1000000000) :
    Calls Try.prog 40 #[.pointer (some ⟨g, 0, none⟩), .int .i64 n, .slice A m c0] w fun e w' => e = .returned (.int .i64 (D.appErr n b)) ∧ IsDisk w' (fun k => S k ∨ w.heap.size ≤ k) g (D.append n b) ∧ Upd S w w' := by
  subst hm
  have b1 : Below w.heap.size w (w.alloc (.cells #[.slice A b.length c0] 22)) := (Below.refl _ _).alloc (Nat.le_refl _) _
  have h' := h.below b1
  have H := Lib.hid (dhas_calls g S D n _ h')
  have hfin := app_any g S D n (D.appSize n b) A c0 w.heap.size b _ h' (Blk.new w 22 _) (hA.below b1) hout hac rfl
  have hfin2 := hfin.mono (R' := fun e w' => e = .returned (.int .i64 (D.appErr n b)) ∧ IsDisk w' (fun k => S k ∨ w.heap.size ≤ k) g (D.append n b) ∧ Upd S w w') (by
    rintro e w' ⟨rfl, hd, hu⟩
    exact ⟨rfl, hd.mono (fun k hk => hk.imp id (fun h => by simp at h; omega)), (Upd.of_below b1).trans (S' := S) hu (fun _ _ h => h)⟩)
  have HF := Lib.hid hfin2
  obtain ⟨L, c, v, kv, hbk, hl, _⟩ := h'.at_
  have h0 : (w.alloc (.cells #[.slice A b.length c0] 22)).cell? ⟨g, 0, none⟩ = some (.slice (some ⟨L, 0, none⟩) D.logs.length c) := hbk.cell 0 _ rfl
  cases hh : D.has n with
  | false =>
    have e1 : D.appSize n b = (b.length : Int) := by simp [DS.appSize, hh]
    rw [e1] at HF
    clear hfin hfin2 h' h hA hout hac e1 hbk hl h0
    go_enter Try.func40, Try.ntmps40
    go_wp2_with fail
    refine H.out.mono ?_
    rintro e w1 ⟨rfl, rfl⟩
    rw [hh]
    go_wp2_with fail
    refine HF.out.mono ?_
    rintro e w2 ⟨rfl, hd⟩
    have HD := Lib.hid hd
    clear hd
    go_wp2
    go_ret
    exact ⟨rfl, HD.out⟩
  | true =>
    obtain ⟨i, rfl, hi⟩ := DS.has_iff.1 hh
    have e1 : D.appSize (i : Int) b = (b.length : Int) + (D.logs[i].1.length : Int) := by simp [DS.appSize, hh, DS.log_at hi]
    rw [e1] at HF
    have hsm := (h.small i hi).1
    have h1 := (hl.cells hi).1
    obtain ⟨A1, cap1, hv, _, _, _, _⟩ := (hl.row i hi).cells1
    rw [hv] at h1
    obtain ⟨N, hN⟩ : ∃ N, N = D.logs[i].1.length := ⟨_, rfl⟩
    rw [← hN] at h1 HF hsm
    clear hfin hfin2 h' h hA hout hac e1 hbk hl hN hv
    go_enter Try.func40, Try.ntmps40
    go_wp2_with fail
    refine H.out.mono ?_
    rintro e w1 ⟨rfl, rfl⟩
    rw [hh]
    go_wp2_with fail
    refine HF.out.mono ?_
    rintro e w2 ⟨rfl, hd⟩
    have HD := Lib.hid hd
    clear hd
    go_wp2
    go_ret
    exact ⟨rfl, HD.out⟩

set_option maxHeartbeats 2000000 in
set_option maxRecDepth 100000 in
theorem dsync_calls (g : Nat) (S : Nat → Prop) (D : DS) (n : Int) (w : World) (h : IsDisk w S g D) (hac : D.acts < 1000000000) :
    Calls Try.prog 52 #[.pointer (some ⟨g, 0, none⟩), .int .i64 n] w fun e w' => e = .returned (.int .i64 (D.actErr n 0)) ∧ IsDisk w' (fun k => S k ∨ w.heap.size ≤ k) g (D.sync n) ∧ Upd S w w' := by
  have hfin : Calls Try.prog 73 #[.pointer (some ⟨g, 0, none⟩), .int .i64 n, .int .i64 0, .func (.func 79) #[] #[]] w fun e w' => e = .returned (.int .i64 (D.actErr n 0)) ∧ IsDisk w' (fun k => S k ∨ w.heap.size ≤ k) g (D.sync n) ∧ Upd S w w' := by
    unfold DS.sync
    by_cases he : D.actErr n 0 = 0
    · obtain ⟨i, rfl, hi⟩ := DS.actErr_has he
      rw [DS.act_ok he hi, he]
      refine act_sync g S D i _ _ w h he hac (by simp) (set_small h.small ⟨(h.small i hi).1, Nat.le_refl _⟩) fun w1 L v hl hu => ?_
      refine (sync_clo L i S D.logs v w1 hl hi (h.small i hi).1).mono ?_
      rintro e w2 ⟨rfl, v', hl2, hu2⟩
      exact ⟨rfl, v', hl2.mono (fun k hk => .inl hk), hu2⟩
    · rw [DS.act_no he]
      refine (act_err g S D n _ _ w h he).mono ?_
      rintro e w' ⟨rfl, hd, hu⟩
      exact ⟨rfl, hd.mono (fun k hk => .inl hk), hu⟩
  have HF := Lib.hid hfin
  clear hfin h hac
  go_enter Try.func52, Try.ntmps52
  go_wp2_with fail
  refine HF.out.mono ?_
  rintro e w2 ⟨rfl, hd⟩
  have HD := Lib.hid hd
  clear hd
  go_wp2
  go_ret
  exact ⟨rfl, HD.out⟩

set_option maxHeartbeats 2000000 in
set_option maxRecDepth 100000 in
theorem dswap_calls (g : Nat) (S : Nat → Prop) (D : DS) (n : Int) (A : Option Addr) (m c0 : Nat) (b : List UInt8) (w : World) (h : IsDisk w S g D) (hm : m = b.length) (hA : Cells w A (byts b)) (hout : ∀ ad, A = some ad → ¬ S ad.block) (hac : D.acts < 1000000000) :
    Calls Try.prog 47 #[.pointer (some ⟨g, 0, none⟩), .int .i64 n, .slice A m c0] w fun e w' => e = .returned (.int .i64 (D.actErr n (b.length : Int))) ∧ IsDisk w' (fun k => S k ∨ w.heap.size ≤ k) g (D.swap n b) ∧ Upd S w w' := by
  subst hm
  have b1 : Below w.heap.size w (w.alloc (.cells #[.slice A b.length c0] 22)) := (Below.refl _ _).alloc (Nat.le_refl _) _
  have h' := h.below b1
  have hBn := Blk.new w 22 #[.slice A b.length c0]
  have hA' := hA.below b1
  have hfin : Calls Try.prog 73 #[.pointer (some ⟨g, 0, none⟩), .int .i64 n, .int .i64 (b.length : Int), .func (.func 78) #[] #[.pointer (some ⟨w.heap.size, 0, none⟩)]] (w.alloc (.cells #[.slice A b.length c0] 22)) fun e w' => e = .returned (.int .i64 (D.actErr n (b.length : Int))) ∧ IsDisk w' (fun k => S k ∨ w.heap.size ≤ k) g (D.swap n b) ∧ Upd S w w' := by
    unfold DS.swap
    by_cases he : D.actErr n (b.length : Int) = 0
    · obtain ⟨i, rfl, hi⟩ := DS.actErr_has he
      have hsz := DS.actErr_size he
      rw [DS.act_ok he hi, he]
      refine (act_swap g S D i _ w.heap.size _ _ h' he hac (by simp) (set_small h'.small ⟨by simp; omega, by simp⟩) fun w1 L v hl hu => ?_).mono (fun e w' hh => ⟨hh.1, hh.2.1.mono (fun k hk => hk.imp id (fun h => by simp at h; omega)), (Upd.of_below b1).trans (S' := S) hh.2.2 (fun _ _ h => h)⟩)
      have hBg : w.heap.size ≠ g := by obtain ⟨_, _, _, _, hb, _⟩ := h'.at_; exact Typed.ne hBn.typed hb.typed (by decide)
      refine (swap_clo L i w.heap.size S D.logs v A c0 b w1 hl hi (hBn.upd hu hBg) (hA'.upd hu (fun ad e _ h2 => hout ad e (by rw [h2]; exact h.foot))) hout (by omega)).mono ?_
      rintro e w2 ⟨rfl, v', hl2, hu2⟩
      exact ⟨rfl, v', hl2.mono (fun k hk => hk.imp id (fun h => Nat.le_trans hu.size h)), hu2⟩
    · rw [DS.act_no he]
      refine (act_err g S D n _ _ _ h' he).mono ?_
      rintro e w' ⟨rfl, hd, hu⟩
      exact ⟨rfl, hd.mono (fun k hk => .inl hk), (Upd.of_below b1).trans (S' := S) hu (fun _ _ h => h)⟩
  have HF := Lib.hid hfin
  clear hfin h hac h' hA hA' hBn hout
  go_enter Try.func47, Try.ntmps47
  go_wp2_with fail
  refine HF.out.mono ?_
  rintro e w2 ⟨rfl, hd⟩
  have HD := Lib.hid hd
  clear hd
  go_wp2
  go_ret
  exact ⟨rfl, HD.out⟩
end Go.Proofs.Ytimjadjopemefaa
