/- The walk of frame.Open. -/
import Derived.Test.YtimjadjopemefaaFr2
set_option linter.unusedVariables false
set_option linter.unusedSimpArgs false
namespace Go.Proofs.Ytimjadjopemefaa
open Go.RowKit

theorem quiet_eq {P : Program} {f : FuncId} {args : Array Value} {w : World} {n : Nat} {v : Value}
    (h : Calls P f args (w.drewN n) fun e w' => e = .returned v ∧ w.drewN n = w') : Calls P f args (w.drewN n) fun e w'' => e = .returned v ∧ ∃ m, w'' = w.drewN m :=
  h.mono fun _ _ ⟨he, hm⟩ => ⟨he, n, hm.symm⟩

theorem quiet_c {P : Program} {f : FuncId} {args : Array Value} {w : World} {k x : Nat} {v : Value}
    (h : Calls P f args (w.drewN (k + x)) fun e w' => e = .returned v ∧ ∃ j, w' = (w.drewN (k + x)).drewN j) : Calls P f args (w.drewN (k + x)) fun e w'' => e = .returned v ∧ ∃ n, w'' = w.drewN (k + n) :=
  h.mono fun e w' ⟨he, j, hw⟩ => ⟨he, x + j, by rw [hw, World.drewN_drewN, Nat.add_assoc]⟩
theorem quiet_ce {P : Program} {f : FuncId} {args : Array Value} {w : World} {k x : Nat} {v : Value}
    (h : Calls P f args (w.drewN (k + x)) fun e w' => e = .returned v ∧ w.drewN (k + x) = w') : Calls P f args (w.drewN (k + x)) fun e w'' => e = .returned v ∧ ∃ n, w'' = w.drewN (k + n) :=
  h.mono fun e w' ⟨he, hw⟩ => ⟨he, x, hw.symm⟩

/-- What Open tells: the load, how many bytes, the error. -/
def rdAt (b : List UInt8) (i : Nat) : Nat := rd4 (b.getD i 0) (b.getD (i + 1) 0) (b.getD (i + 2) 0) (b.getD (i + 3) 0)
def openErr (b : List UInt8) : Int :=
  if b.length < 8 then 31 else if 65536 < rdAt b 0 then 30 else if b.length - 8 < rdAt b 0 then 31
  else if (crcSum (b.take 4 ++ (b.drop 8).take (rdAt b 0))).toNat ≠ rdAt b 4 then 32 else 0
def openLen (b : List UInt8) : Nat := if openErr b = 0 then 8 + rdAt b 0 else 0
def openLoad (b : List UInt8) : List UInt8 := if openErr b = 0 then (b.drop 8).take (rdAt b 0) else []

/-- A slice of bytes without room to grow. -/
def Full (w : World) (base : Nat) (v : Value) (l : List UInt8) : Prop :=
  ∃ A, v = .slice A l.length l.length ∧ Cells w A (byts l) ∧ ∀ ad, A = some ad → base ≤ ad.block ∧ Typed w ad.block 5

theorem long8 (b : List UInt8) (h : 8 ≤ b.length) : ∃ a0 a1 a2 a3 a4 a5 a6 a7 l, b = a0 :: a1 :: a2 :: a3 :: a4 :: a5 :: a6 :: a7 :: l := by
  match b, h with
  | a0 :: a1 :: a2 :: a3 :: a4 :: a5 :: a6 :: a7 :: l, _ => exact ⟨a0, a1, a2, a3, a4, a5, a6, a7, l, rfl⟩

set_option maxHeartbeats 1000000 in
theorem open_short (A : Option Addr) (n cap : Nat) (w : World) (hn : n < 8) :
    Calls Try.prog 29 #[.slice A n cap] w fun e w' => e = .returned (.tuple #[.slice none 0 0, .int .i64 0, .int .i64 31]) ∧ w = w' := by
  go_enter Try.func29, Try.ntmps29
  go_wp2
  go_ret3
  exact ⟨rfl, rfl⟩

theorem read_m (A : Option Addr) (n cap : Nat) (b0 b1 b2 b3 : UInt8) (m : Nat) (hm : m = rd4 b0 b1 b2 b3) (l : List UInt8) (w : World) (hn : n = l.length + 4) (hr : Cells w A (byts (b0 :: b1 :: b2 :: b3 :: l))) :
    Calls Try.prog 71 #[.slice A n cap] w fun e w' => e = .returned (.int .u32 m) ∧ ∃ k, w' = w.drewN k := by
  subst hm; exact read_calls A n cap b0 b1 b2 b3 l w hn hr
theorem Cells.drewN {w : World} {A : Option Addr} {vs : List Value} (h : Cells w A vs) (n : Nat) : Cells (w.drewN n) A vs := ⟨h.get, h.small⟩
theorem below_drewN {B : Nat} {a w : World} (h : Below B a w) (n : Nat) : Below B a (w.drewN n) := ⟨h.os, h.tape, h.output, h.size, h.block⟩

set_option maxHeartbeats 1000000 in
theorem open_m30 (A : Option Addr) (n cap m : Nat) (w : World) (hn : 8 ≤ n) (hn2 : n ≤ 9223372036854775807) (hm : 65536 < m) (hm2 : m < 4294967296)
    (hread : Calls Try.prog 71 #[.slice A n cap] w fun e w' => e = .returned (.int .u32 m) ∧ ∃ k, w' = w.drewN k) :
    Calls Try.prog 29 #[.slice A n cap] w fun e w' => e = .returned (.tuple #[.slice none 0 0, .int .i64 0, .int .i64 30]) ∧ ∃ k, w' = w.drewN k := by
  have HR := Lib.hid hread
  clear hread
  go_enter Try.func29, Try.ntmps29
  go_wp2_with fail
  refine HR.out.mono ?_
  rintro e w' ⟨rfl, k, rfl⟩
  go_wp2
  go_ret3
  exact ⟨rfl, k, rfl⟩

set_option maxHeartbeats 1000000 in
theorem open_m31 (A : Option Addr) (n cap m : Nat) (w : World) (hn : 8 ≤ n) (hn2 : n ≤ 9223372036854775807) (hm : m ≤ 65536) (hm2 : n - 8 < m)
    (hread : Calls Try.prog 71 #[.slice A n cap] w fun e w' => e = .returned (.int .u32 m) ∧ ∃ k, w' = w.drewN k) :
    Calls Try.prog 29 #[.slice A n cap] w fun e w' => e = .returned (.tuple #[.slice none 0 0, .int .i64 0, .int .i64 31]) ∧ ∃ k, w' = w.drewN k := by
  have HR := Lib.hid hread
  clear hread
  go_enter Try.func29, Try.ntmps29
  go_wp2_with fail
  refine HR.out.mono ?_
  rintro e w' ⟨rfl, k, rfl⟩
  go_wp2
  go_ret3
  exact ⟨rfl, k, rfl⟩

theorem both_c (A B : Option Addr) (n cap m cap' : Nat) (l k : List UInt8) (c : Int) (w : World) (hc : c = u32 (crcSum (l ++ k))) (hn : n = l.length) (hr : Cells w A (byts l)) (hm : m = k.length) (hr' : Cells w B (byts k)) :
    Calls Try.prog 69 #[.slice A n cap, .slice B m cap'] w fun e w' => e = .returned (.int .u32 c) ∧ w = w' := by
  subst hc; exact both_calls A B n cap m cap' l k w hn hr hm hr'

set_option maxHeartbeats 2000000 in
theorem open_m32 (A : Option Addr) (n cap m s : Nat) (c : Int) (w : World) (b b4 b8 load : List UInt8) (s0 s1 s2 s3 : UInt8) (hn : 8 ≤ n) (hc : n ≤ cap) (hn2 : n ≤ 9223372036854775807) (hm : m ≤ 65536) (hm2 : m ≤ n - 8)
    (hread : Calls Try.prog 71 #[.slice A n cap] w fun e w' => e = .returned (.int .u32 m) ∧ ∃ k, w' = w.drewN k)
    (h4 : b4.length = 4) (h8 : n = b8.length + 8) (hl : m = load.length) (hr4 : Cells w A (byts b4)) (hr8 : ∀ A', (∀ ad, A = some ad → A' = some (ad.add 4)) → Cells w A' (byts (s0 :: s1 :: s2 :: s3 :: b8)))
    (hrl : ∀ A', (0 < m → ∀ ad, A = some ad → A' = some (ad.add 8)) → Cells w A' (byts load))
    (hs : s = rd4 s0 s1 s2 s3) (hcc : c = u32 (crcSum (b4 ++ load))) (hne : (c == (s : Int)) = false) :
    Calls Try.prog 29 #[.slice A n cap] w fun e w' => ∃ v, e = .returned (.tuple #[v, .int .i64 0, .int .i64 32]) ∧ Full w' w.heap.size v [] ∧ Below w.heap.size w w' := by
  have HR := Lib.hid hread
  have H4 := Lib.hid hr4
  have H8 := Lib.hid hr8
  have HL := Lib.hid hrl
  have L4 := Lib.hid h4
  have L8 := Lib.hid h8
  have LL := Lib.hid hl
  have HS := Lib.hid hs
  have HC := Lib.hid hcc
  clear hread hr4 hr8 hrl h4 h8 hl hs hcc
  go_enter Try.func29, Try.ntmps29
  go_wp2_with fail
  refine HR.out.mono ?_
  rintro e w' ⟨rfl, k, rfl⟩
  go_wp2
  go_quiet (first | (go_at_call 69; exact quiet_ce (both_c A _ 4 cap m _ b4 load c _ HC.out L4.out.symm (H4.out.drewN _) LL.out ((HL.out _ (by intro h0 ad e; subst e; rw [if_neg (by omega)]; rfl)).drewN _))) | (go_at_call 71; exact quiet_c (read_m _ _ _ s0 s1 s2 s3 s HS.out b8 _ (by have := L8.out; omega) ((H8.out _ (by intro ad e; subst e; rfl)).drewN _))))
  generalize (if cap = 8 then A else Option.map (fun x => ({ block := x.block, off := x.off + 8 } : Addr)) A) = A8
  go_wp2
  go_ret3
  exact ⟨_, rfl, ⟨none, rfl, Cells.nil _ _, fun ad h => by cases h⟩, below_drewN (below_drewN (Below.refl _ _) _) _⟩

set_option maxHeartbeats 2000000 in
theorem open_m0 (A : Option Addr) (n cap m s : Nat) (c : Int) (w : World) (b b4 b8 load : List UInt8) (s0 s1 s2 s3 : UInt8) (hn : 8 ≤ n) (hc : n ≤ cap) (hn2 : n ≤ 9223372036854775807) (hm : m ≤ 65536) (hm2 : m ≤ n - 8)
    (hread : Calls Try.prog 71 #[.slice A n cap] w fun e w' => e = .returned (.int .u32 m) ∧ ∃ k, w' = w.drewN k)
    (h4 : b4.length = 4) (h8 : n = b8.length + 8) (hl : m = load.length) (hr4 : Cells w A (byts b4)) (hr8 : ∀ A', (∀ ad, A = some ad → A' = some (ad.add 4)) → Cells w A' (byts (s0 :: s1 :: s2 :: s3 :: b8)))
    (hrl : ∀ A', (0 < m → ∀ ad, A = some ad → A' = some (ad.add 8)) → Cells w A' (byts load))
    (hs : s = rd4 s0 s1 s2 s3) (hcc : c = u32 (crcSum (b4 ++ load))) (hne : (c == (s : Int)) = true) :
    Calls Try.prog 29 #[.slice A n cap] w fun e w' => ∃ v, e = .returned (.tuple #[v, .int .i64 (8 + m), .int .i64 0]) ∧ Full w' w.heap.size v load ∧ Below w.heap.size w w' := by
  have HR := Lib.hid hread
  have H4 := Lib.hid hr4
  have H8 := Lib.hid hr8
  have HL := Lib.hid hrl
  have L4 := Lib.hid h4
  have L8 := Lib.hid h8
  have LL := Lib.hid hl
  have HS := Lib.hid hs
  have HC := Lib.hid hcc
  clear hread hr4 hr8 hrl h4 h8 hl hs hcc
  go_enter Try.func29, Try.ntmps29
  go_wp2_with fail
  refine HR.out.mono ?_
  rintro e w' ⟨rfl, k, rfl⟩
  go_wp2
  go_quiet (first | (go_at_call 69; exact quiet_ce (both_c A _ 4 cap m _ b4 load c _ HC.out L4.out.symm (H4.out.drewN _) LL.out ((HL.out _ (by intro h0 ad e; subst e; rw [if_neg (by omega)]; rfl)).drewN _))) | (go_at_call 71; exact quiet_c (read_m _ _ _ s0 s1 s2 s3 s HS.out b8 _ (by have := L8.out; omega) ((H8.out _ (by intro ad e; subst e; rfl)).drewN _))))
  generalize (if cap = 8 then A else Option.map (fun x => ({ block := x.block, off := x.off + 8 } : Addr)) A) = A8
  go_wp2_with (with_reducible refine halt_dst 38 ?_)
  refine wpList_cut_lh rfl (.tmp 35) 22 5 _ 1 1 Try.underlying22 Try.info5 A n cap rfl (.const (.int .i64 8)) (.tmp 37) rfl .i64 .i64 8 m (cap - 8) _ _ rfl rfl (by omega) (by omega) (by omega) (by omega) ?_
  intro A3 hA3
  have hcl := HL.out A3 (fun h0 ad e => hA3.2.1 (by omega) ad e)
  have b3 : Below w.heap.size w ((w.drewN (k + nq)).alloc (.cells #[] 5)) := (below_drewN (Below.refl _ _) _).alloc (Nat.le_refl _) _
  have hr0 := row_new (w.drewN (k + nq)) w.heap.size 5 1 (Nat.le_refl _)
  have hll : (byts load).length = m * 1 := by rw [byts_length, ← LL.out]; omega
  have LLb := Lib.hid hll
  clear hll
  go_wp2_with (with_reducible refine halt_dst 39 ?_)
  refine wpList_append_row rfl (.tmp 34) (.tmp 38) 22 rfl w.heap.size 5 (.int .u8 0) 1 1 Try.underlying22 Try.info5 rfl (by decide) (.slice (some ⟨w.heap.size, 0, none⟩) 0 0) 0 [] rfl hr0 A3 m _ (byts load) rfl LLb.out (hcl.below b3) (byts_one _) (by simp only [maxLen]; omega) (by omega) b3.size ?_
  intro v4 w4 r4 g4 _
  have b4 : Below w.heap.size w w4 := b3.grown g4 b3.size (fun j hj => by simp [Value.ownBlock] at hj; omega)
  simp only [List.nil_append, Nat.zero_add] at r4
  have hty := r4.typed
  have hbs := r4.lt
  obtain ⟨A5, c5, rfl, hc5, _, hA5, _⟩ := r4.cells1
  clear b3 hr0 g4 r4
  go_wp2_with (with_reducible refine halt_dst 43 ?_)
  refine wpList_cut_hm rfl (.tmp 40) 22 5 _ 1 1 Try.underlying22 Try.info5 A5 m c5 rfl (.tmp 41) (.tmp 42) rfl .i64 .i64 m m _ _ rfl rfl rfl rfl (Nat.le_refl _) hc5 ?_
  intro A6 hA6
  go_wp2
  go_ret3
  refine ⟨_, rfl, ⟨A6, ?_, ?_, ?_⟩, b4⟩
  · rw [← LL.out]; rfl
  · have := hA5.sub 0 m (by rw [byts_length, ← LL.out]; omega) A6 (fun h ad e => hA6.2.1 h ad e)
    rwa [List.drop_zero, List.take_of_length_le (by rw [byts_length, ← LL.out]; omega)] at this
  · intro ad e
    obtain ⟨ad', e', hb⟩ := hA6.2.2 ad e
    subst e'
    rw [hb]; exact ⟨(hbs _ rfl).1, hty _ rfl⟩
end Go.Proofs.Ytimjadjopemefaa
