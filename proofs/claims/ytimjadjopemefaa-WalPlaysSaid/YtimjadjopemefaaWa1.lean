/- A wal in memory, beside its disk; the walks of met, Len, Sure. -/
import Derived.Test.YtimjadjopemefaaSame
import Derived.Test.YtimjadjopemefaaDkc
set_option linter.unusedVariables false
set_option linter.unusedSimpArgs false
namespace Go.Proofs.Ytimjadjopemefaa
open Go.RowKit

/-- A wal: how many loads, how many of them sure, its log, whether it is dead. -/
structure WS where
  all : Nat
  sure : Nat
  log : Int
  dead : Bool
def wCells (g : Nat) (V : WS) : Array Value := #[.int .i64 (V.all : Int), .int .i64 (V.sure : Int), .pointer (some ⟨g, 0, none⟩), .int .i64 V.log, .bool V.dead]
/-- A wal beside its disk. -/
structure HW (w0 w : World) (S : Nat → Prop) (g gw : Nat) (D : DS) (V : WS) : Prop where
  held : Held w0 w S g D
  wal : Blk w gw 139 (wCells g V)
  out : ¬ S gw
  lo : w0.heap.size ≤ gw
/-- What a run does to a disk's footprint, and to a wal. -/
structure GrewW (S S' : Nat → Prop) (gw : Nat) (w w' : World) : Prop where
  new : ∀ i, S' i → S i ∨ w.heap.size ≤ i
  upd : Upd (fun i => S i ∨ i = gw) w w'
section
variable {w0 w w1 w2 : World} {S S' : Nat → Prop} {g gw : Nat} {D D' : DS} {V V' : WS}
theorem HW.later (h : HW w0 w S g gw D V) (hb : Below w.heap.size w w1) : HW w0 w1 S g gw D V := ⟨h.held.later hb, h.wal.below hb, h.out, h.lo⟩
theorem HW.lt (h : HW w0 w S g gw D V) : gw < w.heap.size := h.wal.lt
theorem HW.below (h : HW w0 w S g gw D V) : Below w0.heap.size w0 w := h.held.below
/-- The disk goes on. -/
theorem HW.disk (h : HW w0 w S g gw D V) (hd : Held w0 w2 S' g D') (hg : Grew S S' w w2) : HW w0 w2 S' g gw D' V :=
  ⟨hd, h.wal.upd hg.upd h.out, fun hs => by
    rcases hg.new _ hs with h1 | h1
    · exact h.out h1
    · have := h.lt; omega, h.lo⟩
/-- The wal goes on. -/
theorem HW.turn (h : HW w0 w S g gw D V) (hw : Blk w1 gw 139 (wCells g V')) (hu : Upd (fun k => k = gw) w w1) : HW w0 w1 S g gw D V' :=
  ⟨h.held.upd hu (fun i e hs => h.out (e ▸ hs)) (fun i e => by rw [e]; exact h.lo), hw, h.out, h.lo⟩
theorem GrewW.refl : GrewW S S gw w w := ⟨fun i hi => .inl hi, Upd.refl _ _⟩
theorem GrewW.of_grew (h : Grew S S' w w1) : GrewW S S' gw w w1 := ⟨h.new, h.upd.mono (fun i _ hi => .inl hi)⟩
theorem GrewW.later (h : Below w.heap.size w w1) : GrewW S S gw w w1 := ⟨fun i hi => .inl hi, Upd.of_below h⟩
theorem GrewW.turn (h : Upd (fun k => k = gw) w w1) : GrewW S S gw w w1 := ⟨fun i hi => .inl hi, h.mono (fun i _ hi => .inr hi)⟩
theorem GrewW.trans {S2 : Nat → Prop} (h : GrewW S S' gw w w1) (k : GrewW S' S2 gw w1 w2) : GrewW S S2 gw w w2 :=
  ⟨fun i hi => by
    rcases k.new i hi with h1 | h1
    · exact h.new i h1
    · exact .inr (Nat.le_trans h.upd.size h1),
   h.upd.trans k.upd (fun i hi hs => by
    rcases hs with hs | hs
    · rcases h.new i hs with h1 | h1
      · exact .inl h1
      · omega
    · exact .inr hs)⟩
end

set_option maxHeartbeats 1000000 in
theorem wlen_calls (g gw : Nat) (V : WS) (w : World) (h : Blk w gw 139 (wCells g V)) :
    Calls Try.prog 55 #[.pointer (some ⟨gw, 0, none⟩)] w fun e w' => e = .returned (.int .i64 (V.all : Int)) ∧ w = w' := by
  have c0 : w.cell? ⟨gw, 0, none⟩ = some (.int .i64 (V.all : Int)) := h.cell 0 _ rfl
  clear h
  go_enter Try.func55, Try.ntmps55
  go_wp2
  go_ret
  exact ⟨rfl, rfl⟩
set_option maxHeartbeats 1000000 in
theorem wsure_calls (g gw : Nat) (V : WS) (w : World) (h : Blk w gw 139 (wCells g V)) :
    Calls Try.prog 56 #[.pointer (some ⟨gw, 0, none⟩)] w fun e w' => e = .returned (.int .i64 (V.sure : Int)) ∧ w = w' := by
  have c0 : w.cell? ⟨gw, 1, none⟩ = some (.int .i64 (V.sure : Int)) := h.cell 1 _ rfl
  clear h
  go_enter Try.func56, Try.ntmps56
  go_wp2
  go_ret
  exact ⟨rfl, rfl⟩

set_option maxHeartbeats 1000000 in
/-- An error that was met. -/
theorem met_calls (g gw : Nat) (V : WS) (e0 : Int) (w : World) (h : Blk w gw 139 (wCells g V)) :
    Calls Try.prog 80 #[.pointer (some ⟨gw, 0, none⟩), .int .i64 e0] w fun e w' => e = .returned (.int .i64 e0) ∧ Blk w' gw 139 (wCells g { V with dead := V.dead || decide (e0 = 71) }) ∧ Upd (fun k => k = gw) w w' := by
  have c4 : w.cell? ⟨gw, 4, none⟩ = some (.bool V.dead) := h.cell 4 _ rfl
  have f4 := h.free 4 none
  have HS := Lib.hid (fun b : Bool => (show Blk (w.setCell ⟨gw, 4, none⟩ (.bool b)) gw 139 (wCells g { V with dead := b }) by simpa [wCells] using h.set 4 (.bool b)))
  have HU := Lib.hid (fun b : Bool => (Upd.refl (fun k => k = gw) w).set ⟨gw, 4, none⟩ (.bool b) (fun _ => rfl))
  clear h
  obtain ⟨al, su, lg, dd⟩ := V
  simp only at c4 HS
  cases dd
  · by_cases he : e0 = 71
    · have heb : (e0 == 71) = true := by simpa using he
      have hd : (false || decide (e0 = 71)) = true := by simpa using he
      have HD := Lib.hid hd
      clear he hd
      go_enter Try.func80, Try.ntmps80
      go_wp2
      go_ret
      exact ⟨rfl, by simp only [HD.out]; exact HS.out true, HU.out true⟩
    · have heb : (e0 == 71) = false := by simpa using he
      have hd : (false || decide (e0 = 71)) = false := by simpa using he
      have HD := Lib.hid hd
      clear he hd
      go_enter Try.func80, Try.ntmps80
      go_wp2
      go_ret
      exact ⟨rfl, by simp only [HD.out]; exact HS.out false, HU.out false⟩
  · go_enter Try.func80, Try.ntmps80
    go_wp2
    go_ret
    exact ⟨rfl, by simp only [Bool.true_or]; exact HS.out true, HU.out true⟩
end Go.Proofs.Ytimjadjopemefaa
