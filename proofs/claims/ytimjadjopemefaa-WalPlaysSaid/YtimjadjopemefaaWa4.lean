/- The walk of wal.Open. -/
import Derived.Test.YtimjadjopemefaaWa3
set_option linter.unusedVariables false
set_option linter.unusedSimpArgs false
namespace Go.Proofs.Ytimjadjopemefaa
open Go.RowKit

/-- What opening a log does: to the disk, and its error. -/
def openErrD (D : DS) (lg : Int) : Int :=
  if D.readErr lg ≠ 0 then D.readErr lg
  else if (scanOf (D.log lg).1).2 < (D.log lg).1.length then D.actErr lg ((scanOf (D.log lg).1).2 : Int)
  else if D.sure lg < (scanOf (D.log lg).1).2 then D.actErr lg 0 else 0
def openD (D : DS) (lg : Int) : DS :=
  if D.readErr lg ≠ 0 then D
  else if (scanOf (D.log lg).1).2 < (D.log lg).1.length then D.swap lg ((D.log lg).1.take (scanOf (D.log lg).1).2)
  else if D.sure lg < (scanOf (D.log lg).1).2 then D.sync lg else D
/-- Nothing is done to the disk. -/
def quietD (D : DS) (lg : Int) : Prop := D.readErr lg ≠ 0 ∨ (¬ (scanOf (D.log lg).1).2 < (D.log lg).1.length ∧ ¬ D.sure lg < (scanOf (D.log lg).1).2)
def freshW (n : Nat) (lg : Int) : WS := ⟨n, n, lg, false⟩
/-- What is known behind an opening. -/
structure Opened (w0 w : World) (S : Nat → Prop) (g : Nat) (D : DS) (lg : Int) (e : Ending) (w' : World) : Prop where
  held : ∃ S', Held w0 w' S' g (openD D lg) ∧ Grew S S' w w' ∧
    (openErrD D lg = 0 → ∃ gw v, e = .returned (.tuple #[.pointer (some ⟨gw, 0, none⟩), v, .int .i64 0]) ∧ Blk w' gw 139 (wCells g (freshW (scanOf (D.log lg).1).1.length lg)) ∧ ¬ S' gw ∧ w.heap.size ≤ gw ∧ Loads w' w.heap.size v (scanOf (D.log lg).1).1)
  no : openErrD D lg ≠ 0 → e = .returned (.tuple #[.pointer none, .slice none 0 0, .int .i64 (openErrD D lg)])
  quiet : quietD D lg → Below w.heap.size w w'
/-- What lies above a disk's blocks is kept. -/
theorem Loads.upd {S : Nat → Prop} {w w' : World} {base : Nat} {v : Value} {ls : List (List UInt8)} (h : Loads w base v ls) (hu : Upd S w w') (hs : ∀ k, S k → k < base) : Loads w' base v ls := by
  obtain ⟨vs, hr, hf⟩ := h.row
  refine ⟨vs, hr.upd hu (fun k hk _ hS => by have := hs k hS; have := (hr.lt k hk).1; omega), fun i u l h1 h2 => ?_⟩
  obtain ⟨A, rfl, hc, hA⟩ := hf i u l h1 h2
  exact ⟨A, rfl, hc.upd hu (fun ad e _ hS => by have := hs _ hS; have := (hA ad e).1; omega), fun ad e => ⟨(hA ad e).1, (hA ad e).2.upd hu (fun hS => by have := hs _ hS; have := (hA ad e).1; omega)⟩⟩
theorem Loads.mono {w : World} {base base' : Nat} {v : Value} {ls : List (List UInt8)} (h : Loads w base v ls) (hb : base' ≤ base) : Loads w base' v ls := by
  obtain ⟨vs, hr, hf⟩ := h.row
  exact ⟨vs, hr.mono hb, fun i u l h1 h2 => (hf i u l h1 h2).mono hb⟩

set_option maxHeartbeats 1000000 in
theorem wopen_nil (lg : Int) (w : World) : Calls Try.prog 54 #[.pointer none, .int .i64 lg] w fun e w' => e = .returned (.tuple #[.pointer none, .slice none 0 0, .int .i64 80]) ∧ w = w' := by
  go_enter Try.func54, Try.ntmps54
  go_wp2
  (try simp only [Exit.inBlock, Exit.then])
  refine bodyPost_ret (v := .tuple #[.pointer none, .slice none 0 0, .int .i64 80]) (by simp [results, Try.results54, go_sem]) rfl ?_
  exact ⟨rfl, rfl⟩

theorem open_end {w0 w w9 : World} {S S9 : Nat → Prop} {g n : Nat} {D9 : DS} {lg : Int} {v : Value} {ls : List (List UInt8)} (hd : Held w0 w9 S9 g D9) (hg : Grew S S9 w w9) (hl : Loads w9 w.heap.size v ls) (hn : n = ls.length) :
    Held w0 (w9.alloc (.cells (wCells g (freshW n lg)) 139)) S9 g D9 ∧ Grew S S9 w (w9.alloc (.cells (wCells g (freshW n lg)) 139)) ∧ Blk (w9.alloc (.cells (wCells g (freshW n lg)) 139)) w9.heap.size 139 (wCells g (freshW ls.length lg)) ∧ ¬ S9 w9.heap.size ∧ w.heap.size ≤ w9.heap.size ∧ Loads (w9.alloc (.cells (wCells g (freshW n lg)) 139)) w.heap.size v ls := by
  subst hn
  have hb : Below w9.heap.size w9 (w9.alloc (.cells (wCells g (freshW ls.length lg)) 139)) := below_one _ _
  exact ⟨hd.later hb, ⟨hg.new, hg.upd.alloc _⟩, Blk.new _ _ _, fun h => by have := (hd.own _ h).2; omega, hg.upd.size, hl.below hb⟩

set_option maxHeartbeats 4000000 in
set_option maxRecDepth 100000 in
theorem wopen_calls {w0 w : World} {S : Nat → Prop} {g : Nat} {D : DS} (h : Held w0 w S g D) (lg : Int) (hac : D.acts < 1000000000) :
    Calls Try.prog 54 #[.pointer (some ⟨g, 0, none⟩), .int .i64 lg] w (Opened w0 w S g D lg) := by
  have H := Lib.hid h
  have hsm : (D.log lg).1.length ≤ 4194304 := by
    unfold DS.log
    cases hq : D.logs[lg.toNat]? with
    | none => simp
    | some x =>
      obtain ⟨h1, h2⟩ := List.getElem?_eq_some_iff.1 hq
      have := (h.disk.small _ h1).1
      simp only [Option.getD_some]
      rw [← h2]; exact this
  have HAC := Lib.hid hac
  clear h hac
  go_enter Try.func54, Try.ntmps54
  go_wp2_with fail
  refine (dread_calls g _ D lg w H.out.disk).mono ?_
  rintro e w1 ⟨v1, rfl, r1, b1⟩
  have H1 := Lib.hid (H.out.later b1)
  by_cases hre : D.readErr lg = 0
  · rw [hre, if_pos rfl, if_pos rfl] at r1
    rw [hre]
    obtain ⟨B, c, rfl, hnc, _, hB, hBo⟩ := r1.cells1
    obtain ⟨b, hb⟩ : ∃ b, b = (D.log lg).1 := ⟨_, rfl⟩
    rw [← hb] at hsm hB hnc r1 ⊢
    have HE := Lib.hid (show openErrD D lg = if (scanOf b).2 < b.length then D.actErr lg ((scanOf b).2 : Int) else if D.sure lg < (scanOf b).2 then D.actErr lg 0 else 0 by unfold openErrD; rw [if_neg (by simpa using hre), hb])
    have HD := Lib.hid (show openD D lg = if (scanOf b).2 < b.length then D.swap lg (b.take (scanOf b).2) else if D.sure lg < (scanOf b).2 then D.sync lg else D by unfold openD; rw [if_neg (by simpa using hre), hb])
    have HQ := Lib.hid (show quietD D lg → ¬ (scanOf b).2 < b.length ∧ ¬ D.sure lg < (scanOf b).2 by unfold quietD; rw [hb]; exact fun h => h.resolve_left (fun h => h hre))
    have HBB := Lib.hid hb
    have HC := Lib.hid hB
    have HBO := Lib.hid hBo
    have B1 := Lib.hid b1
    clear hre hb hB hBo b1 r1
    go_wp2_with fail
    refine (scan_calls B b.length c b w1 rfl hnc (by omega) HC.out).mono ?_
    rintro e w2 ⟨v2, rfl, hL, b2⟩
    have hsc := scanOf_le b.length b (Nat.le_refl _)
    obtain ⟨n, hn⟩ : ∃ n, n = (scanOf b).2 := ⟨_, rfl⟩
    obtain ⟨ls, hls⟩ : ∃ ls, ls = (scanOf b).1 := ⟨_, rfl⟩
    rw [← hls] at hL
    rw [← hn, ← hls] at hsc
    rw [← hn] at HE HD HQ ⊢
    have HN := Lib.hid hn
    have HLS := Lib.hid hls
    have H2 := Lib.hid (H1.out.later b2)
    have HC2 := Lib.hid (HC.out.below b2)
    have HL2 := Lib.hid (hL.mono B1.out.size)
    have B2 := Lib.hid (B1.out.trans (b2.mono B1.out.size))
    obtain ⟨vs, hvr, _⟩ := hL.row
    obtain ⟨A2, cv, rfl, _, _, _, _⟩ := hvr.cells1
    clear hn hls hL b2 hvr H1 HC
    have hS : ∀ k, S k → k < w.heap.size := fun k hk => (H.out.own k hk).2
    have HS := Lib.hid hS
    clear hS
    by_cases h1 : n < b.length
    case' pos =>
      -- the rest is taken off
      have HE1 := Lib.hid (HE.out.trans (if_pos h1))
      have HD1 := Lib.hid (HD.out.trans (if_pos h1))
      have hq : ¬ quietD D lg := fun h => (HQ.out h).1 h1
      have HNQ := Lib.hid hq
      clear HE HD HQ hq
      go_wp2_with (with_reducible refine halt_dst 37 ?_)
      refine wpList_cut_hm rfl (.tmp 34) 22 5 _ 1 1 Try.underlying22 Try.info5 B b.length c rfl (.tmp 35) (.tmp 36) rfl .i64 .i64 n n _ _ rfl rfl rfl rfl (Nat.le_refl _) (by omega) ?_
      intro A3 hcut
      have hc3 := HC2.out.bsub 0 n (by omega) A3 (fun h ad e => by have := hcut.2.1 h ad e; simpa using this)
      rw [List.drop_zero] at hc3
      have hout : ∀ ad, A3 = some ad → ad.block < w0.heap.size ∨ w.heap.size ≤ ad.block := fun ad e => by
        obtain ⟨ad0, e0, hbk⟩ := hcut.2.2 ad e
        rw [hbk]; exact .inr (HBO.out ad0 e0).1
      have hsw := held_swap H.out B2.out lg A3 n n (b.take n) (by simp; omega) hc3 hout HAC.out
      rw [show ((b.take n).length : Int) = (n : Int) by simp; omega] at hsw
      have HSW := Lib.hid hsw
      clear hc3 hout hsw hcut
      go_wp2_with fail
      refine HSW.out.mono ?_
      rintro e w3 ⟨rfl, S3, h3, g3⟩
      have G3 := Lib.hid (show Grew S S3 w w3 from ⟨fun i hi => (g3.new i hi).imp id (fun h => Nat.le_trans B2.out.size h), (Upd.of_below (S := S) B2.out).trans g3.upd (fun _ _ h => h)⟩)
      have L3 := Lib.hid (HL2.out.upd g3.upd HS.out)
      have H3 := Lib.hid h3
      have HQ1 := Lib.hid (show quietD D lg → Below w.heap.size w w3 from fun h => absurd h HNQ.out)
      generalize DS.swap D lg (b.take n) = D3 at H3 HD1
      generalize D.actErr lg (n : Int) = E at *
      clear HSW g3 h3 HNQ
      go_upto_region 11 with fail
    case' neg =>
      have HE2 := Lib.hid (HE.out.trans (if_neg h1))
      have HD2 := Lib.hid (HD.out.trans (if_neg h1))
      go_wp2_with fail
      refine (dsure_calls g _ D lg w2 H2.out.disk).mono ?_
      rintro e w' ⟨rfl, rfl⟩
      by_cases h2 : D.sure lg < n
      case' pos =>
        have HE1 := Lib.hid (HE2.out.trans (if_pos h2))
        have HD1 := Lib.hid (HD2.out.trans (if_pos h2))
        have HNQ := Lib.hid (show ¬ quietD D lg from fun h => (HQ.out h).2 h2)
        clear HE HD HQ HE2 HD2
        go_wp2_with fail
        refine (held_sync H2.out lg HAC.out).mono ?_
        rintro e w3 ⟨rfl, S3, h3, g3⟩
        have G3 := Lib.hid (show Grew S S3 w w3 from ⟨fun i hi => (g3.new i hi).imp id (fun h => Nat.le_trans B2.out.size h), (Upd.of_below (S := S) B2.out).trans g3.upd (fun _ _ h => h)⟩)
        have L3 := Lib.hid (HL2.out.upd g3.upd HS.out)
        have H3 := Lib.hid h3
        have HQ1 := Lib.hid (show quietD D lg → Below w.heap.size w w3 from fun h => absurd h HNQ.out)
        generalize DS.sync D lg = D3 at H3 HD1
        generalize D.actErr lg 0 = E at *
        clear g3 h3 HNQ
        go_upto_region 11 with fail
      case neg =>
        have HE1 := Lib.hid (HE2.out.trans (if_neg h2))
        have HD1 := Lib.hid (HD2.out.trans (if_neg h2))
        obtain ⟨w3, hw3⟩ : ∃ w3, w3 = w2 := ⟨_, rfl⟩
        obtain ⟨S3, hS3⟩ : ∃ S3, S3 = S := ⟨_, rfl⟩
        have G3 := Lib.hid (show Grew S S3 w w3 from by rw [hw3, hS3]; exact ⟨fun i hi => .inl hi, Upd.of_below B2.out⟩)
        have L3 := Lib.hid (show Loads w3 w.heap.size (.slice A2 ls.length cv) ls from by rw [hw3]; exact HL2.out)
        have H3 := Lib.hid (show Held w0 w3 S3 g D from by rw [hw3, hS3]; exact H2.out)
        have HQ1 := Lib.hid (show quietD D lg → Below w.heap.size w w3 from fun _ => by rw [hw3]; exact B2.out)
        rw [← hw3]
        clear HE HD HQ HE2 HD2 hw3 hS3
        obtain ⟨D3, hD3⟩ : ∃ D3, D3 = D := ⟨_, rfl⟩
        rw [← hD3] at H3
        have HD1 := Lib.hid (HD1.out.trans hD3.symm)
        clear hD3
        go_upto_region 11 with fail
        obtain ⟨x1, x2, x3, x4, x5, x6⟩ := open_end (n := ls.length) (lg := lg) H3.out G3.out L3.out rfl
        have HX := Lib.hid (And.intro x1 (And.intro x2 (And.intro x3 (And.intro x4 (And.intro x5 x6)))))
        have B3 := Lib.hid (show quietD D lg → Below w.heap.size w (w3.alloc (.cells (wCells g (freshW ls.length lg)) 139)) from fun h => (HQ1.out h).alloc G3.out.upd.size _)
        clear x1 x2 x3 x4 x5 x6 H2 HC2 HL2 B2 H3 G3 L3 HQ1
        go_wp2_with fail
        (try simp only [Exit.inBlock, Exit.then])
        refine bodyPost_ret (v := .tuple #[.pointer (some ⟨w3.heap.size, 0, none⟩), .slice A2 ls.length cv, .int .i64 0]) (by simp [results, Try.results54, go_sem]) rfl ?_
        obtain ⟨y1, y2, y3, y4, y5, y6⟩ := HX.out
        exact ⟨⟨S3, by rw [HD1.out]; exact y1, y2, fun _ => ⟨w3.heap.size, _, rfl, by rw [← HBB.out, ← HLS.out]; exact y3, y4, y5, by rw [← HBB.out, ← HLS.out]; exact y6⟩⟩, fun h => absurd HE1.out h, B3.out⟩
    all_goals
      by_cases hE : E = 0
      · subst hE
        obtain ⟨x1, x2, x3, x4, x5, x6⟩ := open_end (n := ls.length) (lg := lg) H3.out G3.out L3.out rfl
        have HX := Lib.hid (And.intro x1 (And.intro x2 (And.intro x3 (And.intro x4 (And.intro x5 x6)))))
        have B3 := Lib.hid (show quietD D lg → Below w.heap.size w (w3.alloc (.cells (wCells g (freshW ls.length lg)) 139)) from fun h => (HQ1.out h).alloc G3.out.upd.size _)
        clear x1 x2 x3 x4 x5 x6 H2 HC2 HL2 B2 H3 G3 L3 HQ1
        go_wp2_with fail
        (try simp only [Exit.inBlock, Exit.then])
        refine bodyPost_ret (v := .tuple #[.pointer (some ⟨w3.heap.size, 0, none⟩), .slice A2 ls.length cv, .int .i64 0]) (by simp [results, Try.results54, go_sem]) rfl ?_
        obtain ⟨y1, y2, y3, y4, y5, y6⟩ := HX.out
        exact ⟨⟨S3, by rw [HD1.out]; exact y1, y2, fun _ => ⟨w3.heap.size, _, rfl, by rw [← HBB.out, ← HLS.out]; exact y3, y4, y5, by rw [← HBB.out, ← HLS.out]; exact y6⟩⟩, fun h => absurd HE1.out h, B3.out⟩
      · have heb : (E == 0) = false := by simpa using hE
        have HRE := Lib.hid hE
        go_wp2_with fail
        (try simp only [Exit.inBlock, Exit.then])
        refine bodyPost_ret (v := .tuple #[.pointer none, .slice none 0 0, .int .i64 E]) (by simp [results, Try.results54, go_sem]) rfl ?_
        exact ⟨⟨S3, by rw [HD1.out]; exact H3.out, G3.out, fun h => absurd (HE1.out.symm.trans h) HRE.out⟩, fun _ => by rw [HE1.out], HQ1.out⟩
  · have HE := Lib.hid (show openErrD D lg = D.readErr lg by unfold openErrD; rw [if_pos hre])
    have HD := Lib.hid (show openD D lg = D by unfold openD; rw [if_pos hre])
    obtain ⟨A3, c3, rfl, _, _, _, _⟩ := r1.cells1
    have B1 := Lib.hid b1
    have heb : (D.readErr lg == 0) = false := by simpa using hre
    have hr0 := hre
    generalize D.readErr lg = E at *
    have HRE := Lib.hid hre
    clear r1 b1 hsm hre
    go_wp2
    (try simp only [Exit.inBlock, Exit.then])
    refine bodyPost_ret (v := .tuple #[.pointer none, .slice none 0 0, .int .i64 E]) (by simp [results, Try.results54, go_sem]) rfl ?_
    exact ⟨⟨S, by rw [HD.out]; exact H1.out, ⟨fun i hi => .inl hi, Upd.of_below B1.out⟩, fun h => absurd (HE.out.symm.trans h) HRE.out⟩, fun _ => by rw [HE.out], fun _ => B1.out⟩
end Go.Proofs.Ytimjadjopemefaa
