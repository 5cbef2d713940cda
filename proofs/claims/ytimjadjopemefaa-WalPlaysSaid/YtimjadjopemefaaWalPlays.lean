/- WalPlays: the walk of the law. -/
import Derived.Test.YtimjadjopemefaaWqx
set_option linter.unusedVariables false
set_option linter.unusedSimpArgs false
namespace Go.Proofs.Ytimjadjopemefaa
open Go.RowKit

theorem quietW {P : Program} {f : FuncId} {args : Array Value} {w : World} {n : Nat} {v : Value}
    (h : Calls P f args (w.drewN n) fun e w' => e = .returned v ∧ w.drewN n = w') : Calls P f args (w.drewN n) fun e w'' => e = .returned v ∧ ∃ m, w'' = w.drewN m :=
  h.mono fun _ _ ⟨he, hm⟩ => ⟨he, n, hm.symm⟩

set_option maxHeartbeats 8000000 in
set_option maxRecDepth 100000 in
theorem walPlays_walk (A0 : Option Addr) (n0 c0 : Nat) (l : List Act4) (w : World) (w1 : n0 = l.length ∧ Cells w A0 (ac4s l) ∧ ∀ x ∈ l, GoodAct4 w x) :
    Calls Try.prog 22 #[.slice A0 n0 c0] w fun e w' => e = .returned (.bool true) ∧ Below w.heap.size w w' := by
  obtain ⟨rfl, hc, hg⟩ := w1
  have hlen : l.length ≤ 9223372036854775807 := by have := hc.small; rw [ac4s_length] at this; omega
  have HC := Lib.hid (fun k (hk : k < l.length) => hc.act4 k hk)
  have HG := Lib.hid (fun k (hk : k < l.length) => hg l[k] (List.getElem_mem hk))
  clear hc hg
  go_enter Try.func22, Try.ntmps22
  go_wp2_with fail
  refine (held_new 2 w w (Below.refl _ _) (by decide) (by decide)).mono ?_
  rintro e w1 ⟨g, S1, rfl, h1, hs1, _⟩
  have H1 := Lib.hid h1
  clear h1 hs1
  go_wp2_with fail
  refine (rnew_calls 2 w1).mono ?_
  rintro e w2 ⟨b2, h2⟩
  rcases h2 with ⟨hx, _⟩ | ⟨k', hk', _, _, A, c, rfl, hr⟩
  · exfalso; omega
  · obtain rfl : 2 = k' := by omega
    obtain ⟨A2, c2, e2, _, _, hca, hba⟩ := hr.cells (by rw [lgs_length]; simp [freshD])
    cases e2
    have h2 := H1.out.later b2
    have HCA := Lib.hid hca
    have HBA := Lib.hid hba
    have H2 := Lib.hid h2
    have B2 := Lib.hid b2
    clear hca hba h2 b2 hr
    have WP0 := Lib.hid (show WP w ((w2.alloc (.cells #[.slice A 2 c, .int .i64 0, .bool false, .int .i64 0, .slice none 0 0] 70)).alloc (.cells #[.pointer (some ⟨g, 0, none⟩), .pointer none, .slice A 2 c, .int .i64 0, .bool false, .int .i64 0, .slice none 0 0, .int .i64 0, .slice none 0 0, .int .i64 0, .bool false] 108)) (w2.heap.size + 1) S1 none g (freshD 2) ⟨0, 0, 0, false⟩ [] A c none 0 none 0 from by
      have hb : Below w2.heap.size w2 ((w2.alloc (.cells #[.slice A 2 c, .int .i64 0, .bool false, .int .i64 0, .slice none 0 0] 70)).alloc (.cells #[.pointer (some ⟨g, 0, none⟩), .pointer none, .slice A 2 c, .int .i64 0, .bool false, .int .i64 0, .slice none 0 0, .int .i64 0, .slice none 0 0, .int .i64 0, .bool false] 108)) := ((Below.refl _ _).alloc (Nat.le_refl _) _).alloc (by simp) _
      have hz : ∀ i, Zone S1 none (w2.heap.size + 1) i → i < w1.heap.size ∨ i = w2.heap.size + 1 := fun i h => by
        rcases h with h | h | h
        · exact .inl (H1.out.own i h).2
        · cases h
        · exact .inr h
      have hs := H2.out.below.size
      refine ⟨H2.out.later hb, ⟨HCA.out.below hb, fun ad e _ h => ?_⟩, ⟨Cells.nil _ _, fun ad e => (by cases e)⟩, ⟨Cells.nil _ _, fun ad e => (by cases e)⟩, ?_, ⟨fun h => ?_, by omega⟩, fun gw e => (by cases e), rfl⟩
      · have h2 := hz _ h
        have h3 := HBA.out ad e
        omega
      · have := Blk.new (w2.alloc (.cells #[.slice A 2 c, .int .i64 0, .bool false, .int .i64 0, .slice none 0 0] 70)) 108 #[.pointer (some ⟨g, 0, none⟩), .pointer none, .slice A 2 c, .int .i64 0, .bool false, .int .i64 0, .slice none 0 0, .int .i64 0, .slice none 0 0, .int .i64 0, .bool false]
        simpa [bCells, ptrOf, freshD] using this
      · have := (H2.out.own _ h).2
        omega)
    have GD0 := Lib.hid (show Good (freshD 2) [] 0 from ⟨rfl, by simp [freshD], by simp [freshD], fun l hl => by simp [freshD] at hl; subst hl; simp, by simp⟩)
    clear HCA HBA H2 B2 H1
    go_upto_region 4 with fail
    generalize (w2.alloc (.cells #[.slice A 2 c, .int .i64 0, .bool false, .int .i64 0, .slice none 0 0] 70)).alloc (.cells #[.pointer (some ⟨g, 0, none⟩), .pointer none, .slice A 2 c, .int .i64 0, .bool false, .int .i64 0, .slice none 0 0, .int .i64 0, .slice none 0 0, .int .i64 0, .bool false] 108) = W3 at WP0 ⊢
    generalize w2.heap.size + 1 = bb at WP0 ⊢
    go_wp2_with fail
    refine (wawake_calls W3).mono ?_
    rintro e w4 ⟨rfl, b4⟩
    have WP0 := Lib.hid (WP0.out.later b4)
    have hb0 := GD0.out.bounds (by omega)
    clear b4
    go_wp2_with fail
    refine (bopen_calls w w4 bb S1 none g (freshD 2) ⟨0, 0, 0, false⟩ [] A c none 0 none 0 WP0.out hb0.1 hb0.2.1 hb0.2.2.1 hb0.2.2.2.1).mono ?_
    rintro e w5 ⟨rfl, S2, G2, V2, ls2, A2, c2, B2, d2, LA2, lc2, hp, hl2⟩
    have P0 := Lib.hid hp
    have GD1 := Lib.hid (GD0.out.open hl2)
    clear hp hl2 hb0 WP0 GD0
    go_wp2
    go_loopw [8] (fun i wr => ∃ k : Nat, k ≤ l.length ∧ k ≤ 30 ∧ i = .int .i64 k ∧ ∃ S G D V ls A c B d LA lc, WP w wr bb S G g D V ls A c B d LA lc ∧ Good D ls (1 + 3 * k)) (fun i _ => 30 - (intOf i).toNat)
    case atStart => exact ⟨0, Nat.zero_le _, by omega, rfl, S2, G2, _, V2, ls2, A2, c2, B2, d2, LA2, lc2, P0.out, GD1.out⟩
    case round =>
      obtain ⟨k, hk, hk30, rfl, S, G, D, V, ls, A, c, B, d, LA, lc, hp, hgd⟩ := hrel
      have P := Lib.hid hp
      have GD := Lib.hid hgd
      clear P0 GD1 hp hgd
      by_cases hlt : k < l.length
      · by_cases h30 : k < 30
        · rcases G with _ | gw
          case' none =>
            have hbx := P.out.box
            unfold bCells ptrOf at hbx
            simp only [Option.map] at hbx
            obtain ⟨⟨y0, y1, y2, y3, y4, y5, y6, y7, y8, y9, y10⟩, f0, f1, f2, f3, f4, f5, f6, f7, f8, f9, f10⟩ := blk11 hbx
            clear hbx
            go_wp2_with fail
            refine (held_up P.out.held).mono ?_
            rintro e v1 ⟨rfl, S3, h3, g3⟩
            have hbx := P.out.box.upd g3.upd P.out.bo.1
            unfold bCells ptrOf at hbx
            simp only [Option.map] at hbx
            have H3 := Lib.hid h3
            have G3 := Lib.hid g3
            clear h3 g3 y0 y1 y2 y3 y4 y5 y6 y7 y8 y9 y10 f0 f1 f2 f3 f4 f5 f6 f7 f8 f9 f10
            obtain ⟨⟨y0, y1, y2, y3, y4, y5, y6, y7, y8, y9, y10⟩, _⟩ := blk11 hbx
            go_wp2_with fail
            refine (rup_calls A B D.logs.length c D.keep.length d D.acts D.down D.armed v1).mono ?_
            rintro e v2 ⟨rfl, b2⟩
            have hbx2 := hbx.below b2
            clear y0 y1 y2 y3 y4 y5 y6 y7 y8 y9 y10
            obtain ⟨⟨y0, y1, y2, y3, y4, y5, y6, y7, y8, y9, y10⟩, f0, f1, f2, f3, f4, f5, f6, f7, f8, f9, f10⟩ := blk11 hbx2
            obtain ⟨e9, u9⟩ := five_bset hbx2 (.slice A D.logs.length c) (.int .i64 (D.acts : Int)) (.bool false) (.int .i64 D.armed) (.slice B D.keep.length d)
            have hZ : ∀ i, Zone S3 none bb i → i < v1.heap.size ∧ (Zone S none bb i ∨ wr.heap.size ≤ i) := fun i h => by
              have hsz := G3.out.upd.size
              have hbl := P.out.box.lt
              rcases h with h | h | h
              · exact ⟨(H3.out.own i h).2, (G3.out.new i h).imp (fun h => .inl h) id⟩
              · cases h
              · subst h; exact ⟨by omega, .inl (.inr (.inr rfl))⟩
            have hca : Cells v2 A (lgs D.logs) ∧ Cells v2 B (ints D.keep) ∧ Cells v2 LA (strs ls) :=
              ⟨((P.out.la.upd G3.out.upd (fun ad e hn hs => P.out.la.out ad e hn (.inl hs))).cells).below b2, ((P.out.lb.upd G3.out.upd (fun ad e hn hs => P.out.lb.out ad e hn (.inl hs))).cells).below b2, ((P.out.ll.upd G3.out.upd (fun ad e hn hs => P.out.ll.out ad e hn (.inl hs))).cells).below b2⟩
            have P3 := Lib.hid (WP.write (D' := { D with down := false }) (V' := V) (ls' := ls) (A' := A) (c' := c) (B' := B) (d' := d) (LA' := LA) (lc' := lc) (G' := none) (H3.out.later b2) (P.out.la.moved (w1 := v1) hca.1 (fun ad e => .inl e) (fun h => h) hZ) (P.out.lb.moved (w1 := v1) hca.2.1 (fun ad e => .inl e) (fun h => h) hZ) (P.out.ll.moved (w1 := v1) hca.2.2 (fun ad e => .inl e) (fun h => h) hZ) e9 u9
              ⟨fun hs => (G3.out.new _ hs).elim P.out.bo.1 (fun h => by have := P.out.box.lt; omega), P.out.bo.2⟩ (fun gw e => by cases e) ⟨_, hbx2⟩ P.out.all)
            have GD3 := Lib.hid (show Good { D with down := false } ls (1 + 3 * k) from GD.out)
            clear hbx hbx2 e9 u9 hZ hca b2 P GD H3 G3
            have hb3 := GD3.out.bounds (by omega)
            go_wp2_with fail
            refine (bopen_calls w _ bb S3 none g { D with down := false } V ls A c B d LA lc P3.out hb3.1 hb3.2.1 hb3.2.2.1 hb3.2.2.2.1).mono ?_
            rintro e w6 ⟨rfl, S, G, V, ls, A, c, B, d, LA, lc, hp, hl3⟩
            obtain ⟨D, hD⟩ : ∃ D1, D1 = openD { D with down := false } 1 := ⟨_, rfl⟩
            have hgo := GD3.out.open hl3
            rw [← hD] at hp hgo
            have P := Lib.hid hp
            have GD := Lib.hid (show Good D ls (2 + 3 * k) from hgo.mono (by omega))
            clear y0 y1 y2 y3 y4 y5 y6 y7 y8 y9 y10 f0 f1 f2 f3 f4 f5 f6 f7 f8 f9 f10 hp hl3 hgo hb3 P3 GD3 hD
            rcases G with _ | gw
            case' none =>
              have hbx := P.out.box
              unfold bCells ptrOf at hbx
              simp only [Option.map] at hbx
              obtain ⟨⟨y0, y1, y2, y3, y4, y5, y6, y7, y8, y9, y10⟩, f0, f1, f2, f3, f4, f5, f6, f7, f8, f9, f10⟩ := blk11 hbx
              clear hbx
              go_wp2
              exact ⟨⟨k + 1, by omega, by omega, by go_num, S, none, D, V, ls, A, c, B, d, LA, lc, P.out, GD.out.mono (by omega)⟩, by simp [intOf]; omega⟩
            case' some =>
              have hbx := P.out.box
              unfold bCells ptrOf at hbx
              simp only [Option.map] at hbx
              obtain ⟨⟨y0, y1, y2, y3, y4, y5, y6, y7, y8, y9, y10⟩, f0, f1, f2, f3, f4, f5, f6, f7, f8, f9, f10⟩ := blk11 hbx
              clear hbx
              go_upto_region 15 with fail
              clear y0 y1 y2 y3 y4 y5 y6 y7 y8 y9 y10 f0 f1 f2 f3 f4 f5 f6 f7 f8 f9 f10
              obtain ⟨wx, rfl⟩ : ∃ x, x = w6 := ⟨_, rfl⟩
          case' some =>
            have hbx := P.out.box
            unfold bCells ptrOf at hbx
            simp only [Option.map] at hbx
            obtain ⟨⟨y0, y1, y2, y3, y4, y5, y6, y7, y8, y9, y10⟩, f0, f1, f2, f3, f4, f5, f6, f7, f8, f9, f10⟩ := blk11 hbx
            clear hbx
            have GD := Lib.hid (show Good D ls (2 + 3 * k) from GD.out.mono (by omega))
            go_upto_region 15 with fail
            clear y0 y1 y2 y3 y4 y5 y6 y7 y8 y9 y10 f0 f1 f2 f3 f4 f5 f6 f7 f8 f9 f10
            obtain ⟨wx, rfl⟩ : ∃ x, x = wr := ⟨_, rfl⟩
          all_goals
            obtain ⟨ad, rfl, o0, o1, o2, o3⟩ := HC.out k hlt
            obtain ⟨gm, gc, gk, gn⟩ := HG.out k hlt
            obtain ⟨a, ha⟩ : ∃ a, a = l[k] := ⟨_, rfl⟩
            rw [← ha] at o0 o1 o2 o3 gm gc gk gn
            obtain ⟨kd, nn, s, K, m, c5, ks⟩ := a
            simp only at o0 o1 o2 o3 gm gc gk gn
            have hbw := P.out.held.below
            have p0 := (hbw.cell (World.block_lt_of_cell? w _ o0)).trans o0
            have p1 := (hbw.cell (World.block_lt_of_cell? w _ o1)).trans o1
            have p2 := (hbw.cell (World.block_lt_of_cell? w _ o2)).trans o2
            have p3 := (hbw.cell (World.block_lt_of_cell? w _ o3)).trans o3
            obtain ⟨s2, hs2⟩ : ∃ s2, s2 = s.take 1000 := ⟨_, rfl⟩
            obtain ⟨m2, hm2⟩ : ∃ m2, m2 = min m 10 := ⟨_, rfl⟩
            obtain ⟨ks2, hk2⟩ : ∃ ks2, ks2 = ks.take 10 := ⟨_, rfl⟩
            have hmk : m2 = ks2.length := by rw [hm2, hk2, gm]; simp; omega
            have hk10 : ks2.length ≤ 10 := by rw [hk2]; simp; omega
            have hs10 : s2.length ≤ 1000 := by rw [hs2]; simp; omega
            have gk2 : Cells w K (ints ks2) := by rw [hk2]; exact gk.take 10
            have HF := Lib.hid (show Calls Try.prog 57 #[.agg #[.int .i64 kd, .int .i64 nn, .string (str s), .slice K m c5]] wx fun e w' => e = .returned (.agg #[.int .i64 kd, .int .i64 nn, .string (str s2), .slice K m2 c5]) ∧ Below wx.heap.size wx w' by
              have := wfew_calls kd nn s K m c5 wx gc; rw [← hs2, ← hm2] at this; exact this)
            have HD := Lib.hid (fun W (hb : Below wx.heap.size wx W) => bdoes_calls w W bb S gw g D V ls A c B d LA lc kd nn s2 K m2 c5 ks2 (2 + 3 * k) (P.out.later hb) hmk gk2 hs10 hk10 gn (by omega) GD.out)
            clear o0 o1 o2 o3 ha gm gc gk gn hs2 hm2 hk2 hmk hk10 hs10 gk2 hbw
            go_wp2_with fail
            refine HF.out.mono ?_
            rintro e w7 ⟨rfl, b7⟩
            clear p0 p1 p2 p3 HF
            go_wp2_with fail
            refine (HD.out w7 b7).mono ?_
            rintro e w8 ⟨rfl, S', G', D', V', ls', A', c', B', d', LA', lc', hp, hgd⟩
            have P' := Lib.hid hp
            have GD' := Lib.hid hgd
            clear hp hgd b7 HD P GD
            have hbx := P'.out.box
            unfold bCells ptrOf at hbx
            have HBX := Lib.hid hbx
            clear hbx
            go_upto_region 17 with fail
            go_cut [113] from 82 to 113 (fun s113 wx => s113 = .bool false ∧ ∃ q, wx = w8.drewN q)
            case first =>
              rcases G' with _ | gw'
              · have hbx := HBX.out
                simp only [Option.map] at hbx
                obtain ⟨⟨y0, y1, y2, y3, y4, y5, y6, y7, y8, y9, y10⟩, f0, f1, f2, f3, f4, f5, f6, f7, f8, f9, f10⟩ := blk11 hbx
                clear hbx
                go_quiet (fail)
                go_wp2_with fail
                go_meet
                exact ⟨rfl, _, rfl⟩
              · have hbx := HBX.out
                simp only [Option.map] at hbx
                obtain ⟨⟨y0, y1, y2, y3, y4, y5, y6, y7, y8, y9, y10⟩, f0, f1, f2, f3, f4, f5, f6, f7, f8, f9, f10⟩ := blk11 hbx
                clear hbx
                have KL := Lib.hid (fun q => (by have := wlen_calls g gw' V' (w8.drewN q) ((P'.out.wal gw' rfl).1.below (bdrewN (Below.refl _ _) q)); rw [P'.out.all] at this; exact this : Calls Try.prog 55 #[.pointer (some ⟨gw', 0, none⟩)] (w8.drewN q) fun e w' => e = .returned (.int .i64 (ls'.length : Int)) ∧ w8.drewN q = w'))
                have KS := Lib.hid (fun q => wsure_calls g gw' V' (w8.drewN q) ((P'.out.wal gw' rfl).1.below (bdrewN (Below.refl _ _) q)))
                go_quiet (first | (go_at_call 55; with_reducible exact quietW (KL.out _)) | (go_at_call 56; with_reducible exact quietW (KS.out _)))
                go_wp2_with fail
                go_meet
                exact ⟨rfl, _, rfl⟩
            case rest =>
              obtain ⟨rfl, q, hwc⟩ := hcut
              subst hwc
              have P9 := Lib.hid (P'.out.later (bdrewN (Below.refl _ _) q))
              clear P' HBX
              generalize w8.drewN q = w9 at P9 ⊢
              have hgb := GD'.out.bounds (by omega)
              have hh1 : D'.has 1 = true := DS.has_iff.2 ⟨1, rfl, by have := GD'.out.1; omega⟩
              have HRB := Lib.hid (by have := rbytes_calls A' B' c' d' D' 1 w9 P9.out.la.cells hgb.1 (fun j h => (P9.out.held.disk.small j h).1); rw [hh1, if_pos rfl] at this; exact this)
              have hbx := P9.out.box
              unfold bCells at hbx
              obtain ⟨⟨y0, y1, y2, y3, y4, y5, y6, y7, y8, y9, y10⟩, f0, f1, f2, f3, f4, f5, f6, f7, f8, f9, f10⟩ := blk11 hbx
              clear hbx hgb
              go_wp2_with fail
              refine HRB.out.mono ?_
              rintro e w10 ⟨rfl, b10⟩
              have P10 := Lib.hid (P9.out.later b10)
              clear y0 y1 y2 y3 y4 y5 y6 y7 y8 y9 y10 f0 f1 f2 f3 f4 f5 f6 f7 f8 f9 f10 b10 HRB P9
              have hbx := P10.out.box
              unfold bCells at hbx
              obtain ⟨⟨y0, y1, y2, y3, y4, y5, y6, y7, y8, y9, y10⟩, _⟩ := blk11 hbx
              have hbr : Below w10.heap.size w10 w10.drew := bdrew (Below.refl _ _)
              have H41 := Lib.hid (ddown_calls g _ D' w10.drew (P10.out.later hbr).held.disk)
              have H48 := Lib.hid (dacts_calls g _ D' w10.drew (P10.out.later hbr).held.disk)
              have hdd : (D'.down = true) ∨ (D'.down = false ∧ D'.readErr 1 = 0) := by
                unfold DS.readErr
                rw [hh1]
                cases D'.down <;> simp
              clear hbx hh1
              go_upto_region 20 with fail
              rcases hdd with hd | ⟨hd, hre⟩
              · have Q41 := Lib.hid (fun q => (by have := ddown_calls g _ D' (w10.drewN q) (P10.out.later (bdrewN (Below.refl _ _) q)).held.disk; rw [hd] at this; exact this : Calls Try.prog 41 #[.pointer (some ⟨g, 0, none⟩)] (w10.drewN q) fun e w' => e = .returned (.bool true) ∧ w10.drewN q = w'))
                have Q48 := Lib.hid (fun q => dacts_calls g _ D' (w10.drewN q) (P10.out.later (bdrewN (Below.refl _ _) q)).held.disk)
                rw [hd] at y4
                clear H41 H48 hbr hd
                go_quiet (first | (go_at_call 41; with_reducible exact quietW (Q41.out _)) | (go_at_call 48; with_reducible exact quietW (Q48.out _)))
                have PF := Lib.hid (P10.out.later (bdrewN (Below.refl _ _) nq))
                clear Q41 Q48 P10 y0 y1 y2 y3 y4 y5 y6 y7 y8 y9 y10
                go_wp2_with fail
                exact ⟨⟨k + 1, by omega, by omega, by go_num, _, _, D', V', ls', A', c', B', d', LA', lc', PF.out, GD'.out.mono (by omega)⟩, by simp [intOf]; omega⟩
              · have H66 := Lib.hid (has_calls g _ D' w10.drew (P10.out.later hbr).held.disk hre)
                rw [hd] at y4 H41
                have YK := Lib.hid (show ∀ W, Below w10.heap.size w10 W → W.cell? ⟨bb, 3, none⟩ = some (.int .i64 (D'.acts : Int)) ∧ W.cell? ⟨bb, 4, none⟩ = some (.bool false) from fun W hb => ⟨(hb.cell (World.block_lt_of_cell? w10 _ y3)).trans y3, (hb.cell (World.block_lt_of_cell? w10 _ y4)).trans y4⟩)
                go_region_held3 (fun W => W.cell? ⟨bb, 3, none⟩ = some (.int .i64 (D'.acts : Int)) ∧ W.cell? ⟨bb, 4, none⟩ = some (.bool false)) (go_keep)
                  (first
                    | (go_at_call 41; (with_reducible refine Calls.mono H41.out ?_); rintro e wz ⟨rfl, rfl⟩)
                    | (go_at_call 48; (with_reducible refine Calls.mono H48.out ?_); rintro e wz ⟨rfl, rfl⟩)
                    | (go_at_call 66; (with_reducible refine Calls.mono H66.out ?_); rintro e w11 ⟨rfl, b11⟩; have b12 := hbr.trans b11; obtain ⟨z3, z4⟩ := YK.out w11 b12))
                have PF := Lib.hid (P10.out.later b12)
                clear hbr H41 H48 H66 YK b11 b12 z3 z4 P10 y0 y1 y2 y3 y4 y5 y6 y7 y8 y9 y10 hd hre
                go_wp2_with fail
                exact ⟨⟨k + 1, by omega, by omega, by go_num, _, _, D', V', ls', A', c', B', d', LA', lc', PF.out, GD'.out.mono (by omega)⟩, by simp [intOf]; omega⟩
        · obtain rfl : k = 30 := by omega
          have BF := Lib.hid P.out.held.below
          clear P GD HC HG
          go_wp2
          go_ret
          exact ⟨rfl, BF.out⟩
      · obtain rfl : k = l.length := by omega
        have BF := Lib.hid P.out.held.below
        clear P GD HC HG
        go_wp2
        go_ret
        exact ⟨rfl, BF.out⟩
end Go.Proofs.Ytimjadjopemefaa
