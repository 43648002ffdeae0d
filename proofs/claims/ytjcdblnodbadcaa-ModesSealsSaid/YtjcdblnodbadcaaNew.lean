/- The walk of the program's New. -/
import Derived.Test.YtjcdblnodbadcaaNewPlain
namespace Go.Proofs.Ytjcdblnodbadcaa
open Go.RowKit

set_option maxRecDepth 100000 in
set_option maxHeartbeats 1600000 in
theorem new_any (A : Option Addr) (n c : Nat) (l : List UInt8) (w : World) (h : Sl w A n c l) (hl : n = 16 ∨ n = 24 ∨ n = 32) :
    Calls Try.prog 25 #[.slice A n c] w fun e w' => (∃ p kb kc, e = .returned (.tuple #[.pointer (some ⟨p, 0, none⟩), .int .i64 0]) ∧ Ci w' p kb (n / 4 + 7) kc (Cip.keys l)) ∧ Below w.heap.size w w' := by
  obtain ⟨m, rfl⟩ : ∃ m, n = 4 * m := ⟨n / 4, by omega⟩
  have hm : m = 4 ∨ m = 6 ∨ m = 8 := by omega
  have hq : ((4 * m : Nat) : Int) / (4 : Int) = (m : Int) := by omega
  have H := hide h
  have HL := hide hl
  clear h hl
  go_enter Try.func25, Try.ntmps25
  go_upto_region 2 with fail
  go_cut [29] (fun v wc => v = .bool false ∧ w = wc)
  case first =>
    rcases hm with rfl | rfl | rfl
    all_goals
      go_wp2_with fail
      go_meet
      case rel => exact ⟨rfl, rfl⟩
  case rest =>
    obtain ⟨rfl, rfl⟩ := hcut
    have hz := zero59
    go_upto_region 5 with fail
    generalize (Value.agg ci0) = u30
    have hb0 := hide (Blk.new w 59 ci0)
    have hbe0 : Below w.heap.size w (w.alloc (.cells ci0 59)) := (Below.refl _ _).alloc (Nat.le_refl _) _
    have ht0 := hide Tabs.start
    generalize (w.alloc (.cells ci0 59)) = w1 at *
    generalize ci0 = cu0 at *
    clear hz
    go_wp2_with fail
    go_loopw [32] (fun i wr => ∃ (k : Nat) (cur : Array Value), k ≤ 256 ∧ i = .int .i64 k ∧ Hid (Tabs cur k) ∧ Hid (Blk wr w.heap.size 59 cur) ∧ Below w.heap.size w wr) (fun i _ => 256 - (intOf i).toNat)
    case atStart => exact ⟨0, cu0, by omega, rfl, ht0, hb0, hbe0⟩
    case round =>
      clear ht0 hb0 hbe0
      obtain ⟨k, cur, hk, rfl, htab, hblk, hbe⟩ := hrel
      by_cases hlt : k < 256
      · go_wp2_with fail
        refine (box_nat hlt wr).mono ?_
        rintro e w' ⟨rfl, nd, rfl⟩
        rw [Fld.box_eq]
        have htab' := hide (htab.out.step hlt)
        have hsz := htab.out.1
        generalize Fld.sb (UInt8.ofNat k) = y at htab'
        have hbd := I_bd y
        have hb1 : (0 : Int) ≤ I y := (I_bd y).1
        have hb2 : I y < (256 : Int) := by have := (I_bd y).2; omega
        have hblk2 : Blk (wr.drewN nd) w.heap.size 59 cur := Blk.drewN hblk.out nd
        have hbe2 := Below.drewN hbe nd
        generalize wr.drewN nd = w2 at hblk2 hbe2
        clear hblk hbe htab
        have HB := hide hblk2
        obtain ⟨o1, f1⟩ := cell_of_size hblk2 (show 1 + k < cur.size by omega)
        obtain ⟨o2, f2⟩ := cell_of_size hblk2 (show 257 + (I y).toNat < cur.size by omega)
        have z1 : w2.frozen? ⟨w.heap.size, 1 + k, none⟩ = false := Blk.frozen hblk2 _
        have z2 : w2.frozen? ⟨w.heap.size, 257 + (I y).toNat, none⟩ = false := Blk.frozen hblk2 _
        have hne : 257 + (I y).toNat ≠ 1 + k := by omega
        clear hblk2
        go_wp2_with fail
        go_region
        go_wp2
        go_roundw
        case rel => exact ⟨k + 1, _, by omega, by go_num, htab', hide (Blk.drew (Blk.set_ (Blk.set_ HB.out _ _) _ _)), ((hbe2.setCell (Nat.le_refl _) _).setCell (Nat.le_refl _) _).drew⟩
        case measure => simp only [intOf]; omega
      · obtain rfl : k = 256 := by omega
        obtain ⟨i0, hi, hz0, hz1, hz2⟩ := info_parts info5
        have hr := (H.out.below hbe).reads
        have hs := hbe.size
        have hlw := Blk.lt hblk.out
        have hm8 : m ≤ 8 := by omega
        have hm4 : 4 ≤ m := by omega
        go_wp2_with (at_builtin; refine wpList_append_any _ rfl (.tmp 52) (.tmp 53) _ rfl wr.heap.size 5 i0 _ 1 1 Try.underlying26 hi hz0 hz1 hz2 rfl (by omega) _ 0 [] rfl (made0 wr) (wr.heap.size + 1) A (4 * m) c (bytes l) rfl ((hr.alloc (Nat.le_refl _) _).more (by omega)) (bytes_one l) (by unfold maxLen; omega) (by omega) (by simp) ?_; intro v1 w2 hown1 hg1 hat1)
        have hblk1 := hide (Blk.grown (Blk.alloc hblk.out (.cells #[] 5)) hg1 (show some w.heap.size ≠ some wr.heap.size from fun h => by injection h with h; omega))
        have hbe1 := below_app (hbe.alloc hs _) (by simp; omega) (own_less (made0 wr) hs) hg1
        have hown := hide (own_less hown1 hs)
        rw [Nat.zero_add, List.nil_append] at hown
        have hT : Hid (Cip.keys l = Cip.keysGo m (4 * (m + 7) - m) m 1 l) := by
          unfold Hid Cip.keys
          rw [← H.out.1, show 4 * m / 4 = m by omega]
        have hll := H.out.1
        generalize hTl : Cip.keys l = T at hT
        have HTL := hide hTl
        clear hTl
        clear hown1 hg1 hat1 hblk hbe hr hlw hs
        go_wp2_with fail
        go_loopw [8, 9, 10] (fun v con i wr => ∃ (k : Nat) (L : List UInt8) (cn : UInt8), m ≤ k ∧ k ≤ 4 * (m + 7) ∧ i = .int .i64 k ∧ con = .int .u8 (I cn) ∧ L.length = 4 * k ∧ Hid (T = Cip.keysGo m (4 * (m + 7) - k) k cn L) ∧ Hid (wr.ownsRow w.heap.size 5 1 v (4 * k) (bytes L)) ∧ Hid (Blk wr w.heap.size 59 cur) ∧ Below w.heap.size w wr) (fun _ _ i _ => 4 * (m + 7) - (intOf i).toNat)
        case atStart => exact ⟨m, l, 1, Nat.le_refl _, by omega, rfl, rfl, hll.symm, hT, hown, hblk1, hbe1⟩
        case round =>
          clear hT hown hblk1 hbe1 hll
          obtain ⟨k, L, cn, hk1, hk2, rfl, rfl, hL, hT, hown, hblk, hbe⟩ := hrel
          by_cases hlt : k < 4 * (m + 7)
          · obtain ⟨g, cap, rfl, hgb, hgl⟩ := hown.out.form (by omega)
            have hcap : 4 * k ≤ cap := (Rest.of_own hown.out).2.1
            have hr := (Reads.of_own hown.out).cut (k := 4 * (k - 1)) (by omega) hcap
            have hnc : ¬ cap = 4 * (k - 1) := by omega
            have hgt : g < wr.heap.size := hgl
            have e1 : ((k : Int) - 1) = ((k - 1 : Nat) : Int) := by omega
            rw [if_neg hnc, ← bytes_drop, Nat.mul_one, drop4 hL (by omega), Option.map_some, Addr.add_lit, Nat.zero_add] at hr
            have hs := hbe.size
            go_upto_region 16 with fail
            go_cut [11] (fun v wc => ∃ g2 cap2, g < g2 ∧ v = .slice (some ⟨g2, 0, none⟩) 4 cap2 ∧ Hid (wc.ownsRow wr.heap.size 5 1 v 4 (bytes [L.getD (4 * (k - 1)) 0, L.getD (4 * (k - 1) + 1) 0, L.getD (4 * (k - 1) + 2) 0, L.getD (4 * (k - 1) + 3) 0])) ∧ Hid (wc.ownsRow w.heap.size 5 1 (.slice (some ⟨g, 0, none⟩) (4 * k) cap) (4 * k) (bytes L)) ∧ Hid (Blk wc w.heap.size 59 cur) ∧ Below w.heap.size w wc)
            case first =>
              go_wp2_with (at_builtin; refine wpList_append_any _ rfl (.tmp 63) (.tmp 68) _ rfl wr.heap.size 5 i0 _ 1 1 Try.underlying26 hi hz0 hz1 hz2 rfl (by omega) _ 0 [] rfl (made0 wr) (wr.heap.size + 1) (some ⟨g, 4 * (k - 1), none⟩) (4 * k - 4 * (k - 1)) (cap - 4 * (k - 1)) _ rfl ((hr.alloc (Nat.le_refl _) _).more (by omega)) (bytes_one _) (by unfold maxLen; omega) (by omega) (by simp) ?_; intro v1 w2 hown1 hg1 hat1)
              rw [Nat.zero_add, List.nil_append, show 4 * k - 4 * (k - 1) = 4 by omega] at hown1
              obtain ⟨g2, cap2, rfl, hgb2, hgl2⟩ := hown1.form (by omega)
              have hown' := hide ((hown.out.alloc (.cells #[] 5)).kept hg1 (.inr (show some g ≠ some wr.heap.size from fun h => by injection h with h; omega)))
              have hlw := Blk.lt hblk.out
              have hblk1 := hide (Blk.grown (Blk.alloc hblk.out (.cells #[] 5)) hg1 (show some w.heap.size ≠ some wr.heap.size from fun h => by injection h with h; omega))
              have hbe1 := below_app (hbe.alloc hs _) (by simp; omega) (own_less (made0 wr) hs) hg1
              have hgg : g < g2 := by omega
              have hown2 := hide hown1
              clear hown hblk hbe hr hnc hg1 hat1 hown1 hgl hgb2 hgl2 hs hgt
              go_meet
              case rel => exact ⟨g2, cap2, hgg, rfl, hown2, hown', hblk1, hbe1⟩
            case rest =>
              have hsw := hbe.size
              clear hown hblk hbe hr hnc hs
              obtain ⟨g2, cap2, hgg, rfl, hown2, hown', hblk1, hbe1⟩ := hcut
              generalize hb0 : L.getD (4 * (k - 1)) 0 = b0 at hown2
              generalize hb1 : L.getD (4 * (k - 1) + 1) 0 = b1 at hown2
              generalize hb2 : L.getD (4 * (k - 1) + 2) 0 = b2 at hown2
              generalize hb3 : L.getD (4 * (k - 1) + 3) 0 = b3 at hown2
              have H0 := hide hb0
              have H1 := hide hb1
              have H2 := hide hb2
              have H3 := hide hb3
              clear hb0 hb1 hb2 hb3
              go_step
              go_step
              go_cut [9, 11] (fun con v wd => ∃ (c' : UInt8) (g2 cap2 : Nat), con = .int .u8 (I c') ∧ v = .slice (some ⟨g2, 0, none⟩) 4 cap2 ∧ g < g2 ∧ Hid (c' = if k % m = 0 then Fld.times cn 2 else cn) ∧ Hid (wd.ownsRow w.heap.size 5 1 v 4 (bytes [pre m k cn L 0, pre m k cn L 1, pre m k cn L 2, pre m k cn L 3])) ∧ Hid (wd.ownsRow w.heap.size 5 1 (.slice (some ⟨g, 0, none⟩) (4 * k) cap) (4 * k) (bytes L)) ∧ Hid (Blk wd w.heap.size 59 cur) ∧ Below w.heap.size w wd)
              case first =>
                have f0 : wc.cell? ⟨g2, 0, none⟩ = some (.int .u8 (I b0)) := (hown2.out.cellAt 0 (by omega)).trans rfl
                have f1 : wc.cell? ⟨g2, 1, none⟩ = some (.int .u8 (I b1)) := (hown2.out.cellAt 1 (by omega)).trans rfl
                have f2 : wc.cell? ⟨g2, 2, none⟩ = some (.int .u8 (I b2)) := (hown2.out.cellAt 2 (by omega)).trans rfl
                have f3 : wc.cell? ⟨g2, 3, none⟩ = some (.int .u8 (I b3)) := (hown2.out.cellAt 3 (by omega)).trans rfl
                have t0 : wc.cell? ⟨w.heap.size, 1 + (I b0).toNat, none⟩ = some (.int .u8 (I (Fld.sb b0))) := (Blk.cell hblk1.out _).trans (htab.out.box b0)
                have t1 : wc.cell? ⟨w.heap.size, 1 + (I b1).toNat, none⟩ = some (.int .u8 (I (Fld.sb b1))) := (Blk.cell hblk1.out _).trans (htab.out.box b1)
                have t2 : wc.cell? ⟨w.heap.size, 1 + (I b2).toNat, none⟩ = some (.int .u8 (I (Fld.sb b2))) := (Blk.cell hblk1.out _).trans (htab.out.box b2)
                have t3 : wc.cell? ⟨w.heap.size, 1 + (I b3).toNat, none⟩ = some (.int .u8 (I (Fld.sb b3))) := (Blk.cell hblk1.out _).trans (htab.out.box b3)
                have l0 : (0 : Int) ≤ I b0 := (I_bd b0).1
                have u0 : I b0 < (256 : Int) := by have := (I_bd b0).2; omega
                have l1 : (0 : Int) ≤ I b1 := (I_bd b1).1
                have u1 : I b1 < (256 : Int) := by have := (I_bd b1).2; omega
                have l2 : (0 : Int) ≤ I b2 := (I_bd b2).1
                have u2 : I b2 < (256 : Int) := by have := (I_bd b2).2; omega
                have l3 : (0 : Int) ≤ I b3 := (I_bd b3).1
                have u3 : I b3 < (256 : Int) := by have := (I_bd b3).2; omega
                have hmod : (k : Int).tmod (m : Int) = ((k % m : Nat) : Int) := by
                  rw [Int.tmod_eq_emod_of_nonneg (by omega)]
                  rfl
                have hm0 : (m : Int) ≠ 0 := by omega
                by_cases hk0 : k % m = 0
                · rw [hk0] at hmod
                  go_wp2_with fail
                  go_still_tail 34, (by kernel_rfl)
                  go_wp2_with fail
                  refine (times_lit2 cn _).mono ?_
                  rintro e w' ⟨rfl, rfl⟩
                  have hsz := hbe1.size
                  have hgl2 := (hown'.out.lt g rfl).2
                  go_wp2
                  go_meet
                  case rel =>
                    refine ⟨Fld.times cn 2, wc.heap.size, 4, rfl, rfl, hgl2, hide (by rw [if_pos hk0]), hide ?_, hide (hown'.out.alloc _), hide (Blk.alloc hblk1.out _), (hbe1.alloc hsz _).drew⟩
                    rw [pre_box hk0 H0.out H1.out H2.out H3.out]
                    exact World.ownsRow_lit wc _ 4 hsz (by unfold maxLen; omega) rfl
                · go_wp2_with fail
                  · have hq4 : ((k : Int) % (m : Int) == (4 : Int)) = true := by assumption
                    have hq5 : k % m = 4 := by
                      have : (k : Int) % (m : Int) = 4 := by simpa using hq4
                      exact_mod_cast this
                    have hq6 : (6 : Int) < (m : Int) := by assumption
                    have hq7 : m > 6 := by omega
                    have hq0 : ((k : Int) % (m : Int) == (0 : Int)) = false := by assumption
                    try rw [hq4]
                    try rw [hq0]
                    try rw [show decide ((6 : Int) < (m : Int)) = true from decide_eq_true hq6]
                    try rw [show decide ((m : Int) > (6 : Int)) = true from decide_eq_true hq6]
                    clear hq4 hq0 hq6
                    go_loopw [123] (fun i wr => ∃ (j : Nat) (W : List UInt8), j ≤ 4 ∧ i = .int .i64 j ∧ W.length = 4 ∧ Hid (∀ x, x < 4 → W.getD x 0 = if x < j then Fld.sb ([b0, b1, b2, b3].getD x 0) else [b0, b1, b2, b3].getD x 0) ∧ Hid (wr.ownsRow w.heap.size 5 1 (.slice (some ⟨g2, 0, none⟩) 4 cap2) 4 (bytes W)) ∧ Hid (wr.ownsRow w.heap.size 5 1 (.slice (some ⟨g, 0, none⟩) (4 * k) cap) (4 * k) (bytes L)) ∧ Hid (Blk wr w.heap.size 59 cur) ∧ Below w.heap.size w wr) (fun i _ => 4 - (intOf i).toNat)
                    case atStart => exact ⟨0, _, by omega, rfl, rfl, hide (fun x _ => by rw [if_neg (by omega)]), hide (own_less hown2.out hsw), hown', hblk1, hbe1⟩
                    case round =>
                      clear hown2 hown' hblk1 hbe1 f0 f1 f2 f3 t0 t1 t2 t3
                      obtain ⟨j, W, hj, rfl, hW, hV, hown2, hown', hblk1, hbe1⟩ := hrel
                      by_cases hlj : j < 4
                      · have f0 : wr.cell? ⟨g2, j, none⟩ = some (.int .u8 (I (W.getD j 0))) := (hown2.out.cellAt j (by omega)).trans (bytes_get (by omega))
                        have hx := hV.out j hlj
                        rw [if_neg (Nat.lt_irrefl _)] at hx
                        have Hx := hide hx
                        clear hx
                        generalize W.getD j 0 = x at f0 Hx
                        have t0 : wr.cell? ⟨w.heap.size, 1 + (I x).toNat, none⟩ = some (.int .u8 (I (Fld.sb x))) := (Blk.cell hblk1.out _).trans (htab.out.box x)
                        have l0 : (0 : Int) ≤ I x := (I_bd x).1
                        have u0 : I x < (256 : Int) := by have := (I_bd x).2; omega
                        have z0 : wr.frozen? ⟨g2, j, none⟩ = false := hown2.out.frozenAt j
                        have hst := hown2.out.stored j (.int .u8 (I (Fld.sb x)))
                        have hgb2 := (hown2.out.lt g2 rfl).1
                        have hlw := Blk.lt hblk1.out
                        have e : (bytes W).set j (.int .u8 (I (Fld.sb x))) = bytes (W.set j (Fld.sb x)) := by simp [bytes, List.map_set]
                        rw [e] at hst
                        have HST := hide hst
                        clear hst e
                        go_wp2_with fail
                        go_still_tail 12, (by kernel_rfl)
                        go_wp2
                        go_roundw
                        case rel =>
                          refine ⟨j + 1, W.set j (Fld.sb x), by omega, by go_num, by rw [List.length_set]; exact hW, hide (fun y hy => ?_), hide HST.out.1, hide (hown'.out.kept (only_drew HST.out.2) (.inr (show some g ≠ some g2 from fun h => by injection h with h; omega))), hide (Blk.grown hblk1.out (only_drew HST.out.2) (show some w.heap.size ≠ some g2 from fun h => by injection h with h; omega)), (hbe1.setCell hgb2 _).drew⟩
                          rw [set_getD (by omega)]
                          by_cases e : y = j
                          · subst e
                            rw [if_pos rfl, if_pos (by omega), ← Hx.out]
                          · rw [if_neg e, hV.out y hy]
                            by_cases e2 : y < j
                            · rw [if_pos e2, if_pos (by omega)]
                            · rw [if_neg e2, if_neg (by omega)]
                        case measure => simp only [intOf]; omega
                      · obtain rfl : j = 4 := by omega
                        go_wp2
                        go_meet
                        case rel =>
                          have e := four_of hW hV.out
                          refine ⟨cn, g2, cap2, rfl, rfl, hgg, hide (by rw [if_neg hk0]), hide ?_, hown', hblk1, hbe1⟩
                          rw [pre_sub hk0 ⟨hq7, hq5⟩ H0.out H1.out H2.out H3.out]
                          rw [e] at hown2
                          exact hown2.out
                  · have hq4 : ((k : Int) % (m : Int) == (4 : Int)) = false := by assumption
                    have hq5 : ¬ (m > 6 ∧ k % m = 4) := by
                      rintro ⟨_, h⟩
                      have : (k : Int) % (m : Int) ≠ 4 := by simpa using hq4
                      exact this (by exact_mod_cast h)
                    go_meet
                    case rel =>
                      refine ⟨cn, g2, cap2, rfl, rfl, hgg, hide (by rw [if_neg hk0]), hide ?_, hown', hblk1, hbe1⟩
                      rw [pre_none hk0 hq5 H0.out H1.out H2.out H3.out]
                      exact own_less hown2.out hsw
                  · have hq6 : (m : Int) ≤ (6 : Int) := by assumption
                    go_meet
                    case rel =>
                      refine ⟨cn, g2, cap2, rfl, rfl, hgg, hide (by rw [if_neg hk0]), hide ?_, hown', hblk1, hbe1⟩
                      rw [pre_none hk0 (fun h => by omega) H0.out H1.out H2.out H3.out]
                      exact own_less hown2.out hsw
              case rest =>
                clear hown2 hown' hblk1 hbe1 H0 H1 H2 H3 hgg b0 b1 b2 b3
                obtain ⟨c', g2, cap2, rfl, rfl, hgg, hc', hown2, hown, hblk, hbe⟩ := hcut
                have e2 : ((k : Int) - (m : Int)) = ((k - m : Nat) : Int) := by omega
                go_wp2_with fail
                go_loopw [8, 141] (fun v i wr => ∃ j : Nat, j ≤ 4 ∧ i = .int .i64 j ∧ v.ownBlock ≠ some g2 ∧ Hid (wr.ownsRow w.heap.size 5 1 v (4 * k + j) (bytes (L ++ (List.range j).map (Cip.word m k cn L)))) ∧ Hid (wr.ownsRow w.heap.size 5 1 (.slice (some ⟨g2, 0, none⟩) 4 cap2) 4 (bytes [pre m k cn L 0, pre m k cn L 1, pre m k cn L 2, pre m k cn L 3])) ∧ Hid (Blk wr w.heap.size 59 cur) ∧ Below w.heap.size w wr) (fun _ i _ => 4 - (intOf i).toNat)
                case atStart => exact ⟨0, by omega, rfl, (show some g ≠ some g2 from fun h => by injection h with h; omega), hide (by simpa using hown.out), hown2, hblk, hbe⟩
                case round =>
                  clear hown2 hown hblk hbe
                  obtain ⟨j, hj, rfl, hvg, hown, hown2, hblk, hbe⟩ := hrel
                  by_cases hlj : j < 4
                  · obtain ⟨ga, capa, rfl, hgb, hgl⟩ := hown.out.form (by omega)
                    have f0 : wr.cell? ⟨g2, j, none⟩ = some (.int .u8 (I ([pre m k cn L 0, pre m k cn L 1, pre m k cn L 2, pre m k cn L 3].getD j 0))) := (hown2.out.cellAt j (by omega)).trans (bytes_get (by simpa using hlj))
                    have f1 : wr.cell? ⟨ga, 4 * (k - m) + j, none⟩ = some (.int .u8 (I ((L ++ (List.range j).map (Cip.word m k cn L)).getD (4 * (k - m) + j) 0))) := (hown.out.cellAt _ (by omega)).trans (bytes_get (by simp [hL]; omega))
                    have hpre : [pre m k cn L 0, pre m k cn L 1, pre m k cn L 2, pre m k cn L 3].getD j 0 = pre m k cn L j := by
                      match j, hlj with
                      | 0, _ => rfl
                      | 1, _ => rfl
                      | 2, _ => rfl
                      | 3, _ => rfl
                    have hget : (L ++ (List.range j).map (Cip.word m k cn L)).getD (4 * (k - m) + j) 0 = L.getD (4 * (k - m) + j) 0 := by
                      simp only [List.getD]
                      rw [List.getElem?_append_left (by omega)]
                    rw [hpre] at f0
                    rw [hget] at f1
                    have hword := word_pre m k cn L j
                    generalize pre m k cn L j = x at f0 hword
                    generalize L.getD (4 * (k - m) + j) 0 = y at f1 hword
                    have HW := hide hword
                    have hs := hbe.size
                    have hidx : IntKind.i64.wrap (IntKind.i64.wrap (4 * IntKind.i64.wrap ((k - m : Nat) : Int)) + (j : Int)) = ((4 * (k - m) + j : Nat) : Int) := by
                      rw [IntWalk.i64_in ((k - m : Nat) : Int) (by omega), IntWalk.i64_in (4 * ((k - m : Nat) : Int)) (by omega), IntWalk.i64_in _ (by omega)]
                      omega
                    have z0 : (0 : Int) ≤ ((4 * (k - m) + j : Nat) : Int) := by omega
                    have z1 : ((4 * (k - m) + j : Nat) : Int) < 4 * (k : Int) + (j : Int) := by omega
                    clear hpre hget hword
                    generalize 4 * (k - m) + j = ix at f1 hidx z0 z1
                    go_wp2_with fail
                    go_region_law (refine step_append_any _ (by rfl) (.tmp 144) (.tmp 159) 26 (by rfl) w.heap.size 5 i0 _ 1 1 Try.underlying26 hi hz0 hz1 hz2 rfl (by omega) (.slice (some ⟨ga, 0, none⟩) (4 * k + j) capa) (4 * k + j) _ (by simp [Act.eval]) (hown.out.alloc (.cells #[.int .u8 (I (x ^^^ y))] 5)) (wr.heap.size + 1) (some ⟨wr.heap.size, 0, none⟩) 1 1 (bytes [x ^^^ y]) (by simp [Act.eval]) (sl_byte wr (x ^^^ y)) (bytes_one _) (by unfold maxLen; omega) (by omega) (by simp; omega) ?_; intro v3 w3 hown3 hg3 hat3)
                    all_goals
                      simp only [List.getElem_toArray, List.getElem_cons_succ, List.getElem_cons_zero, Act.put, List.setIfInBounds_toArray, List.set_cons_succ, List.set_cons_zero]
                      go_wp2
                      go_roundw
                      case rel =>
                        have hlw := Blk.lt hblk.out
                        have hga : w.heap.size ≠ ga := fun e => by
                          have := own_blk_ne hown.out hblk.out (by decide)
                          exact this (by rw [e]; rfl)
                        have hg4 : (wr.alloc (Obj.cells #[Value.int IntKind.u8 (I (x ^^^ y))] 5)).grownBy w3 (some ga) := ⟨hg3.os, hg3.tape, hg3.output, hg3.size, hg3.block⟩
                        have hg2l := (hown2.out.lt g2 rfl).2
                        refine ⟨j + 1, by omega, by go_num, ?_, hide ?_, hide ((hown2.out.alloc _).kept hg4 (.inr (show some g2 ≠ some ga from fun h => hvg h.symm))), hide (Blk.grown (Blk.alloc hblk.out _) hg4 (fun h => hga (by injection h))), below_app (hbe.alloc hs _) (by simp; omega) (hown.out.alloc _) hg4⟩
                        · rcases hat3 with h | h
                          · rw [h]; exact hvg
                          · rw [h]
                            intro h2
                            injection h2 with h2
                            have : (wr.alloc (Obj.cells #[Value.int IntKind.u8 (I (x ^^^ y))] 5)).heap.size = g2 := h2
                            rw [World.size_alloc] at this
                            omega
                        · rw [range_map_succ, ← List.append_assoc, bytes_append, HW.out]
                          exact hown3
                      case measure => simp only [intOf]; omega
                  · obtain rfl : j = 4 := by omega
                    go_wp2_with fail
                    go_roundw
                    case rel => exact ⟨k + 1, L ++ (List.range 4).map (Cip.word m k cn L), c', by omega, by omega, by go_num, rfl, by rw [List.length_append, List.length_map, List.length_range]; omega, hide (hT.out.trans (by rw [hc'.out]; exact keysGo_step m _ k cn L hlt)), hide (by rw [show 4 * (k + 1) = 4 * k + 4 by omega]; exact hown.out), hblk, hbe⟩
                    case measure => simp only [intOf]; omega
          · have hk4 : k = 4 * (m + 7) := by omega
            have hTL : T = L := by
              rw [hT.out, hk4, Nat.sub_self]
              rfl
            clear hT
            subst hTL
            have HT16 : Hid (T.length = 16 * (m + 7)) := hide (by omega)
            have hkn : 0 < 4 * k := by omega
            obtain ⟨g, cap, rfl, hgb, hgl⟩ := hown.out.form hkn
            have hrest := hide (Rest.of_own hown.out)
            have hne : w.heap.size ≠ g := fun e => by
              have := own_blk_ne hown.out hblk.out (by decide)
              exact this (by rw [e]; rfl)
            have hcu := htab.out.2.1
            have hsz := hbe.size
            obtain ⟨i1, hi', hz0', hz1', hz2'⟩ := info_parts info34
            generalize hh0 : wr.heap.size = h0 at hgl hsz
            have hpl := Blk.lt hblk.out
            rw [hh0] at hpl
            clear hown hkn
            have hx4 : 4 * k = 16 * (m + 7) := by omega
            have HX4 := hide hx4
            have hcond : ¬ (k : Int) < 4 * ((m : Int) + 7) := by omega
            clear hx4 hk4 hlt hL
            go_wp2_with fail
            go_loopw [8] (fun v wr => ∃ (r n' c' : Nat) (A' : Option Addr) (ks : Value) (cu : Array Value), v = .slice A' n' c' ∧ r ≤ m + 7 ∧ n' = 16 * (m + 7) - 16 * r ∧ Hid (Rest wr g A' n' c' (T.drop (16 * r))) ∧ Hid (wr.ownsRow h0 34 16 ks r (bytes (T.take (16 * r)))) ∧ Hid (Blk wr w.heap.size 59 cu) ∧ cu[0]? = some ks ∧ Hid (∀ i, 0 < i → cu[i]? = cur[i]?) ∧ h0 ≤ wr.heap.size ∧ Below w.heap.size w wr) (fun v _ => sliceLen v)
            case atStart => exact ⟨0, _, cap, _, _, cur, rfl, by omega, by have := HX4.out; omega, hrest, hide (by rw [Nat.mul_zero, List.take_zero]; exact World.ownsRow_nil _ _ _ _), hblk, hcu, hide (fun _ _ => rfl), by omega, hbe⟩
            case round =>
              clear hrest hblk hbe hcu
              obtain ⟨r, n', c', A', ks, cu, rfl, hr, hn', hrest, hks, hblk, hcu, hrem, hh, hbe⟩ := hrel
              by_cases hlr : r < m + 7
              · obtain ⟨off, rfl, hcells⟩ := hrest.out.2.2 (by omega)
                have hTL16 := HT16.out
                obtain ⟨b0, b1, b2, b3, b4, b5, b6, b7, b8, b9, b10, b11, b12, b13, b14, b15, h16⟩ := sixteen (b := (T.drop (16 * r)).take 16) (by rw [List.length_take, List.length_drop]; omega)
                have hd : T.drop (16 * r) = [b0, b1, b2, b3, b4, b5, b6, b7, b8, b9, b10, b11, b12, b13, b14, b15] ++ T.drop (16 * (r + 1)) := by
                  rw [← h16, show 16 * (r + 1) = 16 * r + 16 by omega, ← List.drop_drop, List.take_append_drop]
                have htk : T.take (16 * (r + 1)) = T.take (16 * r) ++ [b0, b1, b2, b3, b4, b5, b6, b7, b8, b9, b10, b11, b12, b13, b14, b15] := by
                  rw [← h16, show 16 * (r + 1) = 16 * r + 16 by omega, List.take_add]
                have c0 : wr.cell? ⟨g, off, none⟩ = some (.int .u8 (I b0)) := by have := hcells 0 (by omega); rw [hd] at this; exact this
                have c1 : wr.cell? ⟨g, off + 1, none⟩ = some (.int .u8 (I b1)) := by have := hcells 1 (by omega); rw [hd] at this; exact this
                have c2 : wr.cell? ⟨g, off + 2, none⟩ = some (.int .u8 (I b2)) := by have := hcells 2 (by omega); rw [hd] at this; exact this
                have c3 : wr.cell? ⟨g, off + 3, none⟩ = some (.int .u8 (I b3)) := by have := hcells 3 (by omega); rw [hd] at this; exact this
                have c4 : wr.cell? ⟨g, off + 4, none⟩ = some (.int .u8 (I b4)) := by have := hcells 4 (by omega); rw [hd] at this; exact this
                have c5 : wr.cell? ⟨g, off + 5, none⟩ = some (.int .u8 (I b5)) := by have := hcells 5 (by omega); rw [hd] at this; exact this
                have c6 : wr.cell? ⟨g, off + 6, none⟩ = some (.int .u8 (I b6)) := by have := hcells 6 (by omega); rw [hd] at this; exact this
                have c7 : wr.cell? ⟨g, off + 7, none⟩ = some (.int .u8 (I b7)) := by have := hcells 7 (by omega); rw [hd] at this; exact this
                have c8 : wr.cell? ⟨g, off + 8, none⟩ = some (.int .u8 (I b8)) := by have := hcells 8 (by omega); rw [hd] at this; exact this
                have c9 : wr.cell? ⟨g, off + 9, none⟩ = some (.int .u8 (I b9)) := by have := hcells 9 (by omega); rw [hd] at this; exact this
                have c10 : wr.cell? ⟨g, off + 10, none⟩ = some (.int .u8 (I b10)) := by have := hcells 10 (by omega); rw [hd] at this; exact this
                have c11 : wr.cell? ⟨g, off + 11, none⟩ = some (.int .u8 (I b11)) := by have := hcells 11 (by omega); rw [hd] at this; exact this
                have c12 : wr.cell? ⟨g, off + 12, none⟩ = some (.int .u8 (I b12)) := by have := hcells 12 (by omega); rw [hd] at this; exact this
                have c13 : wr.cell? ⟨g, off + 13, none⟩ = some (.int .u8 (I b13)) := by have := hcells 13 (by omega); rw [hd] at this; exact this
                have c14 : wr.cell? ⟨g, off + 14, none⟩ = some (.int .u8 (I b14)) := by have := hcells 14 (by omega); rw [hd] at this; exact this
                have c15 : wr.cell? ⟨g, off + 15, none⟩ = some (.int .u8 (I b15)) := by have := hcells 15 (by omega); rw [hd] at this; exact this
                have hcut := hrest.out.cut (k := 16) (by omega)
                rw [List.drop_drop, show 16 * r + 16 = 16 * (r + 1) by omega, Option.map_some, Addr.add_lit] at hcut
                have hnc : n' ≤ c' := hrest.out.2.1
                have Hcut := hide hcut
                have Htk := hide htk
                have hn16 : 16 ≤ n' := by omega
                have hat : ∀ u : World, (Instr.arrayAt 34 (.slice (some ⟨g, off, none⟩) n' c')).run Try.prog u = .ok (.pointer (some ⟨g, off, none⟩)) u := fun u => run_arrayAt u 34 5 16 _ n' c' Try.underlying34 hn16
                have HN := hide hn'
                have hnp : (0 : Int) < (n' : Int) := by omega
                have hpw : w.heap.size < wr.heap.size := Blk.lt hblk.out
                have hx1 : r + 1 ≤ maxLen := by unfold maxLen; omega
                have hx2 : (r + 1) * 16 ≤ 140737488355328 := by omega
                have hx3 : h0 ≤ (wr.alloc (.cells (bytes [b0, b1, b2, b3, b4, b5, b6, b7, b8, b9, b10, b11, b12, b13, b14, b15]).toArray 34)).drew.heap.size := by simp [World.drew]; omega
                have k0' : (wr.alloc (.cells #[.int .u8 (I b0), .int .u8 (I b1), .int .u8 (I b2), .int .u8 (I b3), .int .u8 (I b4), .int .u8 (I b5), .int .u8 (I b6), .int .u8 (I b7), .int .u8 (I b8), .int .u8 (I b9), .int .u8 (I b10), .int .u8 (I b11), .int .u8 (I b12), .int .u8 (I b13), .int .u8 (I b14), .int .u8 (I b15)] 34)).cell? ⟨w.heap.size, 0, none⟩ = some ks := (World.cell?_alloc_lt wr _ _ hpw).trans ((Blk.cell hblk.out 0).trans hcu)
                have k0 : wr.cell? ⟨w.heap.size, 0, none⟩ = some ks := (Blk.cell hblk.out 0).trans hcu
                have hpg : some w.heap.size ≠ ks.ownBlock := fun e => by
                  have := (hks.out.lt w.heap.size e.symm).1
                  omega
                have hgg : some g ≠ ks.ownBlock := fun e => by
                  have := (hks.out.lt g e.symm).1
                  omega
                have hgw : g < wr.heap.size := by omega
                have hwsz := hbe.size
                clear hd htk h16 hcells hcut hcu hTL16 hn'
                go_upto_if 164 with fail
                iterate 5 go_step
                go_cut [8] (fun v wc => ∃ (g3 cap3 : Nat), v = .slice (some ⟨g, off, none⟩) n' c' ∧ h0 ≤ g3 ∧ Hid (wc.heap[g]? = wr.heap[g]?) ∧ Hid (wc.ownsRow h0 34 16 (.slice (some ⟨g3, 0, none⟩) (r + 1) cap3) (r + 1) (bytes (T.take (16 * (r + 1))))) ∧ Hid (Blk wc w.heap.size 59 (cu.setIfInBounds 0 (.slice (some ⟨g3, 0, none⟩) (r + 1) cap3))) ∧ h0 ≤ wc.heap.size ∧ Hid (Below w.heap.size w wc))
                case first =>
                  have hbe' := hide (hbe.alloc hwsz (.cells (bytes [b0, b1, b2, b3, b4, b5, b6, b7, b8, b9, b10, b11, b12, b13, b14, b15]).toArray 34))
                  have hks' := hide (own_less (hks.out.alloc (.cells (bytes [b0, b1, b2, b3, b4, b5, b6, b7, b8, b9, b10, b11, b12, b13, b14, b15]).toArray 34)) hsz)
                  have hgw' : g < (wr.alloc (.cells (bytes [b0, b1, b2, b3, b4, b5, b6, b7, b8, b9, b10, b11, b12, b13, b14, b15]).toArray 34)).heap.size := by simp; omega
                  have hga := hide (Below.heap_alloc wr (.cells (bytes [b0, b1, b2, b3, b4, b5, b6, b7, b8, b9, b10, b11, b12, b13, b14, b15]).toArray 34) g hgw)
                  have hsz' : w.heap.size ≤ (wr.alloc (.cells (bytes [b0, b1, b2, b3, b4, b5, b6, b7, b8, b9, b10, b11, b12, b13, b14, b15]).toArray 34)).heap.size := by simp; omega
                  clear hnp hgw hwsz hrest HN hlr hnc hrem hbe hr
                  go_wp2_with fail
                  go_region_law (refine step_append_any _ (by rfl) (.tmp 171) (.tmp 175) 56 (by rfl) h0 34 i1 _ 16 16 Try.underlying56 hi' hz0' hz1' hz2' (by rfl) (by omega) ks r _ (by simp [Act.eval]) (hks.out.alloc (.cells (bytes [b0, b1, b2, b3, b4, b5, b6, b7, b8, b9, b10, b11, b12, b13, b14, b15]).toArray 34)) (wr.heap.size + 1) (some ⟨wr.heap.size, 0, none⟩) 1 1 (bytes [b0, b1, b2, b3, b4, b5, b6, b7, b8, b9, b10, b11, b12, b13, b14, b15]) (by simp [Act.eval]) (cells16 [b0, b1, b2, b3, b4, b5, b6, b7, b8, b9, b10, b11, b12, b13, b14, b15] rfl) (bytes_one _) hx1 hx2 hx3 ?_; intro v3 w3 hown3 hg3 hat3; obtain ⟨g3, cap3, rfl, hgb3, hgl3⟩ := hown3.form (by omega); have hg4 : (wr.alloc (Obj.cells (bytes [b0, b1, b2, b3, b4, b5, b6, b7, b8, b9, b10, b11, b12, b13, b14, b15]).toArray 34)).grownBy w3 ks.ownBlock := ⟨hg3.os, hg3.tape, hg3.output, hg3.size, hg3.block⟩; have hb3 := hide (Blk.grown (Blk.alloc hblk.out _) hg4 hpg); have k1 : w3.cell? ⟨w.heap.size, 0, none⟩ = some ks := (Blk.cell hb3.out 0).trans ((Blk.cell hblk.out 0).symm.trans k0); have k2 : w3.frozen? ⟨w.heap.size, 0, none⟩ = false := Blk.frozen hb3.out _; have hg5 := hide hg4; have hown4 := hide hown3; clear hg3 hg4 hat3 hown3)
                  all_goals
                    clear hat k1 k2 c0 c1 c2 c3 c4 c5 c6 c7 c8 c9 c10 c11 c12 c13 c14 c15 k0'
                    go_wp2
                    go_meet
                    case rel =>
                      refine ⟨g3, cap3, rfl, hgb3, hide ?_, hide ?_, hide (Blk.set_ hb3.out 0 _), Nat.le_trans hgb3 (Nat.le_of_lt (by simpa using hgl3)), hide ((below_app hbe'.out hsz' hks'.out hg5.out).setCell (Nat.le_refl _) (p := ⟨w.heap.size, 0, none⟩) _)⟩
                      · exact (Below.heap_setCell w3 _ _ g (Ne.symm hne)).trans ((hg5.out.block g hgw' hgg).trans hga.out)
                      · rw [Htk.out, bytes_append]
                        exact hown4.out.kept (only_set (World.grownBy.refl _ (some w.heap.size)) 0 _) (.inr (show some g3 ≠ some w.heap.size from fun h => by injection h with h; omega))
                case rest =>
                  have hcs : 0 < cu.size := by
                    have := k0
                    rw [Blk.cell hblk.out 0] at this
                    exact (Array.getElem?_eq_some_iff.1 this).1
                  clear hat k0 c0 c1 c2 c3 c4 c5 c6 c7 c8 c9 c10 c11 c12 c13 c14 c15 k0' hks hblk hbe hrest
                  obtain ⟨g3, cap3, rfl, hg3, hgh, hks, hblk, hsz2, hbe⟩ := hcut
                  by_cases hc16 : c' = 16
                  all_goals
                    go_wp2
                    go_roundw
                    case rel =>
                      refine ⟨r + 1, _, _, _, .slice (some ⟨g3, 0, none⟩) (r + 1) cap3, _, rfl, by omega, by have := HN.out; omega, hide ?_, hks, hblk, by simp [hcs], hide (fun i hi => ?_), hsz2, hbe.out⟩
                      · have hq := Hcut.out
                        first
                          | (rw [if_pos hc16] at hq; exact hq.keep hgh.out)
                          | (rw [if_pos hc16] at hq; subst hc16; exact hq.keep hgh.out)
                          | (rw [if_neg hc16] at hq; exact hq.keep hgh.out)
                      · rw [Array.getElem?_setIfInBounds_ne (by omega)]
                        exact hrem.out i hi
                    case measure => simp only [sliceLen]; omega
              · obtain rfl : r = m + 7 := by omega
                obtain ⟨kb, kc, rfl, hgb3, hgl3⟩ := hks.out.form (by omega)
                go_wp2_with fail
                go_ret2
                have hTL16 := HT16.out
                have hks' := hks.out
                rw [List.take_of_length_le (by omega)] at hks'
                obtain ⟨q1, q2⟩ := keys_of_own hTL16 hks'
                refine ⟨⟨w.heap.size, kb, kc, rfl, ?_⟩, hbe⟩
                rw [show 4 * m / 4 = m by omega, HTL.out]
                exact ⟨by rw [← tabs_ci htab.out hcu hrem.out]; exact hblk.out, q2, by omega, by omega, q1⟩
end Go.Proofs.Ytjcdblnodbadcaa
