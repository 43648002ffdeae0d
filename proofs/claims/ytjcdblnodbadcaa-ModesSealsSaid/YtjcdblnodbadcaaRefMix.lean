/- The walk of the reference's mix. -/
import Derived.Test.YtjcdblnodbadcaaRef
import Derived.Test.YtjcdblnodbadcaaMix
import Derived.Test.YtjcdblnodbadcaaFieldWalks
namespace Go.Proofs.Ytjcdblnodbadcaa
open Go.RowKit

theorem mix_i1 (c r : Nat) (hc : c < 4) (hr : r < 4) : IntKind.i64.wrap (IntKind.i64.wrap (4 * (c : Int)) + (r : Int)) = ((4 * c + r : Nat) : Int) := by
  rw [IntWalk.i64_in (4 * (c : Int)) (by omega), IntWalk.i64_in _ (by omega)]
  omega
theorem mix_i2 (k r : Nat) (hk : k < 4) (hr : r < 4) : (IntKind.i64.wrap (IntKind.i64.wrap ((k : Int) - (r : Int)) + 4)).tmod 4 = (((k + 4 - r) % 4 : Nat) : Int) := by
  rw [IntWalk.i64_in ((k : Int) - (r : Int)) (by omega), IntWalk.i64_in _ (by omega), Int.tmod_eq_emod_of_nonneg (by omega)]
  omega
theorem set_zero {Z L : List UInt8} {f : Nat → UInt8} {n : Nat} (h : Mid f Z L n) (hz : Z = List.replicate 16 0) (hn : n < 16) : L.set n 0 = L := by
  have hg := h.at_ hn
  rw [hz] at hg
  have h0 : L.getD n 0 = 0 := by
    rw [hg, List.getD, List.getElem?_replicate, if_pos hn]
    rfl
  apply List.ext_getElem
  · simp
  · intro i h1 h2
    rw [List.getElem_set]
    by_cases e : n = i
    · subst e
      rw [if_pos rfl]
      simpa [List.getD, List.getElem?_eq_getElem h2] using h0.symm
    · rw [if_neg e]
set_option maxRecDepth 100000 in
set_option maxHeartbeats 3200000 in
theorem rmix_any (s : List UInt8) (a b c d : UInt8) (w : World) (hs : s.length = 16) :
    Calls Try.prog 54 #[.agg (bytes s).toArray, .agg #[.int .u8 (I a), .int .u8 (I b), .int .u8 (I c), .int .u8 (I d)]] w fun e w' => e = .returned (.agg (bytes (Cip.columns [a, b, c, d] s)).toArray) ∧ Below w.heap.size w w' := by
  generalize hA : (bytes s).toArray = A
  obtain ⟨Z, hZ⟩ : ∃ Z : List UInt8, Z = List.replicate 16 0 := ⟨_, rfl⟩
  have hz34 : zeros34 = (bytes Z).toArray := by rw [hZ]; rfl
  have hzl : Z.length = 16 := by rw [hZ]; exact List.length_replicate
  have h0 : Blk ((((w.alloc (.cells A 34)).alloc (.cells #[.int .u8 (I a), .int .u8 (I b), .int .u8 (I c), .int .u8 (I d)] 70)).alloc (.cells zeros34 34)).alloc (.cells zeros34 34)) w.heap.size 34 A := Blk.alloc (Blk.alloc (Blk.alloc (Blk.new _ _ _) _) _) _
  have h1 : Blk ((((w.alloc (.cells A 34)).alloc (.cells #[.int .u8 (I a), .int .u8 (I b), .int .u8 (I c), .int .u8 (I d)] 70)).alloc (.cells zeros34 34)).alloc (.cells zeros34 34)) (w.heap.size + 1) 70 #[.int .u8 (I a), .int .u8 (I b), .int .u8 (I c), .int .u8 (I d)] := by
    have := Blk.new (w.alloc (.cells A 34)) 70 #[.int .u8 (I a), .int .u8 (I b), .int .u8 (I c), .int .u8 (I d)]
    rw [World.size_alloc] at this
    exact Blk.alloc (Blk.alloc this _) _
  have h2 : Blk ((((w.alloc (.cells A 34)).alloc (.cells #[.int .u8 (I a), .int .u8 (I b), .int .u8 (I c), .int .u8 (I d)] 70)).alloc (.cells zeros34 34)).alloc (.cells zeros34 34)) (w.heap.size + 1 + 1) 34 zeros34 := by
    have := Blk.new ((w.alloc (.cells A 34)).alloc (.cells #[.int .u8 (I a), .int .u8 (I b), .int .u8 (I c), .int .u8 (I d)] 70)) 34 zeros34
    rw [World.size_alloc, World.size_alloc] at this
    exact Blk.alloc this _
  have h3 : Blk ((((w.alloc (.cells A 34)).alloc (.cells #[.int .u8 (I a), .int .u8 (I b), .int .u8 (I c), .int .u8 (I d)] 70)).alloc (.cells zeros34 34)).alloc (.cells zeros34 34)) (w.heap.size + 1 + 1 + 1) 34 zeros34 := by
    have := Blk.new (((w.alloc (.cells A 34)).alloc (.cells #[.int .u8 (I a), .int .u8 (I b), .int .u8 (I c), .int .u8 (I d)] 70)).alloc (.cells zeros34 34)) 34 zeros34
    rwa [World.size_alloc, World.size_alloc, World.size_alloc] at this
  have hbe : Below w.heap.size w ((((w.alloc (.cells A 34)).alloc (.cells #[.int .u8 (I a), .int .u8 (I b), .int .u8 (I c), .int .u8 (I d)] 70)).alloc (.cells zeros34 34)).alloc (.cells zeros34 34)) := ((((Below.refl _ w).alloc (Nat.le_refl _) _).alloc (by simp) _).alloc (by simp; omega) _).alloc (by simp; omega) _
  have HZ34 := hide hz34
  have HZ := hide hZ
  clear hz34 hZ
  have q0 : w.heap.size ≠ w.heap.size + 1 + 1 + 1 := by omega
  have q1 : w.heap.size + 1 ≠ w.heap.size + 1 + 1 + 1 := by omega
  have q2 : w.heap.size + 1 + 1 ≠ w.heap.size + 1 + 1 + 1 := by omega
  go_enter Try.func54, Try.ntmps54
  go_upto_region 2 with fail
  generalize ((((w.alloc (.cells A 34)).alloc (.cells #[.int .u8 (I a), .int .u8 (I b), .int .u8 (I c), .int .u8 (I d)] 70)).alloc (.cells zeros34 34)).alloc (.cells zeros34 34)) = w0 at *
  rw [HZ34.out] at h3
  rw [← hA] at h0
  have G0 := hide h0
  have G1 := hide h1
  have G2 := hide h2
  have G3 := hide h3
  clear h0 h1 h2 h3 hA
  go_wp2_with fail
  go_loopw [6] (fun i wr => ∃ (cc : Nat) (L : List UInt8), cc ≤ 4 ∧ i = .int .i64 cc ∧ Hid (Mid (fun i => Cip.col [a, b, c, d] s i 4) Z L (4 * cc)) ∧ Hid (Blk wr w.heap.size 34 (bytes s).toArray) ∧ Hid (Blk wr (w.heap.size + 1) 70 #[.int .u8 (I a), .int .u8 (I b), .int .u8 (I c), .int .u8 (I d)]) ∧ Hid (Blk wr (w.heap.size + 1 + 1) 34 zeros34) ∧ Hid (Blk wr (w.heap.size + 1 + 1 + 1) 34 (bytes L).toArray) ∧ Below w.heap.size w wr) (fun i _ => 4 - (intOf i).toNat)
  case atStart => exact ⟨0, Z, by omega, rfl, hide (Mid.start _ hzl), G0, G1, G2, G3, hbe⟩
  case round =>
    clear G0 G1 G2 G3 hbe
    obtain ⟨cc, L, hcc, rfl, hv, G0, G1, G2, G3, hbe⟩ := hrel
    by_cases hlc : cc < 4
    · go_wp2_with fail
      try rw [show decide ((cc : Int) < 4) = true from decide_eq_true (by omega)]
      go_loopw [7] (fun i wr => ∃ (r : Nat) (L : List UInt8), r ≤ 4 ∧ i = .int .i64 r ∧ Hid (Mid (fun i => Cip.col [a, b, c, d] s i 4) Z L (4 * cc + r)) ∧ Hid (Blk wr w.heap.size 34 (bytes s).toArray) ∧ Hid (Blk wr (w.heap.size + 1) 70 #[.int .u8 (I a), .int .u8 (I b), .int .u8 (I c), .int .u8 (I d)]) ∧ Hid (Blk wr (w.heap.size + 1 + 1) 34 zeros34) ∧ Hid (Blk wr (w.heap.size + 1 + 1 + 1) 34 (bytes L).toArray) ∧ Below w.heap.size w wr) (fun i _ => 4 - (intOf i).toNat)
      case atStart => exact ⟨0, L, by omega, rfl, hv, G0, G1, G2, G3, hbe⟩
      case round =>
        clear G0 G1 G2 G3 hbe hv L
        obtain ⟨r, L, hr, rfl, hv, G0, G1, G2, G3, hbe⟩ := hrel
        have hm := hv.out.1
        by_cases hlr : r < 4
        · go_wp2_with fail
          try rw [show decide ((r : Int) < 4) = true from decide_eq_true (by omega)]
          have hst : Hid (Blk wr (w.heap.size + 1 + 1 + 1) 34 (bytes (L.set (4 * cc + r) (Cip.col [a, b, c, d] s (4 * cc + r) 0))).toArray) := by
            rw [show Cip.col [a, b, c, d] s (4 * cc + r) 0 = 0 from rfl, set_zero hv.out HZ.out (by omega)]
            exact G3
          go_loopw [8] (fun i wi => ∃ k : Nat, k ≤ 4 ∧ i = .int .i64 k ∧ Hid (Blk wi w.heap.size 34 (bytes s).toArray) ∧ Hid (Blk wi (w.heap.size + 1) 70 #[.int .u8 (I a), .int .u8 (I b), .int .u8 (I c), .int .u8 (I d)]) ∧ Hid (Blk wi (w.heap.size + 1 + 1) 34 zeros34) ∧ Hid (Blk wi (w.heap.size + 1 + 1 + 1) 34 (bytes (L.set (4 * cc + r) (Cip.col [a, b, c, d] s (4 * cc + r) k))).toArray) ∧ Below w.heap.size w wi) (fun i _ => 4 - (intOf i).toNat)
          case atStart => exact ⟨0, by omega, rfl, G0, G1, G2, hst, hbe⟩
          case round =>
            clear G0 G1 G2 G3 hbe hst
            obtain ⟨k, hk, rfl, G0, G1, G2, G3, hbe⟩ := hrel
            by_cases hlk : k < 4
            · have hcol : Cip.col [a, b, c, d] s (4 * cc + r) (k + 1) = Cip.col [a, b, c, d] s (4 * cc + r) k ^^^ Fld.times ([a, b, c, d].getD ((k + 4 - r) % 4) 0) (s.getD (4 * cc + k) 0) := by
                show _ ^^^ _ = _
                rw [show (4 * cc + r) % 4 = r by omega, show (4 * cc + r) / 4 * 4 = 4 * cc by omega]
              have f0 := blk_byte G3.out (show 4 * cc + r < (L.set (4 * cc + r) (Cip.col [a, b, c, d] s (4 * cc + r) k)).length by rw [List.length_set]; omega)
              rw [set_getD (by omega), if_pos rfl] at f0
              have f1 : wr.cell? ⟨w.heap.size + 1, (k + 4 - r) % 4, none⟩ = _ := (Blk.cell G1.out _).trans (four_get a b c d (show (k + 4 - r) % 4 < 4 by omega))
              have f2 := blk_byte G0.out (show 4 * cc + k < s.length by omega)
              have z0 : wr.frozen? ⟨w.heap.size + 1 + 1 + 1, 4 * cc + r, none⟩ = false := Blk.frozen G3.out _
              have x1 := mix_i1 cc r hlc hlr
              have x2 := mix_i2 k r hlk hlr
              have x3 := mix_i1 cc k hlc hlk
              have p0 : (0 : Int) ≤ ((4 * cc + r : Nat) : Int) := by omega
              have p1 : ((4 * cc + r : Nat) : Int) < (16 : Int) := by omega
              have p2 : (0 : Int) ≤ (((k + 4 - r) % 4 : Nat) : Int) := by omega
              have p3 : (((k + 4 - r) % 4 : Nat) : Int) < (4 : Int) := by omega
              have p4 : (0 : Int) ≤ ((4 * cc + k : Nat) : Int) := by omega
              have p5 : ((4 * cc + k : Nat) : Int) < (16 : Int) := by omega
              have hput := fun y => blk_put G3.out (4 * cc + r) y
              simp only [List.set_set] at hput
              have HPUT := hide hput
              have HCOL := hide hcol
              clear hput hcol
              generalize Cip.col [a, b, c, d] s (4 * cc + r) k = y0 at f0 HCOL
              generalize [a, b, c, d].getD ((k + 4 - r) % 4) 0 = y1 at f1 HCOL
              generalize s.getD (4 * cc + k) 0 = y2 at f2 HCOL
              have hmm := hv.out.1
              generalize hn : 4 * cc + r = nn at *
              have HN := hide hn
              clear hn
              generalize (k + 4 - r) % 4 = J at f1 x2 p2 p3
              generalize 4 * cc + k = LL at f2 x3 p4 p5
              go_wp2_with fail
              go_still_tail 26, (by kernel_rfl)
              still_call ((refTimes_any _ _ _).mono fun e w' h => ⟨h.1, h.2.symm⟩)
              repeat still_step
              refine wpStill_nil ?_
              go_wp2
              go_roundw
              case rel => exact ⟨k + 1, by omega, by go_num, hide (Blk.drew (Blk.far G0.out q0 _)), hide (Blk.drew (Blk.far G1.out q1 _)), hide (Blk.drew (Blk.far G2.out q2 _)), hide (Blk.drew (by rw [HCOL.out]; exact HPUT.out _)), (hbe.setCell (by simp; omega) _).drew⟩
              case measure => simp only [intOf]; omega
            · obtain rfl : k = 4 := by omega
              go_wp2_with fail
              go_roundw
              case rel => exact ⟨r + 1, _, by omega, by go_num, hide (hv.out.step (by omega) rfl), G0, G1, G2, G3, hbe⟩
              case measure => simp only [intOf]; omega
        · obtain rfl : r = 4 := by omega
          go_wp2_with fail
          go_roundw
          case rel => exact ⟨cc + 1, L, by omega, by go_num, hide (by rw [show 4 * (cc + 1) = 4 * cc + 4 by omega]; exact hv.out), G0, G1, G2, G3, hbe⟩
          case measure => simp only [intOf]; omega
    · obtain rfl : cc = 4 := by omega
      have hm := hv.out.1
      have e : L = Cip.columns [a, b, c, d] s := hv.out.stop
      subst e
      have hlen : (bytes (Cip.columns [a, b, c, d] s)).length = 16 := by rw [bytes_length, hm]
      have hstored := stored34' hm G2.out rfl
      have hrange := hide (blk_whole G3.out)
      have h34 := hide (size34' hm)
      clear hv
      go_wp2_with (with_reducible refine wpList_load_mid rfl 34 (.tmp 5) rfl (w.heap.size + 1 + 1 + 1) 0 rfl (bytes (Cip.columns [a, b, c, d] s)) _ hrange.out Try.underlying34 rfl h34.out ?_)
      refine bodyPost_ret (results_cell_row rfl _ _ (w.heap.size + 1 + 1) 34 (bytes (Cip.columns [a, b, c, d] s)).toArray (0, 0) _ rfl (setRow_heap _ _ _ _ _ _ G2.out) Try.underlying34 rfl (by rw [List.size_toArray]; exact h34.out)) rfl ?_
      exact ⟨rfl, below_setRow hbe (by omega) _⟩
end Go.Proofs.Ytjcdblnodbadcaa
