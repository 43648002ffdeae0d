/- The walk of modes.twice. -/
import Derived.Test.YtjcdblnodbadcaaHeld
namespace Go.Proofs.Ytjcdblnodbadcaa
open Go.RowKit

/-- shifted, without the last byte's turn -/
def tw (s : List UInt8) (i : Nat) : UInt8 := if i < 15 then (s.getD i 0 <<< 1) ||| (s.getD (i + 1) 0 >>> 7) else s.getD i 0 <<< 1
theorem high_or (x : UInt8) : x >>> 7 = 0 ∨ x >>> 7 = 1 := by
  revert x; exact Fld.all256 (by decide +kernel)
theorem twice_of {m s : List UInt8} (hm : m.length = 16) (h : ∀ i, i < 16 → m.getD i 0 = tw s i) (y : UInt8) (hy : y = if s.getD 0 0 >>> 7 = 1 then 0x87 else 0) : m.set 15 (m.getD 15 0 ^^^ y) = Mod.twice s := by
  have h1 : m.set 15 (m.getD 15 0 ^^^ y) = Cip.t16 fun i => (m.set 15 (m.getD 15 0 ^^^ y)).getD i 0 := (Cip.t16_self (by rw [List.length_set]; exact hm)).symm
  rw [h1]
  refine Cip.t16_congr fun i hi => ?_
  rw [set_getD (by omega)]
  by_cases e : i = 15
  · subst e
    rw [if_pos rfl, h 15 (by omega), if_neg (by omega), hy]
    rfl
  · rw [if_neg e, h i hi, if_pos (by omega), tw, if_pos (by omega)]
set_option maxRecDepth 100000 in
set_option maxHeartbeats 1600000 in
theorem twice_any (b : List UInt8) (w : World) (hb : b.length = 16) :
    Calls Try.prog 58 #[.agg (bytes b).toArray] w fun e w' => e = .returned (.agg (bytes (Mod.twice b)).toArray) ∧ Below w.heap.size w w' := by
  generalize hA : (bytes b).toArray = A
  go_enter Try.func58, Try.ntmps58
  go_upto_region 1 with fail
  have h0 : Blk ((w.alloc (.cells A 34)).alloc (.cells zeros34 34)) w.heap.size 34 A := Blk.alloc (Blk.new _ _ _) _
  have h2 : Blk ((w.alloc (.cells A 34)).alloc (.cells zeros34 34)) (w.heap.size + 1) 34 zeros34 := by
    have := Blk.new (w.alloc (.cells A 34)) 34 zeros34
    rwa [World.size_alloc] at this
  have hbe : Below w.heap.size w ((w.alloc (.cells A 34)).alloc (.cells zeros34 34)) := ((Below.refl _ w).alloc (Nat.le_refl _) _).alloc (by simp) _
  generalize ((w.alloc (.cells A 34)).alloc (.cells zeros34 34)) = w1 at *
  rw [← hA] at h0
  have f0 := blk_byte h0 (show 0 < b.length by omega)
  have H0 := hide h0
  have H2 := hide h2
  clear h0 h2 hA
  generalize hx0 : b.getD 0 0 = x0 at f0
  have HX0 := hide hx0
  clear hx0
  go_wp2_with fail
  clear f0
  go_loopw [8] (fun i wr => ∃ (k : Nat) (m : List UInt8), k ≤ 16 ∧ i = .int .i64 k ∧ Hid (Mid (tw b) b m k) ∧ Hid (Blk wr w.heap.size 34 (bytes m).toArray) ∧ Hid (Blk wr (w.heap.size + 1) 34 zeros34) ∧ Below w.heap.size w wr) (fun i _ => 16 - (intOf i).toNat)
  case atStart => exact ⟨0, b, by omega, rfl, hide (Mid.start _ hb), H0, H2, hbe⟩
  case round =>
    clear H0 H2 hbe
    obtain ⟨k, m, hk, rfl, hv, H0, H2, hbe⟩ := hrel
    have hm := hv.out.1
    by_cases hlt : k < 16
    · have f0 := blk_byte H0.out (show k < m.length by omega)
      have z0 : wr.frozen? ⟨w.heap.size, k, none⟩ = false := Blk.frozen H0.out _
      have hx := hv.out.at_ hlt
      generalize m.getD k 0 = x at f0 hx
      have Hx := hide hx
      clear hx
      have hb1 := blk_put H0.out k (x <<< 1)
      by_cases h15 : k < 15
      · go_upto_region 7 with fail
        have hbe2 := hide (hbe.setCell (Nat.le_refl w.heap.size) (p := ⟨w.heap.size, k, none⟩) (.int .u8 (I (x <<< 1))))
        have H22 := hide (Blk.far H2.out (show w.heap.size + 1 ≠ w.heap.size by omega) (p := ⟨w.heap.size, k, none⟩) (.int .u8 (I (x <<< 1))))
        generalize wr.setCell ⟨w.heap.size, k, none⟩ (.int .u8 (I (x <<< 1))) = w2 at *
        have f1 := blk_byte hb1 (show k < (m.set k (x <<< 1)).length by rw [List.length_set]; omega)
        have f2 := blk_byte hb1 (show k + 1 < (m.set k (x <<< 1)).length by rw [List.length_set]; omega)
        rw [set_getD (by omega), if_pos rfl] at f1
        rw [set_getD (by omega), if_neg (by omega), hv.out.2 (k + 1) (by omega), if_neg (by omega)] at f2
        have z1 : w2.frozen? ⟨w.heap.size, k, none⟩ = false := Blk.frozen hb1 _
        have htw : tw b k = (x <<< 1) ||| (b.getD (k + 1) 0 >>> 7) := by
          rw [tw, if_pos h15, ← Hx.out]
        generalize b.getD (k + 1) 0 = y at f2 htw
        have HTW := hide htw
        have hb3 := blk_put hb1 k ((x <<< 1) ||| (y >>> 7))
        rw [List.set_set] at hb3
        have HB3 := hide hb3
        have hidx : IntKind.i64.wrap ((k : Int) + 1) = ((k + 1 : Nat) : Int) := by
          rw [IntWalk.i64_in _ (by omega)]
          omega
        have z2 : (0 : Int) ≤ ((k + 1 : Nat) : Int) := by omega
        have z3 : ((k + 1 : Nat) : Int) < (16 : Int) := by omega
        clear f0 z0 hbe H2 hb1 htw hb3 H0
        generalize hk1 : k + 1 = k1 at f2 hidx z2 z3
        have HK1 := hide hk1
        clear hk1
        go_wp2_with fail
        go_still_tail 10, (by kernel_rfl)
        go_wp2
        go_roundw
        case rel =>
          have hk1 := HK1.out
          subst hk1
          exact ⟨k + 1, _, by omega, by go_num, hide (hv.out.step hlt HTW.out.symm), hide (Blk.drew HB3.out), hide (Blk.drew (Blk.far H22.out (by simp) _)), (hbe2.out.setCell (Nat.le_refl _) _).drew⟩
        case measure =>
          have hk1 := HK1.out
          simp only [intOf]
          omega
      · obtain rfl : k = 15 := by omega
        have HB1 := hide hb1
        clear hb1
        go_wp2_with fail
        go_roundw
        case rel => exact ⟨16, _, by omega, by go_num, hide (hv.out.step hlt (by rw [tw, if_neg (by omega), ← Hx.out])), HB1, hide (Blk.far H2.out (by simp) _), hbe.setCell (Nat.le_refl _) _⟩
        case measure => simp only [intOf]; omega
    · obtain rfl : k = 16 := by omega
      have f0 : wr.cell? ⟨w.heap.size, 15, none⟩ = _ := blk_byte H0.out (show 15 < m.length by omega)
      have z0 : wr.frozen? ⟨w.heap.size, 15, none⟩ = false := Blk.frozen H0.out _
      have hfin : ∀ y, y = (if b.getD 0 0 >>> 7 = 1 then 0x87 else 0) → m.set 15 (m.getD 15 0 ^^^ y) = Mod.twice b := fun y hy => twice_of hm (fun i hi => by rw [hv.out.2 i hi, if_pos hi]) y hy
      have HF := hide hfin
      have hput := fun y => blk_put H0.out 15 (m.getD 15 0 ^^^ y)
      generalize m.getD 15 0 = z at f0 hfin hput HF
      have HP := hide hput
      clear hfin hput hv H0
      have hl : (Mod.twice b).length = 16 := Cip.t16_length _
      have key : ∀ y : UInt8, y = (if b.getD 0 0 >>> 7 = 1 then 0x87 else 0) → Hid (Blk (wr.setCell ⟨w.heap.size, 15, none⟩ (.int .u8 (I (z ^^^ y)))) w.heap.size 34 (bytes (Mod.twice b)).toArray) ∧ Hid (Blk (wr.setCell ⟨w.heap.size, 15, none⟩ (.int .u8 (I (z ^^^ y)))) (w.heap.size + 1) 34 zeros34) ∧ Hid (Below w.heap.size w (wr.setCell ⟨w.heap.size, 15, none⟩ (.int .u8 (I (z ^^^ y))))) := fun y hy =>
        ⟨hide (by have := HP.out y; rw [HF.out y hy] at this; exact this), hide (Blk.far H2.out (by simp) _), hide (hbe.setCell (Nat.le_refl _) _)⟩
      have KEY := hide key
      have X0 : bits .xor .u8 (I z) (0 : Int) = I (z ^^^ 0) := I_xor z 0
      have X1 : bits .xor .u8 (I z) (135 : Int) = I (z ^^^ 135) := I_xor z 135
      have I0 : I 0 = 0 := rfl
      have I1 : I 1 = 1 := rfl
      clear key hbe H2 HP HF
      rcases high_or x0 with h | h
      · rw [h, I0]
        go_upto_region 10 with fail
        have K0 := KEY.out 0 (by rw [HX0.out, h]; rfl)
        rw [UInt8.xor_zero] at K0
        obtain ⟨q1, q2, q3⟩ := K0
        clear KEY X0 X1 f0 z0
        generalize wr.setCell ⟨w.heap.size, 15, none⟩ (.int .u8 (I z)) = w3 at *
        have hlen : (bytes (Mod.twice b)).length = 16 := by rw [bytes_length, hl]
        have hstored := stored34' hl q2.out rfl
        have hrange := hide (blk_whole q1.out)
        have h34 := hide (size34' hl)
        go_wp2_with (with_reducible refine wpList_load_mid rfl 34 (.tmp 1) rfl w.heap.size 0 rfl (bytes (Mod.twice b)) _ hrange.out Try.underlying34 rfl h34.out ?_)
        refine bodyPost_ret (results_cell_row rfl _ _ (w.heap.size + 1) 34 (bytes (Mod.twice b)).toArray (0, 0) _ rfl (setRow_heap _ _ _ _ _ _ q2.out) Try.underlying34 rfl (by rw [List.size_toArray]; exact h34.out)) rfl ?_
        exact ⟨rfl, below_setRow q3.out (by omega) _⟩
      · rw [h, I1]
        go_upto_region 10 with fail
        obtain ⟨q1, q2, q3⟩ := KEY.out 135 (by rw [HX0.out, h]; rfl)
        clear KEY X0 X1 f0 z0
        generalize wr.setCell ⟨w.heap.size, 15, none⟩ (.int .u8 (I (z ^^^ 135))) = w3 at *
        have hlen : (bytes (Mod.twice b)).length = 16 := by rw [bytes_length, hl]
        have hstored := stored34' hl q2.out rfl
        have hrange := hide (blk_whole q1.out)
        have h34 := hide (size34' hl)
        go_wp2_with (with_reducible refine wpList_load_mid rfl 34 (.tmp 1) rfl w.heap.size 0 rfl (bytes (Mod.twice b)) _ hrange.out Try.underlying34 rfl h34.out ?_)
        refine bodyPost_ret (results_cell_row rfl _ _ (w.heap.size + 1) 34 (bytes (Mod.twice b)).toArray (0, 0) _ rfl (setRow_heap _ _ _ _ _ _ q2.out) Try.underlying34 rfl (by rw [List.size_toArray]; exact h34.out)) rfl ?_
        exact ⟨rfl, below_setRow q3.out (by omega) _⟩
end Go.Proofs.Ytjcdblnodbadcaa
