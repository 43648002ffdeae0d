/- The walk of the reference's double. -/
import Derived.Test.YtjcdblnodbadcaaTwice
import Derived.Test.YtjcdblnodbadcaaBad
namespace Go.Proofs.Ytjcdblnodbadcaa
open Go.RowKit

set_option maxRecDepth 100000 in
set_option maxHeartbeats 1600000 in
theorem rdouble_any (b : List UInt8) (w : World) (hb : b.length = 16) :
    Calls Try.prog 59 #[.agg (bytes b).toArray] w fun e w' => e = .returned (.agg (bytes (Mod.twice b)).toArray) ∧ Below w.heap.size w w' := by
  obtain ⟨Z, hZ⟩ : ∃ Z : List UInt8, Z = List.replicate 16 0 := ⟨_, rfl⟩
  have hZ34 : Hid (zeros34 = (bytes Z).toArray) := hide (by rw [hZ]; rfl)
  have hZl : Hid (Z.length = 16) := hide (by rw [hZ]; exact List.length_replicate)
  clear hZ
  generalize hA : (bytes b).toArray = A
  have h0 : Blk (((w.alloc (.cells A 34)).alloc (.cells zeros34 34)).alloc (.cells zeros34 34)) w.heap.size 34 A := Blk.alloc (Blk.alloc (Blk.new _ _ _) _) _
  have h1 : Blk (((w.alloc (.cells A 34)).alloc (.cells zeros34 34)).alloc (.cells zeros34 34)) (w.heap.size + 1) 34 zeros34 := by
    have := Blk.new (w.alloc (.cells A 34)) 34 zeros34
    rw [World.size_alloc] at this
    exact Blk.alloc this _
  have h2 : Blk (((w.alloc (.cells A 34)).alloc (.cells zeros34 34)).alloc (.cells zeros34 34)) (w.heap.size + 1 + 1) 34 zeros34 := by
    have := Blk.new ((w.alloc (.cells A 34)).alloc (.cells zeros34 34)) 34 zeros34
    rw [World.size_alloc, World.size_alloc] at this
    exact this
  have hbe : Below w.heap.size w (((w.alloc (.cells A 34)).alloc (.cells zeros34 34)).alloc (.cells zeros34 34)) := (((Below.refl _ w).alloc (Nat.le_refl _) _).alloc (by simp) _).alloc (by simp; omega) _
  go_enter Try.func59, Try.ntmps59
  go_upto_region 2 with fail
  generalize (((w.alloc (.cells A 34)).alloc (.cells zeros34 34)).alloc (.cells zeros34 34)) = w1 at *
  rw [← hA] at h0
  have HZ := hZ34.out
  rw [HZ] at h2
  clear HZ
  have H0 := hide h0
  have H1 := hide h1
  have H2 := hide h2
  clear h0 h1 h2 hA hZ34
  have q01 : w.heap.size ≠ w.heap.size + 1 + 1 := by omega
  have q11 : w.heap.size + 1 ≠ w.heap.size + 1 + 1 := by omega
  have qle : w.heap.size ≤ w.heap.size + 1 + 1 := by omega
  go_wp2_with fail
  go_loopw [4] (fun i wr => ∃ (k : Nat) (m : List UInt8), k ≤ 16 ∧ i = .int .i64 k ∧ Hid (Mid (tw b) Z m k) ∧ Hid (Blk wr w.heap.size 34 (bytes b).toArray) ∧ Hid (Blk wr (w.heap.size + 1) 34 zeros34) ∧ Hid (Blk wr (w.heap.size + 1 + 1) 34 (bytes m).toArray) ∧ Hid (Below w.heap.size w wr)) (fun i _ => 16 - (intOf i).toNat)
  case atStart => exact ⟨0, Z, by omega, rfl, hide (Mid.start _ hZl.out), H0, H1, H2, hide hbe⟩
  case round =>
    clear H0 H1 H2 hbe
    obtain ⟨k, m, hk, rfl, hv, H0, H1, H2, hbe⟩ := hrel
    have hm := hv.out.1
    by_cases hlt : k < 16
    · have f0 := blk_byte H0.out (show k < b.length by omega)
      have fo := blk_byte H2.out (show k < m.length by omega)
      have z0 : wr.frozen? ⟨w.heap.size + 1 + 1, k, none⟩ = false := Blk.frozen H2.out _
      generalize hx : b.getD k 0 = x at f0
      generalize m.getD k 0 = xo at fo
      have Hx := hide hx
      clear hx
      have hb1 := hide (blk_put H2.out k (x <<< 1))
      have h01 := hide (Blk.far H0.out q01 (p := ⟨w.heap.size + 1 + 1, k, none⟩) (.int .u8 (I (x <<< 1))))
      have h11 := hide (Blk.far H1.out q11 (p := ⟨w.heap.size + 1 + 1, k, none⟩) (.int .u8 (I (x <<< 1))))
      have hbe1 := hide (hbe.out.setCell qle (p := ⟨w.heap.size + 1 + 1, k, none⟩) (.int .u8 (I (x <<< 1))))
      clear H0 H1 H2 hbe
      by_cases h15 : k < 15
      · go_upto_region 7 with fail
        generalize wr.setCell ⟨w.heap.size + 1 + 1, k, none⟩ (.int .u8 (I (x <<< 1))) = w2 at *
        have f1 := blk_byte hb1.out (show k < (m.set k (x <<< 1)).length by rw [List.length_set]; omega)
        have f2 := blk_byte h01.out (show k + 1 < b.length by omega)
        rw [set_getD (by omega), if_pos rfl] at f1
        have z1 : w2.frozen? ⟨w.heap.size + 1 + 1, k, none⟩ = false := Blk.frozen hb1.out _
        have htw : tw b k = (x <<< 1) ||| (b.getD (k + 1) 0 >>> 7) := by
          rw [tw, if_pos h15, ← Hx.out]
        generalize b.getD (k + 1) 0 = y at f2 htw
        have HTW := hide htw
        have hb3 := blk_put hb1.out k ((x <<< 1) ||| (y >>> 7))
        rw [List.set_set] at hb3
        have HB3 := hide hb3
        have hidx : IntKind.i64.wrap ((k : Int) + 1) = ((k + 1 : Nat) : Int) := by
          rw [IntWalk.i64_in _ (by omega)]
          omega
        have z2 : (0 : Int) ≤ ((k + 1 : Nat) : Int) := by omega
        have z3 : ((k + 1 : Nat) : Int) < (16 : Int) := by omega
        clear f0 z0 hb1 htw hb3 fo
        generalize hk1 : k + 1 = k1 at f2 hidx z2 z3
        have HK1 := hide hk1
        clear hk1
        go_wp2_with fail
        go_still_tail 11, (by kernel_rfl)
        go_wp2
        go_roundw
        case rel =>
          have hk1 := HK1.out
          subst hk1
          exact ⟨k + 1, _, by omega, by go_num, hide (hv.out.step hlt HTW.out.symm), hide (Blk.drew (Blk.far h01.out q01 _)), hide (Blk.drew (Blk.far h11.out q11 _)), hide (Blk.drew HB3.out), hide (hbe1.out.setCell qle (p := ⟨w.heap.size + 1 + 1, k, none⟩) _).drew⟩
        case measure =>
          have hk1 := HK1.out
          simp only [intOf]
          omega
      · obtain rfl : k = 15 := by omega
        go_wp2_with fail
        go_roundw
        case rel => exact ⟨16, _, by omega, by go_num, hide (hv.out.step hlt (by rw [tw, if_neg (by omega), ← Hx.out])), h01, h11, hb1, hbe1⟩
        case measure => simp only [intOf]; omega
    · obtain rfl : k = 16 := by omega
      have f0 := blk_byte H0.out (show 0 < b.length by omega)
      have fo := blk_byte H2.out (show 15 < m.length by omega)
      have z0 : wr.frozen? ⟨w.heap.size + 1 + 1, 15, none⟩ = false := Blk.frozen H2.out _
      have hfin : ∀ y, y = (if b.getD 0 0 >>> 7 = 1 then 0x87 else 0) → m.set 15 (m.getD 15 0 ^^^ y) = Mod.twice b := fun y hy => twice_of hm (fun i hi => by rw [hv.out.2 i hi, if_pos hi]) y hy
      have hself : m.set 15 (m.getD 15 0 ^^^ 0) = m := by
        rw [UInt8.xor_zero]
        simp [List.getD, List.getElem?_eq_getElem (show 15 < m.length by omega)]
      have hput := blk_put H2.out 15 (m.getD 15 0 ^^^ 0x87)
      generalize hx0 : b.getD 0 0 = x0 at f0
      have hl : Hid ((Mod.twice b).length = 16) := hide (Cip.t16_length _)
      have HF := hide hfin
      have HS := hide hself
      have HX0 := hide hx0
      have HM := hide hm
      generalize m.getD 15 0 = z at fo HF HS hput hfin hself
      have HP := hide hput
      have hz : Hid (zeros34.size = 16) := hide rfl
      have X1 : bits .xor .u8 (I z) (135 : Int) = I (z ^^^ 135) := I_xor z 135
      have h34 := hide (size34' hl.out)
      clear hfin hself hput hv hx0 hm
      rcases high_or x0 with h | h
      · have hq : I (x0 >>> 7) = (0 : Int) := by rw [h]; rfl
        have e := HF.out 0 (by rw [HX0.out, h]; rfl)
        rw [HS.out] at e
        subst e
        have hr := hide (blk_whole H2.out)
        clear HF HS HP X1
        go_wp2_with (first
          | with_reducible refine wpList_load_mid rfl 34 (.tmp 3) rfl (w.heap.size + 1 + 1) 0 rfl (bytes (Mod.twice b)) _ hr.out Try.underlying34 rfl h34.out ?_
          | with_reducible refine wpList_store34 rfl (.tmp 2) (.tmp 36) rfl (w.heap.size + 1) zeros34 (Mod.twice b) rfl rfl H1.out hl.out hz.out ?_)
        refine bodyPost_ret (results_cell_row rfl _ _ (w.heap.size + 1) 34 (bytes (Mod.twice b)).toArray (0, 0) _ rfl (setRow_heap _ _ _ _ _ _ H1.out) Try.underlying34 rfl (by rw [List.size_toArray]; exact h34.out)) rfl ?_
        exact ⟨rfl, below_setRow hbe.out (by omega) _⟩
      · have hq : I (x0 >>> 7) = (1 : Int) := by rw [h]; rfl
        have e := HF.out 135 (by rw [HX0.out, h]; rfl)
        have hp := HP.out
        rw [e] at hp
        have HP2 := hide hp
        have H1' := hide (Blk.far H1.out q11 (p := ⟨w.heap.size + 1 + 1, 15, none⟩) (.int .u8 (I (z ^^^ 135))))
        have hbe' := hide (hbe.out.setCell qle (p := ⟨w.heap.size + 1 + 1, 15, none⟩) (.int .u8 (I (z ^^^ 135))))
        have hr := hide (blk_whole hp)
        clear HF HS HP e hp
        go_upto_region 10 with fail
        generalize wr.setCell ⟨w.heap.size + 1 + 1, 15, none⟩ (.int .u8 (I (z ^^^ 135))) = w3 at *
        go_wp2_with (first
          | with_reducible refine wpList_load_mid rfl 34 (.tmp 3) rfl (w.heap.size + 1 + 1) 0 rfl (bytes (Mod.twice b)) _ hr.out Try.underlying34 rfl h34.out ?_
          | with_reducible refine wpList_store34 rfl (.tmp 2) (.tmp 36) rfl (w.heap.size + 1) zeros34 (Mod.twice b) rfl rfl H1'.out hl.out hz.out ?_)
        refine bodyPost_ret (results_cell_row rfl _ _ (w.heap.size + 1) 34 (bytes (Mod.twice b)).toArray (0, 0) _ rfl (setRow_heap _ _ _ _ _ _ H1'.out) Try.underlying34 rfl (by rw [List.size_toArray]; exact h34.out)) rfl ?_
        exact ⟨rfl, below_setRow hbe'.out (by omega) _⟩
end Go.Proofs.Ytjcdblnodbadcaa
