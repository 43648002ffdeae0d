/- The walks of the reference's xor, block and double. -/
import Derived.Test.YtjcdblnodbadcaaRepeat
import Derived.Test.YtjcdblnodbadcaaTwice
import Derived.Test.YtjcdblnodbadcaaBad
namespace Go.Proofs.Ytjcdblnodbadcaa
open Go.RowKit

set_option maxRecDepth 100000 in
set_option maxHeartbeats 1600000 in
theorem rxor_any (a b : List UInt8) (w : World) (ha : a.length = 16) (hb : b.length = 16) :
    Calls Try.prog 60 #[.agg (bytes a).toArray, .agg (bytes b).toArray] w fun e w' => e = .returned (.agg (bytes (Mod.xor a b)).toArray) ∧ Below w.heap.size w w' := by
  generalize hA : (bytes a).toArray = A
  generalize hB : (bytes b).toArray = B
  go_enter Try.func60, Try.ntmps60
  go_upto_region 1 with fail
  have h0 : Blk (((w.alloc (.cells A 34)).alloc (.cells B 34)).alloc (.cells zeros34 34)) w.heap.size 34 A := Blk.alloc (Blk.alloc (Blk.new _ _ _) _) _
  have h1 : Blk (((w.alloc (.cells A 34)).alloc (.cells B 34)).alloc (.cells zeros34 34)) (w.heap.size + 1) 34 B := by
    have := Blk.new (w.alloc (.cells A 34)) 34 B
    rw [World.size_alloc] at this
    exact Blk.alloc this _
  have h2 : Blk (((w.alloc (.cells A 34)).alloc (.cells B 34)).alloc (.cells zeros34 34)) (w.heap.size + 1 + 1) 34 zeros34 := by
    have := Blk.new ((w.alloc (.cells A 34)).alloc (.cells B 34)) 34 zeros34
    rwa [World.size_alloc, World.size_alloc] at this
  have hbe : Below w.heap.size w (((w.alloc (.cells A 34)).alloc (.cells B 34)).alloc (.cells zeros34 34)) := (((Below.refl _ w).alloc (Nat.le_refl _) _).alloc (by simp) _).alloc (by simp; omega) _
  generalize (((w.alloc (.cells A 34)).alloc (.cells B 34)).alloc (.cells zeros34 34)) = w1 at *
  rw [← hA] at h0
  rw [← hB] at h1
  have H0 := hide h0
  have H1 := hide h1
  have H2 := hide h2
  clear h0 h1 h2 hA hB
  go_wp2_with fail
  go_loopw [5] (fun i wr => ∃ (k : Nat) (m : List UInt8), k ≤ 16 ∧ i = .int .i64 k ∧ Hid (Mid (fun i => a.getD i 0 ^^^ b.getD i 0) a m k) ∧ Hid (Blk wr w.heap.size 34 (bytes m).toArray) ∧ Hid (Blk wr (w.heap.size + 1) 34 (bytes b).toArray) ∧ Hid (Blk wr (w.heap.size + 1 + 1) 34 zeros34) ∧ Below w.heap.size w wr) (fun i _ => 16 - (intOf i).toNat)
  case atStart => exact ⟨0, a, by omega, rfl, hide (Mid.start _ ha), H0, H1, H2, hbe⟩
  case round =>
    clear H0 H1 H2 hbe
    obtain ⟨k, m, hk, rfl, hv, H0, H1, H2, hbe⟩ := hrel
    have hm := hv.out.1
    by_cases hlt : k < 16
    · have f0 := blk_byte H0.out (show k < m.length by omega)
      have f1 := blk_byte H1.out (show k < b.length by omega)
      have f5 : wr.frozen? ⟨w.heap.size, k, none⟩ = false := Blk.frozen H0.out _
      generalize hx : m.getD k 0 = x at f0
      generalize hy : b.getD k 0 = y at f1
      have Hx := hide hx
      have Hy := hide hy
      clear hx hy
      go_wp2_with fail
      go_still_tail 9, (by kernel_rfl)
      go_wp2
      go_roundw
      case rel => exact ⟨k + 1, _, by omega, by go_num, hide (hv.out.step hlt (by rw [← Hx.out, ← Hy.out, hv.out.at_ hlt])), hide (Blk.drew (blk_put H0.out k (x ^^^ y))), hide (Blk.drew (Blk.far H1.out (by simp) _)), hide (Blk.drew (Blk.far H2.out (by simp; omega) _)), (hbe.setCell (Nat.le_refl _) _).drew⟩
      case measure => simp only [intOf]; omega
    · obtain rfl : k = 16 := by omega
      have e : m = Mod.xor a b := hv.out.stop
      subst e
      have hlen : (bytes (Mod.xor a b)).length = 16 := by rw [bytes_length, hm]
      have hstored := stored34' hm H2.out rfl
      have hrange := hide (blk_whole H0.out)
      have h34 := hide (size34' hm)
      clear hv
      go_wp2_with (with_reducible refine wpList_load_mid rfl 34 (.tmp 2) rfl w.heap.size 0 rfl (bytes (Mod.xor a b)) _ hrange.out Try.underlying34 rfl h34.out ?_)
      refine bodyPost_ret (results_cell_row rfl _ _ (w.heap.size + 1 + 1) 34 (bytes (Mod.xor a b)).toArray (0, 0) _ rfl (setRow_heap _ _ _ _ _ _ H2.out) Try.underlying34 rfl (by rw [List.size_toArray]; exact h34.out)) rfl ?_
      exact ⟨rfl, below_setRow hbe (by omega) _⟩
/-- the first sixteen, filled with zeros -/
def blk16 (l : List UInt8) : List UInt8 := Cip.t16 fun i => l.getD i 0
theorem blk16_length (l : List UInt8) : (blk16 l).length = 16 := Cip.t16_length _
theorem blk16_self {l : List UInt8} (h : l.length = 16) : blk16 l = l := Cip.t16_self h
theorem blk16_splice (Z l : List UInt8) (hZ : Z = List.replicate 16 0) : splice (bytes Z) 0 (bytes (l.take 16)) = bytes (blk16 l) := by
  have e : splice (bytes Z) 0 (bytes (l.take 16)) = bytes (l.take 16 ++ Z.drop (l.take 16).length) := by
    unfold splice
    rw [List.take_zero, List.nil_append, Nat.zero_add, bytes_append, bytes_drop, bytes_length]
  rw [e]
  congr 1
  have hl : (l.take 16 ++ Z.drop (l.take 16).length).length = 16 := by
    rw [List.length_append, List.length_drop, hZ, List.length_replicate, List.length_take]
    omega
  rw [← Cip.t16_self hl]
  refine Cip.t16_congr fun i hi => ?_
  simp only [List.getD]
  by_cases h : i < (l.take 16).length
  · rw [List.getElem?_append_left h, List.getElem?_take, if_pos (by omega)]
  · rw [List.getElem?_append_right (by omega), hZ, List.getElem?_drop, List.getElem?_replicate]
    have hn : l[i]? = none := List.getElem?_eq_none (by rw [List.length_take] at h; omega)
    rw [hn, if_pos (by rw [List.length_take] at h ⊢; omega)]
    rfl
set_option maxRecDepth 100000 in
set_option maxHeartbeats 1600000 in
theorem rblock_any (A : Option Addr) (n c B : Nat) (l : List UInt8) (w : World) (h : Reads w B 1 A n (bytes l)) (hB : B ≤ w.heap.size) :
    Calls Try.prog 61 #[.slice A n c] w fun e w' => e = .returned (.agg (bytes (blk16 l)).toArray) ∧ Below w.heap.size w w' := by
  obtain ⟨Z, hZ⟩ : ∃ Z : List UInt8, Z = List.replicate 16 0 := ⟨_, rfl⟩
  have HZ := hide hZ
  have hZ34 : zeros34 = (bytes Z).toArray := by rw [hZ]; rfl
  have hnl : n = l.length := by have := h.1; rw [bytes_length] at this; omega
  have h1 : Hid (Blk ((w.alloc (.cells zeros34 34)).alloc (.cells zeros34 34)) w.heap.size 34 zeros34) := hide (Blk.alloc (Blk.new _ _ _) _)
  have h2 : Hid (Blk ((w.alloc (.cells zeros34 34)).alloc (.cells zeros34 34)) (w.heap.size + 1) 34 (bytes Z).toArray) := by
    have := Blk.new (w.alloc (.cells zeros34 34)) 34 zeros34
    rw [World.size_alloc] at this
    rw [← hZ34]
    exact hide this
  have hbe : Hid (Below w.heap.size w ((w.alloc (.cells zeros34 34)).alloc (.cells zeros34 34))) := hide (((Below.refl _ w).alloc (Nat.le_refl _) _).alloc (by simp) _)
  have hr := (h.alloc hB (.cells zeros34 34)).alloc (by rw [World.size_alloc]; omega) (.cells zeros34 34)
  have q1 : Hid ((bytes (l.take 16)).length = Nat.min n 16) := hide (by rw [bytes_length, List.length_take, hnl]; exact Nat.min_comm _ _)
  have q2 : Hid (0 < (bytes (l.take 16)).length → (some (⟨w.heap.size + 1, 0, none⟩ : Addr)) = some ⟨w.heap.size + 1, 0, none⟩ ∧ ∃ ad, A = some ad ∧ ∀ j v, (bytes (l.take 16))[j]? = some v → ((w.alloc (.cells zeros34 34)).alloc (.cells zeros34 34)).cell? (ad.add j) = some v) := hide fun h0 => by
    obtain ⟨ad, e, _, hc⟩ := hr.2 (by rw [bytes_length, List.length_take] at h0; omega)
    refine ⟨rfl, ad, e, fun j v hj => hc j v ?_⟩
    rw [bytes_take, List.getElem?_take] at hj
    split at hj
    · exact hj
    · cases hj
  have q3 : Hid (0 + (bytes (l.take 16)).length ≤ (bytes Z).length) := hide (by rw [bytes_length, bytes_length, hZ, List.length_take, List.length_replicate]; omega)
  clear hr h hZ hZ34 hnl hB
  go_enter Try.func61, Try.ntmps61
  go_upto_region 2 with fail
  generalize (w.alloc (.cells zeros34 34)).alloc (.cells zeros34 34) = w1 at *
  go_upto_region 3 with (refine wpList_copy_splice rfl (.tmp 4) (.tmp 5) 26 26 rfl 5 Try.underlying26 size5 (some ⟨w.heap.size + 1, 0, none⟩) A 16 16 n c rfl rfl (w.heap.size + 1) 0 (bytes Z) 34 h2.out (bytes (l.take 16)) q1.out q2.out q3.out (bytes_one _) (w.heap.size + 1) w1 (Below.refl _ w1) (Nat.le_refl _) ?_; intro w2 HG hbk)
  rw [blk16_splice Z l HZ.out] at HG
  have hm : Hid ((blk16 l).length = 16) := hide (blk16_length l)
  have hrange := hide (blk_whole HG.out)
  have h34 := hide (size34' hm.out)
  have h1' := hide (Blk.below h1.out hbk (by omega))
  have hbe' := hide (hbe.out.trans (hbk.mono (by omega)))
  have hz : Hid (zeros34.size = 16) := hide rfl
  clear h1 h2 hbe q1 q2 q3 hbk HZ
  generalize hbb : blk16 l = b at *
  have HBB := hide hbb
  clear hbb
  go_wp2_with (first
    | with_reducible refine wpList_load_mid rfl 34 (.tmp 3) rfl (w.heap.size + 1) 0 rfl (bytes b) _ hrange.out Try.underlying34 rfl h34.out ?_
    | with_reducible refine wpList_store34 rfl (.tmp 2) (.tmp 7) rfl w.heap.size zeros34 b rfl rfl h1'.out hm.out hz.out ?_)
  refine bodyPost_ret (results_cell_row rfl _ _ w.heap.size 34 (bytes b).toArray (0, 0) _ rfl (setRow_heap _ _ _ _ _ _ h1'.out) Try.underlying34 rfl (by rw [List.size_toArray]; exact h34.out)) rfl ?_
  exact ⟨by rw [HBB.out], below_setRow hbe'.out (by omega) _⟩
end Go.Proofs.Ytjcdblnodbadcaa
