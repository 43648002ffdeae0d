/- The walk of modes.xor. -/
import Derived.Test.YtjcdblnodbadcaaSeal
import Derived.Deep.Cut
namespace Go.Proofs.Ytjcdblnodbadcaa
open Go.RowKit

theorem set_bytes16 (L : List UInt8) (k : Nat) (x : UInt8) : (bytes L).toArray.setIfInBounds k (.int .u8 (I x)) = (bytes (L.set k x)).toArray := by
  simp [bytes, List.map_set]
theorem blk_byte {w : World} {g : Nat} {t : TypeId} {l : List UInt8} (h : Blk w g t (bytes l).toArray) {k : Nat} (hk : k < l.length) : w.cell? ⟨g, k, none⟩ = some (.int .u8 (I (l.getD k 0))) :=
  (Blk.cell h k).trans ((List.getElem?_toArray ..).trans (bytes_get hk))
theorem blk_put {w : World} {g : Nat} {t : TypeId} {l : List UInt8} (h : Blk w g t (bytes l).toArray) (k : Nat) (x : UInt8) : Blk (w.setCell ⟨g, k, none⟩ (.int .u8 (I x))) g t (bytes (l.set k x)).toArray := by
  have := Blk.set_ h k (.int .u8 (I x))
  rwa [set_bytes16] at this
theorem blk_whole {w : World} {g : Nat} {t : TypeId} {l : List UInt8} (h : Blk w g t (bytes l).toArray) : w.rangeAt g 0 (bytes l) := fun j v hj => by
  rw [Nat.zero_add, Blk.cell h]
  simpa using hj
set_option maxRecDepth 100000 in
set_option maxHeartbeats 1600000 in
theorem xor_any (a b : List UInt8) (w : World) (ha : a.length = 16) (hb : b.length = 16) :
    Calls Try.prog 57 #[.agg (bytes a).toArray, .agg (bytes b).toArray] w fun e w' => e = .returned (.agg (bytes (Mod.xor a b)).toArray) ∧ Below w.heap.size w w' := by
  generalize hA : (bytes a).toArray = A
  generalize hB : (bytes b).toArray = B
  go_enter Try.func57, Try.ntmps57
  go_upto_region 1 with fail
  have h0 : Blk (((w.alloc (.cells A 34)).alloc (.cells B 34)).alloc (.cells zeros34 34)) w.heap.size 34 A := Blk.alloc (Blk.alloc (Blk.new _ _ _) _) _
  have h1 : Blk (((w.alloc (.cells A 34)).alloc (.cells B 34)).alloc (.cells zeros34 34)) (w.heap.size + 1) 34 B := by
    have := Blk.new (w.alloc (.cells A 34)) 34 B
    rw [World.size_alloc] at this
    exact Blk.alloc this _
  have h2 : Blk (((w.alloc (.cells A 34)).alloc (.cells B 34)).alloc (.cells zeros34 34)) (w.heap.size + 1 + 1) 34 zeros34 := by
    have := Blk.new ((w.alloc (.cells A 34)).alloc (.cells B 34)) 34 zeros34
    rwa [World.size_alloc, World.size_alloc] at this
  have hbe : Below w.heap.size w (((w.alloc (.cells A 34)).alloc (.cells B 34)).alloc (.cells zeros34 34)) := (((Below.refl _ w).alloc (Nat.le_refl _) _).alloc (by simp) _).alloc (by simp; omega) _
  generalize (((w.alloc (.cells A 34)).alloc (.cells B 34)).alloc (.cells zeros34 34)) = w1 at *
  rw [← hA] at h0
  rw [← hB] at h1
  have H0 := hide h0
  have H1 := hide h1
  have H2 := hide h2
  clear h0 h1 h2 hA hB
  go_wp2_with fail
  go_loopw [6] (fun i wr => ∃ (k : Nat) (m : List UInt8), k ≤ 16 ∧ i = .int .i64 k ∧ Hid (Mid (fun i => a.getD i 0 ^^^ b.getD i 0) a m k) ∧ Hid (Blk wr w.heap.size 34 (bytes m).toArray) ∧ Hid (Blk wr (w.heap.size + 1) 34 (bytes b).toArray) ∧ Hid (Blk wr (w.heap.size + 1 + 1) 34 zeros34) ∧ Below w.heap.size w wr) (fun i _ => 16 - (intOf i).toNat)
  case atStart => exact ⟨0, a, by omega, rfl, hide (Mid.start _ ha), H0, H1, H2, hbe⟩
  case round =>
    clear H0 H1 H2 hbe
    obtain ⟨k, m, hk, rfl, hv, H0, H1, H2, hbe⟩ := hrel
    have hm := hv.out.1
    by_cases hlt : k < 16
    · have f0 := blk_byte H0.out (show k < m.length by omega)
      have f1 := blk_byte H1.out (show k < b.length by omega)
      have f5 : wr.frozen? ⟨w.heap.size, k, none⟩ = false := Blk.frozen H0.out _
      generalize hx : m.getD k 0 = x at f0
      generalize hy : b.getD k 0 = y at f1
      have Hx := hide hx
      have Hy := hide hy
      clear hx hy
      go_wp2_with fail
      go_still_tail 8, (by kernel_rfl)
      go_wp2
      go_roundw
      case rel => exact ⟨k + 1, _, by omega, by go_num, hide (hv.out.step hlt (by rw [← Hx.out, ← Hy.out, hv.out.at_ hlt])), hide (Blk.drew (blk_put H0.out k (x ^^^ y))), hide (Blk.drew (Blk.far H1.out (by simp) _)), hide (Blk.drew (Blk.far H2.out (by simp; omega) _)), (hbe.setCell (Nat.le_refl _) _).drew⟩
      case measure => simp only [intOf]; omega
    · obtain rfl : k = 16 := by omega
      have e : m = Mod.xor a b := hv.out.stop
      subst e
      have hlen : (bytes (Mod.xor a b)).length = 16 := by rw [bytes_length, hm]
      have hstored := stored34' hm H2.out rfl
      have hrange := hide (blk_whole H0.out)
      have h34 := hide (size34' hm)
      clear hv
      go_wp2_with (with_reducible refine wpList_load_mid rfl 34 (.tmp 2) rfl w.heap.size 0 rfl (bytes (Mod.xor a b)) _ hrange.out Try.underlying34 rfl h34.out ?_)
      refine bodyPost_ret (results_cell_row rfl _ _ (w.heap.size + 1 + 1) 34 (bytes (Mod.xor a b)).toArray (0, 0) _ rfl (setRow_heap _ _ _ _ _ _ H2.out) Try.underlying34 rfl (by rw [List.size_toArray]; exact h34.out)) rfl ?_
      exact ⟨rfl, below_setRow hbe (by omega) _⟩
end Go.Proofs.Ytjcdblnodbadcaa
