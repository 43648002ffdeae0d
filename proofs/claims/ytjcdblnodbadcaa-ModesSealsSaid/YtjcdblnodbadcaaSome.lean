/- The walks of the laws' helpers Bytes and some. -/
import Derived.Test.YtjcdblnodbadcaaFew
import Derived.Test.YtjcdblnodbadcaaXor
import Derived.Laws.OwnMore
namespace Go.Proofs.Ytjcdblnodbadcaa
open Go.RowKit

theorem I_of_range {x : Int} (h1 : 0 ≤ x) (h2 : x < 256) : x = I (UInt8.ofNat x.toNat) := by
  unfold I; simp; omega
set_option maxRecDepth 100000 in
set_option maxHeartbeats 1600000 in
theorem hbytes_any (r : Nat) (seed : Int) (w : World) (hr : r < 1000) :
    Calls Try.prog 55 #[.int .i64 (r : Int), .int .i64 seed] w fun e w' => ∃ v l, e = .returned v ∧ l.length = r ∧ w'.ownsRow w.heap.size 5 1 v r (bytes l) ∧ Below w.heap.size w w' := by
  obtain ⟨i0, hi, hz0, hz1, hz2⟩ := info_parts info5
  have hmk : ∀ u : World, (Instr.makeSlice 26 (.int .i64 (r : Int)) (.int .i64 (r : Int))).run Try.prog u =
      .ok (.slice (some ⟨u.heap.size, 0, none⟩) r r) (u.alloc (.cells (madeCells #[.int .u8 0] r) 5)) := fun u => by
    have h := run_make (P := Try.prog) u 26 5 i0 (.int .u8 0) Try.underlying26 hi hz0 .i64 .i64 (r : Int) (r : Int) (by omega) (Int.le_refl _) (by rw [hz2]; omega) (by omega)
    rw [Int.toNat_natCast] at h
    simpa [hz1, Value.cells] using h
  have hb0 : Hid (Blk (w.alloc (.cells (madeCells #[.int .u8 0] r) 5)) w.heap.size 5 (bytes (List.replicate r 0)).toArray) := by
    have := Blk.new w 5 (madeCells #[.int .u8 0] r)
    rw [show madeCells #[.int .u8 0] r = (bytes (List.replicate r 0)).toArray by
      apply Array.toList_inj.1
      rw [toList_madeCells_one]
      simp [bytes, I]] at this ⊢
    exact hide this
  have hbe : Below w.heap.size w (w.alloc (.cells (madeCells #[.int .u8 0] r) 5)) := (Below.refl _ w).alloc (Nat.le_refl _) _
  go_enter Try.func55, Try.ntmps55
  go_upto_region 2 with fail
  generalize (w.alloc (.cells (madeCells #[.int .u8 0] r) 5)) = w1 at *
  clear hmk
  go_wp2_with fail
  go_loopw [6, 7] (fun x i wr => ∃ (k : Nat) (L : List UInt8) (X : Int), k ≤ r ∧ i = .int .i64 k ∧ x = .int .u64 X ∧ L.length = r ∧ Hid (Blk wr w.heap.size 5 (bytes L).toArray) ∧ Below w.heap.size w wr) (fun _ i _ => r - (intOf i).toNat)
  case atStart => exact ⟨0, List.replicate r 0, _, by omega, rfl, rfl, List.length_replicate, hb0, hbe⟩
  case round =>
    clear hb0 hbe
    obtain ⟨k, L, X, hk, rfl, rfl, hL, hb, hbe⟩ := hrel
    by_cases hlt : k < r
    · have f0 := blk_byte hb.out (show k < L.length by omega)
      have z0 : wr.frozen? ⟨w.heap.size, k, none⟩ = false := Blk.frozen hb.out _
      go_wp2_with fail
      generalize hY : IntKind.u64.wrap (IntKind.u64.wrap (X * 6364136223846793005) + 1442695040888963407) = Y
      have hst := blk_put hb.out k (UInt8.ofNat (Y / 1099511627776 % 256).toNat)
      rw [← I_of_range (Int.emod_nonneg _ (by decide)) (Int.emod_lt_of_pos _ (by decide))] at hst
      go_roundw
      case rel => exact ⟨k + 1, _, Y, by omega, by go_num, rfl, by rw [List.length_set]; exact hL, hide hst, hbe.setCell (Nat.le_refl _) _⟩
      case measure => simp only [intOf]; omega
    · obtain rfl : k = r := by omega
      have hL' := hide hL
      clear hL
      go_wp2_with fail
      go_ret
      refine ⟨_, L, rfl, hL'.out, ⟨by rw [bytes_length, hL'.out]; omega, .inr ⟨w.heap.size, k, _, rfl, Nat.le_refl _, hb.out, Nat.le_refl _, by unfold maxLen; omega, by rw [List.size_toArray, bytes_length, hL'.out]; omega, ?_⟩⟩, hbe⟩
      rw [List.take_of_length_le (by simp [bytes_length, hL'.out])]
end Go.Proofs.Ytjcdblnodbadcaa
