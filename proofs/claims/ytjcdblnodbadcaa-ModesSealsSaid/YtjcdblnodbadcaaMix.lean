/- The walks of the program's steps: last, columns, mix, unmix. -/
import Derived.Test.YtjcdblnodbadcaaSteps
namespace Go.Proofs.Ytjcdblnodbadcaa
open Go.RowKit

set_option maxRecDepth 100000 in
set_option maxHeartbeats 1600000 in
theorem last_any (g p kb nr kc r : Nat) (s all : List UInt8) (w : World) (hst : St w g p s r) (hs : s.length = 16) (hci : Ci w p kb nr kc all) :
    Calls Try.prog 64 #[.pointer (some ⟨g, 0, none⟩)] w fun e w' => e = .returned (.bool (decide (r = nr - 1))) ∧ ∃ n, w.drewN n = w' := by
  have hnr := hci.few
  have hn1 := hci.one
  have f0 := hst.ptr
  have f1 := hst.round hs
  have f2 := hci.slice
  clear hst hci
  go_enter Try.func64, Try.ntmps64
  go_wp2_with fail
  go_quiet (fail)
  go_wp2
  go_ret
  refine ⟨ret_eq ?_, nq, rfl⟩
  show Value.bool ((r : Int) == (nr : Int) - 1) = _
  congr 1
  rw [Bool.eq_iff_iff]
  simp only [beq_iff_eq, decide_eq_true_eq]
  omega
theorem columns_index1 (j k : Nat) (hj : j < 4) (hk : k < 16) :
    (IntKind.i64.wrap (IntKind.i64.wrap ((j : Int) - (k : Int).tmod 4) + 4)).tmod 4 = (((j + 4 - k % 4) % 4 : Nat) : Int) := by
  rw [Int.tmod_eq_emod_of_nonneg (by omega : (0 : Int) ≤ (k : Int)), IntWalk.i64_in ((j : Int) - (k : Int) % 4) (by omega), IntWalk.i64_in _ (by omega), Int.tmod_eq_emod_of_nonneg (by omega)]
  omega
theorem columns_index2 (j k : Nat) (hj : j < 4) (hk : k < 16) :
    IntKind.i64.wrap (IntKind.i64.wrap (IntKind.i64.wrap ((k : Int) / 4) * 4) + (j : Int)) = ((k / 4 * 4 + j : Nat) : Int) := by
  rw [IntWalk.i64_in ((k : Int) / 4) (by omega), IntWalk.i64_in ((k : Int) / 4 * 4) (by omega), IntWalk.i64_in _ (by omega)]
  omega
theorem four_get (a b c d : UInt8) {j : Nat} (hj : j < 4) : (#[Value.int .u8 (I a), .int .u8 (I b), .int .u8 (I c), .int .u8 (I d)] : Array Value)[j]? = some (.int .u8 (I ([a, b, c, d].getD j 0))) := by
  match j, hj with
  | 0, _ => rfl
  | 1, _ => rfl
  | 2, _ => rfl
  | 3, _ => rfl

set_option maxRecDepth 100000 in
set_option maxHeartbeats 1600000 in
theorem columns_any (g p r : Nat) (s : List UInt8) (a b c d : UInt8) (w : World) (hst : St w g p s r) (hs : s.length = 16) :
    Calls Try.prog 65 #[.pointer (some ⟨g, 0, none⟩), .agg #[.int .u8 (I a), .int .u8 (I b), .int .u8 (I c), .int .u8 (I d)]] w fun e w' => e = .returned (.tuple #[]) ∧ St w' g p (Cip.columns [a, b, c, d] s) r ∧ w.grownBy w' (some g) := by
  have HST := hide hst
  have hgl := hide (Blk.lt hst)
  have h34 := hide (size34' hs)
  have hlen : (bytes s).length = 16 := by rw [bytes_length, hs]
  clear hst
  have hstored := stored34 hs (w.alloc (.cells #[.int .u8 (I a), .int .u8 (I b), .int .u8 (I c), .int .u8 (I d)] 70))
  rw [show (w.alloc (.cells #[.int .u8 (I a), .int .u8 (I b), .int .u8 (I c), .int .u8 (I d)] 70)).heap.size = w.heap.size + 1 by simp] at hstored
  go_enter Try.func65, Try.ntmps65
  go_wp2_with (with_reducible refine wpList_load_mid rfl 34 (.tmp 9) rfl g 1 rfl (bytes s) _ (St.range (HST.out.alloc _) hs) Try.underlying34 rfl h34.out ?_)
  clear hstored hlen
  go_loopw [5, 6, 11, 19] (fun _ _ i _ wr => ∃ (k : Nat) (m : List UInt8), k ≤ 16 ∧ i = .int .i64 k ∧ Hid (Mid (fun i => Cip.col [a, b, c, d] s i 4) s m k) ∧ Hid (St wr g p m r) ∧ Hid (Blk wr w.heap.size 70 #[.int .u8 (I a), .int .u8 (I b), .int .u8 (I c), .int .u8 (I d)]) ∧ Hid (Blk wr (w.heap.size + 1) 34 (bytes s).toArray) ∧ w.grownBy wr (some g)) (fun _ _ i _ _ => 16 - (intOf i).toNat)
  case atStart =>
    refine ⟨0, s, by omega, rfl, hide (Mid.start _ hs), hide ((HST.out.alloc _).alloc _), hide ((Blk.new _ _ _).alloc _), hide ?_, only_alloc (only_alloc (World.grownBy.refl _ _) _) _⟩
    have := Blk.new (w.alloc (.cells #[.int .u8 (I a), .int .u8 (I b), .int .u8 (I c), .int .u8 (I d)] 70)) 34 (bytes s).toArray
    rwa [show (w.alloc (.cells #[.int .u8 (I a), .int .u8 (I b), .int .u8 (I c), .int .u8 (I d)] 70)).heap.size = w.heap.size + 1 by simp] at this
  case round =>
    obtain ⟨k, m, hk, rfl, hv, hst, hbm, hbk, hgr⟩ := hrel
    have hm := hv.out.1
    by_cases hlt : k < 16
    · have f5 : wr.frozen? ⟨g, 1 + k, none⟩ = false := Blk.frozen hst.out _
      have f6 := hst.out.byte hm hlt
      go_wp2_with fail
      rw [show decide ((k : Int) < 16) = true from decide_eq_true (by omega)]
      go_loopw [6, 19] (fun _ i wr' => ∃ j : Nat, j ≤ 4 ∧ i = .int .i64 j ∧ Hid (St wr' g p (m.set k (Cip.col [a, b, c, d] s k j)) r) ∧ Hid (Blk wr' w.heap.size 70 #[.int .u8 (I a), .int .u8 (I b), .int .u8 (I c), .int .u8 (I d)]) ∧ Hid (Blk wr' (w.heap.size + 1) 34 (bytes s).toArray) ∧ w.grownBy wr' (some g)) (fun _ i _ => 4 - (intOf i).toNat)
      case atStart =>
        exact ⟨0, by omega, rfl, hide (show St _ g p (m.set k 0) r from hst.out.set_byte hm hlt 0), hide (Blk.far hbm.out (by simpa using (Nat.ne_of_lt hgl.out).symm) _), hide (Blk.far hbk.out (by show w.heap.size + 1 ≠ g; have := hgl.out; omega) _), only_set hgr _ _⟩
      case round =>
        clear hst hbm hbk hgr f6 f5
        obtain ⟨j, hj, rfl, hst, hbm, hbk, hgr⟩ := hrel
        have hm' : (m.set k (Cip.col [a, b, c, d] s k j)).length = 16 := by rw [List.length_set]; exact hm
        by_cases hlj : j < 4
        · have f5 : wr.frozen? ⟨g, 1 + k, none⟩ = false := Blk.frozen hst.out _
          have f6 := hst.out.byte hm' hlt
          rw [set_getD (by omega), if_pos rfl] at f6
          have x1 := columns_index1 j k hlj hlt
          have x2 := columns_index2 j k hlj hlt
          have f1 : wr.cell? ⟨w.heap.size, (j + 4 - k % 4) % 4, none⟩ = _ := (Blk.cell hbm.out _).trans (four_get a b c d (by omega))
          have f2 : wr.cell? ⟨w.heap.size + 1, k / 4 * 4 + j, none⟩ = _ := (Blk.cell hbk.out _).trans ((List.getElem?_toArray ..).trans (bytes_get (by omega)))
          have hcol : Cip.col [a, b, c, d] s k (j + 1) = Cip.col [a, b, c, d] s k j ^^^ Fld.times ([a, b, c, d].getD ((j + 4 - k % 4) % 4) 0) (s.getD (k / 4 * 4 + j) 0) := rfl
          generalize Cip.col [a, b, c, d] s k j = y0 at f6 hcol hst
          generalize [a, b, c, d].getD ((j + 4 - k % 4) % 4) 0 = y1 at f1 hcol
          generalize s.getD (k / 4 * 4 + j) 0 = y2 at f2 hcol
          have Hcol := hide hcol
          clear hcol
          have z0 : (0 : Int) ≤ (((j + 4 - k % 4) % 4 : Nat) : Int) := by omega
          have z1 : (((j + 4 - k % 4) % 4 : Nat) : Int) < (4 : Int) := by omega
          have z2 : (0 : Int) ≤ ((k / 4 * 4 + j : Nat) : Int) := by omega
          have z3 : ((k / 4 * 4 + j : Nat) : Int) < (16 : Int) := by omega
          generalize (j + 4 - k % 4) % 4 = J at f1 x1 z0 z1
          generalize k / 4 * 4 + j = L at f2 x2 z2 z3
          go_wp2_with fail
          go_still_tail 26, (by kernel_rfl)
          still_call ((times_any _ _ _).mono fun e w' h => ⟨h.1, h.2.symm⟩)
          repeat still_step
          refine wpStill_nil ?_
          go_wp2
          go_roundw
          case rel =>
            refine ⟨j + 1, by omega, by go_num, hide ?_, hide (Blk.far hbm.out (by simpa using (Nat.ne_of_lt hgl.out).symm) _), hide (Blk.far hbk.out (by show w.heap.size + 1 ≠ g; have := hgl.out; omega) _), only_drew (only_set hgr _ _)⟩
            rw [Hcol.out]
            have := hst.out.set_byte (by rw [List.length_set]; exact hm) hlt (y0 ^^^ Fld.times y1 y2)
            rw [List.set_set] at this
            exact this
          case measure => simp only [intOf]; omega
        · obtain rfl : j = 4 := by omega
          go_wp2_with fail
          go_roundw
          case rel => exact ⟨k + 1, _, by omega, by go_num, hide (hv.out.step hlt rfl), hst, hbm, hbk, hgr⟩
          case measure => simp only [intOf]; omega
    · obtain rfl : k = 16 := by omega
      go_wp2
      go_end0
      refine ⟨rfl, ?_, hgr⟩
      have e : m = Cip.columns [a, b, c, d] s := hv.out.stop
      rw [← e]
      exact hst.out

def colsOr (q : Prop) [Decidable q] (m s : List UInt8) : List UInt8 := if q then s else Cip.columns m s
set_option maxRecDepth 100000 in
set_option maxHeartbeats 1600000 in
theorem mix_any (g p kb nr kc r : Nat) (s all : List UInt8) (w : World) (hst : St w g p s r) (hs : s.length = 16) (hci : Ci w p kb nr kc all) :
    Calls Try.prog 48 #[.pointer (some ⟨g, 0, none⟩)] w fun e w' => e = .returned (.tuple #[]) ∧ St w' g p (colsOr (r = nr - 1) Cip.mixM s) r ∧ w.grownBy w' (some g) := by
  have HST := hide hst
  have HCI := hide hci
  clear hst hci
  go_enter Try.func48, Try.ntmps48
  go_wp2_with fail
  refine (last_any g p kb nr kc r s all w HST.out hs HCI.out).mono ?_
  rintro e w' ⟨rfl, n, rfl⟩
  by_cases hr : r = nr - 1
  · simp only [hr, decide_true]
    go_wp2_with fail
    go_end0
    refine ⟨rfl, ?_, only_drewN (World.grownBy.refl _ _) n⟩
    rw [colsOr, if_pos hr]
    exact Blk.drewN HST.out n
  · simp only [hr, decide_false]
    go_wp2_with fail
    refine (columns_any g p r s 2 3 1 1 (w.drewN n) (Blk.drewN HST.out n) hs).mono ?_
    rintro e w' ⟨rfl, h1, h2⟩
    go_wp2
    go_end0
    refine ⟨rfl, ?_, ?_⟩
    · rw [colsOr, if_neg hr]
      exact h1
    · exact ⟨h2.os, h2.tape, h2.output, h2.size, h2.block⟩
set_option maxRecDepth 100000 in
set_option maxHeartbeats 1600000 in
theorem unmix_any (g p kb nr kc r : Nat) (s all : List UInt8) (w : World) (hst : St w g p s r) (hs : s.length = 16) (hci : Ci w p kb nr kc all) :
    Calls Try.prog 49 #[.pointer (some ⟨g, 0, none⟩)] w fun e w' => e = .returned (.tuple #[]) ∧ St w' g p (colsOr (r = nr - 1) Cip.unM s) r ∧ w.grownBy w' (some g) := by
  have HST := hide hst
  have HCI := hide hci
  clear hst hci
  go_enter Try.func49, Try.ntmps49
  go_wp2_with fail
  refine (last_any g p kb nr kc r s all w HST.out hs HCI.out).mono ?_
  rintro e w' ⟨rfl, n, rfl⟩
  by_cases hr : r = nr - 1
  · simp only [hr, decide_true]
    go_wp2_with fail
    go_end0
    refine ⟨rfl, ?_, only_drewN (World.grownBy.refl _ _) n⟩
    rw [colsOr, if_pos hr]
    exact Blk.drewN HST.out n
  · simp only [hr, decide_false]
    go_wp2_with fail
    refine (columns_any g p r s 14 11 13 9 (w.drewN n) (Blk.drewN HST.out n) hs).mono ?_
    rintro e w' ⟨rfl, h1, h2⟩
    go_wp2
    go_end0
    refine ⟨rfl, ?_, ?_⟩
    · rw [colsOr, if_neg hr]
      exact h1
    · exact ⟨h2.os, h2.tape, h2.output, h2.size, h2.block⟩
end Go.Proofs.Ytjcdblnodbadcaa
