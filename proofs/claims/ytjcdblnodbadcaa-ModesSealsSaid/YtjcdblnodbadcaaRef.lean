/- The reference's cipher in memory; the walk of its key. -/
import Derived.Test.YtjcdblnodbadcaaHeld
namespace Go.Proofs.Ytjcdblnodbadcaa
open Go.RowKit

/-- the reference's cipher: its block, and the words' -/
structure RCi (w : World) (p wb nr wc : Nat) (all : List UInt8) : Prop where
  blk : Blk w p 67 (ciCells wb (4 * nr) wc)
  keys : ∃ cur, Blk w wb 70 cur ∧ ∀ j, j < 16 * nr → cur[j]? = some (.int .u8 (I (all.getD j 0)))
  one : 1 ≤ nr
  few : nr ≤ 15
  room : 4 * nr ≤ wc
section
variable {w w' : World} {p wb nr wc : Nat} {all : List UInt8}
theorem RCi.slice (h : RCi w p wb nr wc all) : w.cell? ⟨p, 0, none⟩ = some (.slice (some ⟨wb, 0, none⟩) (4 * nr) wc) :=
  (Blk.cell h.blk 0).trans (by simp only [ciCells, List.getElem?_toArray, List.getElem?_cons_zero])
theorem ciCells_box (kb nr kc : Nat) (x : UInt8) : (ciCells kb nr kc)[1 + x.toNat]? = some (.int .u8 (I (Fld.sb x))) := by
  have := x.toNat_lt
  simp only [ciCells, List.getElem?_toArray, Nat.add_comm 1 x.toNat, List.getElem?_cons_succ]
  rw [List.getElem?_append_left (by rw [bytes_length, tab_len]; omega)]
  exact bytes_get (by rw [tab_len]; omega)
theorem ciCells_unbox (kb nr kc : Nat) (x : UInt8) : (ciCells kb nr kc)[257 + x.toNat]? = some (.int .u8 (I (Fld.ub x))) := by
  have := x.toNat_lt
  simp only [ciCells, List.getElem?_toArray, show 257 + x.toNat = (256 + x.toNat) + 1 by omega, List.getElem?_cons_succ]
  rw [List.getElem?_append_right (by rw [bytes_length, tab_len]; omega), bytes_length, tab_len, show 256 + x.toNat - 256 = x.toNat by omega]
  exact bytes_get (by rw [untab_len]; omega)
theorem RCi.box (h : RCi w p wb nr wc all) (x : UInt8) : w.cell? ⟨p, 1 + x.toNat, none⟩ = some (.int .u8 (I (Fld.sb x))) := (Blk.cell h.blk _).trans (ciCells_box _ _ _ x)
theorem RCi.unbox (h : RCi w p wb nr wc all) (x : UInt8) : w.cell? ⟨p, 257 + x.toNat, none⟩ = some (.int .u8 (I (Fld.ub x))) := (Blk.cell h.blk _).trans (ciCells_unbox _ _ _ x)
theorem RCi.key (h : RCi w p wb nr wc all) {r i : Nat} (hr : r < nr) (hi : i < 16) : w.cell? ⟨wb, (4 * r + i / 4) * 4 + i % 4, none⟩ = some (.int .u8 (I (all.getD (16 * r + i) 0))) := by
  obtain ⟨cur, hb, hc⟩ := h.keys
  refine (Blk.cell hb _).trans ?_
  rw [show (4 * r + i / 4) * 4 + i % 4 = 16 * r + i by omega]
  exact hc _ (by omega)
theorem RCi.lt (h : RCi w p wb nr wc all) : p < w.heap.size := Blk.lt h.blk
theorem RCi.ltk (h : RCi w p wb nr wc all) : wb < w.heap.size := by obtain ⟨cur, hb, _⟩ := h.keys; exact Blk.lt hb
theorem RCi.below (h : RCi w p wb nr wc all) (hb : Below w.heap.size w w') : RCi w' p wb nr wc all :=
  ⟨Blk.below h.blk hb h.lt, by obtain ⟨cur, hk, hc⟩ := h.keys; exact ⟨cur, Blk.below hk hb (Blk.lt hk), hc⟩, h.one, h.few, h.room⟩
theorem RCi.drewN (h : RCi w p wb nr wc all) (n : Nat) : RCi (w.drewN n) p wb nr wc all := ⟨h.blk, h.keys, h.one, h.few, h.room⟩
theorem RCi.drew (h : RCi w p wb nr wc all) : RCi w.drew p wb nr wc all := ⟨h.blk, h.keys, h.one, h.few, h.room⟩
end
theorem key_index (r k : Nat) (hr : r < 15) (hk : k < 16) : IntKind.i64.wrap (IntKind.i64.wrap (4 * (r : Int)) + IntKind.i64.wrap ((k : Int) / 4)) = ((4 * r + k / 4 : Nat) : Int) := by
  rw [IntWalk.i64_in (4 * (r : Int)) (by omega), IntWalk.i64_in ((k : Int) / 4) (by omega), IntWalk.i64_in _ (by omega)]
  omega
set_option maxRecDepth 100000 in
set_option maxHeartbeats 1600000 in
theorem rkey_any (p wb nr wc r : Nat) (s all : List UInt8) (w : World) (hs : s.length = 16) (hci : RCi w p wb nr wc all) (hr : r < nr) :
    Calls Try.prog 53 #[.pointer (some ⟨p, 0, none⟩), .agg (bytes s).toArray, .int .i64 (r : Int)] w fun e w' => e = .returned (.agg (bytes (Cip.add all r s)).toArray) ∧ Below w.heap.size w w' := by
  have hnr := hci.few
  generalize hA : (bytes s).toArray = A
  have h0 : Blk ((w.alloc (.cells A 34)).alloc (.cells zeros34 34)) w.heap.size 34 A := Blk.alloc (Blk.new _ _ _) _
  have h2 : Blk ((w.alloc (.cells A 34)).alloc (.cells zeros34 34)) (w.heap.size + 1) 34 zeros34 := by
    have := Blk.new (w.alloc (.cells A 34)) 34 zeros34
    rwa [World.size_alloc] at this
  have hbe : Below w.heap.size w ((w.alloc (.cells A 34)).alloc (.cells zeros34 34)) := ((Below.refl _ w).alloc (Nat.le_refl _) _).alloc (by simp) _
  have HCI := hide hci
  have HR := hide hr
  have hr15 : (r : Int) < 15 := by omega
  have hm4 : 4 * nr ≤ 60 := by omega
  clear hci hr
  go_enter Try.func53, Try.ntmps53
  go_upto_region 1 with fail
  generalize ((w.alloc (.cells A 34)).alloc (.cells zeros34 34)) = w1 at *
  rw [← hA] at h0
  have H0 := hide h0
  have H2 := hide h2
  clear h0 h2 hA
  go_wp2_with fail
  go_loopw [7] (fun i wr => ∃ (k : Nat) (m : List UInt8), k ≤ 16 ∧ i = .int .i64 k ∧ Hid (Mid (fun i => s.getD i 0 ^^^ all.getD (16 * r + i) 0) s m k) ∧ Hid (Blk wr w.heap.size 34 (bytes m).toArray) ∧ Hid (Blk wr (w.heap.size + 1) 34 zeros34) ∧ Below w.heap.size w wr) (fun i _ => 16 - (intOf i).toNat)
  case atStart => exact ⟨0, s, by omega, rfl, hide (Mid.start _ hs), H0, H2, hbe⟩
  case round =>
    clear H0 H2 hbe
    obtain ⟨k, m, hk, rfl, hv, H0, H2, hbe⟩ := hrel
    have hm := hv.out.1
    by_cases hlt : k < 16
    · have f0 := blk_byte H0.out (show k < m.length by omega)
      have hci := HCI.out.below hbe
      have f3 := hci.slice
      have f4 := hci.key HR.out hlt
      have f5 : wr.frozen? ⟨w.heap.size, k, none⟩ = false := Blk.frozen H0.out _
      clear hci
      have hx1 := key_index r k (by omega) hlt
      have hx2 : (k : Int).tmod (4 : Int) = ((k % 4 : Nat) : Int) := by
        rw [Int.tmod_eq_emod_of_nonneg (by omega)]
        rfl
      have z1 : (0 : Int) ≤ ((4 * r + k / 4 : Nat) : Int) := by omega
      have z2 : ((4 * r + k / 4 : Nat) : Int) < ((4 * nr : Nat) : Int) := by have := HR.out; omega
      have z3 : (0 : Int) ≤ ((k % 4 : Nat) : Int) := by omega
      have z4 : ((k % 4 : Nat) : Int) < (4 : Int) := by omega
      generalize hx : m.getD k 0 = x at f0
      generalize hy : all.getD (16 * r + k) 0 = y at f4
      have Hx := hide hx
      have Hy := hide hy
      clear hx hy
      generalize 4 * r + k / 4 = ix at f4 hx1 z1 z2
      generalize k % 4 = kr at f4 hx2 z3 z4
      generalize 4 * nr = m4 at f3 z2
      go_wp2_with fail
      go_still_tail 20, (by kernel_rfl)
      go_wp2
      go_roundw
      case rel => exact ⟨k + 1, _, by omega, by go_num, hide (hv.out.step hlt (by rw [← Hx.out, ← Hy.out, hv.out.at_ hlt])), hide (Blk.drew (blk_put H0.out k (x ^^^ y))), hide (Blk.drew (Blk.far H2.out (by simp) _)), (hbe.setCell (Nat.le_refl _) _).drew⟩
      case measure => simp only [intOf]; omega
    · obtain rfl : k = 16 := by omega
      have e : m = Cip.add all r s := hv.out.stop
      subst e
      have hlen : (bytes (Cip.add all r s)).length = 16 := by rw [bytes_length, hm]
      have hstored := stored34' hm H2.out rfl
      have hrange := hide (blk_whole H0.out)
      have h34 := hide (size34' hm)
      clear hv
      go_wp2_with (with_reducible refine wpList_load_mid rfl 34 (.tmp 4) rfl w.heap.size 0 rfl (bytes (Cip.add all r s)) _ hrange.out Try.underlying34 rfl h34.out ?_)
      refine bodyPost_ret (results_cell_row rfl _ _ (w.heap.size + 1) 34 (bytes (Cip.add all r s)).toArray (0, 0) _ rfl (setRow_heap _ _ _ _ _ _ H2.out) Try.underlying34 rfl (by rw [List.size_toArray]; exact h34.out)) rfl ?_
      exact ⟨rfl, below_setRow hbe (by omega) _⟩
end Go.Proofs.Ytjcdblnodbadcaa
