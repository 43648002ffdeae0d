/- The walks of the program's steps: sub, unsub, rows. -/
import Derived.Test.YtjcdblnodbadcaaState
import Derived.Deep.MidRow
import Derived.Deep.WholeRow
namespace Go.Proofs.Ytjcdblnodbadcaa
open Go.RowKit

theorem size34 : (Try.prog.info? 34).map (·.size) = some 16 := by kernel_rfl
theorem St.range {w : World} {g p r : Nat} {s : List UInt8} (h : St w g p s r) (hs : s.length = 16) : w.rangeAt g 1 (bytes s) := fun j v hj => by
  have hjl : j < 16 := by
    have := (List.getElem?_eq_some_iff.1 hj).1
    rwa [bytes_length, hs] at this
  rw [bytes_get (by omega)] at hj
  injection hj with hj
  subst hj
  exact h.byte hs hjl
theorem St.alloc {w : World} {g p r : Nat} {s : List UInt8} (h : St w g p s r) (o : Obj) : St (w.alloc o) g p s r := Blk.alloc h o
theorem St.drew {w : World} {g p r : Nat} {s : List UInt8} (h : St w g p s r) : St w.drew g p s r := h
theorem size34' {s : List UInt8} (hs : s.length = 16) : (Try.prog.info? 34).map (·.size) = some (bytes s).length := by rw [size34, bytes_length, hs]
theorem index16 {l : List UInt8} (hl : l.length = 16) {k : Nat} (hk : k < 16) (w : World) :
    (Instr.index 34 (.agg (bytes l).toArray) (.int .i64 (k : Int))).run Try.prog w = .ok (.int .u8 (I (l.getD k 0))) w := by
  have hg : (bytes l)[k]? = some (.int .u8 (I (l.getD k 0))) := bytes_get (by omega)
  simp [Instr.index, asIntOf, run_underlying Try.underlying34, part, isAgg, run_underlying Try.underlying5, hk, hg]
set_option maxRecDepth 100000 in
set_option maxHeartbeats 1600000 in
theorem sub_any (g p kb nr kc r : Nat) (s all : List UInt8) (w : World) (hst : St w g p s r) (hs : s.length = 16) (hci : Ci w p kb nr kc all) (hgp : p ≠ g) (hgk : kb ≠ g) :
    Calls Try.prog 46 #[.pointer (some ⟨g, 0, none⟩)] w fun e w' => e = .returned (.tuple #[]) ∧ St w' g p (Cip.sub s) r ∧ w.grownBy w' (some g) := by
  have HST := hide hst
  have HCI := hide hci
  have hra := hide (hst.range hs)
  have h34 := hide (size34' hs)
  have hix := fun (k : Nat) (hk : k < 16) (w : World) => index16 hs hk w
  have HIX := hide hix
  clear hst hci hix
  go_enter Try.func46, Try.ntmps46
  go_wp2_with (with_reducible refine wpList_load_mid rfl 34 (.tmp 6) rfl g 1 rfl (bytes s) _ hra.out Try.underlying34 rfl h34.out ?_)
  go_loopw [2, 3, 8] (fun _ _ i wr => ∃ (k : Nat) (m : List UInt8), k ≤ 16 ∧ i = .int .i64 k ∧ Hid (Mid (fun i => Fld.sb (s.getD i 0)) s m k) ∧ Hid (St wr g p m r) ∧ w.grownBy wr (some g)) (fun _ _ i _ => 16 - (intOf i).toNat)
  case atStart => exact ⟨0, s, by omega, rfl, hide (Mid.start _ hs), HST, World.grownBy.refl _ _⟩
  case round =>
    obtain ⟨k, m, hk, rfl, hv, hst, hgr⟩ := hrel
    have hm := hv.out.1
    by_cases hlt : k < 16
    · have hci := HCI.out.kept hgr (by simpa using hgp) (by simpa using hgk)
      have hi := HIX.out k hlt
      generalize hx : s.getD k 0 = x at hi
      have Hx := hide hx
      clear hx
      have f0 := hst.out.ptr
      have f3 : wr.cell? ⟨p, 1 + (I x).toNat, none⟩ = some (.int .u8 (I (Fld.sb x))) := hci.box x
      have hb1 : (0 : Int) ≤ I x := (I_bd x).1
      have hb2 : I x < (256 : Int) := by have := (I_bd x).2; omega
      have f5 : wr.frozen? ⟨g, 1 + k, none⟩ = false := Blk.frozen hst.out _
      have f6 := hst.out.byte hm hlt
      clear hci
      go_wp2_with fail
      go_still_tail 14, (by kernel_rfl)
      go_wp2
      go_roundw
      case rel => exact ⟨k + 1, _, by omega, by go_num, hide (hv.out.step hlt (by rw [← Hx.out])), hide (hst.out.set_byte hm hlt _), only_drew (only_set hgr _ _)⟩
      case measure => simp only [intOf]; omega
    · obtain rfl : k = 16 := by omega
      go_wp2
      go_end0
      refine ⟨rfl, ?_, hgr⟩
      have e : m = Cip.sub s := hv.out.stop
      rw [← e]
      exact hst.out
set_option maxRecDepth 100000 in
set_option maxHeartbeats 1600000 in
theorem unsub_any (g p kb nr kc r : Nat) (s all : List UInt8) (w : World) (hst : St w g p s r) (hs : s.length = 16) (hci : Ci w p kb nr kc all) (hgp : p ≠ g) (hgk : kb ≠ g) :
    Calls Try.prog 51 #[.pointer (some ⟨g, 0, none⟩)] w fun e w' => e = .returned (.tuple #[]) ∧ St w' g p (Cip.unsub s) r ∧ w.grownBy w' (some g) := by
  have HST := hide hst
  have HCI := hide hci
  have hra := hide (hst.range hs)
  have h34 := hide (size34' hs)
  have hix := fun (k : Nat) (hk : k < 16) (w : World) => index16 hs hk w
  have HIX := hide hix
  clear hst hci hix
  go_enter Try.func51, Try.ntmps51
  go_wp2_with (with_reducible refine wpList_load_mid rfl 34 (.tmp 6) rfl g 1 rfl (bytes s) _ hra.out Try.underlying34 rfl h34.out ?_)
  go_loopw [2, 3, 8] (fun _ _ i wr => ∃ (k : Nat) (m : List UInt8), k ≤ 16 ∧ i = .int .i64 k ∧ Hid (Mid (fun i => Fld.ub (s.getD i 0)) s m k) ∧ Hid (St wr g p m r) ∧ w.grownBy wr (some g)) (fun _ _ i _ => 16 - (intOf i).toNat)
  case atStart => exact ⟨0, s, by omega, rfl, hide (Mid.start _ hs), HST, World.grownBy.refl _ _⟩
  case round =>
    obtain ⟨k, m, hk, rfl, hv, hst, hgr⟩ := hrel
    have hm := hv.out.1
    by_cases hlt : k < 16
    · have hci := HCI.out.kept hgr (by simpa using hgp) (by simpa using hgk)
      have hi := HIX.out k hlt
      generalize hx : s.getD k 0 = x at hi
      have Hx := hide hx
      clear hx
      have f0 := hst.out.ptr
      have f3 : wr.cell? ⟨p, 257 + (I x).toNat, none⟩ = some (.int .u8 (I (Fld.ub x))) := hci.unbox x
      have hb1 : (0 : Int) ≤ I x := (I_bd x).1
      have hb2 : I x < (256 : Int) := by have := (I_bd x).2; omega
      have f5 : wr.frozen? ⟨g, 1 + k, none⟩ = false := Blk.frozen hst.out _
      have f6 := hst.out.byte hm hlt
      clear hci
      go_wp2_with fail
      go_still_tail 14, (by kernel_rfl)
      go_wp2
      go_roundw
      case rel => exact ⟨k + 1, _, by omega, by go_num, hide (hv.out.step hlt (by rw [← Hx.out])), hide (hst.out.set_byte hm hlt _), only_drew (only_set hgr _ _)⟩
      case measure => simp only [intOf]; omega
    · obtain rfl : k = 16 := by omega
      go_wp2
      go_end0
      refine ⟨rfl, ?_, hgr⟩
      have e : m = Cip.unsub s := hv.out.stop
      rw [← e]
      exact hst.out

/-! ### rows -/

abbrev zeros34 : Array Value := #[.int .u8 0, .int .u8 0, .int .u8 0, .int .u8 0, .int .u8 0, .int .u8 0, .int .u8 0, .int .u8 0, .int .u8 0, .int .u8 0, .int .u8 0, .int .u8 0, .int .u8 0, .int .u8 0, .int .u8 0, .int .u8 0]
/-- a whole array is stored into the block that was made last -/
theorem stored34 {s : List UInt8} (hs : s.length = 16) (w : World) :
    (storeCells ⟨w.heap.size, 0, none⟩ (bytes s) 0).run Try.prog (w.alloc (.cells zeros34 34)) = .ok () (w.alloc (.cells (bytes s).toArray 34)) :=
  run_storeCells_new (P := Try.prog) w 34 zeros34 (bytes s).toArray (by rw [List.size_toArray]; exact size34' hs) (show 16 = (bytes s).toArray.size by rw [List.size_toArray, bytes_length, hs])
    (by rw [List.all_toArray]; exact List.all_eq_true.2 (bytes_one s))

theorem rows_index (n : Int) (F : Nat → Nat) (k : Nat) (hk : k < 16) (hn : n = 1 ∨ n = -1) (hF : ((k : Int) + n * 4 * ((k : Int) % 4) + 64) % 16 = (F k : Int)) :
    (IntKind.i64.wrap (IntKind.i64.wrap ((k : Int) + IntKind.i64.wrap (IntKind.i64.wrap (n * 4) * (k : Int).tmod 4)) + 64)).tmod 16 = (F k : Int) := by
  rw [← hF, Int.tmod_eq_emod_of_nonneg (by omega : (0 : Int) ≤ (k : Int))]
  have h1 : IntKind.i64.wrap (n * 4) = n * 4 := IntWalk.i64_in _ (by omega)
  have h2 : IntKind.i64.wrap (n * 4 * ((k : Int) % 4)) = n * 4 * ((k : Int) % 4) := IntWalk.i64_in _ (by rcases hn with rfl | rfl <;> omega)
  have h3 : IntKind.i64.wrap ((k : Int) + n * 4 * ((k : Int) % 4)) = (k : Int) + n * 4 * ((k : Int) % 4) := IntWalk.i64_in _ (by rcases hn with rfl | rfl <;> omega)
  have h4 : IntKind.i64.wrap ((k : Int) + n * 4 * ((k : Int) % 4) + 64) = (k : Int) + n * 4 * ((k : Int) % 4) + 64 := IntWalk.i64_in _ (by rcases hn with rfl | rfl <;> omega)
  rw [h1, h2, h3, h4, Int.tmod_eq_emod_of_nonneg (by rcases hn with rfl | rfl <;> omega)]

set_option maxRecDepth 100000 in
set_option maxHeartbeats 1600000 in
theorem rows_any (g p r : Nat) (s : List UInt8) (n : Int) (F : Nat → Nat) (w : World) (hst : St w g p s r) (hs : s.length = 16) (hF : ∀ k, k < 16 → F k < 16 ∧ ((k : Int) + n * 4 * ((k : Int) % 4) + 64) % 16 = (F k : Int)) (hn : n = 1 ∨ n = -1) :
    Calls Try.prog 63 #[.pointer (some ⟨g, 0, none⟩), .int .i64 n] w fun e w' => e = .returned (.tuple #[]) ∧ St w' g p (Cip.t16 fun i => s.getD (F i) 0) r ∧ w.grownBy w' (some g) := by
  have HST := hide hst
  have hgl := hide (Blk.lt hst)
  have h34 := hide (size34' hs)
  have HF := hide hF
  have hlen : (bytes s).length = 16 := by rw [bytes_length, hs]
  have hstored := stored34 hs w
  clear hst hF
  go_enter Try.func63, Try.ntmps63
  go_wp2_with (with_reducible refine wpList_load_mid rfl 34 (.tmp 8) rfl g 1 rfl (bytes s) _ (HST.out.range hs) Try.underlying34 rfl h34.out ?_)
  clear hstored hlen
  go_loopw [5, 10] (fun _ i wr => ∃ (k : Nat) (m : List UInt8), k ≤ 16 ∧ i = .int .i64 k ∧ Hid (Mid (fun i => s.getD (F i) 0) s m k) ∧ Hid (St wr g p m r) ∧ Hid (Blk wr w.heap.size 34 (bytes s).toArray) ∧ w.grownBy wr (some g)) (fun _ i _ => 16 - (intOf i).toNat)
  case atStart => exact ⟨0, s, by omega, rfl, hide (Mid.start _ hs), hide (HST.out.alloc _), hide (Blk.new _ _ _), only_alloc (World.grownBy.refl _ _) _⟩
  case round =>
    obtain ⟨k, m, hk, rfl, hv, hst, hbk, hgr⟩ := hrel
    have hm := hv.out.1
    by_cases hlt : k < 16
    · have f5 : wr.frozen? ⟨g, 1 + k, none⟩ = false := Blk.frozen hst.out _
      have f6 := hst.out.byte hm hlt
      obtain ⟨hF1, hF2⟩ := HF.out k hlt
      have f4 : wr.cell? ⟨w.heap.size, F k, none⟩ = some (.int .u8 (I (s.getD (F k) 0))) := (Blk.cell hbk.out _).trans (by rw [List.getElem?_toArray]; exact bytes_get (by omega))
      generalize hx : s.getD (F k) 0 = x at f4
      have Hx := hide hx
      clear hx
      have hidx := rows_index n F k hlt hn hF2
      have hi0 : (0 : Int) ≤ (F k : Int) := by omega
      have hi1 : (F k : Int) < (16 : Int) := by omega
      clear hF1 hF2 hn
      go_wp2_with fail
      go_still_tail 16, (by kernel_rfl)
      go_wp2
      go_roundw
      case rel => exact ⟨k + 1, _, by omega, by go_num, hide (hv.out.step hlt (by rw [← Hx.out])), hide (hst.out.set_byte hm hlt _), hide (Blk.far hbk.out (by simpa using (Nat.ne_of_lt hgl.out).symm) _), only_drew (only_set hgr _ _)⟩
      case measure => simp only [intOf]; omega
    · obtain rfl : k = 16 := by omega
      go_wp2
      go_end0
      refine ⟨rfl, ?_, hgr⟩
      have e : m = Cip.t16 fun i => s.getD (F i) 0 := hv.out.stop
      rw [← e]
      exact hst.out
/-! ### shift, unshift -/
theorem shift_any (g p r : Nat) (s : List UInt8) (w : World) (hst : St w g p s r) (hs : s.length = 16) :
    Calls Try.prog 47 #[.pointer (some ⟨g, 0, none⟩)] w fun e w' => e = .returned (.tuple #[]) ∧ St w' g p (Cip.shift s) r ∧ w.grownBy w' (some g) := by
  have HST := hide hst
  clear hst
  go_enter Try.func47, Try.ntmps47
  go_wp2_with fail
  refine (rows_any g p r s 1 (fun k => (k + 4 * (k % 4)) % 16) w HST.out hs (fun k hk => by omega) (.inl rfl)).mono ?_
  rintro e w' ⟨rfl, h1, h2⟩
  go_wp2
  go_end0
  exact ⟨rfl, h1, h2⟩
theorem unshift_any (g p r : Nat) (s : List UInt8) (w : World) (hst : St w g p s r) (hs : s.length = 16) :
    Calls Try.prog 50 #[.pointer (some ⟨g, 0, none⟩)] w fun e w' => e = .returned (.tuple #[]) ∧ St w' g p (Cip.unshift s) r ∧ w.grownBy w' (some g) := by
  have HST := hide hst
  clear hst
  go_enter Try.func50, Try.ntmps50
  go_wp2_with fail
  refine (rows_any g p r s (-1) (fun k => (k + 64 - 4 * (k % 4)) % 16) w HST.out hs (fun k hk => by omega) (.inr rfl)).mono ?_
  rintro e w' ⟨rfl, h1, h2⟩
  go_wp2
  go_end0
  exact ⟨rfl, h1, h2⟩
end Go.Proofs.Ytjcdblnodbadcaa
