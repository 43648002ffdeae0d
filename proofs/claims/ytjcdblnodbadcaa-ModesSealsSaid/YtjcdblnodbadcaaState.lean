/- The cipher and its state in memory; the walks of the program's steps. -/
import Derived.Test.YtjcdblnodbadcaaMem
import Derived.StillTailTactics
namespace Go.Proofs.Ytjcdblnodbadcaa
open Go.RowKit

/-- a state's block: the cipher's address, sixteen bytes, the round -/
def stCells (p : Nat) (s : List UInt8) (r : Nat) : Array Value := (Value.pointer (some ⟨p, 0, none⟩) :: (bytes s ++ [.int .i64 (r : Int)])).toArray
/-- a cipher's block: the round keys, both boxes -/
def ciCells (kb nr kc : Nat) : Array Value := (Value.slice (some ⟨kb, 0, none⟩) nr kc :: (bytes Fld.tab ++ bytes Fld.untab)).toArray
def St (w : World) (g p : Nat) (s : List UInt8) (r : Nat) : Prop := Blk w g 62 (stCells p s r)
/-- a cipher in memory: its block, and the keys' -/
structure Ci (w : World) (p kb nr kc : Nat) (all : List UInt8) : Prop where
  blk : Blk w p 59 (ciCells kb nr kc)
  keys : ∃ cur, Blk w kb 34 cur ∧ ∀ j, j < 16 * nr → cur[j]? = some (.int .u8 (I (all.getD j 0)))
  one : 1 ≤ nr
  few : nr ≤ 15
  room : nr ≤ kc

section
variable {w w' : World} {g p kb nr kc r : Nat} {s all : List UInt8}
theorem St.ptr (h : St w g p s r) : w.cell? ⟨g, 0, none⟩ = some (.pointer (some ⟨p, 0, none⟩)) := (Blk.cell h 0).trans rfl
theorem St.byte (h : St w g p s r) (hs : s.length = 16) {i : Nat} (hi : i < 16) : w.cell? ⟨g, 1 + i, none⟩ = some (.int .u8 (I (s.getD i 0))) := by
  refine (Blk.cell h (1 + i)).trans ?_
  simp only [stCells, List.getElem?_toArray, Nat.add_comm 1 i, List.getElem?_cons_succ]
  rw [List.getElem?_append_left (by rw [bytes_length]; omega)]
  exact bytes_get (by omega)
theorem St.round (h : St w g p s r) (hs : s.length = 16) : w.cell? ⟨g, 17, none⟩ = some (.int .i64 (r : Int)) := by
  refine (Blk.cell h 17).trans ?_
  simp only [stCells, List.getElem?_toArray, List.getElem?_cons_succ]
  rw [List.getElem?_append_right (by rw [bytes_length]; omega), bytes_length, hs]
  rfl
theorem Ci.slice (h : Ci w p kb nr kc all) : w.cell? ⟨p, 0, none⟩ = some (.slice (some ⟨kb, 0, none⟩) nr kc) :=
  (Blk.cell h.blk 0).trans (by simp only [ciCells, List.getElem?_toArray, List.getElem?_cons_zero])
theorem tab_len : Fld.tab.length = 256 := by decide +kernel
theorem untab_len : Fld.untab.length = 256 := by decide +kernel
theorem Ci.box (h : Ci w p kb nr kc all) (x : UInt8) : w.cell? ⟨p, 1 + x.toNat, none⟩ = some (.int .u8 (I (Fld.sb x))) := by
  refine (Blk.cell h.blk (1 + x.toNat)).trans ?_
  have := x.toNat_lt
  simp only [ciCells, List.getElem?_toArray, Nat.add_comm 1 x.toNat, List.getElem?_cons_succ]
  rw [List.getElem?_append_left (by rw [bytes_length, tab_len]; omega)]
  exact bytes_get (by rw [tab_len]; omega)
theorem Ci.unbox (h : Ci w p kb nr kc all) (x : UInt8) : w.cell? ⟨p, 257 + x.toNat, none⟩ = some (.int .u8 (I (Fld.ub x))) := by
  refine (Blk.cell h.blk (257 + x.toNat)).trans ?_
  have := x.toNat_lt
  simp only [ciCells, List.getElem?_toArray, show 257 + x.toNat = (256 + x.toNat) + 1 by omega, List.getElem?_cons_succ]
  rw [List.getElem?_append_right (by rw [bytes_length, tab_len]; omega), bytes_length, tab_len, show 256 + x.toNat - 256 = x.toNat by omega]
  exact bytes_get (by rw [untab_len]; omega)
theorem Ci.key (h : Ci w p kb nr kc all) {r i : Nat} (hr : r < nr) (hi : i < 16) : w.cell? ⟨kb, r * 16 + i, none⟩ = some (.int .u8 (I (all.getD (16 * r + i) 0))) := by
  obtain ⟨cur, hb, hc⟩ := h.keys
  refine (Blk.cell hb _).trans ?_
  rw [Nat.mul_comm r 16]
  exact hc _ (by omega)
theorem Ci.lt (h : Ci w p kb nr kc all) : p < w.heap.size := Blk.lt h.blk
theorem Ci.ltk (h : Ci w p kb nr kc all) : kb < w.heap.size := by obtain ⟨cur, hb, _⟩ := h.keys; exact Blk.lt hb
/-- another block is written, or new ones are laid -/
theorem Ci.kept {row : Option Nat} (h : Ci w p kb nr kc all) (hg : w.grownBy w' row) (h1 : some p ≠ row) (h2 : some kb ≠ row) : Ci w' p kb nr kc all :=
  ⟨Blk.grown h.blk hg h1, by obtain ⟨cur, hb, hc⟩ := h.keys; exact ⟨cur, Blk.grown hb hg h2, hc⟩, h.one, h.few, h.room⟩
theorem St.set_byte (h : St w g p s r) (hs : s.length = 16) {i : Nat} (hi : i < 16) (x : UInt8) : St (w.setCell ⟨g, 1 + i, none⟩ (.int .u8 (I x))) g p (s.set i x) r := by
  have := Blk.set_ h (1 + i) (.int .u8 (I x))
  unfold St
  have e : (stCells p s r).setIfInBounds (1 + i) (.int .u8 (I x)) = stCells p (s.set i x) r := by
    simp only [stCells, List.setIfInBounds_toArray, Nat.add_comm 1 i, List.set_cons_succ]
    congr 2
    rw [List.set_append_left _ _ (by rw [bytes_length]; omega)]
    simp [bytes, List.map_set]
  rw [← e]
  exact this
end

theorem only_set {a w : World} {g : Nat} (h : a.grownBy w (some g)) (o : Nat) (u : Value) : a.grownBy (w.setCell ⟨g, o, none⟩ u) (some g) :=
  ⟨h.os, h.tape, h.output, by simpa [World.setCell] using h.size, fun i hi hne => (Below.heap_setCell w ⟨g, o, none⟩ u i (by rintro rfl; exact hne rfl)).trans (h.block i hi hne)⟩
theorem only_drew {a w : World} {row : Option Nat} (h : a.grownBy w row) : a.grownBy w.drew row := ⟨h.os, h.tape, h.output, h.size, h.block⟩
theorem only_drewN {a w : World} {row : Option Nat} (h : a.grownBy w row) (n : Nat) : a.grownBy (w.drewN n) row := ⟨h.os, h.tape, h.output, h.size, h.block⟩
theorem only_alloc {a w : World} {row : Option Nat} (h : a.grownBy w row) (o : Obj) : a.grownBy (w.alloc o) row :=
  ⟨h.os, h.tape, h.output, Nat.le_trans h.size (by simp), fun i hi hne => (Below.heap_alloc w o i (Nat.lt_of_lt_of_le hi h.size)).trans (h.block i hi hne)⟩
theorem set_getD {m : List UInt8} {k : Nat} (hk : k < m.length) (v : UInt8) (i : Nat) : (m.set k v).getD i 0 = if i = k then v else m.getD i 0 := by
  simp only [List.getD, List.getElem?_set]
  by_cases e : k = i
  · subst e; simp [hk]
  · rw [if_neg e, if_neg (fun h => e h.symm)]
/-- what the bytes are in the middle of a loop over them -/
def Mid (f : Nat → UInt8) (s m : List UInt8) (k : Nat) : Prop := m.length = 16 ∧ ∀ i, i < 16 → m.getD i 0 = if i < k then f i else s.getD i 0
theorem Mid.start (f : Nat → UInt8) {s : List UInt8} (hs : s.length = 16) : Mid f s s 0 := ⟨hs, fun i _ => by simp⟩
theorem Mid.step {f : Nat → UInt8} {s m : List UInt8} {k : Nat} (h : Mid f s m k) (hk : k < 16) {v : UInt8} (hv : v = f k) : Mid f s (m.set k v) (k + 1) := by
  subst hv
  refine ⟨by rw [List.length_set]; exact h.1, fun i hi => ?_⟩
  rw [set_getD (by rw [h.1]; exact hk), h.2 i hi]
  by_cases e : i = k
  · subst e; simp
  · by_cases e2 : i < k
    · rw [if_neg e, if_pos e2, if_pos (by omega)]
    · rw [if_neg e, if_neg e2, if_neg (by omega)]
theorem Mid.stop {f : Nat → UInt8} {s m : List UInt8} (h : Mid f s m 16) : m = Cip.t16 f := by
  rw [← Cip.t16_self h.1]
  exact Cip.t16_congr fun i hi => by rw [h.2 i hi, if_pos hi]
theorem Mid.at_ {f : Nat → UInt8} {s m : List UInt8} {k : Nat} (h : Mid f s m k) (hk : k < 16) : m.getD k 0 = s.getD k 0 := by rw [h.2 k hk, if_neg (by omega)]

set_option maxRecDepth 100000 in
set_option maxHeartbeats 1600000 in
theorem add_any (g p kb nr kc r : Nat) (s all : List UInt8) (w : World) (hst : St w g p s r) (hs : s.length = 16) (hci : Ci w p kb nr kc all) (hr : r < nr) (hgp : p ≠ g) (hgk : kb ≠ g) :
    Calls Try.prog 45 #[.pointer (some ⟨g, 0, none⟩)] w fun e w' => e = .returned (.tuple #[]) ∧ St w' g p (Cip.add all r s) r ∧ w.grownBy w' (some g) := by
  have hnr := hci.few
  have hrm := hci.room
  have HST := hide hst
  have HCI := hide hci
  clear hst hci
  go_enter Try.func45, Try.ntmps45
  go_wp2
  go_loopw [2, 3] (fun _ i wr => ∃ (k : Nat) (m : List UInt8), k ≤ 16 ∧ i = .int .i64 k ∧ Hid (Mid (fun i => s.getD i 0 ^^^ all.getD (16 * r + i) 0) s m k) ∧ Hid (St wr g p m r) ∧ w.grownBy wr (some g)) (fun _ i _ => 16 - (intOf i).toNat)
  case atStart => exact ⟨0, s, by omega, rfl, hide (Mid.start _ hs), HST, World.grownBy.refl _ _⟩
  case round =>
    obtain ⟨k, m, hk, rfl, hv, hst, hgr⟩ := hrel
    have hm := hv.out.1
    by_cases hlt : k < 16
    · have hci := HCI.out.kept hgr (by simpa using hgp) (by simpa using hgk)
      have f0 := hst.out.ptr
      have f1 := hst.out.byte hm hlt
      have f2 := hst.out.round hm
      have f3 := hci.slice
      have f4 := hci.key hr hlt
      have f5 : wr.frozen? ⟨g, 1 + k, none⟩ = false := Blk.frozen hst.out _
      clear hci
      generalize hx : m.getD k 0 = x at f1
      generalize hy : all.getD (16 * r + k) 0 = y at f4
      have Hx := hide hx
      have Hy := hide hy
      clear hx hy
      go_wp2_with fail
      go_still_tail 25, (by kernel_rfl)
      go_wp2
      go_roundw
      case rel => exact ⟨k + 1, _, by omega, by go_num, hide (hv.out.step hlt (by rw [← Hx.out, ← Hy.out, hv.out.at_ hlt])), hide (hst.out.set_byte hm hlt _), only_drew (only_set hgr _ _)⟩
      case measure => simp only [intOf]; omega
    · obtain rfl : k = 16 := by omega
      go_wp2
      go_end0
      refine ⟨rfl, ?_, hgr⟩
      have e : m = Cip.add all r s := hv.out.stop
      rw [← e]
      exact hst.out
end Go.Proofs.Ytjcdblnodbadcaa
