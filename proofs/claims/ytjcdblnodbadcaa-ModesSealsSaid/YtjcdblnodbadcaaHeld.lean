/- Steps of drawn regions by hand: whole arrays loaded at an address, stored into a block. -/
import Derived.Test.YtjcdblnodbadcaaXor
import Derived.Deep.RegionHeld3
import Derived.Laws.Cover3
namespace Go.Proofs.Ytjcdblnodbadcaa
open Go.RowKit

theorem load34_at {w : World} {B : Nat} {ad : Addr} {s : List UInt8} (h : Reads w B 1 (some ad) 16 (bytes s)) (hs : s.length = 16) : (loadVar 34 ad).run Try.prog w = .ok (.agg (bytes s).toArray) w := by
  have hl : (loadCells ad (bytes s).length).run Try.prog w = .ok (bytes s).toArray w :=
    run_loadCells_list (P := Try.prog) w ad (bytes s) (fun j v hj => by
      obtain ⟨ad', e, _, hc⟩ := h.2 (by omega)
      injection e with e
      subst e
      exact hc j v hj)
  have hi := size34' hs
  cases hq : Try.prog.info? 34 with
  | none => simp [hq] at hi
  | some i =>
    have hs' : i.size = (bytes s).length := by simpa [hq] using hi
    have hagg : (isAgg 34).run Try.prog w = .ok true w := by
      unfold isAgg
      rw [Sem.run_bind, run_underlying Try.underlying34 w]
      rfl
    simp [loadVar, Sem.run_bind, hagg, sizeOf, typeInfo, hq, hs', hl]
section
variable {P : Program} {ops : Array Oper} {S : World → Prop} {op : Oper} {a : Act}
theorem yieldsIf_load_at (hw : Region.wanted op (yielded ops a.tmps) = true) (ty : TypeId) (x : Operand) (ho : op.op = .load ty x)
    (ad : Addr) (hx : a.eval x = .pointer (some ad)) (v : Value) (hS : ∀ w, S w → (loadVar ty ad).run P w = .ok v w) : YieldsIf P ops S op v a :=
  .inl ⟨hw, fun w hw' => by
    unfold execOp
    simp only [ho, hx, Instr.loadAt, Instr.sureAddr, Sem.run_bind, Sem.run_pure, Result.andThen_ok, hS w hw']⟩
theorem wpList_load_at {rest : List Oper} {w : World} {Q : Exit → Act → World → Prop} (hgd : op.guard = none) (ty : TypeId) (x : Operand) (ho : op.op = .load ty x)
    (ad : Addr) (hx : a.eval x = .pointer (some ad)) (v : Value) (hl : (loadVar ty ad).run P w = .ok v w) (h : wpList P ops Q rest (a.put op.dst v) w) : wpList P ops Q (op :: rest) a w :=
  wpList_plain hgd fun K hK => by
    unfold Oper.wp execOp
    simp only [ho, hx, Instr.loadAt, Instr.sureAddr, Sem.run_bind, Sem.run_pure, Result.andThen_ok, hl]
    exact hK _ _ h
theorem wp_store34 {w : World} {K : Act → World → Prop} {Q : Exit → Act → World → Prop} (x y : Operand) (ho : op.op = .store 34 x y)
    (g : Nat) (old : Array Value) (s : List UInt8) (hx : a.eval x = .pointer (some ⟨g, 0, none⟩)) (hy : a.eval y = .agg (bytes s).toArray)
    (hg : Blk w g 34 old) (hs : s.length = 16) (hold : old.size = 16) (h : K (a.put op.dst undef) (w.setRow g (bytes s).toArray)) : op.wp Try.prog a w K Q := by
  unfold Oper.wp execOp
  simp only [ho, hx, hy, Instr.storeAt, Instr.sureAddr, Sem.run_bind, Sem.run_pure, Result.andThen_ok,
    run_storeVar_row w g 34 34 old (bytes s).toArray hg (by rw [List.size_toArray]; exact size34' hs) (by rw [hold, List.size_toArray, bytes_length, hs]) (by rw [List.all_toArray]; exact List.all_eq_true.2 (bytes_one s))]
  exact h
end
section
variable {w : World} {g : Nat}
theorem Blk.setRow {t : TypeId} {old : Array Value} (h : Blk w g t old) (cs : Array Value) : Blk (w.setRow g cs) g t cs := setRow_heap _ _ _ _ _ _ h
theorem Blk.setRow_far {g' : Nat} {t : TypeId} {cs : Array Value} (h : Blk w g t cs) (hne : g ≠ g') (c : Array Value) : Blk (w.setRow g' c) g t cs := by
  unfold Blk at h ⊢
  simp [World.setRow, Array.getElem?_modify, hne.symm, h]
theorem Reads.setRow {B size n : Nat} {A : Option Addr} {xs : List Value} (h : Reads w B size A n xs) (hB : B ≤ g) (c : Array Value) : Reads (w.setRow g c) B size A n xs :=
  h.keep fun p hp => World.cell?_of_block (by
    simp only [World.setRow, Array.getElem?_modify]
    rw [if_neg (by omega)])
theorem only_setRow (w : World) (g : Nat) (c : Array Value) : w.grownBy (w.setRow g c) (some g) :=
  ⟨rfl, rfl, rfl, by simp [World.setRow], fun i hi hne => by
    simp only [World.setRow, Array.getElem?_modify]
    rw [if_neg (fun h => hne (by rw [h]))]⟩
end
theorem Ci.ne_blk {w : World} {p kb nr kc g : Nat} {all : List UInt8} {old : Array Value} (h : Ci w p kb nr kc all) (h2 : 2 ≤ nr) (hg : Blk w g 34 old) (ho : old.size = 16) : p ≠ g ∧ kb ≠ g := by
  refine ⟨Blk.ne_ h.blk hg (by decide), fun e => ?_⟩
  subst e
  obtain ⟨cur, hk, hc⟩ := h.keys
  unfold Blk at hk hg
  rw [hk] at hg
  injection hg with hg
  injection hg with hg
  subst hg
  have := hc 16 (by omega)
  rw [Array.getElem?_eq_none (by omega)] at this
  cases this
theorem reads_setRow_ne {w : World} {B g g' off n : Nat} {xs : List Value} (h : Reads w B 1 (some ⟨g, off, none⟩) n xs) (hne : g ≠ g') (c : Array Value) : Reads (w.setRow g' c) B 1 (some ⟨g, off, none⟩) n xs :=
  ⟨h.1, fun hn => by
    obtain ⟨ad, e, hb, hc⟩ := h.2 hn
    refine ⟨ad, e, hb, fun j u hu => (World.cell?_of_block ?_).trans (hc j u hu)⟩
    injection e with e
    subst e
    simp only [World.setRow, Array.getElem?_modify, Addr.add_lit]
    rw [if_neg (fun h => hne h.symm)]⟩
end Go.Proofs.Ytjcdblnodbadcaa
