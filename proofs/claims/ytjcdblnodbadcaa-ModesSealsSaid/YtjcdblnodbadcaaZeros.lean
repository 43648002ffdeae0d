/- sixteen zeros appended onto a row of the call's own. -/
import Derived.Test.YtjcdblnodbadcaaFew
import Derived.Lib.AppendZerosOnto
namespace Go.Proofs.Ytjcdblnodbadcaa
open Go.RowKit

theorem zeros_list (n : Nat) : (Builtin.zeroCells #[Value.int .u8 0] n).toList = List.replicate n (.int .u8 0) := by
  apply List.ext_getElem
  · simp [Builtin.zeroCells]
  · intro i h1 h2
    simp [Builtin.zeroCells, Nat.mod_one]
theorem bytes_zeros (n : Nat) : bytes (List.replicate n 0) = List.replicate n (.int .u8 0) := by simp [bytes, I]
theorem run_zeros {w : World} {base n : Nat} {v : Value} {l : List UInt8} (hown : w.ownsRow base 5 1 v n (bytes l)) (hn : n ≤ 140737488355000) (hbase : base ≤ w.heap.size) :
    ∃ v' w', (Builtin.append_ #[26, 3] 26 #[v, .int .i64 16]).run Try.prog w = .ok v' w' ∧ w'.ownsRow base 5 1 v' (n + 16) (bytes (l ++ List.replicate 16 0)) ∧ w.grownBy w' v.ownBlock := by
  obtain ⟨i0, hi, hz0, hz1, hz2⟩ := info_parts info5
  have hl : l.length = n := by have := hown.1; rw [bytes_length] at this; omega
  have grown : ∀ (old : Nat), ∀ (row : Option Nat),
      (w.drew.alloc (.cells ((bytes l).toArray ++ Builtin.zeroCells (Value.int .u8 0).cells 16 ++ Builtin.zeroCells (Value.int .u8 0).cells (grownCap w (n + 16) old 5 - (n + 16))) 5)).ownsRow base 5 1
        (.slice (some ⟨w.heap.size, 0, none⟩) (n + 16) (grownCap w (n + 16) old 5)) (n + 16) (bytes (l ++ List.replicate 16 0)) ∧
      w.grownBy (w.drew.alloc (.cells ((bytes l).toArray ++ Builtin.zeroCells (Value.int .u8 0).cells 16 ++ Builtin.zeroCells (Value.int .u8 0).cells (grownCap w (n + 16) old 5 - (n + 16))) 5)) row := by
    intro old row
    have hge := grownCap_ge w (n + 16) old 5
    have hcm : grownCap w (n + 16) old 5 ≤ maxLen := grownCap_le_maxLen w (n + 16) old 5 (by unfold maxLen; omega)
    generalize grownCap w (n + 16) old 5 = C at hge hcm
    refine ⟨⟨by simp [bytes_length, hl], .inr ⟨w.heap.size, C, _, rfl, hbase, heap_alloc_new w.drew _, hge, hcm, ?_, ?_⟩⟩, ⟨rfl, rfl, rfl, by simp, fun k hk _ => Below.heap_alloc w.drew _ k hk⟩⟩
    · simp only [Array.size_append, List.size_toArray, size_zeroCells, bytes_length, hl, Value.cells, List.length_cons, List.length_nil]
      omega
    · simp only [Array.toList_append, Value.cells, zeros_list]
      rw [bytes_append, bytes_zeros]
      exact List.take_left' (by rw [List.length_append, bytes_length, List.length_replicate]; omega)
  rcases hown.2 with ⟨rfl, rfl⟩ | ⟨g, cap, cur, rfl, hbg, hg, hnc, hcm, hcs, htake⟩
  · have hl0 : l = [] := List.eq_nil_of_length_eq_zero hl
    subst hl0
    have hr := Lib.run_append_grow_zeros (P := Try.prog) w 26 3 26 5 i0 (.int .u8 0) .i64 .i64 Try.underlying26 Try.underlying3 hi hz0 none 0 0 [] (by simp [Builtin.firstCells]) 16 (by omega) (by omega) (by omega) (by omega) (by rw [hz2]; omega) (by rw [hz2]; decide)
    have hgr := grown 0 (Value.ownBlock (.slice none 0 0))
    exact ⟨_, _, hr, hgr.1, hgr.2⟩
  · by_cases hroom : n + 16 ≤ cap
    · have hst := run_storeCells_at Try.prog g n 5 (List.replicate 16 (Value.int .u8 0)) 0 cur w hg (by rw [List.length_replicate]; omega) (fun u hu => by rw [List.eq_of_mem_replicate hu]; rfl)
      rw [List.length_replicate] at hst
      simp only [Nat.add_zero] at hst
      have hr : (Builtin.append_ #[26, 3] 26 #[.slice (some ⟨g, 0, none⟩) n cap, .int .i64 16]).run Try.prog w = .ok (.slice (some ⟨g, 0, none⟩) (n + 16) cap) (w.setRow g (cur.toList.take n ++ List.replicate 16 (Value.int .u8 0) ++ cur.toList.drop (n + 16)).toArray) := by
        have hzl := zeros_list 16
        generalize List.replicate 16 (Value.int .u8 0) = Z at hst hzl ⊢
        simp [Builtin.append_, run_underlying Try.underlying26, run_underlying Try.underlying3, sizeOf, typeInfo, zeroValue, hi, hz0, hz1, hz2, asInt, asIntOf, hroom, Value.cells, Addr.add_lit, hzl, IntKind.wrap_i64, hst]
      refine ⟨_, _, hr, ⟨by simp [bytes_length, hl], .inr ⟨g, cap, _, rfl, hbg, setRow_heap w g cur _ 5 _ hg, hroom, hcm, ?_, ?_⟩⟩, ⟨rfl, rfl, rfl, by simp, fun k _ hk => setRow_other w g k _ (fun e => hk (by simp [Value.ownBlock, e]))⟩⟩
      · simp only [List.size_toArray, List.length_append, List.length_take, List.length_drop, Array.length_toList, List.length_replicate]
        omega
      · rw [Nat.mul_one] at htake
        rw [htake, bytes_append, bytes_zeros]
        exact List.take_left' (by rw [List.length_append, bytes_length, List.length_replicate]; omega)
    · have holds : ∀ j u, (bytes l)[j]? = some u → w.drew.cell? ((⟨g, 0, none⟩ : Addr).add j) = some u := hown.cells (g := g) rfl
      have hf := run_firstCells_some (P := Try.prog) w.drew i0.size n ⟨g, 0, none⟩ n cap (bytes l) (by rw [bytes_length, hl, hz1]; omega) holds
      have hfit : Builtin.nextslicecap (n + 16) cap * i0.bytes ≤ 281474976710656 := growslice_fits (by omega) (by rw [hz2]; omega)
      have hr := Lib.run_append_grow_zeros (P := Try.prog) w 26 3 26 5 i0 (.int .u8 0) .i64 .i64 Try.underlying26 Try.underlying3 hi hz0 (some ⟨g, 0, none⟩) n cap (bytes l) hf 16 (by omega) (by omega) (by omega) (by omega) (by rw [hz2]; omega) hfit
      have hgr := grown cap (Value.ownBlock (.slice (some ⟨g, 0, none⟩) n cap))
      exact ⟨_, _, hr, hgr.1, hgr.2⟩
end Go.Proofs.Ytjcdblnodbadcaa
