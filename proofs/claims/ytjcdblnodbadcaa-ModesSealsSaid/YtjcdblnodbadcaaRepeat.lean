/- The walk of slices.Repeat at one byte, a few times. -/
import Derived.Test.YtjcdblnodbadcaaPadWalks
namespace Go.Proofs.Ytjcdblnodbadcaa
open Go.RowKit

theorem mask1 : bits .and .u64 (1 : Int) (4294967295 : Int) = 1 := by decide +kernel
theorem maskN (n : Nat) (h : n ≤ 16) : bits .and .u64 (n : Int) (4294967295 : Int) = n := by
  have e : (4294967295 : Int) = ((4294967295 : Nat) : Int) := rfl
  rw [e, u64_and_nat _ _ (by omega) (by omega)]
  congr 1
  exact (by decide +kernel : ∀ i : Fin 17, i.val &&& 4294967295 = i.val) ⟨n, by omega⟩

set_option maxRecDepth 100000 in
set_option maxHeartbeats 400000 in
theorem mul64_any (n : Nat) (h : n ≤ 16) (w : World) : Calls Try.prog 67 #[.int .u64 1, .int .u64 n] w fun e w' => e = .returned (.tuple #[.int .u64 0, .int .u64 n]) ∧ w = w' := by
  have m1 := mask1
  have mn := maskN n h
  have m0 : bits .and .u64 (0 : Int) (4294967295 : Int) = 0 := by decide +kernel
  have d : (n : Int) / (4294967296 : Int) = 0 := by omega
  go_enter Try.func67, Try.ntmps67
  go_wp2
  go_ret2
  exact ⟨rfl, rfl⟩

set_option maxRecDepth 100000 in
set_option maxHeartbeats 400000 in
theorem mul_any (n : Nat) (h : n ≤ 16) (w : World) : Calls Try.prog 62 #[.int .u64 1, .int .u64 n] w fun e w' => e = .returned (.tuple #[.int .u64 0, .int .u64 n]) ∧ w = w' := by
  go_enter Try.func62, Try.ntmps62
  go_wp2_with (go_at_call 67; (with_reducible refine (mul64_any _ h _).mono ?_); rintro e w' ⟨rfl, rfl⟩)
  go_ret2
  exact ⟨rfl, rfl⟩

theorem size5 : (Try.prog.info? 5).map (·.size) = some 1 := by kernel_rfl

set_option maxRecDepth 100000 in
set_option maxHeartbeats 400000 in
theorem repeat_any (A : Option Addr) (c : Nat) (x : UInt8) (p : Nat) (w : World) (h : Sl w A 1 c [x]) (hp1 : 1 ≤ p) (hp2 : p ≤ 16) :
    Calls Try.prog 44 #[.slice A 1 c, .int .i64 p] w fun e w' => ∃ v, e = .returned v ∧ w'.ownsRow w.heap.size 5 1 v p (bytes (List.replicate p x)) ∧ Below w.heap.size w w' := by
  obtain ⟨i0, hi, hz0, hz1, hz2⟩ := info_parts info5
  have h' := h.alloc (.cells (madeCells #[Value.int .u8 0] p) 5)
  obtain ⟨ad, rfl, _⟩ := h.at_ (show 0 < 1 by omega)
  obtain ⟨ad', hA, hc⟩ := h'.at_ (show 0 < 1 by omega)
  injection hA with hA
  subst hA
  clear h h'
  have hmk : ∀ u : World, (Instr.makeSlice 26 (.int .i64 (p : Int)) (.int .i64 (p : Int))).run Try.prog u =
      .ok (.slice (some ⟨u.heap.size, 0, none⟩) p p) (u.alloc (.cells (madeCells #[.int .u8 0] p) 5)) := fun u => by
    have h := run_make (P := Try.prog) u 26 5 i0 (.int .u8 0) Try.underlying26 hi hz0 .i64 .i64 (p : Int) (p : Int) (by omega) (Int.le_refl _) (by rw [hz2]; omega) (by omega)
    rw [Int.toNat_natCast] at h
    simpa [hz1, Value.cells] using h
  have hZ : (madeCells #[Value.int .u8 0] p).toList.length = p := by rw [Array.length_toList]; exact size_madeCells _ _
  have hmin : Nat.min 1 p = 1 := Nat.min_eq_left hp1
  go_enter Try.func44, Try.ntmps44
  go_wp2_with (first
    | (go_at_call 62; (with_reducible refine (mul_any _ hp2 _).mono ?_); rintro e w' ⟨rfl, rfl⟩)
    | (with_reducible refine wpList_copy_splice rfl (.tmp 31) (.tmp 32) 26 26 rfl 5 Try.underlying26 size5 (some ⟨w.heap.size, 0, none⟩) (some ad) p p 1 c rfl rfl w.heap.size 0 (madeCells #[Value.int .u8 0] p).toList 5 ?qg [.int .u8 (I x)] ?qn ?qpos ?qfit ?qone w.heap.size w ?qb (Nat.le_refl _) ?qk))
  case qg => simpa using heap_alloc_new w (.cells (madeCells #[Value.int .u8 0] p) 5)
  case qn => rw [hmin]; rfl
  case qpos =>
    intro j v hj
    match j, hj with
    | 0, hj => simp at hj; subst hj; exact hc
  case qfit => rw [hZ]; simpa using hp1
  case qone => intro v hv; simp at hv; subst hv; rfl
  case qb => exact (Below.refl _ _).alloc (Nat.le_refl _) _
  case qk =>
    intro w2 HG2 hB2
    obtain ⟨C, hC⟩ : ∃ C, C = splice (madeCells #[Value.int .u8 0] p).toList 0 [.int .u8 (I x)] := ⟨_, rfl⟩
    have hlC : C.length = p := by rw [hC, length_splice _ _ _ (by rw [hZ]; simpa using hp1), hZ]
    have h0C : ∀ j, j < 1 → C[j]? = some (.int .u8 (I x)) := by
      intro j hj
      obtain rfl : j = 0 := by omega
      rw [hC]; simp [splice]
    have HG := hide (show w2.heap[w.heap.size]? = some (.cells C.toArray 5 (0, 0)) by rw [hC]; exact HG2.out)
    clear HG2 hC
    clear hc hmk
    go_wp2
    go_loopw [8] (fun i wr => ∃ (m : Nat) (R : List Value), i = .int .i64 m ∧ 1 ≤ m ∧ m ≤ p ∧ Hid (wr.heap[w.heap.size]? = some (.cells R.toArray 5 (0, 0))) ∧ R.length = p ∧ Hid (∀ j, j < m → R[j]? = some (.int .u8 (I x))) ∧ Below w.heap.size w wr) (fun i _ => p - (intOf i).toNat)
    case atStart => exact ⟨1, C, rfl, by omega, by omega, HG, hlC, hide h0C, hB2⟩
    case round =>
      obtain ⟨m, R, rfl, hm1, hm2, HR, hlR, HV, hb⟩ := hrel
      by_cases hlt : m < p
      · obtain ⟨k, hk⟩ : ∃ k, k = Nat.min m (p - m) := ⟨_, rfl⟩
        have hkb : 1 ≤ k ∧ k ≤ m ∧ k ≤ p - m := by rw [hk]; exact ⟨by rw [Nat.le_min]; omega, Nat.min_le_left _ _, Nat.min_le_right _ _⟩
        obtain ⟨hk1, hk2, hk3⟩ := hkb
        obtain ⟨cs, hcs⟩ : ∃ cs, cs = List.replicate k (Value.int .u8 (I x)) := ⟨_, rfl⟩
        have hcl : cs.length = k := by rw [hcs]; simp
        have hcj : ∀ j v, cs[j]? = some v → j < k ∧ v = .int .u8 (I x) := by
          intro j v hj
          rw [hcs, List.getElem?_replicate] at hj
          split at hj
          · injection hj with hj; exact ⟨by assumption, hj.symm⟩
          · cases hj
        have hcm : ∀ v ∈ cs, v.oneCell' = true := by
          intro v hv; rw [hcs] at hv; rw [List.eq_of_mem_replicate hv]; rfl
        have hsp : ∀ j, j < m + k → (splice R m cs)[j]? = some (.int .u8 (I x)) := by
          intro j hj
          unfold splice
          by_cases h1 : j < m
          · rw [List.getElem?_append_left (by rw [List.length_take]; omega), List.getElem?_take, if_pos h1, HV.out j h1]
          · rw [List.getElem?_append_right (by rw [List.length_take]; omega), List.length_take, List.getElem?_append_left (by omega), hcs, List.getElem?_replicate, if_pos (by omega)]
        have hl2 : (splice R m cs).length = p := by rw [length_splice _ _ _ (by omega), hlR]
        have Hk := hide hk
        have Hcl := hide hcl
        have Hcj := hide hcj
        have Hsp := hide hsp
        have Hl2 := hide hl2
        have HlR := hide hlR
        clear hk hcl hcj hsp hcs hl2 hlR
        have hpm : ¬ p = m := by omega
        have hw : IntKind.i64.wrap ((m : Int) + (k : Int)) = (m : Int) + (k : Int) := IntWalk.i64_in _ (by omega)
        have hsrc : ∀ j v, cs[j]? = some v → wr.drew.cell? ((⟨w.heap.size, 0, none⟩ : Addr).add j) = some v := by
          intro j v hj
          obtain ⟨hj1, rfl⟩ := Hcj.out j v hj
          rw [Addr.add_lit, Nat.zero_add]
          refine (cell_of_row _ _ _ _ _ _ HR.out).trans ?_
          simpa using HV.out j (by omega)
        have Hsrc := hide hsrc
        clear hsrc
        go_wp2_with fail
        go_region_law (refine step_copy_splice rfl (.tmp 41) (.tmp 44) 26 26 rfl 5 Try.underlying26 size5 (some ⟨w.heap.size, m, none⟩) (some ⟨w.heap.size, 0, none⟩) (p - m) (p - m) m p (by simp [Act.eval, Act.put]) (by simp [Act.eval, Act.put]) w.heap.size m R 5 HR.out cs (Hcl.out.trans Hk.out) (fun _ => ⟨rfl, _, rfl, Hsrc.out⟩) (by rw [Hcl.out, HlR.out]; omega) hcm w.heap.size w (hb.drew) (Nat.le_refl _) ?_; rw [Hcl.out]; intro w3 HR3 hb3)
        simp only [List.getElem_toArray, List.getElem_cons_succ, List.getElem_cons_zero, Act.put, List.setIfInBounds_toArray, List.set_cons_succ, List.set_cons_zero]
        go_wp2
        go_roundw
        case rel => exact ⟨m + k, splice R m cs, by go_num, by omega, by omega, HR3, Hl2.out, hide Hsp.out, hb3⟩
        case measure => simp only [intOf]; omega
      · obtain rfl : m = p := by omega
        go_wp2
        go_ret
        refine ⟨_, rfl, ⟨by simp [bytes_length], .inr ⟨w.heap.size, m, R.toArray, rfl, Nat.le_refl _, HR.out, Nat.le_refl _, by unfold maxLen; omega, by simp [hlR], ?_⟩⟩, hb⟩
        apply List.ext_getElem?
        intro j
        simp only [Nat.mul_one]
        rw [List.take_of_length_le (by simp [hlR])]
        by_cases hj : j < m
        · rw [HV.out j hj]; simp [bytes, hj]
        · rw [List.getElem?_eq_none (by simp [hlR]; omega), List.getElem?_eq_none (by simp [bytes_length]; omega)]
end Go.Proofs.Ytjcdblnodbadcaa
