/- The walks of chapter 9's filling: Clone, Repeat, Pad, and the reference's Pad. -/
import Derived.Test.YtjcdblnodbadcaaMem
import Derived.Laws.CopyOwn
import Derived.Deep.RegionLaw
namespace Go.Proofs.Ytjcdblnodbadcaa
open Go.RowKit

theorem own_less {w : World} {base base' : Nat} {e : TypeId} {size : Nat} {v : Value} {n : Nat} {xs : List Value} (h : w.ownsRow base e size v n xs) (hb : base' ≤ base) : w.ownsRow base' e size v n xs :=
  ⟨h.1, by rcases h.2 with k | ⟨g, cap, cur, hv, hg, r⟩; exact .inl k; exact .inr ⟨g, cap, cur, hv, by omega, r⟩⟩

theorem below_app {base : Nat} {W w w1 : World} {e : TypeId} {size : Nat} {v : Value} {n : Nat} {xs : List Value} (hb : Below base W w) (hB : base ≤ w.heap.size) (hown : w.ownsRow base e size v n xs) (hg : w.grownBy w1 v.ownBlock) : Below base W w1 :=
  hb.grown hg hB (fun g hg => (hown.lt g hg).1)
/-- an empty row, just made -/
theorem made0 (w : World) : (w.alloc (.cells #[] 5)).ownsRow w.heap.size 5 1 (.slice (some ⟨w.heap.size, 0, none⟩) 0 0) 0 [] := World.ownsRow_made w #[] 0 (Nat.le_refl _) (by unfold maxLen; omega) rfl

set_option maxRecDepth 100000 in
set_option maxHeartbeats 400000 in
theorem clone_any (A : Option Addr) (n c : Nat) (l : List UInt8) (w : World) (h : Sl w A n c l) (hl : n ≤ 140737488355000) :
    Calls Try.prog 43 #[.slice A n c] w fun e w' => ∃ v, e = .returned v ∧ w'.ownsRow w.heap.size 5 1 v l.length (bytes l) ∧ Below w.heap.size w w' := by
  obtain ⟨i0, hi, hz0, hz1, hz2⟩ := info_parts info5
  have heq := fun (wx : World) => Lib.run_eql_slice_nil (P := Try.prog) wx 26 5 A n c 0 0 Try.underlying26
  cases A with
  | none =>
    have h0 : c = 0 := h.2.2.1 rfl
    have h1 : n = 0 := by have := h.2.1; omega
    subst h0; subst h1
    have h2 : l = [] := List.eq_nil_of_length_eq_zero h.1.symm
    subst h2
    go_enter Try.func43, Try.ntmps43
    go_wp2
    go_ret
    exact ⟨_, rfl, World.ownsRow_nil _ _ _ _, Below.refl _ _⟩
  | some ad =>
    have hn := h.1
    have hr := h.reads
    subst hn
    go_enter Try.func43, Try.ntmps43
    go_wp2_with (at_builtin; refine wpList_append_any _ rfl (.tmp 5) (.tmp 6) _ rfl w.heap.size 5 i0 _ 1 1 Try.underlying26 hi hz0 hz1 hz2 rfl (by omega) _ 0 [] rfl (made0 w) (w.heap.size + 1) (some ad) l.length c (bytes l) rfl ((hr.alloc (Nat.le_refl _) _).more (by omega)) (bytes_one l) (by unfold maxLen; omega) (by omega) (by simp) ?_; intro v1 w1 hown1 hg1 hat1)
    go_ret
    exact ⟨v1, rfl, by simpa using hown1, below_app ((Below.refl _ _).alloc (Nat.le_refl _) _) (by simp) (made0 w) hg1⟩

theorem bytes_rep_succ (l : List UInt8) (k : Nat) (x : UInt8) : bytes (l ++ List.replicate (k + 1) x) = bytes (l ++ List.replicate k x) ++ [.int .u8 (I x)] := by
  rw [List.replicate_succ', ← List.append_assoc]
  simp [bytes]

set_option maxRecDepth 100000 in
set_option maxHeartbeats 800000 in
theorem refPad_any (A : Option Addr) (n c : Nat) (l : List UInt8) (w : World) (h : Sl w A n c l) (hl : n ≤ 140737488355000) :
    Calls Try.prog 19 #[.slice A n c] w fun e w' => ∃ v, e = .returned v ∧ w'.ownsRow w.heap.size 5 1 v (Mod.pad l).length (bytes (Mod.pad l)) ∧ Below w.heap.size w w' := by
  obtain ⟨i0, hi, hz0, hz1, hz2⟩ := info_parts info5
  have hn := h.1
  have hr := h.reads
  clear h
  subst hn
  obtain ⟨p, hp⟩ : ∃ p, p = Mod.padLen l.length := ⟨_, rfl⟩
  have hpb := Mod.padLen_bd l.length
  have hr16 : (16 : Int) - (l.length : Int) % (16 : Int) = (p : Int) := by rw [hp]; unfold Mod.padLen; omega
  rw [← hp] at hpb
  obtain ⟨hp1, hp2⟩ := hpb
  have Hp := hide hp
  clear hp
  go_enter Try.func19, Try.ntmps19
  go_wp2_with (at_builtin; refine wpList_append_any _ rfl (.tmp 10) (.tmp 11) _ rfl w.heap.size 5 i0 _ 1 1 Try.underlying26 hi hz0 hz1 hz2 rfl (by omega) _ 0 [] rfl (made0 w) (w.heap.size + 1) A l.length c (bytes l) rfl ((hr.alloc (Nat.le_refl _) _).more (by omega)) (bytes_one l) (by unfold maxLen; omega) (by omega) (by simp) ?_; intro v1 w1 hown1 hg1 hat1)
  have hb1 : Below w.heap.size w w1 := below_app ((Below.refl _ _).alloc (Nat.le_refl _) _) (by simp) (made0 w) hg1
  have hown2 : w1.ownsRow w.heap.size 5 1 v1 l.length (bytes l) := by simpa using hown1
  clear hown1 hg1 hat1 hr
  go_loopw [4, 5] (fun v i wr => ∃ k : Nat, k ≤ p ∧ i = .int .i64 k ∧ wr.ownsRow w.heap.size 5 1 v (l.length + k) (bytes (l ++ List.replicate k (UInt8.ofNat p))) ∧ Below w.heap.size w wr) (fun _ i _ => p - (intOf i).toNat)
  case atStart => exact ⟨0, by omega, rfl, by simpa using hown2, hb1⟩
  case round =>
    obtain ⟨k, hk, rfl, hown, hb⟩ := hrel
    by_cases hlt : k < p
    · have hs := hb.size
      go_wp2_with (at_builtin; refine wpList_append_own _ rfl (.tmp 18) (.tmp 21) 26 rfl w.heap.size 5 i0 (.int .u8 0) 1 1 Try.underlying26 hi hz0 hz1 hz2 rfl (by decide) _ _ _ rfl (hown.alloc _) ⟨wr.heap.size, 0, none⟩ 1 1 [.int .u8 p] rfl rfl (cell_one_new _ _ _) (ints_oneCell .u8 [(p : Int)]) (by unfold maxLen; omega) (by omega) (by simp; omega) ?_; intro v' w2 hown3 hg2 _)
      have hb2 := below_app (hb.alloc hs _) (by simp; omega) (hown.alloc _) hg2
      go_roundw
      case rel =>
        refine ⟨k + 1, by omega, by go_num, ?_, hb2⟩
        rw [bytes_rep_succ, ← I_of (show p < 256 by omega)]
        exact hown3
      case measure => simp only [intOf]; omega
    · obtain rfl : k = p := by omega
      go_wp2
      go_ret
      refine ⟨_, rfl, ?_, hb⟩
      have e : Mod.pad l = l ++ List.replicate k (UInt8.ofNat k) := by unfold Mod.pad; rw [← Hp.out]
      rw [e]
      simpa using hown

end Go.Proofs.Ytjcdblnodbadcaa
