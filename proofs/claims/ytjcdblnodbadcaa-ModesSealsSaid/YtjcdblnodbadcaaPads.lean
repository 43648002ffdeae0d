/- The walks of modes.Pad, Equal, Unpad, and of the reference's Unpad. -/
import Derived.Test.YtjcdblnodbadcaaRepeat
namespace Go.Proofs.Ytjcdblnodbadcaa
open Go.RowKit

/-- one byte, just laid -/
theorem sl_one (w : World) (x : UInt8) (v : Int) (hv : v = I x) : Sl (w.alloc (.cells #[.int .u8 v] 5)) (some ⟨w.heap.size, 0, none⟩) 1 1 [x] := by
  subst hv
  refine ⟨rfl, Nat.le_refl _, (fun h => by cases h), rfl, fun _ => ⟨_, rfl, by simp, fun j u hj => ?_⟩⟩
  match j, hj with
  | 0, hj =>
    simp [bytes] at hj
    subst hj
    exact cell_one_new _ _ _ 0 _ rfl

set_option maxRecDepth 100000 in
set_option maxHeartbeats 800000 in
theorem pad_any (A : Option Addr) (n c : Nat) (l : List UInt8) (w : World) (h : Sl w A n c l) (hl : n ≤ 140737488355000) :
    Calls Try.prog 24 #[.slice A n c] w fun e w' => ∃ v, e = .returned v ∧ w'.ownsRow w.heap.size 5 1 v (Mod.pad l).length (bytes (Mod.pad l)) ∧ Below w.heap.size w w' := by
  obtain ⟨i0, hi, hz0, hz1, hz2⟩ := info_parts info5
  have hn := h.1
  subst hn
  obtain ⟨p, hp⟩ : ∃ p, p = Mod.padLen l.length := ⟨_, rfl⟩
  have hpb := Mod.padLen_bd l.length
  have hr16 : (16 : Int) - (l.length : Int) % (16 : Int) = (p : Int) := by rw [hp]; unfold Mod.padLen; omega
  rw [← hp] at hpb
  obtain ⟨hp1, hp2⟩ := hpb
  have Hp := hide hp
  clear hp
  have K := hide h
  clear h
  go_enter Try.func24, Try.ntmps24
  go_wp2_with fail
  refine (clone_any A _ c l _ K.out hl).mono ?_
  rintro e w1 ⟨v1, rfl, o1, b1⟩
  go_wp2_with fail
  refine (repeat_any _ 1 (UInt8.ofNat p) p _ (sl_one w1 _ _ (I_of (by omega))) hp1 hp2).mono ?_
  rintro e w2 ⟨v2, rfl, o2, b2⟩
  obtain ⟨A2, c2, rfl, s2⟩ := Sl.of_own (l := List.replicate p (UInt8.ofNat p)) (by simpa using o2)
  have hs1 := b1.size
  have hs2 := b2.size
  rw [World.size_alloc] at hs2
  have o1' : w2.ownsRow w.heap.size 5 1 v1 l.length (bytes l) := by
    refine (o1.alloc (.cells #[Value.int .u8 p] 5)).kept (row := none) ⟨b2.os, b2.tape, b2.output, b2.size, fun k hk _ => b2.block k hk⟩ ?_
    cases v1.ownBlock <;> simp
  have hb2 : Below w.heap.size w w2 := (b1.alloc hs1 _).trans (b2.mono (by simp; omega))
  have s2' := s2.reads
  rw [List.length_replicate] at s2'
  have S2 := hide s2'
  have O1 := hide o1'
  clear o1 o2 s2 s2' o1' b1 b2
  rw [List.length_replicate]
  go_wp2_with (at_builtin; refine wpList_append_any _ rfl (.tmp 9) (.tmp 14) _ rfl w.heap.size 5 i0 _ 1 1 Try.underlying26 hi hz0 hz1 hz2 rfl (by omega) v1 l.length (bytes l) rfl O1.out w2.heap.size A2 p c2 _ rfl S2.out (bytes_one _) (by unfold maxLen; omega) (by omega) (by omega) ?_; intro v3 w3 hown3 hg3 hat3)
  go_ret
  refine ⟨v3, rfl, ?_, below_app hb2 (by omega) O1.out hg3⟩
  have e : Mod.pad l = l ++ List.replicate p (UInt8.ofNat p) := by unfold Mod.pad; rw [← Hp.out]
  rw [e, bytes_append, List.length_append, List.length_replicate]
  exact hown3
end Go.Proofs.Ytjcdblnodbadcaa
