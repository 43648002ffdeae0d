/- The walks of modes.Unpad and of the reference's. -/
import Derived.Test.YtjcdblnodbadcaaEqual
namespace Go.Proofs.Ytjcdblnodbadcaa
open Go.RowKit

/-- OK, or ErrPad -/
def code (o : Option (List UInt8)) : Int := if o.isSome then 0 else 11
/-- what stripping answers: the text and OK, or nothing and ErrPad -/
def Strip (w w' : World) (o : Option (List UInt8)) (e : Ending) : Prop :=
  ∃ A n c, e = .returned (.tuple #[.slice A n c, .int .i64 (code o)]) ∧ Sl w' A n c (o.getD []) ∧ Below w.heap.size w w'
theorem strip_none {w w' : World} (hb : Below w.heap.size w w') : Strip w w' none (.returned (.tuple #[.slice none 0 0, .int .i64 11])) :=
  ⟨none, 0, 0, rfl, ⟨rfl, Nat.le_refl _, fun _ => rfl, Reads.none_⟩, hb⟩
theorem unpad_bad {b : List UInt8} (h : b.length = 0 ∨ b.length % 16 ≠ 0) : Mod.unpad b = none := by unfold Mod.unpad; rw [if_pos h]
theorem unpad_off {b : List UInt8} (h : ¬ (b.length = 0 ∨ b.length % 16 ≠ 0)) (h2 : Mod.lastN b < 1 ∨ 16 < Mod.lastN b) : Mod.unpad b = none := by unfold Mod.unpad; rw [if_neg h, if_pos h2]
theorem unpad_at {b : List UInt8} (h : ¬ (b.length = 0 ∨ b.length % 16 ≠ 0)) (h2 : ¬ (Mod.lastN b < 1 ∨ 16 < Mod.lastN b)) :
    Mod.unpad b = if Mod.pad (b.take (b.length - Mod.lastN b)) = b then some (b.take (b.length - Mod.lastN b)) else none := by unfold Mod.unpad; rw [if_neg h, if_neg h2]

set_option maxRecDepth 100000 in
set_option maxHeartbeats 800000 in
theorem unpad_any (A : Option Addr) (n c : Nat) (b : List UInt8) (w : World) (h : Sl w A n c b) (hl : n ≤ 140737488355000) :
    Calls Try.prog 21 #[.slice A n c] w fun e w' => Strip w w' (Mod.unpad b) e := by
  have hn := h.1
  by_cases h1 : b.length = 0 ∨ b.length % 16 ≠ 0
  · rw [unpad_bad h1]
    rw [← hn] at h1
    clear hn h
    by_cases h0 : n = 0
    · subst h0
      go_enter Try.func21, Try.ntmps21
      go_wp2
      go_ret2
      exact strip_none (Below.refl _ _)
    · have h2 : n % 16 ≠ 0 := by omega
      have t0 : ((n : Int) == 0) = false := by rw [beq_eq_false_iff_ne]; omega
      have t1 : ((n : Int) % 16 != 0) = true := by rw [bne_iff_ne]; omega
      clear h1
      go_enter Try.func21, Try.ntmps21
      go_wp2
      go_ret2
      exact strip_none (Below.refl _ _)
  · have h1' := h1
    rw [← hn] at h1'
    have t0 : ((n : Int) == 0) = false := by rw [beq_eq_false_iff_ne]; omega
    have t1 : ((n : Int) % 16 != 0) = false := by rw [bne_eq_false_iff_eq]; omega
    obtain ⟨ad, rfl, hc⟩ := h.at_ (show n - 1 < n by omega)
    obtain ⟨m, hm⟩ : ∃ m, m = Mod.lastN b := ⟨_, rfl⟩
    have hI : I (b.getD (n - 1) 0) = (m : Int) := by rw [hm, hn]; rfl
    have hmb : m ≤ 255 := by have := (I_bd (b.getD (n - 1) 0)).2; omega
    rw [hI] at hc
    clear hI
    have hnb : n ≠ 0 := by omega
    by_cases h2 : m < 1 ∨ 16 < m
    · rw [unpad_off h1 (by rw [← hm]; exact h2)]
      clear h1 h1' hm hn h
      by_cases h3 : m < 1
      · go_enter Try.func21, Try.ntmps21
        go_wp2
        go_ret2
        exact strip_none (Below.refl _ _)
      · have h4 : 16 < m := by omega
        clear h2
        go_enter Try.func21, Try.ntmps21
        go_wp2
        go_ret2
        exact strip_none (Below.refl _ _)
    · rw [unpad_at h1 (by rw [← hm]; exact h2), ← hm, ← hn]
      have hm1 : 1 ≤ m := by omega
      have hm2 : m ≤ 16 := by omega
      have hmn : m ≤ n := by omega
      clear h1 h1' hm h2
      have hnc := h.2.1
      obtain ⟨t, ht⟩ : ∃ t, t = b.take (n - m) := ⟨_, rfl⟩
      have hs : Sl w (some ad) (n - m) c t := by rw [ht]; exact h.take (by omega)
      rw [← ht]
      have Hn := hide hn
      have H := hide h
      have Hs := hide hs
      have Ht := hide ht
      clear hn h hs ht
      by_cases hq : Mod.pad t = b
      · have tq : (Mod.pad t == b) = true := by rw [hq]; simp
        rw [if_pos hq]
        clear hq
        go_enter Try.func21, Try.ntmps21
        go_wp2_with fail
        refine (pad_any (some ad) (n - m) c t _ Hs.out (by omega)).mono ?_
        rintro e w1 ⟨v1, rfl, o1, b1⟩
        obtain ⟨A1, c1, rfl, s1⟩ := Sl.of_own o1
        go_wp2_with fail
        have s0 := H.out.below b1
        refine (equal_any A1 (some ad) _ n c1 c _ b _ s1 s0 (by rw [Mod.pad_length, ← Hs.out.1]; omega) (by omega)).mono ?_
        rintro e w2 ⟨rfl, k2, rfl⟩
        go_wp2_with fail
        have b2 : Below w.heap.size w (w1.drewN k2) := Below.drewN b1 k2
        refine (clone_any (some ad) (n - m) c t _ (Hs.out.below b2) (by omega)).mono ?_
        rintro e w3 ⟨v3, rfl, o3, b3⟩
        obtain ⟨A3, c3, rfl, s3⟩ := Sl.of_own o3
        go_wp2_with fail
        go_ret2
        exact ⟨A3, t.length, c3, rfl, s3, b2.trans (b3.mono b2.size)⟩
      · have tq : (Mod.pad t == b) = false := by rw [beq_eq_false_iff_ne]; exact hq
        rw [if_neg hq]
        clear hq
        go_enter Try.func21, Try.ntmps21
        go_wp2_with fail
        refine (pad_any (some ad) (n - m) c t _ Hs.out (by omega)).mono ?_
        rintro e w1 ⟨v1, rfl, o1, b1⟩
        obtain ⟨A1, c1, rfl, s1⟩ := Sl.of_own o1
        go_wp2_with fail
        have s0 := H.out.below b1
        refine (equal_any A1 (some ad) _ n c1 c _ b _ s1 s0 (by rw [Mod.pad_length, ← Hs.out.1]; omega) (by omega)).mono ?_
        rintro e w2 ⟨rfl, k2, rfl⟩
        go_wp2_with fail
        go_ret2
        exact strip_none (Below.drewN b1 k2)

theorem unpadR_bad {b : List UInt8} (h : b.length = 0 ∨ b.length % 16 ≠ 0) : Mod.unpadR b = none := by unfold Mod.unpadR; rw [if_pos h]
theorem unpadR_off {b : List UInt8} (h : ¬ (b.length = 0 ∨ b.length % 16 ≠ 0)) (h2 : Mod.lastN b < 1 ∨ 16 < Mod.lastN b) : Mod.unpadR b = none := by unfold Mod.unpadR; rw [if_neg h, if_pos h2]
theorem unpadR_at {b : List UInt8} (h : ¬ (b.length = 0 ∨ b.length % 16 ≠ 0)) (h2 : ¬ (Mod.lastN b < 1 ∨ 16 < Mod.lastN b)) :
    Mod.unpadR b = if ∀ i, i < Mod.lastN b → (b.getD (b.length - Mod.lastN b + i) 0).toNat = Mod.lastN b then some (b.take (b.length - Mod.lastN b)) else none := by unfold Mod.unpadR; rw [if_neg h, if_neg h2]

set_option maxRecDepth 100000 in
set_option maxHeartbeats 800000 in
theorem unpadR_any (A : Option Addr) (n c : Nat) (b : List UInt8) (w : World) (h : Sl w A n c b) (hl : n ≤ 140737488355000) :
    Calls Try.prog 22 #[.slice A n c] w fun e w' => Strip w w' (Mod.unpadR b) e ∧ w = w' := by
  have hn := h.1
  by_cases h1 : b.length = 0 ∨ b.length % 16 ≠ 0
  · rw [unpadR_bad h1]
    rw [← hn] at h1
    clear hn h
    by_cases h0 : n = 0
    · subst h0
      go_enter Try.func22, Try.ntmps22
      go_wp2
      go_ret2
      exact ⟨strip_none (Below.refl _ _), rfl⟩
    · have h2 : n % 16 ≠ 0 := by omega
      have t0 : ((n : Int) == 0) = false := by rw [beq_eq_false_iff_ne]; omega
      have t1 : (0 : Int) < (n : Int) % 16 := by omega
      clear h1
      go_enter Try.func22, Try.ntmps22
      go_wp2
      go_ret2
      exact ⟨strip_none (Below.refl _ _), rfl⟩
  · have h1' := h1
    rw [← hn] at h1'
    have t0 : ((n : Int) == 0) = false := by rw [beq_eq_false_iff_ne]; omega
    have t1 : ¬ (0 : Int) < (n : Int) % 16 := by omega
    obtain ⟨ad, rfl, hc⟩ := h.at_ (show n - 1 < n by omega)
    obtain ⟨m, hm⟩ : ∃ m, m = Mod.lastN b := ⟨_, rfl⟩
    have hI : I (b.getD (n - 1) 0) = (m : Int) := by rw [hm, hn]; rfl
    have hmb : m ≤ 255 := by have := (I_bd (b.getD (n - 1) 0)).2; omega
    rw [hI] at hc
    clear hI
    have hnb : n ≠ 0 := by omega
    by_cases h2 : m < 1 ∨ 16 < m
    · rw [unpadR_off h1 (by rw [← hm]; exact h2)]
      clear h1 h1' hm hn h
      by_cases h3 : m < 1
      · go_enter Try.func22, Try.ntmps22
        go_wp2
        go_ret2
        exact ⟨strip_none (Below.refl _ _), rfl⟩
      · have h4 : 16 < m := by omega
        clear h2
        go_enter Try.func22, Try.ntmps22
        go_wp2
        go_ret2
        exact ⟨strip_none (Below.refl _ _), rfl⟩
    · rw [unpadR_at h1 (by rw [← hm]; exact h2), ← hm, ← hn]
      have hm1 : 1 ≤ m := by omega
      have hm2 : m ≤ 16 := by omega
      have hmn : m ≤ n := by omega
      clear h1 h1' hm h2
      have hnc := h.2.1
      have hcell : ∀ k, k < n → w.cell? (ad.add k) = some (.int .u8 (I (b.getD k 0))) := fun k hk => by
        obtain ⟨a, e, hc⟩ := h.at_ hk; injection e with e; subst e; exact hc
      have Hn := hide hn
      have H := hide h
      have Hc := hide hcell
      obtain ⟨o, ho⟩ : ∃ o, o = (if ∀ i, i < m → (b.getD (n - m + i) 0).toNat = m then some (b.take (n - m)) else none) := ⟨_, rfl⟩
      rw [← ho]
      have Ho := hide ho
      clear hn h hcell ho
      go_enter Try.func22, Try.ntmps22
      go_wp2
      go_loop [5] (fun i => ∃ k : Nat, k ≤ m ∧ i = .int .i64 (n - m + k : Nat) ∧ Hid (∀ i, i < k → (b.getD (n - m + i) 0).toNat = m)) (fun i => n - (intOf i).toNat)
      case atStart => exact ⟨0, by omega, by go_num, hide fun i hi => absurd hi (by omega)⟩
      case round =>
        obtain ⟨k, hk, rfl, hg⟩ := hrel
        obtain ⟨q, hq⟩ : ∃ q, q = n - m + k := ⟨_, rfl⟩
        rw [← hq]
        have Hq := hide hq
        have hqn : q ≤ n := by omega
        by_cases hlt : k < m
        · have hqn' : q < n := by omega
          have hck := Hc.out q hqn'
          obtain ⟨x, hx⟩ : ∃ x, x = b.getD q 0 := ⟨_, rfl⟩
          rw [← hx] at hck
          have hxb := I_bd x
          have Hx := hide hx
          clear hx hq
          go_wp2
          · have t : (I x != (m : Int)) = true := by assumption
            have hne : x.toNat ≠ m := by
              intro e
              rw [bne_iff_ne] at t
              exact t (by rw [I_nat, e])
            have e : o = none := by
              rw [Ho.out, if_neg]
              intro hall
              exact hne (by rw [Hx.out, Hq.out]; exact hall k hlt)
            go_ret2
            rw [e]
            exact ⟨strip_none (Below.refl _ _), rfl⟩
          · have t : (I x != (m : Int)) = false := by assumption
            have he : x.toNat = m := by
              rw [bne_eq_false_iff_eq, I_nat] at t
              omega
            go_round
            case rel =>
              have hq' := Hq.out
              refine ⟨k + 1, by omega, by go_num, hide fun i hi => ?_⟩
              by_cases hik : i = k
              · subst hik; rw [← hq', ← Hx.out]; exact he
              · exact hg.out i (by omega)
            case measure => simp only [intOf]; omega
        · obtain rfl : k = m := by omega
          have hqn' : q = n := by omega
          clear hq
          subst hqn'
          have e : o = some (b.take (q - k)) := by
            rw [Ho.out, if_pos hg.out]
          go_wp2
          go_ret2
          refine ⟨?_, rfl⟩
          exact ⟨some ad, q - k, c, rfl, H.out.take (by omega), Below.refl _ _⟩
end Go.Proofs.Ytjcdblnodbadcaa
