/- The walk of the law ModesKnown. -/
import Derived.Test.YtjcdblnodbadcaaBad
import Derived.Test.YtjcdblnodbadcaaMac
import Derived.Test.YtjcdblnodbadcaaLawPads
namespace Go.Proofs.Ytjcdblnodbadcaa
open Go.RowKit

def kk16 : List UInt8 := [0x2b, 0x7e, 0x15, 0x16, 0x28, 0xae, 0xd2, 0xa6, 0xab, 0xf7, 0x15, 0x88, 0x09, 0xcf, 0x4f, 0x3c]
def mm16 : List UInt8 := [0xbb, 0x1d, 0x69, 0x29, 0xe9, 0x59, 0x37, 0x28, 0x7f, 0xa3, 0x7d, 0x12, 0x9b, 0x75, 0x67, 0x46]
theorem mac_known : Mod.mac (Cip.keys kk16) 11 [] = mm16 := by decide +kernel
theorem unpad_nil : Mod.unpad [] = none := by decide
theorem unpad_zeros : Mod.unpad zz16 = none := by decide
theorem kk16_len : kk16.length = 16 := rfl
theorem macBad_of (A D : Option Addr) (n c j f : Nat) (w : World) (h1 : ¬ (n : Int) = 16) (h2 : ¬ (n : Int) = 24) (h3 : ¬ (n : Int) = 32) :
    Calls Try.prog 34 #[.slice A n c, .slice D j f] w fun e w' => e = .returned (.tuple #[.slice none 0 0, .int .i64 1]) ∧ Below w.heap.size w w' := by
  obtain ⟨i0, hi, hz0, hz1, hz2⟩ := info_parts info5
  have hmk : ∀ u : World, (Instr.makeSlice 26 (.int .i64 16) (.int .i64 16)).run Try.prog u =
      .ok (.slice (some ⟨u.heap.size, 0, none⟩) 16 16) (u.alloc (.cells (bytes zz16).toArray 5)) := fun u => by
    have h := run_make (P := Try.prog) u 26 5 i0 (.int .u8 0) Try.underlying26 hi hz0 .i64 .i64 16 16 (by omega) (Int.le_refl _) (by rw [hz2]; omega) (by omega)
    rw [zz16, ← made16]
    simpa [hz1, Value.cells] using h
  have H1 := hide h1
  have H2 := hide h2
  have H3 := hide h3
  clear h1 h2 h3
  have hbe : Below w.heap.size w (w.alloc (.cells (bytes zz16).toArray 5)) := (Below.refl _ w).alloc (Nat.le_refl _) _
  go_enter Try.func34, Try.ntmps34
  go_wp2_with fail
  generalize (w.alloc (.cells (bytes zz16).toArray 5)) = w1 at *
  refine (cipherBadKey_any A _ n c 16 16 w1 H1.out H2.out H3.out).mono ?_
  rintro e w2 ⟨rfl, b2⟩
  have hlen : (bytes zz16).length = 16 := rfl
  have hstored := stored34 zz16_len w2
  clear hmk
  go_wp2_with fail
  go_ret2
  exact ⟨rfl, (hbe.trans (b2.mono hbe.size)).alloc (Nat.le_trans hbe.size b2.size) _⟩
set_option maxRecDepth 100000 in
set_option maxHeartbeats 3200000 in
theorem known9law_any (w : World) : Calls Try.prog 12 #[] w fun e w' => e = .returned (.bool true) ∧ Below w.heap.size w w' := by
  obtain ⟨i0, hi, hz0, hz1, hz2⟩ := info_parts info5
  have hmk : ∀ u : World, (Instr.makeSlice 26 (.int .i64 16) (.int .i64 16)).run Try.prog u =
      .ok (.slice (some ⟨u.heap.size, 0, none⟩) 16 16) (u.alloc (.cells (bytes zz16).toArray 5)) := fun u => by
    have h := run_make (P := Try.prog) u 26 5 i0 (.int .u8 0) Try.underlying26 hi hz0 .i64 .i64 16 16 (by omega) (Int.le_refl _) (by rw [hz2]; omega) (by omega)
    rw [zz16, ← made16]
    simpa [hz1, Value.cells] using h
  have hb0 := hide (show Blk (w.alloc (.cells #[.int .u8 43, .int .u8 126, .int .u8 21, .int .u8 22, .int .u8 40, .int .u8 174, .int .u8 210, .int .u8 166, .int .u8 171, .int .u8 247, .int .u8 21, .int .u8 136, .int .u8 9, .int .u8 207, .int .u8 79, .int .u8 60] 5)) w.heap.size 5 (bytes kk16).toArray from Blk.new _ _ _)
  have hbe : Below w.heap.size w (w.alloc (.cells #[.int .u8 43, .int .u8 126, .int .u8 21, .int .u8 22, .int .u8 40, .int .u8 174, .int .u8 210, .int .u8 166, .int .u8 171, .int .u8 247, .int .u8 21, .int .u8 136, .int .u8 9, .int .u8 207, .int .u8 79, .int .u8 60] 5)) := (Below.refl _ w).alloc (Nat.le_refl _) _
  have hlt : w.heap.size < (w.alloc (.cells #[.int .u8 43, .int .u8 126, .int .u8 21, .int .u8 22, .int .u8 40, .int .u8 174, .int .u8 210, .int .u8 166, .int .u8 171, .int .u8 247, .int .u8 21, .int .u8 136, .int .u8 9, .int .u8 207, .int .u8 79, .int .u8 60] 5)).heap.size := by simp
  have HMK := hide hmk
  clear hmk
  go_enter Try.func12, Try.ntmps12
  go_upto_region 2 with fail
  generalize (w.alloc (.cells #[.int .u8 43, .int .u8 126, .int .u8 21, .int .u8 22, .int .u8 40, .int .u8 174, .int .u8 210, .int .u8 166, .int .u8 171, .int .u8 247, .int .u8 21, .int .u8 136, .int .u8 9, .int .u8 207, .int .u8 79, .int .u8 60] 5)) = w1 at *
  have sk : ∀ u : World, Below w1.heap.size w1 u → ∀ j, j ≤ 16 → Sl u (some ⟨w.heap.size, 0, none⟩) j 16 (kk16.take j) := fun u hu j hj =>
    ⟨by rw [List.length_take, kk16_len]; omega, hj, (fun h => by cases h), blk_reads (Blk.below hb0.out hu hlt) rfl (by rw [kk16_len]; exact hj)⟩
  have SK := hide sk
  clear sk hb0
  go_wp2_with fail
  refine (mac_any (some ⟨w.heap.size, 0, none⟩) none 16 16 0 0 kk16 [] w1 (SK.out w1 (Below.refl _ _) 16 (by omega)) (sl_nil w1) (.inl rfl)).mono ?_
  rw [show (16 / 4 + 7 : Nat) = 11 from rfl, mac_known]
  rintro e w2 ⟨gm, rfl, sm, b2⟩
  have SM := hide sm
  have B2 := hide b2
  clear sm b2
  go_wp2_with fail
  refine (macBad_of _ none 15 16 0 0 w2 (by decide) (by decide) (by decide)).mono ?_
  rintro e w3 ⟨rfl, b3⟩
  have B3 := hide (B2.out.trans (b3.mono B2.out.size))
  have SM3 := hide (SM.out.below b3)
  clear b3 SM B2
  go_wp2_with fail
  refine (msealBad_of _ _ none 16 16 15 16 0 0 w3 (cipherBadIv_any _ _ 16 16 15 16 kk16 w3 (SK.out w3 B3.out 16 (by omega)) (.inl rfl) (by decide))).mono ?_
  rintro e w4 ⟨rfl, b4⟩
  have B4 := hide (B3.out.trans (b4.mono B3.out.size))
  have SM4 := hide (SM3.out.below b4)
  clear b4 SM3 B3
  go_wp2_with fail
  refine (mopenOdd_any _ _ _ 16 16 16 15 16 kk16 kk16 w4 (SK.out w4 B4.out 16 (by omega)) (SK.out w4 B4.out 16 (by omega)) (.inl rfl) (by decide)).mono ?_
  rintro e w5 ⟨rfl, b5⟩
  have B5 := hide (B4.out.trans (b5.mono B4.out.size))
  have SM5 := hide (SM4.out.below b5)
  clear b5 SM4 B4
  go_wp2_with fail
  refine (unpad_any none 0 0 [] w5 (sl_nil w5) (by omega)).mono ?_
  rw [unpad_nil]
  rintro e w6 ⟨A6, n6, c6, rfl, s6, b6⟩
  have hcode : code none = 11 := rfl
  rw [hcode]
  have B6 := hide (B5.out.trans (b6.mono B5.out.size))
  have SM6 := hide (SM5.out.below b6)
  have hmk := HMK.out
  clear b6 SM5 B5 s6 hcode
  go_wp2_with fail
  have hb7 := Blk.new w6 5 (bytes zz16).toArray
  have hs7 : Sl (w6.alloc (.cells (bytes zz16).toArray 5)) (some ⟨w6.heap.size, 0, none⟩) 16 16 zz16 := ⟨rfl, Nat.le_refl _, (fun h => by cases h), by
    have := blk_reads (k := 16) hb7 rfl (Nat.le_refl _)
    have e : zz16.take 16 = zz16 := rfl
    rwa [e] at this⟩
  have hal := (Below.refl w6.heap.size w6).alloc (Nat.le_refl _) (.cells (bytes zz16).toArray 5)
  have SM7 := hide (SM6.out.below hal)
  have B7 := hide (B6.out.trans (hal.mono B6.out.size))
  refine (unpad_any _ 16 16 zz16 _ hs7 (by omega)).mono ?_
  rw [unpad_zeros]
  rintro e w8 ⟨A8, n8, c8, rfl, s8, b8⟩
  have hcode : code none = 11 := rfl
  rw [hcode]
  have B8 := hide (B7.out.trans (b8.mono B7.out.size))
  have SM8 := hide (SM7.out.below b8)
  clear b8 SM7 B7 s8 hcode hb7 hs7 hal SM6 B6 hmk
  go_wp2_with fail
  refine (known9_any w8).mono ?_
  rintro e w9 ⟨rfl, b9⟩
  have B9 := hide (B8.out.trans (b9.mono B8.out.size))
  have sm9 := SM8.out.below b9
  have f0 : w9.cell? ⟨gm, 0, none⟩ = some (.int .u8 187) := by
    obtain ⟨ad, e, hc⟩ := sm9.at_ (show 0 < 16 by omega)
    injection e with e
    subst e
    exact hc
  have f1 : w9.cell? ⟨gm, 1, none⟩ = some (.int .u8 29) := by
    obtain ⟨ad, e, hc⟩ := sm9.at_ (show 1 < 16 by omega)
    injection e with e
    subst e
    exact hc
  have f15 : w9.cell? ⟨gm, 15, none⟩ = some (.int .u8 70) := by
    obtain ⟨ad, e, hc⟩ := sm9.at_ (show 15 < 16 by omega)
    injection e with e
    subst e
    exact hc
  clear b9 SM8 B8 sm9
  go_wp2_with fail
  go_ret
  exact ⟨rfl, hbe.trans (B9.out.mono hbe.size)⟩
end Go.Proofs.Ytjcdblnodbadcaa
