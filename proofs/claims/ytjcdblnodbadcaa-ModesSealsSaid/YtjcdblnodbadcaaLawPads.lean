/- The walk of the law ModesPads. -/
import Derived.Test.YtjcdblnodbadcaaUnpad
import Derived.Lib.SlBytesConst
import Derived.Deep.RegionWith
import Derived.Deep.DeepCutAuto
namespace Go.Proofs.Ytjcdblnodbadcaa
open Go.RowKit

set_option maxHeartbeats 400000 in
theorem pick_any (n m : Int) (w : World) (hm : 0 < m ∧ m ≤ 9223372036854775807) : Calls Try.prog 20 #[.int .i64 n, .int .i64 m] w fun e w' => (∃ r, e = .returned (.int .i64 r) ∧ 0 ≤ r ∧ r < m) ∧ w = w' := by
  obtain ⟨h3, h4⟩ := hm
  have hlo : -m < n.tmod m := by
    have := Int.tmod_lt_of_pos (-n) h3
    rw [Int.neg_tmod] at this
    omega
  have hhi : n.tmod m < m := Int.tmod_lt_of_pos n h3
  go_enter Try.func20, Try.ntmps20
  go_wp2
  all_goals go_ret
  all_goals exact ⟨⟨_, rfl, by omega, by omega⟩, rfl⟩

theorem sl_nil (w : World) : Sl w none 0 0 [] := ⟨rfl, Nat.le_refl _, fun _ => rfl, Reads.none_⟩
theorem sl_ab (w : World) (fr : Nat × Nat) : Sl (w.alloc (.cells #[.int .u8 97, .int .u8 98] 5 fr)) (some ⟨w.heap.size, 0, none⟩) 2 2 [97, 98] := by
  refine ⟨rfl, Nat.le_refl _, (fun h => by cases h), rfl, fun _ => ⟨_, rfl, by simp, fun j u hj => ?_⟩⟩
  rw [Addr.add_lit, Nat.zero_add, World.cell?_alloc_mark]
  match j, hj with
  | 0, hj => simpa [bytes, I] using hj
  | 1, hj => simpa [bytes, I] using hj
  | j + 2, hj => simp [bytes] at hj

set_option maxRecDepth 100000 in
set_option maxHeartbeats 800000 in
theorem known9_any (w : World) : Calls Try.prog 23 #[] w fun e w' => e = .returned (.bool true) ∧ Below w.heap.size w w' := by
  have kc := fun (w : World) (C : Array Value) (n c : Nat) => Lib.run_convert_bytes_const (P := Try.prog) w 26 5 C n c Try.underlying26 Try.underlying5
  go_enter Try.func23, Try.ntmps23
  go_wp2_with fail
  refine (pad_any _ 2 2 [97, 98] _ (sl_ab w _) (by omega)).mono ?_
  rintro e w1 ⟨v1, rfl, o1, b1⟩
  obtain ⟨A1, c1, rfl, s1⟩ := Sl.of_own o1
  go_wp2_with fail
  refine (unpad_any A1 _ c1 _ _ s1 (by rw [Mod.pad_length]; simp)).mono ?_
  rw [Mod.unpad_pad]
  rintro e w2 ⟨A2, n2, c2, rfl, s2, b2⟩
  have hs2 := s2.1
  simp only [Option.getD_some, List.length_cons, List.length_nil] at hs2
  subst hs2
  have cv := conv_string s2
  have hb1 : Below w.heap.size w w1 := ((Below.refl _ _).alloc (Nat.le_refl _) _).trans (b1.mono (by simp))
  have hb2 : Below w.heap.size w w2 := hb1.trans (b2.mono hb1.size)
  clear b1 b2 o1 s1
  have hcode : code (some [97, 98]) = 0 := rfl
  rw [hcode]
  simp only [Option.getD_some] at cv
  go_wp2_with fail
  refine (pad_any none 0 0 [] _ (sl_nil _) (by omega)).mono ?_
  rintro e w3 ⟨v3, rfl, o3, b3⟩
  obtain ⟨A3, c3, rfl, s3⟩ := Sl.of_own o3
  have hl : (Mod.pad []).length = 16 := by rw [Mod.pad_length]; rfl
  rw [hl]
  go_wp2_with fail
  go_ret
  exact ⟨rfl, hb2.trans (b3.mono hb2.size)⟩

/-- the place that the law turns -/
theorem sl_set {w : World} {base : Nat} {v : Value} {b : List UInt8} (h : w.ownsRow base 5 1 v b.length (bytes b)) {k : Nat} (hk : k < b.length) (y : UInt8) :
    ∃ g c, v = .slice (some ⟨g, 0, none⟩) b.length c ∧ base ≤ g ∧ w.cell? ⟨g, k, none⟩ = some (.int .u8 (I (b.getD k 0))) ∧ w.frozen? ⟨g, k, none⟩ = false ∧
      Sl (w.setCell ⟨g, k, none⟩ (.int .u8 (I y))) (some ⟨g, 0, none⟩) b.length c (b.set k y) := by
  have h0 := h
  obtain ⟨_, h2⟩ := h
  rcases h2 with ⟨_, h2⟩ | ⟨g, cap, cur, rfl, hb, hg, hc, _⟩
  · omega
  · refine ⟨g, cap, rfl, hb, (h0.cellAt k (by omega)).trans (bytes_get hk), h0.frozenAt k, ?_⟩
    have hs := h0.stored k (.int .u8 (I y))
    have e : (bytes b).set k (.int .u8 (I y)) = bytes (b.set k y) := by simp [bytes, List.map_set]
    rw [e] at hs
    have hl : (b.set k y).length = b.length := by simp
    rw [← hl] at hs
    obtain ⟨A', c', hv, hsl⟩ := Sl.of_own hs.1
    injection hv with hA _ hc'
    subst hA
    subst hc'
    rwa [hl] at hsl

set_option maxRecDepth 100000 in
set_option maxHeartbeats 16000000 in
theorem lawPads_any (A B : Option Addr) (n c m d : Nat) (l b : List UInt8) (k : Int) (y : UInt8) (near : Bool) (w : World) (h : Sl w A n c l) (h' : Sl w B m d b) (hl : n ≤ 140737488351232) (hm : m ≤ 140737488351232) :
    Calls Try.prog 4 #[.slice A n c, .slice B m d, .int .i64 k, .int .u8 (I y), .bool near] w fun e w' => e = .returned (.bool true) ∧ Below w.heap.size w w' := by
  have H := hide h
  have H' := hide h'
  clear h h'
  go_enter Try.func4, Try.ntmps4
  go_upto_if 16 with fail
  go_cut [1, 11] (fun v1 _ wc => ∃ B m d b, v1 = .slice B m d ∧ Hid (Sl wc B m d b) ∧ m ≤ 140737488355000 ∧ Below w.heap.size w wc)
  case first =>
    cases near
    · go_wp2_with fail
      go_meet
      case rel => exact ⟨B, m, d, b, rfl, H', by omega, Below.refl _ _⟩
    · go_wp2_with fail
      refine (refPad_any A n c l _ H.out (by omega)).mono ?_
      rintro e w1 ⟨v1, rfl, o1, b1⟩
      have hpl : (Mod.pad l).length ≤ 140737488351248 := by rw [Mod.pad_length, ← H.out.1]; omega
      have hp1 : 1 ≤ (Mod.pad l).length := by rw [Mod.pad_length]; omega
      generalize Mod.pad l = p at o1 hpl hp1
      obtain ⟨q, hq⟩ : ∃ q, q = p.length := ⟨_, rfl⟩
      obtain ⟨A1, c1, rfl, _⟩ := Sl.of_own o1
      rw [← hq] at hpl hp1
      have O1 := hide o1
      have Hq := hide hq
      clear o1
      rw [← hq]
      clear hq
      go_wp2_with fail
      all_goals
        refine (pick_any _ _ _ (by omega)).mono ?_
        rintro e w2 ⟨⟨r, rfl, hr1, hr2⟩, rfl⟩
        obtain ⟨ρ, rfl⟩ := Int.eq_ofNat_of_zero_le hr1
        have hρ1 : ρ < q := by omega
        have hρ2 : ρ < 17 := by omega
        obtain ⟨g, c2, hv, hg, hcell, hfz, hsl⟩ := sl_set O1.out (k := q - 1 - ρ) (by rw [← Hq.out]; omega) (p.getD (q - 1 - ρ) 0 ^^^ y)
        injection hv with hA _ _
        subst hA
        go_wp2_with fail
        go_meet
        case rel => exact ⟨_, _, _, _, rfl, hide (by rw [Hq.out] at hsl ⊢; exact hsl), by omega, b1.setCell hg _⟩
  case rest =>
    obtain ⟨B, m, d, b, rfl, H', hm, b0⟩ := hcut
    have hs0 := b0.size
    go_wp2_with fail
    refine (unpad_any B m d b _ H'.out (by omega)).mono ?_
    rintro e w1 ⟨A1, n1, c1, rfl, s1, b1⟩
    go_wp2_with fail
    refine (unpadR_any B m d b _ (H'.out.below b1) (by omega)).mono ?_
    rintro e w2 ⟨⟨A2, n2, c2, rfl, s2, _⟩, rfl⟩
    rw [← Mod.unpad_eq] at s2 ⊢
    have S1 := hide s1
    have S2 := hide s2
    have b01 : Below w.heap.size w w1 := b0.trans (b1.mono hs0)
    have hb0 := b01.size
    clear s1 s2 b1 b0 hs0
    go_wp2_with fail
    go_region_with (first
      | (go_at_call 23; (with_reducible refine (known9_any _).mono ?_); rintro e w3 ⟨rfl, b3⟩; have b13 : Below w1.heap.size w1 w3 := ((Below.refl w1.heap.size w1).drew).trans b3; have h3 := H.out.below (b01.trans (b13.mono hb0)); clear b3)
      | (go_at_call 24; (with_reducible refine (pad_any A n c l _ h3 (by omega)).mono ?_); rintro e w4 ⟨v4, rfl, o4, b4⟩; obtain ⟨A4, c4, rfl, s4⟩ := Sl.of_own o4; have cv4 := conv_string s4; have b14 := b13.trans (b4.mono b13.size); have h4 := h3.below b4; clear b13 b4 o4 h3)
      | (go_at_call 19; (with_reducible refine (refPad_any A n c l _ h4 (by omega)).mono ?_); rintro e w5 ⟨v5, rfl, o5, b5⟩; obtain ⟨A5, c5, rfl, s5⟩ := Sl.of_own o5; have cv5 := conv_string s5; have cv6 := conv_string (s4.below b5); have b15 := b14.trans (b5.mono b14.size); have cv7 := conv_string (S1.out.below b15); have cv8 := conv_string (S2.out.below b15); have bend := b01.trans (b15.mono hb0); clear b15 b14 b5 o5 h4 s4 s5 cv4))
    all_goals
      simp only [List.getElem_toArray, List.getElem_cons_succ, List.getElem_cons_zero, Act.put, List.setIfInBounds_toArray, List.set_cons_succ, List.set_cons_zero]
      go_wp2_with fail
      go_ret
      exact ⟨rfl, bend⟩
end Go.Proofs.Ytjcdblnodbadcaa
