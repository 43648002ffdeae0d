/- The modes' functions and the reference's, each said whole: what they answer, refusals included. -/
import Derived.Test.YtjcdblnodbadcaaRefMOpen
import Derived.Test.YtjcdblnodbadcaaRefMac
import Derived.Test.YtjcdblnodbadcaaRefNewBad
import Derived.Test.YtjcdblnodbadcaaMOpen
import Derived.Test.YtjcdblnodbadcaaBad
import Derived.Test.YtjcdblnodbadcaaLawKnown9
namespace Go.Proofs.Ytjcdblnodbadcaa
open Go.RowKit

set_option maxRecDepth 100000 in
set_option maxHeartbeats 1600000 in
theorem rmacBad_of (A D : Option Addr) (n c j f : Nat) (w : World) (h1 : ¬ (n : Int) = 16) (h2 : ¬ (n : Int) = 24) (h3 : ¬ (n : Int) = 32) :
    Calls Try.prog 35 #[.slice A n c, .slice D j f] w fun e w' => e = .returned (.tuple #[.slice none 0 0, .int .i64 1]) ∧ w = w' := by
  have H1 := hide h1
  have H2 := hide h2
  have H3 := hide h3
  clear h1 h2 h3
  go_enter Try.func35, Try.ntmps35
  go_wp2_with fail
  refine (rnewBad_any A n c w H1.out H2.out H3.out).mono ?_
  rintro e w' ⟨rfl, rfl⟩
  go_wp2_with fail
  go_ret2
  exact ⟨rfl, rfl⟩
set_option maxRecDepth 100000 in
set_option maxHeartbeats 1600000 in
theorem rmsealBadKey_of (A B D : Option Addr) (n c m d j f : Nat) (w : World) (h1 : ¬ (n : Int) = 16) (h2 : ¬ (n : Int) = 24) (h3 : ¬ (n : Int) = 32) :
    Calls Try.prog 37 #[.slice A n c, .slice B m d, .slice D j f] w fun e w' => e = .returned (.tuple #[.slice none 0 0, .int .i64 1]) ∧ Below w.heap.size w w' := by
  have H1 := hide h1
  have H2 := hide h2
  have H3 := hide h3
  clear h1 h2 h3
  go_enter Try.func37, Try.ntmps37
  go_wp2_with fail
  refine (rnewBad_any A n c w H1.out H2.out H3.out).mono ?_
  rintro e w' ⟨rfl, rfl⟩
  go_wp2_with fail
  go_ret2
  exact ⟨rfl, Below.refl _ _⟩
set_option maxRecDepth 100000 in
set_option maxHeartbeats 1600000 in
theorem rmsealBadIv_of (A B D : Option Addr) (n c m d j f : Nat) (l : List UInt8) (w : World) (h : Sl w A n c l) (hl : n = 16 ∨ n = 24 ∨ n = 32) (h1 : ¬ (m : Int) = 16) :
    Calls Try.prog 37 #[.slice A n c, .slice B m d, .slice D j f] w fun e w' => e = .returned (.tuple #[.slice none 0 0, .int .i64 1]) ∧ Below w.heap.size w w' := by
  have H := hide h
  have HL := hide hl
  have hne : ((m : Int) != (16 : Int)) = true := by simpa using h1
  clear h hl
  go_enter Try.func37, Try.ntmps37
  go_wp2_with fail
  refine (rnew_any A n c l w H.out HL.out).mono ?_
  rintro e w2 ⟨⟨p, wb, wc, rfl, ci⟩, b2⟩
  clear ci
  go_wp2_with fail
  go_ret2
  exact ⟨rfl, b2⟩
set_option maxRecDepth 100000 in
set_option maxHeartbeats 1600000 in
theorem rmopenBadKey_of (A B D : Option Addr) (n c m d j f : Nat) (w : World) (h1 : ¬ (n : Int) = 16) (h2 : ¬ (n : Int) = 24) (h3 : ¬ (n : Int) = 32) :
    Calls Try.prog 39 #[.slice A n c, .slice B m d, .slice D j f] w fun e w' => e = .returned (.tuple #[.slice none 0 0, .int .i64 1]) ∧ Below w.heap.size w w' := by
  have H1 := hide h1
  have H2 := hide h2
  have H3 := hide h3
  clear h1 h2 h3
  go_enter Try.func39, Try.ntmps39
  go_wp2_with fail
  refine (rnewBad_any A n c w H1.out H2.out H3.out).mono ?_
  rintro e w' ⟨rfl, rfl⟩
  go_wp2_with fail
  go_ret2
  exact ⟨rfl, Below.refl _ _⟩
set_option maxRecDepth 100000 in
set_option maxHeartbeats 1600000 in
theorem rmopenBadIv_of (A B D : Option Addr) (n c m d j f : Nat) (l : List UInt8) (w : World) (h : Sl w A n c l) (hl : n = 16 ∨ n = 24 ∨ n = 32) (h1 : ¬ (m : Int) = 16) :
    Calls Try.prog 39 #[.slice A n c, .slice B m d, .slice D j f] w fun e w' => e = .returned (.tuple #[.slice none 0 0, .int .i64 1]) ∧ Below w.heap.size w w' := by
  have H := hide h
  have HL := hide hl
  have hne : ((m : Int) != (16 : Int)) = true := by simpa using h1
  clear h hl
  go_enter Try.func39, Try.ntmps39
  go_wp2_with fail
  refine (rnew_any A n c l w H.out HL.out).mono ?_
  rintro e w2 ⟨⟨p, wb, wc, rfl, ci⟩, b2⟩
  clear ci
  go_wp2_with fail
  go_ret2
  exact ⟨rfl, b2⟩
set_option maxRecDepth 100000 in
set_option maxHeartbeats 1600000 in
theorem rmopenOdd_of (A B D : Option Addr) (n c d j f : Nat) (l : List UInt8) (w : World) (h : Sl w A n c l) (hl : n = 16 ∨ n = 24 ∨ n = 32) (h1 : j = 0 ∨ ¬ (j : Int) % 16 = 0) :
    Calls Try.prog 39 #[.slice A n c, .slice B 16 d, .slice D j f] w fun e w' => e = .returned (.tuple #[.slice none 0 0, .int .i64 11]) ∧ Below w.heap.size w w' := by
  have H := hide h
  have HL := hide hl
  clear h hl
  rcases h1 with rfl | h1
  · go_enter Try.func39, Try.ntmps39
    go_wp2_with fail
    refine (rnew_any A n c l w H.out HL.out).mono ?_
    rintro e w2 ⟨⟨p, wb, wc, rfl, ci⟩, b2⟩
    clear ci
    go_wp2_with fail
    go_ret2
    exact ⟨rfl, b2⟩
  · have hj0 : ¬ (j : Int) = 0 := by omega
    have hj1 : (0 : Int) < (j : Int) % (16 : Int) := by omega
    clear h1
    go_enter Try.func39, Try.ntmps39
    go_wp2_with fail
    refine (rnew_any A n c l w H.out HL.out).mono ?_
    rintro e w2 ⟨⟨p, wb, wc, rfl, ci⟩, b2⟩
    clear ci
    go_wp2_with fail
    go_ret2
    exact ⟨rfl, b2⟩

/-- a key's length that may be -/
def keyFits (l : List UInt8) : Prop := l.length = 16 ∨ l.length = 24 ∨ l.length = 32
instance (l : List UInt8) : Decidable (keyFits l) := inferInstanceAs (Decidable (_ ∨ _))
def sealC (l iv t : List UInt8) : List UInt8 × Int := if keyFits l ∧ iv.length = 16 then (Mod.sealT (Cip.keys l) (l.length / 4 + 7) iv t, 0) else ([], 1)
def openC (l iv b : List UInt8) : List UInt8 × Int :=
  if keyFits l ∧ iv.length = 16 then (if b.length % 16 = 0 then ((Mod.openT (Cip.keys l) (l.length / 4 + 7) iv b).getD [], code (Mod.openT (Cip.keys l) (l.length / 4 + 7) iv b)) else ([], 11)) else ([], 1)
def macC (l t : List UInt8) : List UInt8 × Int := if keyFits l then (Mod.mac (Cip.keys l) (l.length / 4 + 7) t, 0) else ([], 1)
/-- a text and an errno, answered -/
def Ans (w w' : World) (r : List UInt8 × Int) (e : Ending) : Prop :=
  ∃ A n c, e = .returned (.tuple #[.slice A n c, .int .i64 r.2]) ∧ Sl w' A n c r.1 ∧ Below w.heap.size w w'
theorem ans_nil {w w' : World} {z : Int} (hb : Below w.heap.size w w') : Ans w w' ([], z) (.returned (.tuple #[.slice none 0 0, .int .i64 z])) :=
  ⟨none, 0, 0, rfl, ⟨rfl, Nat.le_refl _, fun _ => rfl, Reads.none_⟩, hb⟩
theorem ans_own {w w' : World} {v : Value} {T : List UInt8} {z : Int} (ho : w'.ownsRow w.heap.size 5 1 v T.length (bytes T)) (hb : Below w.heap.size w w') : Ans w w' (T, z) (.returned (.tuple #[v, .int .i64 z])) := by
  obtain ⟨A, c, rfl, hs⟩ := Sl.of_own ho
  exact ⟨A, _, c, rfl, hs, hb⟩
theorem openT_nil (all : List UInt8) (nr : Nat) (iv : List UInt8) : Mod.openT all nr iv [] = none := rfl
section
variable (A B D : Option Addr) (n c m d j f : Nat) (l iv t : List UInt8) (w : World)
theorem mseal_ans (h : Sl w A n c l) (h' : Sl w B m d iv) (h'' : Sl w D j f t) (hj : j ≤ 140737488351232) :
    Calls Try.prog 33 #[.slice A n c, .slice B m d, .slice D j f] w fun e w' => Ans w w' (sealC l iv t) e := by
  have e1 := h.1
  have e2 := h'.1
  unfold sealC keyFits
  by_cases hk : n = 16 ∨ n = 24 ∨ n = 32
  · by_cases hm : m = 16
    · subst hm
      rw [if_pos ⟨by omega, e2.symm⟩, ← e1]
      refine (mseal_any A B D n c d j f l iv t w h h' h'' hk hj).mono ?_
      rintro e w' ⟨v, rfl, ho, hb⟩
      exact ans_own ho hb
    · rw [if_neg (fun h => by omega)]
      refine (msealBad_of A B D n c m d j f w (cipherBadIv_any A B n c m d l w h hk (by omega))).mono ?_
      rintro e w' ⟨rfl, hb⟩
      exact ans_nil hb
  · rw [if_neg (fun h => by omega)]
    refine (msealBad_of A B D n c m d j f w (cipherBadKey_any A B n c m d w (by omega) (by omega) (by omega))).mono ?_
    rintro e w' ⟨rfl, hb⟩
    exact ans_nil hb
theorem rmseal_ans (h : Sl w A n c l) (h' : Sl w B m d iv) (h'' : Sl w D j f t) (hj : j ≤ 140737488351232) :
    Calls Try.prog 37 #[.slice A n c, .slice B m d, .slice D j f] w fun e w' => Ans w w' (sealC l iv t) e := by
  have e1 := h.1
  have e2 := h'.1
  unfold sealC keyFits
  by_cases hk : n = 16 ∨ n = 24 ∨ n = 32
  · by_cases hm : m = 16
    · subst hm
      rw [if_pos ⟨by omega, e2.symm⟩, ← e1]
      refine (rmseal_any A B D n c d j f l iv t w h h' h'' hk hj).mono ?_
      rintro e w' ⟨v, rfl, ho, hb⟩
      exact ans_own ho hb
    · rw [if_neg (fun h => by omega)]
      refine (rmsealBadIv_of A B D n c m d j f l w h hk (by omega)).mono ?_
      rintro e w' ⟨rfl, hb⟩
      exact ans_nil hb
  · rw [if_neg (fun h => by omega)]
    refine (rmsealBadKey_of A B D n c m d j f w (by omega) (by omega) (by omega)).mono ?_
    rintro e w' ⟨rfl, hb⟩
    exact ans_nil hb
theorem mopen_ans (h : Sl w A n c l) (h' : Sl w B m d iv) (h'' : Sl w D j f t) (hj : j ≤ 140737488351248) :
    Calls Try.prog 38 #[.slice A n c, .slice B m d, .slice D j f] w fun e w' => Ans w w' (openC l iv t) e := by
  have e1 := h.1
  have e2 := h'.1
  have e3 := h''.1
  unfold openC keyFits
  by_cases hk : n = 16 ∨ n = 24 ∨ n = 32
  · by_cases hm : m = 16
    · subst hm
      rw [if_pos ⟨by omega, e2.symm⟩, ← e1]
      by_cases h16 : j % 16 = 0
      · rw [if_pos (by omega)]
        refine (mopen_any A B D n c d j f l iv t w h h' h'' hk hj h16).mono ?_
        rintro e w' ⟨A2, n2, c2, rfl, hs, hb⟩
        exact ⟨A2, n2, c2, rfl, hs, hb⟩
      · rw [if_neg (by omega)]
        refine (mopenOdd_any A B D n c d j f l iv w h h' hk (by omega)).mono ?_
        rintro e w' ⟨rfl, hb⟩
        exact ans_nil hb
    · rw [if_neg (fun h => by omega)]
      refine (mopenBad_of A B D n c m d j f w (cipherBadIv_any A B n c m d l w h hk (by omega))).mono ?_
      rintro e w' ⟨rfl, hb⟩
      exact ans_nil hb
  · rw [if_neg (fun h => by omega)]
    refine (mopenBad_of A B D n c m d j f w (cipherBadKey_any A B n c m d w (by omega) (by omega) (by omega))).mono ?_
    rintro e w' ⟨rfl, hb⟩
    exact ans_nil hb
theorem rmopen_ans (h : Sl w A n c l) (h' : Sl w B m d iv) (h'' : Sl w D j f t) (hj : j ≤ 140737488351248) :
    Calls Try.prog 39 #[.slice A n c, .slice B m d, .slice D j f] w fun e w' => Ans w w' (openC l iv t) e := by
  have e1 := h.1
  have e2 := h'.1
  have e3 := h''.1
  unfold openC keyFits
  by_cases hk : n = 16 ∨ n = 24 ∨ n = 32
  · by_cases hm : m = 16
    · subst hm
      rw [if_pos ⟨by omega, e2.symm⟩, ← e1]
      by_cases h16 : j % 16 = 0
      · rw [if_pos (by omega)]
        by_cases h0 : j = 0
        · have ht : t = [] := List.eq_nil_of_length_eq_zero (by omega)
          rw [ht, openT_nil]
          refine (rmopenOdd_of A B D n c d j f l w h hk (.inl h0)).mono ?_
          rintro e w' ⟨rfl, hb⟩
          exact ans_nil hb
        · refine (rmopen_any A B D n c d j f l iv t w h h' h'' hk hj h16 (by omega)).mono ?_
          rintro e w' ⟨A2, n2, c2, rfl, hs, hb⟩
          exact ⟨A2, n2, c2, rfl, hs, hb⟩
      · rw [if_neg (by omega)]
        refine (rmopenOdd_of A B D n c d j f l w h hk (.inr (by omega))).mono ?_
        rintro e w' ⟨rfl, hb⟩
        exact ans_nil hb
    · rw [if_neg (fun h => by omega)]
      refine (rmopenBadIv_of A B D n c m d j f l w h hk (by omega)).mono ?_
      rintro e w' ⟨rfl, hb⟩
      exact ans_nil hb
  · rw [if_neg (fun h => by omega)]
    refine (rmopenBadKey_of A B D n c m d j f w (by omega) (by omega) (by omega)).mono ?_
    rintro e w' ⟨rfl, hb⟩
    exact ans_nil hb
theorem mac_ans (h : Sl w A n c l) (h'' : Sl w D j f t) :
    Calls Try.prog 34 #[.slice A n c, .slice D j f] w fun e w' => Ans w w' (macC l t) e := by
  have e1 := h.1
  unfold macC
  by_cases hk : n = 16 ∨ n = 24 ∨ n = 32
  · rw [if_pos (show keyFits l by unfold keyFits; omega), ← e1]
    refine (mac_any A D n c j f l t w h h'' hk).mono ?_
    rintro e w' ⟨g, rfl, hs, hb⟩
    exact ⟨_, _, _, rfl, hs, hb⟩
  · rw [if_neg (fun h => by unfold keyFits at h; omega)]
    refine (macBad_of A D n c j f w (by omega) (by omega) (by omega)).mono ?_
    rintro e w' ⟨rfl, hb⟩
    exact ans_nil hb
theorem rmac_ans (h : Sl w A n c l) (h'' : Sl w D j f t) :
    Calls Try.prog 35 #[.slice A n c, .slice D j f] w fun e w' => Ans w w' (macC l t) e := by
  have e1 := h.1
  unfold macC
  by_cases hk : n = 16 ∨ n = 24 ∨ n = 32
  · rw [if_pos (show keyFits l by unfold keyFits; omega), ← e1]
    refine (rmac_any A D n c j f l t w h h'' hk).mono ?_
    rintro e w' ⟨g, rfl, hs, hb⟩
    exact ⟨_, _, _, rfl, hs, hb⟩
  · rw [if_neg (fun h => by unfold keyFits at h; omega)]
    refine (rmacBad_of A D n c j f w (by omega) (by omega) (by omega)).mono ?_
    rintro e w' ⟨rfl, rfl⟩
    exact ans_nil (Below.refl _ _)
end
end Go.Proofs.Ytjcdblnodbadcaa
