import Derived.Test.YtjcdblnodbadcaaField
/- The cipher over plain lists: blocks of 16 bytes, the program's order of steps, the reference's order, their sameness, and that opening undoes sealing. -/
namespace Go.Proofs.Ytjcdblnodbadcaa
namespace Cip
open Fld

/-- sixteen bytes by a rule -/
def t16 (f : Nat → UInt8) : List UInt8 := (List.range 16).map f
theorem t16_length (f : Nat → UInt8) : (t16 f).length = 16 := by simp [t16]
theorem t16_get (f : Nat → UInt8) {i : Nat} (h : i < 16) : (t16 f).getD i 0 = f i := by
  simp [t16, List.getD, h]
theorem t16_congr {f g : Nat → UInt8} (h : ∀ i, i < 16 → f i = g i) : t16 f = t16 g := by
  unfold t16; exact List.map_congr_left fun i hi => h i (List.mem_range.1 hi)
theorem t16_self {s : List UInt8} (h : s.length = 16) : (t16 fun i => s.getD i 0) = s := by
  apply List.ext_getElem
  · simp [t16, h]
  · intro i h1 h2
    simp [t16, List.getD, List.getElem?_eq_getElem h2]

def add (all : List UInt8) (r : Nat) (s : List UInt8) : List UInt8 := t16 fun i => s.getD i 0 ^^^ all.getD (16 * r + i) 0
def sub (s : List UInt8) : List UInt8 := t16 fun i => sb (s.getD i 0)
def unsub (s : List UInt8) : List UInt8 := t16 fun i => ub (s.getD i 0)
def shift (s : List UInt8) : List UInt8 := t16 fun i => s.getD ((i + 4 * (i % 4)) % 16) 0
def unshift (s : List UInt8) : List UInt8 := t16 fun i => s.getD ((i + 64 - 4 * (i % 4)) % 16) 0
/-- one byte of a column's product -/
def col (m : List UInt8) (s : List UInt8) (i : Nat) : Nat → UInt8
  | 0 => 0
  | k + 1 => col m s i k ^^^ times (m.getD ((k + 4 - i % 4) % 4) 0) (s.getD (i / 4 * 4 + k) 0)
def columns (m : List UInt8) (s : List UInt8) : List UInt8 := t16 fun i => col m s i 4
def mixM : List UInt8 := [2, 3, 1, 1]
def unM : List UInt8 := [14, 11, 13, 9]

/-- the program's Seal, nr rounds' keys, n rounds to go, from round r -/
def sealGo (all : List UInt8) (nr : Nat) : Nat → Nat → List UInt8 → List UInt8
  | 0, _, s => s
  | n + 1, r, s => sealGo all nr n (r + 1) (add all r (if r = nr - 1 then shift (sub s) else columns mixM (shift (sub s))))
def sealB (all : List UInt8) (nr : Nat) (b : List UInt8) : List UInt8 := sealGo all nr (nr - 1) 1 (add all 0 b)
/-- the program's Open: r rounds to go -/
def openGo (all : List UInt8) (nr : Nat) : Nat → List UInt8 → List UInt8
  | 0, s => add all 0 s
  | r + 1, s => openGo all nr r (unsub (unshift (if r + 1 = nr - 1 then add all (r + 1) s else columns unM (add all (r + 1) s))))
def openB (all : List UInt8) (nr : Nat) (b : List UInt8) : List UInt8 := openGo all nr (nr - 1) b

theorem add_length (all r s) : (add all r s).length = 16 := t16_length _
theorem sub_length (s) : (sub s).length = 16 := t16_length _
theorem shift_length (s) : (shift s).length = 16 := t16_length _
theorem columns_length (m s) : (columns m s).length = 16 := t16_length _
theorem unsub_length (s) : (unsub s).length = 16 := t16_length _
theorem unshift_length (s) : (unshift s).length = 16 := t16_length _
theorem add_add (all r) {s : List UInt8} (h : s.length = 16) : add all r (add all r s) = s := by
  conv => rhs; rw [← t16_self h]
  refine t16_congr fun i hi => ?_
  rw [add, t16_get _ hi, UInt8.xor_assoc, UInt8.xor_self, UInt8.xor_zero]
theorem unsub_sub {s : List UInt8} (h : s.length = 16) : unsub (sub s) = s := by
  conv => rhs; rw [← t16_self h]
  refine t16_congr fun i hi => ?_
  rw [sub, t16_get _ hi, ub_sb]
theorem sub_unsub {s : List UInt8} (h : s.length = 16) : sub (unsub s) = s := by
  conv => rhs; rw [← t16_self h]
  refine t16_congr fun i hi => ?_
  rw [unsub, t16_get _ hi, sb_ub]
theorem unshift_shift {s : List UInt8} (h : s.length = 16) : unshift (shift s) = s := by
  conv => rhs; rw [← t16_self h]
  refine t16_congr fun i hi => ?_
  rw [shift, t16_get _ (by omega)]
  congr 1; omega
theorem shift_unshift {s : List UInt8} (h : s.length = 16) : shift (unshift s) = s := by
  conv => rhs; rw [← t16_self h]
  refine t16_congr fun i hi => ?_
  rw [unshift, t16_get _ (by omega)]
  congr 1; omega

/-- a sum of four products -/
def lin (a b c d x y z u : UInt8) : UInt8 := times a x ^^^ times b y ^^^ times c z ^^^ times d u
theorem times_lin (p a b c d x y z u : UInt8) : times p (lin a b c d x y z u) = lin (times p a) (times p b) (times p c) (times p d) x y z u := by
  simp only [lin, times_add, times_assoc]
theorem lin_add (a b c d e f g h x y z u : UInt8) : lin a b c d x y z u ^^^ lin e f g h x y z u = lin (a ^^^ e) (b ^^^ f) (c ^^^ g) (d ^^^ h) x y z u := by
  simp only [lin, add_times]
  ac_rfl
theorem col_lin (m s : List UInt8) (i : Nat) : col m s i 4 = lin (m.getD ((4 - i % 4) % 4) 0) (m.getD ((5 - i % 4) % 4) 0) (m.getD ((6 - i % 4) % 4) 0) (m.getD ((7 - i % 4) % 4) 0)
    (s.getD (i / 4 * 4) 0) (s.getD (i / 4 * 4 + 1) 0) (s.getD (i / 4 * 4 + 2) 0) (s.getD (i / 4 * 4 + 3) 0) := by
  simp only [col, lin, UInt8.zero_xor, Nat.add_zero, Nat.zero_add, Nat.reduceAdd]
theorem columns_get (m s : List UInt8) {i : Nat} (h : i < 16) : (columns m s).getD i 0 = col m s i 4 := t16_get _ h
theorem lin_lin (p q r t : UInt8) (a0 a1 a2 a3 b0 b1 b2 b3 c0 c1 c2 c3 d0 d1 d2 d3 x y z u : UInt8) :
    lin p q r t (lin a0 a1 a2 a3 x y z u) (lin b0 b1 b2 b3 x y z u) (lin c0 c1 c2 c3 x y z u) (lin d0 d1 d2 d3 x y z u) =
      lin (times p a0 ^^^ times q b0 ^^^ times r c0 ^^^ times t d0) (times p a1 ^^^ times q b1 ^^^ times r c1 ^^^ times t d1)
        (times p a2 ^^^ times q b2 ^^^ times r c2 ^^^ times t d2) (times p a3 ^^^ times q b3 ^^^ times r c3 ^^^ times t d3) x y z u := by
  show times p (lin a0 a1 a2 a3 x y z u) ^^^ times q (lin b0 b1 b2 b3 x y z u) ^^^ times r (lin c0 c1 c2 c3 x y z u) ^^^ times t (lin d0 d1 d2 d3 x y z u) = _
  simp only [times_lin, lin_add]
/-- the two rows of numbers are each other's back -/
def Back (a b : List UInt8) : Prop :=
  ∀ r : Fin 4, ∀ j : Fin 4, (times (a.getD ((4 - r.val) % 4) 0) (b.getD (j.val % 4) 0) ^^^ times (a.getD ((5 - r.val) % 4) 0) (b.getD ((j.val + 3) % 4) 0) ^^^
      times (a.getD ((6 - r.val) % 4) 0) (b.getD ((j.val + 2) % 4) 0) ^^^ times (a.getD ((7 - r.val) % 4) 0) (b.getD ((j.val + 1) % 4) 0)) = if r = j then 1 else 0
theorem columns_columns {a b : List UInt8} (hab : Back a b) {s : List UInt8} (h : s.length = 16) : columns a (columns b s) = s := by
  conv => rhs; rw [← t16_self h]
  refine t16_congr fun i hi => ?_
  rw [col_lin]
  rw [columns_get _ _ (by omega), columns_get _ _ (by omega), columns_get _ _ (by omega), columns_get _ _ (by omega)]
  simp only [col_lin]
  have e0 : (i / 4 * 4) % 4 = 0 := by omega
  have e1 : (i / 4 * 4 + 1) % 4 = 1 := by omega
  have e2 : (i / 4 * 4 + 2) % 4 = 2 := by omega
  have e3 : (i / 4 * 4 + 3) % 4 = 3 := by omega
  have d0 : (i / 4 * 4) / 4 = i / 4 := by omega
  have d1 : (i / 4 * 4 + 1) / 4 = i / 4 := by omega
  have d2 : (i / 4 * 4 + 2) / 4 = i / 4 := by omega
  have d3 : (i / 4 * 4 + 3) / 4 = i / 4 := by omega
  rw [e0, e1, e2, e3, d0, d1, d2, d3]
  have hi4 : i = i / 4 * 4 + i % 4 := by omega
  have hr : i % 4 < 4 := by omega
  conv => rhs; rw [hi4]
  generalize i / 4 * 4 = c
  generalize i % 4 = r at hr
  rw [lin_lin]
  have k0 := hab ⟨r, hr⟩ 0
  have k1 := hab ⟨r, hr⟩ 1
  have k2 := hab ⟨r, hr⟩ 2
  have k3 := hab ⟨r, hr⟩ 3
  simp only [Nat.reduceMod, Nat.reduceSub] at k0 k1 k2 k3 ⊢
  have f0 : ((0 : Fin 4).val) = 0 := rfl
  have f1 : ((1 : Fin 4).val) = 1 := rfl
  have f2 : ((2 : Fin 4).val) = 2 := rfl
  have f3 : ((3 : Fin 4).val) = 3 := rfl
  simp only [f0, f1, f2, f3, Nat.reduceMod, Nat.reduceAdd] at k0 k1 k2 k3
  rw [k0, k1, k2, k3]
  match r, hr with
  | 0, _ => simp [lin, one_times, zero_times]
  | 1, _ => simp [lin, one_times, zero_times]
  | 2, _ => simp [lin, one_times, zero_times]
  | 3, _ => simp [lin, one_times, zero_times]
theorem back_un : Back unM mixM := by unfold Back; decide +kernel
theorem back_mix : Back mixM unM := by unfold Back; decide +kernel

/-! ### opening undoes sealing -/
theorem sealGo_length (all nr) : ∀ n r {s : List UInt8}, s.length = 16 → (sealGo all nr n r s).length = 16 := by
  intro n
  induction n with
  | zero => intro r s h; exact h
  | succ n ih => intro r s h; exact ih _ (add_length ..)
theorem openGo_length (all nr) : ∀ n {s : List UInt8}, s.length = 16 → (openGo all nr n s).length = 16 := by
  intro n
  induction n with
  | zero => intro s h; exact add_length ..
  | succ n ih => intro s h; exact ih (unsub_length _)
theorem sealB_length (all nr) (b : List UInt8) : (sealB all nr b).length = 16 := sealGo_length _ _ _ _ (add_length ..)
theorem openB_length (all nr) {b : List UInt8} (h : b.length = 16) : (openB all nr b).length = 16 := openGo_length _ _ _ h
/-- a round of the one, a round of the other -/
theorem round_back (all nr r) {s : List UInt8} (h : s.length = 16) :
    (unsub (unshift (if r = nr - 1 then add all r (add all r (if r = nr - 1 then shift (sub s) else columns mixM (shift (sub s)))) else columns unM (add all r (add all r (if r = nr - 1 then shift (sub s) else columns mixM (shift (sub s)))))))) = s := by
  by_cases e : r = nr - 1
  · simp only [if_pos e]; rw [add_add _ _ (shift_length _), unshift_shift (sub_length _), unsub_sub h]
  · simp only [if_neg e]; rw [add_add _ _ (columns_length ..), columns_columns back_un (shift_length _), unshift_shift (sub_length _), unsub_sub h]
theorem back_round (all nr r) {s : List UInt8} (h : s.length = 16) :
    add all r (if r = nr - 1 then shift (sub (unsub (unshift (if r = nr - 1 then add all r s else columns unM (add all r s))))) else columns mixM (shift (sub (unsub (unshift (if r = nr - 1 then add all r s else columns unM (add all r s))))))) = s := by
  by_cases e : r = nr - 1
  · simp only [if_pos e]; rw [sub_unsub (unshift_length _), shift_unshift (add_length ..), add_add _ _ h]
  · simp only [if_neg e]; rw [sub_unsub (unshift_length _), shift_unshift (columns_length ..), columns_columns back_mix (add_length ..), add_add _ _ h]
/-- one round more at the end -/
theorem sealGo_snoc (all nr) : ∀ n r s, sealGo all nr (n + 1) r s = add all (r + n) (if r + n = nr - 1 then shift (sub (sealGo all nr n r s)) else columns mixM (shift (sub (sealGo all nr n r s)))) := by
  intro n
  induction n with
  | zero => intro r s; rfl
  | succ n ih =>
    intro r s
    show sealGo all nr (n + 1) (r + 1) _ = _
    rw [ih, show r + 1 + n = r + (n + 1) by omega]
    rfl
theorem open_seal_go (all nr) : ∀ n {s : List UInt8}, s.length = 16 → openGo all nr n (sealGo all nr n 1 s) = add all 0 s := by
  intro n
  induction n with
  | zero => intro s h; rfl
  | succ n ih =>
    intro s h
    rw [sealGo_snoc, Nat.add_comm 1 n]
    simp only [openGo]
    rw [round_back _ _ _ (sealGo_length _ _ _ _ h), ih h]
theorem open_seal (all nr) {b : List UInt8} (h : b.length = 16) : openB all nr (sealB all nr b) = b := by
  unfold openB sealB
  rw [open_seal_go _ _ _ (add_length ..), add_add _ _ h]
theorem seal_open_go (all nr) : ∀ n {s : List UInt8}, s.length = 16 → sealGo all nr n 1 (add all 0 (openGo all nr n s)) = s := by
  intro n
  induction n with
  | zero => intro s h; exact add_add _ _ h
  | succ n ih =>
    intro s h
    rw [sealGo_snoc, Nat.add_comm 1 n]
    simp only [openGo]
    rw [ih (unsub_length _), back_round _ _ _ h]
theorem seal_open (all nr) {b : List UInt8} (h : b.length = 16) : sealB all nr (openB all nr b) = b := seal_open_go all nr (nr - 1) h
theorem seal_inj (all nr) {a b : List UInt8} (ha : a.length = 16) (hb : b.length = 16) : sealB all nr a = sealB all nr b ↔ a = b :=
  ⟨fun h => by rw [← open_seal all nr ha, h, open_seal all nr hb], fun h => by rw [h]⟩

/-! ### the keys -/
/-- the word behind i words (flat: all), con the round's number: the new word's four bytes -/
def word (n i : Nat) (con : UInt8) (all : List UInt8) (k : Nat) : UInt8 :=
  (if i % n = 0 then (if k = 0 then sb (all.getD (4 * (i - 1) + 1) 0) ^^^ con else sb (all.getD (4 * (i - 1) + (k + 1) % 4) 0))
    else if n > 6 ∧ i % n = 4 then sb (all.getD (4 * (i - 1) + k) 0) else all.getD (4 * (i - 1) + k) 0) ^^^ all.getD (4 * (i - n) + k) 0
/-- m words more, from i words on -/
def keysGo (n : Nat) : Nat → Nat → UInt8 → List UInt8 → List UInt8
  | 0, _, _, all => all
  | m + 1, i, con, all => keysGo n m (i + 1) (if i % n = 0 then times con 2 else con) (all ++ (List.range 4).map (word n i con all))
/-- all round keys, flat -/
def keys (key : List UInt8) : List UInt8 := keysGo (key.length / 4) (4 * (key.length / 4 + 7) - key.length / 4) (key.length / 4) 1 key
theorem keysGo_length (n) : ∀ m i con all, (keysGo n m i con all).length = all.length + 4 * m := by
  intro m
  induction m with
  | zero => intros; rfl
  | succ m ih => intro i con all; simp only [keysGo, ih]; simp; omega
end Cip
end Go.Proofs.Ytjcdblnodbadcaa
