import Derived.Test.YtjcdblnodbadcaaCipher
/- Chapter 9 over plain lists: filling, stripping (the program's way and the reference's), CBC, CMAC; that what is sealed is opened to the text. -/
namespace Go.Proofs.Ytjcdblnodbadcaa
namespace Mod
open Cip

/-! ### filling -/
def padLen (n : Nat) : Nat := 16 - n % 16
def pad (t : List UInt8) : List UInt8 := t ++ List.replicate (padLen t.length) (UInt8.ofNat (padLen t.length))
theorem padLen_bd (n : Nat) : 1 ≤ padLen n ∧ padLen n ≤ 16 := by unfold padLen; omega
theorem pad_length (t : List UInt8) : (pad t).length = (t.length / 16 + 1) * 16 := by
  simp only [pad, List.length_append, List.length_replicate, padLen]; omega
/-- the last byte -/
def lastN (b : List UInt8) : Nat := (b.getD (b.length - 1) 0).toNat
/-- stripping, as the program does: filled again it must be the same -/
def unpad (b : List UInt8) : Option (List UInt8) :=
  if b.length = 0 ∨ b.length % 16 ≠ 0 then none
  else if lastN b < 1 ∨ 16 < lastN b then none
  else if pad (b.take (b.length - lastN b)) = b then some (b.take (b.length - lastN b)) else none
/-- stripping, as the reference does: each of the last n bytes is n -/
def unpadR (b : List UInt8) : Option (List UInt8) :=
  if b.length = 0 ∨ b.length % 16 ≠ 0 then none
  else if lastN b < 1 ∨ 16 < lastN b then none
  else if ∀ i, i < lastN b → (b.getD (b.length - lastN b + i) 0).toNat = lastN b then some (b.take (b.length - lastN b)) else none
theorem pad_take_iff {b : List UInt8} {n : Nat} (h0 : b.length ≠ 0) (h16 : b.length % 16 = 0) (h1 : 1 ≤ n) (h2 : n ≤ 16) :
    pad (b.take (b.length - n)) = b ↔ ∀ i, i < n → (b.getD (b.length - n + i) 0).toNat = n := by
  have hlen : (b.take (b.length - n)).length = b.length - n := by rw [List.length_take]; omega
  have hpl : padLen (b.length - n) = n := by unfold padLen; omega
  have hp : pad (b.take (b.length - n)) = b.take (b.length - n) ++ List.replicate n (UInt8.ofNat n) := by
    unfold pad; rw [hlen, hpl]
  rw [hp]
  constructor
  · intro h i hi
    have hg : (b.take (b.length - n) ++ List.replicate n (UInt8.ofNat n)).getD (b.length - n + i) 0 = UInt8.ofNat n := by
      simp only [List.getD]
      rw [List.getElem?_append_right (by rw [hlen]; omega), hlen, List.getElem?_replicate, if_pos (by omega)]
      rfl
    rw [h] at hg
    rw [hg]; simp; omega
  · intro h
    conv => rhs; rw [← List.take_append_drop (b.length - n) b]
    congr 1
    apply List.ext_getElem
    · simp; omega
    · intro i g1 g2
      have hi : i < n := by simpa using g1
      have hx := h i hi
      have hlt : b.length - n + i < b.length := by omega
      simp only [List.getElem_replicate, List.getElem_drop]
      simp only [List.getD, List.getElem?_eq_getElem hlt, Option.getD_some] at hx
      apply UInt8.toNat_inj.1
      rw [hx]; simp; omega
theorem unpad_eq (b : List UInt8) : unpad b = unpadR b := by
  unfold unpad unpadR
  by_cases c : b.length = 0 ∨ b.length % 16 ≠ 0
  · rw [if_pos c, if_pos c]
  · rw [if_neg c, if_neg c]
    by_cases d : lastN b < 1 ∨ 16 < lastN b
    · rw [if_pos d, if_pos d]
    · rw [if_neg d, if_neg d]
      have := pad_take_iff (b := b) (n := lastN b) (by omega) (by omega) (by omega) (by omega)
      by_cases e : pad (b.take (b.length - lastN b)) = b
      · rw [if_pos e, if_pos (this.1 e)]
      · rw [if_neg e, if_neg (fun h => e (this.2 h))]
theorem lastN_pad (t : List UInt8) : lastN (pad t) = padLen t.length := by
  have hb := padLen_bd t.length
  unfold lastN
  have hl : (pad t).length - 1 = t.length + (padLen t.length - 1) := by simp [pad]; omega
  rw [hl]
  simp only [pad, List.getD]
  rw [List.getElem?_append_right (by omega), List.getElem?_replicate, if_pos (by omega)]
  simp; omega
theorem unpad_pad (t : List UInt8) : unpad (pad t) = some t := by
  have hb := padLen_bd t.length
  have hl := pad_length t
  unfold unpad
  rw [if_neg (by omega), lastN_pad, if_neg (by omega)]
  have ht : (pad t).take ((pad t).length - padLen t.length) = t := by
    have : (pad t).length - padLen t.length = t.length := by simp [pad]
    rw [this]; simp [pad]
  rw [ht, if_pos rfl]

/-! ### blocks -/
def xor (a b : List UInt8) : List UInt8 := t16 fun i => a.getD i 0 ^^^ b.getD i 0
theorem xor_length (a b) : (xor a b).length = 16 := t16_length _
theorem xor_xor {a : List UInt8} (b : List UInt8) (h : a.length = 16) : xor (xor a b) b = a := by
  conv => rhs; rw [← t16_self h]
  refine t16_congr fun i hi => ?_
  rw [xor, t16_get _ hi, UInt8.xor_assoc, UInt8.xor_self, UInt8.xor_zero]
theorem xor_comm (a b) : xor a b = xor b a := t16_congr fun _ _ => UInt8.xor_comm _ _

/-- CBC: k blocks of p, the one ahead of them being last -/
def cbc (all : List UInt8) (nr : Nat) : Nat → List UInt8 → List UInt8 → List UInt8
  | 0, _, _ => []
  | k + 1, last, p => sealB all nr (xor (p.take 16) last) ++ cbc all nr k (sealB all nr (xor (p.take 16) last)) (p.drop 16)
/-- the last block -/
def cbcLast (all : List UInt8) (nr : Nat) : Nat → List UInt8 → List UInt8 → List UInt8
  | 0, last, _ => last
  | k + 1, last, p => cbcLast all nr k (sealB all nr (xor (p.take 16) last)) (p.drop 16)
def uncbc (all : List UInt8) (nr : Nat) : Nat → List UInt8 → List UInt8 → List UInt8
  | 0, _, _ => []
  | k + 1, last, b => xor (openB all nr (b.take 16)) last ++ uncbc all nr k (b.take 16) (b.drop 16)
theorem cbc_length (all nr) : ∀ k last p, (cbc all nr k last p).length = 16 * k := by
  intro k
  induction k with
  | zero => intros; rfl
  | succ k ih => intro last p; simp only [cbc, List.length_append, ih, sealB_length]; omega
theorem uncbc_length (all nr) : ∀ k last p, (uncbc all nr k last p).length = 16 * k := by
  intro k
  induction k with
  | zero => intros; rfl
  | succ k ih => intro last p; simp only [uncbc, List.length_append, ih, xor_length]; omega
theorem uncbc_cbc (all nr) : ∀ k last p, p.length = 16 * k → uncbc all nr k last (cbc all nr k last p) = p := by
  intro k
  induction k with
  | zero => intro last p h; exact (List.eq_nil_of_length_eq_zero (by omega)).symm
  | succ k ih =>
    intro last p h
    have hs := sealB_length all nr (xor (p.take 16) last)
    simp only [cbc, uncbc]
    rw [List.take_append_of_le_length (by omega), List.take_of_length_le (by omega), List.drop_append_of_le_length (by omega), List.drop_of_length_le (by omega), List.nil_append, ih _ _ (by rw [List.length_drop]; omega),
      open_seal _ _ (xor_length ..), xor_xor _ (by rw [List.length_take]; omega), List.take_append_drop]
def sealT (all : List UInt8) (nr : Nat) (iv t : List UInt8) : List UInt8 := cbc all nr (t.length / 16 + 1) iv (pad t)
def openT (all : List UInt8) (nr : Nat) (iv b : List UInt8) : Option (List UInt8) := unpad (uncbc all nr (b.length / 16) iv b)
theorem sealT_length (all nr iv) (t : List UInt8) : (sealT all nr iv t).length = (t.length / 16 + 1) * 16 := by unfold sealT; rw [cbc_length]; omega
theorem openT_sealT (all nr iv) (t : List UInt8) : openT all nr iv (sealT all nr iv t) = some t := by
  unfold openT
  rw [sealT_length, show (t.length / 16 + 1) * 16 / 16 = t.length / 16 + 1 by omega]
  unfold sealT
  rw [uncbc_cbc _ _ _ _ _ (by rw [pad_length]; omega), unpad_pad]

/-! ### CMAC -/
/-- shifted left by a bit -/
def twice (b : List UInt8) : List UInt8 := t16 fun i => if i < 15 then (b.getD i 0 <<< 1) ||| (b.getD (i + 1) 0 >>> 7) else (b.getD i 0 <<< 1) ^^^ (if b.getD 0 0 >>> 7 = 1 then 0x87 else 0)
def fill (t : List UInt8) : List UInt8 := t16 fun i => if i = t.length then 0x80 else t.getD i 0
/-- blocks ahead of the last one -/
def ahead (n : Nat) : Nat := (n - 1) / 16
def mac (all : List UInt8) (nr : Nat) (t : List UInt8) : List UInt8 :=
  let k1 := twice (sealB all nr (t16 fun _ => 0))
  let k := ahead t.length
  let last := cbcLast all nr k (t16 fun _ => 0) t
  let r := t.drop (16 * k)
  sealB all nr (xor (if r.length < 16 then xor (fill r) (twice k1) else xor r k1) last)
end Mod
end Go.Proofs.Ytjcdblnodbadcaa
