/- The field of 256 elements over UInt8, and the box: plain Lean, no Go. For every input. -/
namespace Go.Proofs.Ytjcdblnodbadcaa
namespace Fld

/-- one doubling in the field -/
def xt (a : UInt8) : UInt8 := if a &&& 128 = 0 then a <<< 1 else (a <<< 1) ^^^ 27

/-- n steps of the product -/
def go : Nat → UInt8 → UInt8 → UInt8 → UInt8
  | 0, _, _, out => out
  | n + 1, a, b, out => go n (xt a) (b >>> 1) (if b &&& 1 = 1 then out ^^^ a else out)

def times (a b : UInt8) : UInt8 := go 8 a b 0

theorem all256 {p : UInt8 → Prop} [DecidablePred p] (h : ∀ i : Fin 256, p (UInt8.ofNat i.val)) (x : UInt8) : p x := by
  have := h ⟨x.toNat, x.toNat_lt⟩
  simpa using this

theorem and128 (a : UInt8) : a &&& 128 = 0 ∨ a &&& 128 = 128 := by
  revert a; exact all256 (by decide +kernel)
theorem and1 (a : UInt8) : a &&& 1 = 0 ∨ a &&& 1 = 1 := by
  revert a; exact all256 (by decide +kernel)

theorem xor_and (a b m : UInt8) : (a ^^^ b) &&& m = (a &&& m) ^^^ (b &&& m) := by
  apply UInt8.toBitVec_inj.1
  ext i
  simp [Bool.and_xor_distrib_right]

theorem xor4 (a b c d : UInt8) : (a ^^^ b) ^^^ (c ^^^ d) = (a ^^^ c) ^^^ (b ^^^ d) := by
  rw [UInt8.xor_assoc, UInt8.xor_assoc, ← UInt8.xor_assoc b, UInt8.xor_comm b c, UInt8.xor_assoc c]

theorem shl_xor (a b : UInt8) : (a ^^^ b) <<< 1 = (a <<< 1) ^^^ (b <<< 1) := UInt8.shiftLeft_xor ..
theorem shr_xor (a b : UInt8) : (a ^^^ b) >>> 1 = (a >>> 1) ^^^ (b >>> 1) := UInt8.shiftRight_xor ..

theorem xt_xor (a b : UInt8) : xt (a ^^^ b) = xt a ^^^ xt b := by
  unfold xt
  rw [xor_and, shl_xor]
  rcases and128 a with ha | ha <;> rcases and128 b with hb | hb <;> simp [ha, hb]
  · rw [UInt8.xor_assoc]
  · rw [UInt8.xor_assoc, UInt8.xor_comm _ (27 : UInt8), UInt8.xor_assoc]
  · rw [xor4]; simp

theorem xt_zero : xt 0 = 0 := by decide

theorem go_b (n : Nat) : ∀ a b c o p, go n a (b ^^^ c) (o ^^^ p) = go n a b o ^^^ go n a c p := by
  induction n with
  | zero => intros; rfl
  | succ n ih =>
    intro a b c o p
    simp only [go]
    rw [shr_xor, xor_and, ← ih]
    congr 1
    rcases and1 b with hb | hb <;> rcases and1 c with hc | hc <;> simp [hb, hc]
    · rw [UInt8.xor_assoc]
    · rw [UInt8.xor_assoc, UInt8.xor_comm p, UInt8.xor_assoc]
    · rw [xor4]; simp

theorem go_a (n : Nat) : ∀ a c b o p, go n (a ^^^ c) b (o ^^^ p) = go n a b o ^^^ go n c b p := by
  induction n with
  | zero => intros; rfl
  | succ n ih =>
    intro a c b o p
    simp only [go]
    rw [xt_xor, ← ih]
    congr 1
    rcases and1 b with hb | hb <;> simp [hb]
    rw [xor4]

theorem times_add (a b c : UInt8) : times a (b ^^^ c) = times a b ^^^ times a c := go_b 8 a b c 0 0
theorem add_times (a c b : UInt8) : times (a ^^^ c) b = times a b ^^^ times c b := go_a 8 a c b 0 0
theorem times_zero (a : UInt8) : times a 0 = 0 := by have := times_add a 0 0; simpa using this
theorem zero_times (a : UInt8) : times 0 a = 0 := by have := add_times 0 0 a; simpa using this

/-- two functions that keep sums and agree at the eight bits agree -/
theorem basis {f g : UInt8 → UInt8} (hf : ∀ a b, f (a ^^^ b) = f a ^^^ f b) (hg : ∀ a b, g (a ^^^ b) = g a ^^^ g b)
    (h : ∀ i : Fin 8, f (1 <<< UInt8.ofNat i.val) = g (1 <<< UInt8.ofNat i.val)) (x : UInt8) : f x = g x := by
  have f0 : f 0 = 0 := by have := hf 0 0; simpa using this
  have g0 : g 0 = 0 := by have := hg 0 0; simpa using this
  have bit : ∀ i : Fin 8, ∀ y : UInt8, (y = 0 ∨ y = 1 <<< UInt8.ofNat i.val) → f y = g y := by
    intro i y hy
    rcases hy with rfl | rfl
    · rw [f0, g0]
    · exact h i
  have cut : ∀ i : Fin 8, ∀ y : UInt8, (y &&& (1 <<< UInt8.ofNat i.val) = 0 ∨ y &&& (1 <<< UInt8.ofNat i.val) = 1 <<< UInt8.ofNat i.val) :=
    fun i => all256 ((by decide +kernel : ∀ i : Fin 8, ∀ j : Fin 256, (UInt8.ofNat j.val &&& (1 <<< UInt8.ofNat i.val) = 0 ∨ UInt8.ofNat j.val &&& (1 <<< UInt8.ofNat i.val) = 1 <<< UInt8.ofNat i.val)) i)
  have e : x = (x &&& 1) ^^^ (x &&& 2) ^^^ (x &&& 4) ^^^ (x &&& 8) ^^^ (x &&& 16) ^^^ (x &&& 32) ^^^ (x &&& 64) ^^^ (x &&& 128) := by
    revert x; exact all256 (by decide +kernel)
  rw [e]
  simp only [hf, hg]
  have c0 : f (x &&& 1) = g (x &&& 1) := bit 0 _ (cut 0 x)
  have c1 : f (x &&& 2) = g (x &&& 2) := bit 1 _ (cut 1 x)
  have c2 : f (x &&& 4) = g (x &&& 4) := bit 2 _ (cut 2 x)
  have c3 : f (x &&& 8) = g (x &&& 8) := bit 3 _ (cut 3 x)
  have c4 : f (x &&& 16) = g (x &&& 16) := bit 4 _ (cut 4 x)
  have c5 : f (x &&& 32) = g (x &&& 32) := bit 5 _ (cut 5 x)
  have c6 : f (x &&& 64) = g (x &&& 64) := bit 6 _ (cut 6 x)
  have c7 : f (x &&& 128) = g (x &&& 128) := bit 7 _ (cut 7 x)
  rw [c0, c1, c2, c3, c4, c5, c6, c7]

theorem times_comm (a b : UInt8) : times a b = times b a := by
  refine basis (f := fun a => times a b) (g := fun a => times b a) (fun x y => add_times x y b) (fun x y => times_add b x y) (fun i => ?_) a
  refine basis (f := fun b => times (1 <<< UInt8.ofNat i.val) b) (g := fun b => times b (1 <<< UInt8.ofNat i.val)) (fun x y => times_add _ x y) (fun x y => add_times x y _) (fun j => ?_) b
  revert i j; decide +kernel

theorem times_assoc (a b c : UInt8) : times a (times b c) = times (times a b) c := by
  refine basis (f := fun a => times a (times b c)) (g := fun a => times (times a b) c) (fun x y => add_times x y _) (fun x y => by simp only [add_times]) (fun i => ?_) a
  refine basis (f := fun b => times (1 <<< UInt8.ofNat i.val) (times b c)) (g := fun b => times (times (1 <<< UInt8.ofNat i.val) b) c) (fun x y => by simp only [add_times, times_add]) (fun x y => by simp only [add_times, times_add]) (fun j => ?_) b
  refine basis (f := fun c => times (1 <<< UInt8.ofNat i.val) (times (1 <<< UInt8.ofNat j.val) c)) (g := fun c => times (times (1 <<< UInt8.ofNat i.val) (1 <<< UInt8.ofNat j.val)) c) (fun x y => by simp only [times_add]) (fun x y => by simp only [times_add]) (fun k => ?_) c
  revert i j k; decide +kernel

theorem times_one (a : UInt8) : times a 1 = a := by
  revert a; exact all256 (by decide +kernel)
theorem one_times (a : UInt8) : times 1 a = a := by rw [times_comm, times_one]

/-- powers -/
def pw (a : UInt8) : Nat → UInt8
  | 0 => 1
  | n + 1 => times (pw a n) a
theorem pw_add (a : UInt8) (m n : Nat) : pw a (m + n) = times (pw a m) (pw a n) := by
  induction n with
  | zero => simp [pw, times_one]
  | succ n ih => rw [← Nat.add_assoc]; simp only [pw]; rw [ih, times_assoc]

/-- the program's chain: k rounds from (b, x) -/
def chain : Nat → UInt8 → UInt8 → UInt8
  | 0, _, x => x
  | n + 1, b, x => chain n (times b b) (times x (times b b))
theorem chain_pw (a : UInt8) (n : Nat) : ∀ k s, chain n (pw a k) (pw a s) = pw a (s + 2 * k * (2 ^ n - 1)) := by
  induction n with
  | zero => intro k s; simp [chain]
  | succ n ih =>
    intro k s
    simp only [chain]
    rw [← pw_add, ← pw_add, ih]
    congr 1
    have h : 0 < 2 ^ n := Nat.two_pow_pos n
    obtain ⟨p, hp⟩ : ∃ p, 2 ^ n = p + 1 := ⟨2 ^ n - 1, by omega⟩
    rw [Nat.pow_succ, hp]
    simp only [Nat.add_sub_cancel]
    have : (p + 1) * 2 - 1 = 2 * p + 1 := by omega
    rw [this]
    simp only [Nat.mul_add, Nat.add_mul, Nat.mul_one]
    have e : 2 * k * (2 * p) = 2 * k * p + 2 * k * p := by rw [← Nat.mul_add, ← Nat.two_mul]
    omega
def inv (b : UInt8) : UInt8 := chain 7 b 1
theorem inv_pw (b : UInt8) : inv b = pw b 254 := by
  have h := chain_pw b 7 1 0
  have e1 : pw b 1 = b := by show times (pw b 0) b = b; exact one_times b
  rw [e1] at h
  exact h

/-- turned round -/
def turn (b : UInt8) (n : Nat) : UInt8 := (b <<< UInt8.ofNat n) ||| (b >>> UInt8.ofNat (8 - n))
def affine (x : UInt8) : UInt8 := x ^^^ turn x 1 ^^^ turn x 2 ^^^ turn x 3 ^^^ turn x 4 ^^^ 0x63
def box (b : UInt8) : UInt8 := affine (inv b)
def unboxFrom (b : UInt8) : Nat → Nat → UInt8
  | 0, _ => 0
  | n + 1, i => if box (UInt8.ofNat i) = b then UInt8.ofNat i else unboxFrom b n (i + 1)
def unbox (b : UInt8) : UInt8 := unboxFrom b 256 0

/-- the boxes, written out -/
def tab : List UInt8 := [
  99, 124, 119, 123, 242, 107, 111, 197, 48, 1, 103, 43, 254, 215, 171, 118, 202, 130, 201, 125, 250, 89, 71, 240, 173, 212, 162, 175, 156, 164, 114, 192,
  183, 253, 147, 38, 54, 63, 247, 204, 52, 165, 229, 241, 113, 216, 49, 21, 4, 199, 35, 195, 24, 150, 5, 154, 7, 18, 128, 226, 235, 39, 178, 117,
  9, 131, 44, 26, 27, 110, 90, 160, 82, 59, 214, 179, 41, 227, 47, 132, 83, 209, 0, 237, 32, 252, 177, 91, 106, 203, 190, 57, 74, 76, 88, 207,
  208, 239, 170, 251, 67, 77, 51, 133, 69, 249, 2, 127, 80, 60, 159, 168, 81, 163, 64, 143, 146, 157, 56, 245, 188, 182, 218, 33, 16, 255, 243, 210,
  205, 12, 19, 236, 95, 151, 68, 23, 196, 167, 126, 61, 100, 93, 25, 115, 96, 129, 79, 220, 34, 42, 144, 136, 70, 238, 184, 20, 222, 94, 11, 219,
  224, 50, 58, 10, 73, 6, 36, 92, 194, 211, 172, 98, 145, 149, 228, 121, 231, 200, 55, 109, 141, 213, 78, 169, 108, 86, 244, 234, 101, 122, 174, 8,
  186, 120, 37, 46, 28, 166, 180, 198, 232, 221, 116, 31, 75, 189, 139, 138, 112, 62, 181, 102, 72, 3, 246, 14, 97, 53, 87, 185, 134, 193, 29, 158,
  225, 248, 152, 17, 105, 217, 142, 148, 155, 30, 135, 233, 206, 85, 40, 223, 140, 161, 137, 13, 191, 230, 66, 104, 65, 153, 45, 15, 176, 84, 187, 22]
def untab : List UInt8 := [
  82, 9, 106, 213, 48, 54, 165, 56, 191, 64, 163, 158, 129, 243, 215, 251, 124, 227, 57, 130, 155, 47, 255, 135, 52, 142, 67, 68, 196, 222, 233, 203,
  84, 123, 148, 50, 166, 194, 35, 61, 238, 76, 149, 11, 66, 250, 195, 78, 8, 46, 161, 102, 40, 217, 36, 178, 118, 91, 162, 73, 109, 139, 209, 37,
  114, 248, 246, 100, 134, 104, 152, 22, 212, 164, 92, 204, 93, 101, 182, 146, 108, 112, 72, 80, 253, 237, 185, 218, 94, 21, 70, 87, 167, 141, 157, 132,
  144, 216, 171, 0, 140, 188, 211, 10, 247, 228, 88, 5, 184, 179, 69, 6, 208, 44, 30, 143, 202, 63, 15, 2, 193, 175, 189, 3, 1, 19, 138, 107,
  58, 145, 17, 65, 79, 103, 220, 234, 151, 242, 207, 206, 240, 180, 230, 115, 150, 172, 116, 34, 231, 173, 53, 133, 226, 249, 55, 232, 28, 117, 223, 110,
  71, 241, 26, 113, 29, 41, 197, 137, 111, 183, 98, 14, 170, 24, 190, 27, 252, 86, 62, 75, 198, 210, 121, 32, 154, 219, 192, 254, 120, 205, 90, 244,
  31, 221, 168, 51, 136, 7, 199, 49, 177, 18, 16, 89, 39, 128, 236, 95, 96, 81, 127, 169, 25, 181, 74, 13, 45, 229, 122, 159, 147, 201, 156, 239,
  160, 224, 59, 77, 174, 42, 245, 176, 200, 235, 187, 60, 131, 83, 153, 97, 23, 43, 4, 126, 186, 119, 214, 38, 225, 105, 20, 99, 85, 33, 12, 125]
def sb (b : UInt8) : UInt8 := tab.getD b.toNat 0
def ub (b : UInt8) : UInt8 := untab.getD b.toNat 0
theorem box_eq (b : UInt8) : box b = sb b := by
  revert b; exact all256 (by decide +kernel)
theorem ub_sb (b : UInt8) : ub (sb b) = b := by
  revert b; exact all256 (by decide +kernel)
theorem sb_ub (b : UInt8) : sb (ub b) = b := by
  revert b; exact all256 (by decide +kernel)
theorem unboxFrom_eq (b : UInt8) : ∀ n i, i + n = 256 → (∀ j, j < i → sb (UInt8.ofNat j) ≠ b) → unboxFrom b n i = ub b := by
  intro n
  induction n with
  | zero =>
    intro i hi h
    exact absurd (by rw [UInt8.ofNat_toNat]; exact sb_ub b) (h (ub b).toNat (by have := (ub b).toNat_lt; omega))
  | succ n ih =>
    intro i hi h
    simp only [unboxFrom, box_eq]
    split
    · rename_i e; rw [← e, ub_sb]
    · rename_i e
      refine ih (i + 1) (by omega) fun j hj => ?_
      by_cases hji : j = i
      · subst hji; exact e
      · exact h j (by omega)
theorem unbox_eq (b : UInt8) : unbox b = ub b := unboxFrom_eq b 256 0 rfl (fun j hj => by omega)

/-- the reference's sum of bits -/
def bitAt (x : UInt8) (i : Nat) : UInt8 :=
  (x >>> UInt8.ofNat i) ^^^ (x >>> UInt8.ofNat ((i + 4) % 8)) ^^^ (x >>> UInt8.ofNat ((i + 5) % 8)) ^^^ (x >>> UInt8.ofNat ((i + 6) % 8)) ^^^ (x >>> UInt8.ofNat ((i + 7) % 8)) ^^^ (0x63 >>> UInt8.ofNat i)
def sumFrom (x : UInt8) : Nat → Nat → UInt8 → UInt8
  | 0, _, out => out
  | n + 1, i, out => sumFrom x n (i + 1) (out ||| ((bitAt x i &&& 1) <<< UInt8.ofNat i))
theorem sum_affine (x : UInt8) : sumFrom x 8 0 0 = affine x := by
  revert x; exact all256 (by decide +kernel)
def refBox (b : UInt8) : UInt8 := sumFrom (pw b 254) 8 0 0
theorem refBox_eq (b : UInt8) : refBox b = box b := by
  unfold refBox box; rw [sum_affine, inv_pw]
theorem unbox_box (b : UInt8) : unbox (box b) = b := by rw [unbox_eq, box_eq, ub_sb]
theorem box_unbox (b : UInt8) : box (unbox b) = b := by rw [unbox_eq, box_eq, sb_ub]
end Fld
end Go.Proofs.Ytjcdblnodbadcaa
