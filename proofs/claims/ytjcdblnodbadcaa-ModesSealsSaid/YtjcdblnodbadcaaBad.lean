/- The walks of cipher, Seal, Open at what they refuse. -/
import Derived.Test.YtjcdblnodbadcaaMOpen
import Derived.Test.YtjcdblnodbadcaaNewBad
namespace Go.Proofs.Ytjcdblnodbadcaa
open Go.RowKit

theorem wpList_store34 {ops : Array Oper} {rest : List Oper} {op : Oper} {a : Act} {w : World} {Q : Exit → Act → World → Prop} (hgd : op.guard = none) (x y : Operand) (ho : op.op = .store 34 x y)
    (g : Nat) (old : Array Value) (s : List UInt8) (hx : a.eval x = .pointer (some ⟨g, 0, none⟩)) (hy : a.eval y = .agg (bytes s).toArray)
    (hg : Blk w g 34 old) (hs : s.length = 16) (hold : old.size = 16) (h : wpList Try.prog ops Q rest (a.put op.dst undef) (w.setRow g (bytes s).toArray)) : wpList Try.prog ops Q (op :: rest) a w :=
  wpList_plain hgd fun _ hK => wp_store34 x y ho g old s hx hy hg hs hold (hK _ _ h)
def zz16 : List UInt8 := List.replicate 16 0
theorem zz16_len : zz16.length = 16 := rfl
theorem zz16_bytes : (bytes zz16).toArray = zeros34 := rfl
/-- a refusal of the cipher -/
def NoCipher (w : World) (e : Ending) (w' : World) : Prop := e = .returned (.tuple #[.pointer none, .agg (bytes zz16).toArray, .int .i64 1]) ∧ Below w.heap.size w w'
set_option maxRecDepth 100000 in
set_option maxHeartbeats 1600000 in
theorem cipherBadKey_any (A B : Option Addr) (n c m d : Nat) (w : World) (h1 : ¬ (n : Int) = 16) (h2 : ¬ (n : Int) = 24) (h3 : ¬ (n : Int) = 32) :
    Calls Try.prog 56 #[.slice A n c, .slice B m d] w (NoCipher w) := by
  have hb0 := hide (Blk.new w 34 zeros34)
  have hbe : Below w.heap.size w (w.alloc (.cells zeros34 34)) := (Below.refl _ w).alloc (Nat.le_refl _) _
  have H1 := hide h1
  have H2 := hide h2
  have H3 := hide h3
  clear h1 h2 h3
  go_enter Try.func56, Try.ntmps56
  go_upto_region 1 with fail
  generalize (w.alloc (.cells zeros34 34)) = w1 at *
  go_wp2_with fail
  refine (newBad_any A n c w1 H1.out H2.out H3.out).mono ?_
  rintro e w2 ⟨rfl, rfl⟩
  go_upto_region 3 with fail
  go_wp2_with (with_reducible refine wpList_store34 rfl (.tmp 5) (.tmp 21) rfl w.heap.size zeros34 zz16 rfl ?hy hb0.out zz16_len rfl ?_)
  case hy => rfl
  refine bodyPost_ret (results_three rfl _ _ w.heap.size 34 (bytes zz16).toArray (0, 0) _ rfl (Blk.setRow hb0.out _) Try.underlying34 rfl (by rw [List.size_toArray]; exact size34' zz16_len)) rfl ?_
  exact ⟨rfl, below_setRow hbe (Nat.le_refl _) _⟩
set_option maxRecDepth 100000 in
set_option maxHeartbeats 1600000 in
theorem cipherBadIv_any (A B : Option Addr) (n c m d : Nat) (l : List UInt8) (w : World) (h : Sl w A n c l) (hl : n = 16 ∨ n = 24 ∨ n = 32) (h1 : ¬ (m : Int) = 16) :
    Calls Try.prog 56 #[.slice A n c, .slice B m d] w (NoCipher w) := by
  have hb0 := hide (Blk.new w 34 zeros34)
  have hbe : Below w.heap.size w (w.alloc (.cells zeros34 34)) := (Below.refl _ w).alloc (Nat.le_refl _) _
  have hlt : w.heap.size < (w.alloc (.cells zeros34 34)).heap.size := by simp
  have H := hide (h.alloc (.cells zeros34 34))
  have HL := hide hl
  have hne : ((m : Int) != 16) = true := by simpa using h1
  clear h hl
  go_enter Try.func56, Try.ntmps56
  go_upto_region 1 with fail
  generalize (w.alloc (.cells zeros34 34)) = w1 at *
  go_wp2_with fail
  refine (new_any A n c l w1 H.out HL.out).mono ?_
  rintro e w2 ⟨⟨p, kb, kc, rfl, ci⟩, b2⟩
  have hb2 := hide (Blk.below hb0.out b2 hlt)
  have hbe2 := hbe.trans (b2.mono hbe.size)
  clear hb0 hbe b2 ci H
  go_upto_region 3 with fail
  go_wp2_with (with_reducible refine wpList_store34 rfl (.tmp 5) (.tmp 21) rfl w.heap.size zeros34 zz16 rfl ?hy hb2.out zz16_len rfl ?_)
  case hy => rfl
  refine bodyPost_ret (results_three rfl _ _ w.heap.size 34 (bytes zz16).toArray (0, 0) _ rfl (Blk.setRow hb2.out _) Try.underlying34 rfl (by rw [List.size_toArray]; exact size34' zz16_len)) rfl ?_
  exact ⟨rfl, below_setRow hbe2 (Nat.le_refl _) _⟩
/-- a refusal of the cipher's is handed on -/
theorem msealBad_of (A B D : Option Addr) (n c m d j f : Nat) (w : World) (hc : Calls Try.prog 56 #[.slice A n c, .slice B m d] w (NoCipher w)) :
    Calls Try.prog 33 #[.slice A n c, .slice B m d, .slice D j f] w fun e w' => e = .returned (.tuple #[.slice none 0 0, .int .i64 1]) ∧ Below w.heap.size w w' := by
  go_enter Try.func33, Try.ntmps33
  go_wp2_with fail
  refine hc.mono ?_
  rintro e w2 ⟨rfl, b2⟩
  have hlen : (bytes zz16).length = 16 := rfl
  have hstored := stored34 zz16_len w2
  go_wp2_with fail
  go_ret2
  exact ⟨rfl, b2.alloc b2.size _⟩
theorem mopenBad_of (A B D : Option Addr) (n c m d j f : Nat) (w : World) (hc : Calls Try.prog 56 #[.slice A n c, .slice B m d] w (NoCipher w)) :
    Calls Try.prog 38 #[.slice A n c, .slice B m d, .slice D j f] w fun e w' => e = .returned (.tuple #[.slice none 0 0, .int .i64 1]) ∧ Below w.heap.size w w' := by
  go_enter Try.func38, Try.ntmps38
  go_wp2_with fail
  refine hc.mono ?_
  rintro e w2 ⟨rfl, b2⟩
  have hlen : (bytes zz16).length = 16 := rfl
  have hstored := stored34 zz16_len w2
  go_wp2_with fail
  go_ret2
  exact ⟨rfl, b2.alloc b2.size _⟩
theorem mopenOdd_any (A B D : Option Addr) (n c d j f : Nat) (l iv : List UInt8) (w : World) (h : Sl w A n c l) (h' : Sl w B 16 d iv) (hl : n = 16 ∨ n = 24 ∨ n = 32) (h16 : ¬ (j : Int) % 16 = 0) :
    Calls Try.prog 38 #[.slice A n c, .slice B 16 d, .slice D j f] w fun e w' => e = .returned (.tuple #[.slice none 0 0, .int .i64 11]) ∧ Below w.heap.size w w' := by
  have hiv := hide h'.1.symm
  have H1 := hide h
  have H2 := hide h'
  have HL := hide hl
  have hne : ((j : Int) % (16 : Int) != 0) = true := by simpa using h16
  clear h h' hl h16
  go_enter Try.func38, Try.ntmps38
  go_wp2_with fail
  refine (cipherOk_any A B n c d l iv w H1.out H2.out HL.out).mono ?_
  rintro e w2 ⟨⟨p, kb, kc, rfl, ci⟩, b2⟩
  have hlen : (bytes iv).length = 16 := by rw [bytes_length, hiv.out]
  have hstored := stored34 hiv.out w2
  clear H1 H2 ci
  go_wp2_with fail
  go_ret2
  exact ⟨rfl, b2.alloc b2.size _⟩
end Go.Proofs.Ytjcdblnodbadcaa
