/- What the walk of New leans on: the boxes in the making, the keys in the making. -/
import Derived.Test.YtjcdblnodbadcaaOpen
import Derived.Test.YtjcdblnodbadcaaFieldWalks
import Derived.Test.YtjcdblnodbadcaaPadWalks
import Derived.Deep.Cut
import Derived.Deep.DeepCutAuto
import Derived.Deep.RegionLaw
import Derived.Laws.Cover3
namespace Go.Proofs.Ytjcdblnodbadcaa
open Go.RowKit
/-- a cipher's cells when it is made -/
def ci0 : Array Value := (Value.slice none 0 0 :: List.replicate 512 (.int .u8 0)).toArray
theorem zero59 : Try.zeroCells59 = ci0 := by kernel_rfl
/-- the boxes up to k -/
def Tabs (cur : Array Value) (k : Nat) : Prop :=
  cur.size = 513 ∧ cur[0]? = some (.slice none 0 0) ∧ ∀ x : UInt8, x.toNat < k → cur[1 + x.toNat]? = some (.int .u8 (I (Fld.sb x))) ∧ cur[257 + (Fld.sb x).toNat]? = some (.int .u8 (I x))
theorem Tabs.start : Tabs ci0 0 := ⟨by kernel_rfl, by kernel_rfl, fun x hx => by omega⟩
theorem Tabs.step {cur : Array Value} {k : Nat} (h : Tabs cur k) (hk : k < 256) :
    Tabs ((cur.setIfInBounds (1 + k) (.int .u8 (I (Fld.sb (UInt8.ofNat k))))).setIfInBounds (257 + (I (Fld.sb (UInt8.ofNat k))).toNat) (.int .u8 (k : Int))) (k + 1) := by
  obtain ⟨h1, h2, h3⟩ := h
  have e1 : (I (Fld.sb (UInt8.ofNat k))).toNat = (Fld.sb (UInt8.ofNat k)).toNat := rfl
  have e2 : (k : Int) = I (UInt8.ofNat k) := I_ofNat hk
  have e3 : (UInt8.ofNat k).toNat = k := by simp; omega
  rw [e1, e2]
  refine ⟨by simpa using h1, ?_, fun x hx => ?_⟩
  · rw [Array.getElem?_setIfInBounds_ne (by omega), Array.getElem?_setIfInBounds_ne (by omega)]
    exact h2
  · have hb := x.toNat_lt
    have hb2 := (Fld.sb x).toNat_lt
    have hb3 := (Fld.sb (UInt8.ofNat k)).toNat_lt
    by_cases e : x = UInt8.ofNat k
    · subst e
      rw [e3]
      refine ⟨?_, ?_⟩
      · rw [Array.getElem?_setIfInBounds_ne (by omega), Array.getElem?_setIfInBounds_self_of_lt (by omega)]
      · rw [Array.getElem?_setIfInBounds_self_of_lt (by simp; omega)]
    · have hne : x.toNat ≠ k := fun he => e (by rw [← he]; simp)
      obtain ⟨g1, g2⟩ := h3 x (by omega)
      have hne2 : (Fld.sb x).toNat ≠ (Fld.sb (UInt8.ofNat k)).toNat := fun he => e (by
        have := UInt8.toNat_inj.1 he
        rw [← Fld.ub_sb x, this, Fld.ub_sb])
      refine ⟨?_, ?_⟩
      · rw [Array.getElem?_setIfInBounds_ne (by omega), Array.getElem?_setIfInBounds_ne (by omega)]
        exact g1
      · rw [Array.getElem?_setIfInBounds_ne (by omega), Array.getElem?_setIfInBounds_ne (by omega)]
        exact g2
theorem cell_of_size {w : World} {g : Nat} {t : TypeId} {cur : Array Value} (h : Blk w g t cur) {i : Nat} (hi : i < cur.size) : ∃ u, w.cell? ⟨g, i, none⟩ = some u := ⟨cur[i], (Blk.cell h i).trans (Array.getElem?_eq_getElem hi)⟩
theorem Tabs.box {cur : Array Value} (h : Tabs cur 256) (x : UInt8) : cur[1 + x.toNat]? = some (.int .u8 (I (Fld.sb x))) := (h.2.2 x x.toNat_lt).1
/-- a word ahead of the last xor -/
def pre (n i : Nat) (con : UInt8) (all : List UInt8) (k : Nat) : UInt8 :=
  if i % n = 0 then (if k = 0 then Fld.sb (all.getD (4 * (i - 1) + 1) 0) ^^^ con else Fld.sb (all.getD (4 * (i - 1) + (k + 1) % 4) 0))
    else if n > 6 ∧ i % n = 4 then Fld.sb (all.getD (4 * (i - 1) + k) 0) else all.getD (4 * (i - 1) + k) 0
theorem word_pre (n i : Nat) (con : UInt8) (all : List UInt8) (k : Nat) : Cip.word n i con all k = pre n i con all k ^^^ all.getD (4 * (i - n) + k) 0 := rfl
theorem drop4 {L : List UInt8} {k : Nat} (hl : L.length = 4 * k) (hk : 1 ≤ k) :
    L.drop (4 * (k - 1)) = [L.getD (4 * (k - 1)) 0, L.getD (4 * (k - 1) + 1) 0, L.getD (4 * (k - 1) + 2) 0, L.getD (4 * (k - 1) + 3) 0] := by
  apply List.ext_getElem
  · simp; omega
  · intro i h1 h2
    simp only [List.length_cons, List.length_nil] at h2
    rw [List.getElem_drop]
    match i, h2 with
    | 0, _ => simp [List.getD, List.getElem?_eq_getElem (show 4 * (k - 1) < L.length by omega)]
    | 1, _ => simp [List.getD, List.getElem?_eq_getElem (show 4 * (k - 1) + 1 < L.length by omega)]
    | 2, _ => simp [List.getD, List.getElem?_eq_getElem (show 4 * (k - 1) + 2 < L.length by omega)]
    | 3, _ => simp [List.getD, List.getElem?_eq_getElem (show 4 * (k - 1) + 3 < L.length by omega)]
theorem keysGo_step (n q i : Nat) (con : UInt8) (L : List UInt8) (h : i < q) :
    Cip.keysGo n (q - i) i con L = Cip.keysGo n (q - (i + 1)) (i + 1) (if i % n = 0 then Fld.times con 2 else con) (L ++ (List.range 4).map (Cip.word n i con L)) := by
  rw [show q - i = (q - (i + 1)) + 1 by omega]
  rfl
theorem bytes4 (a b c d : UInt8) : bytes [a, b, c, d] = [.int .u8 (I a), .int .u8 (I b), .int .u8 (I c), .int .u8 (I d)] := rfl
theorem range_map_succ (f : Nat → UInt8) (j : Nat) : (List.range (j + 1)).map f = (List.range j).map f ++ [f j] := by
  rw [List.range_succ, List.map_append]
  rfl
/-- what is left of the keys' bytes -/
def Rest (w : World) (g : Nat) (A : Option Addr) (n c : Nat) (l : List UInt8) : Prop :=
  n = l.length ∧ n ≤ c ∧ (0 < n → ∃ off, A = some ⟨g, off, none⟩ ∧ ∀ j, j < n → w.cell? ⟨g, off + j, none⟩ = some (.int .u8 (I (l.getD j 0))))
theorem Rest.of_own {w : World} {base g n c : Nat} {l : List UInt8} (h : w.ownsRow base 5 1 (.slice (some ⟨g, 0, none⟩) n c) n (bytes l)) : Rest w g (some ⟨g, 0, none⟩) n c l := by
  have hl : n = l.length := by have := h.1; rw [bytes_length] at this; omega
  have hc : n ≤ c := by
    rcases h.2 with ⟨h', _⟩ | ⟨g', cap', cur, h', _, _, hnc, _⟩
    · cases h'
    · injection h' with _ _ hc
      omega
  refine ⟨hl, hc, fun _ => ⟨0, rfl, fun j hj => ?_⟩⟩
  rw [Nat.zero_add, h.cellAt j (by omega)]
  exact bytes_get (by omega)
theorem Rest.keep {w w' : World} {g n c : Nat} {A : Option Addr} {l : List UInt8} (h : Rest w g A n c l) (hk : w'.heap[g]? = w.heap[g]?) : Rest w' g A n c l :=
  ⟨h.1, h.2.1, fun hn => by
    obtain ⟨off, e, hc⟩ := h.2.2 hn
    exact ⟨off, e, fun j hj => (World.cell?_of_block hk).trans (hc j hj)⟩⟩
theorem Rest.cut {w : World} {g n c k : Nat} {A : Option Addr} {l : List UInt8} (h : Rest w g A n c l) (hk : k ≤ n) :
    Rest w g (if c = k then A else A.map (·.add k)) (n - k) (c - k) (l.drop k) := by
  obtain ⟨h1, h2, h3⟩ := h
  refine ⟨by rw [List.length_drop]; omega, by omega, fun hn => ?_⟩
  obtain ⟨off, rfl, hc⟩ := h3 (by omega)
  rw [if_neg (by omega)]
  refine ⟨off + k, by simp [Addr.add_lit], fun j hj => ?_⟩
  rw [Nat.add_assoc, hc _ (by omega)]
  congr 3
  simp [List.getD]
section
variable {m k : Nat} {cn b0 b1 b2 b3 : UInt8} {L : List UInt8}
theorem pre_box (hk0 : k % m = 0) (h0 : L.getD (4 * (k - 1)) 0 = b0) (h1 : L.getD (4 * (k - 1) + 1) 0 = b1) (h2 : L.getD (4 * (k - 1) + 2) 0 = b2) (h3 : L.getD (4 * (k - 1) + 3) 0 = b3) :
    [pre m k cn L 0, pre m k cn L 1, pre m k cn L 2, pre m k cn L 3] = [Fld.sb b1 ^^^ cn, Fld.sb b2, Fld.sb b3, Fld.sb b0] := by
  subst h0 h1 h2 h3
  simp only [pre, if_pos hk0]
  rfl
theorem pre_sub (hk0 : ¬ k % m = 0) (h4 : m > 6 ∧ k % m = 4) (h0 : L.getD (4 * (k - 1)) 0 = b0) (h1 : L.getD (4 * (k - 1) + 1) 0 = b1) (h2 : L.getD (4 * (k - 1) + 2) 0 = b2) (h3 : L.getD (4 * (k - 1) + 3) 0 = b3) :
    [pre m k cn L 0, pre m k cn L 1, pre m k cn L 2, pre m k cn L 3] = [Fld.sb b0, Fld.sb b1, Fld.sb b2, Fld.sb b3] := by
  subst h0 h1 h2 h3
  simp only [pre, if_neg hk0, if_pos h4]
  rfl
theorem pre_none (hk0 : ¬ k % m = 0) (h4 : ¬ (m > 6 ∧ k % m = 4)) (h0 : L.getD (4 * (k - 1)) 0 = b0) (h1 : L.getD (4 * (k - 1) + 1) 0 = b1) (h2 : L.getD (4 * (k - 1) + 2) 0 = b2) (h3 : L.getD (4 * (k - 1) + 3) 0 = b3) :
    [pre m k cn L 0, pre m k cn L 1, pre m k cn L 2, pre m k cn L 3] = [b0, b1, b2, b3] := by
  subst h0 h1 h2 h3
  simp only [pre, if_neg hk0, if_neg h4]
  rfl
end
/-- one byte, just laid -/
theorem sl_byte (w : World) (x : UInt8) : Reads (w.alloc (.cells #[.int .u8 (I x)] 5)) (w.heap.size + 1) 1 (some ⟨w.heap.size, 0, none⟩) 1 (bytes [x]) :=
  ⟨rfl, fun _ => ⟨_, rfl, by simp, fun j u hj => by
    match j, hj with
    | 0, hj =>
      simp [bytes] at hj
      subst hj
      exact cell_one_new _ _ _ 0 _ rfl⟩⟩
theorem ci_box (kb nr kc : Nat) (x : UInt8) : (ciCells kb nr kc)[1 + x.toNat]? = some (.int .u8 (I (Fld.sb x))) := by
  have := x.toNat_lt
  simp only [ciCells, List.getElem?_toArray, Nat.add_comm 1 x.toNat, List.getElem?_cons_succ]
  rw [List.getElem?_append_left (by rw [bytes_length, tab_len]; omega)]
  exact bytes_get (by rw [tab_len]; omega)
theorem ci_unbox (kb nr kc : Nat) (x : UInt8) : (ciCells kb nr kc)[257 + x.toNat]? = some (.int .u8 (I (Fld.ub x))) := by
  have := x.toNat_lt
  simp only [ciCells, List.getElem?_toArray, show 257 + x.toNat = (256 + x.toNat) + 1 by omega, List.getElem?_cons_succ]
  rw [List.getElem?_append_right (by rw [bytes_length, tab_len]; omega), bytes_length, tab_len, show 256 + x.toNat - 256 = x.toNat by omega]
  exact bytes_get (by rw [untab_len]; omega)
theorem tabs_ci {cu cur : Array Value} {kb nr kc : Nat} (h : Tabs cur 256) (h0 : cu[0]? = some (.slice (some ⟨kb, 0, none⟩) nr kc)) (hr : ∀ i, 0 < i → cu[i]? = cur[i]?) : cu = ciCells kb nr kc := by
  apply Array.ext_getElem?
  intro i
  rcases Nat.eq_zero_or_pos i with rfl | hi
  · rw [h0]
    simp only [ciCells, List.getElem?_toArray, List.getElem?_cons_zero]
  · rw [hr i hi]
    by_cases h1 : i < 257
    · obtain ⟨x, rfl⟩ : ∃ x : UInt8, i = 1 + x.toNat := ⟨UInt8.ofNat (i - 1), by simp; omega⟩
      rw [h.box x, ci_box]
    · by_cases h2 : i < 513
      · obtain ⟨y, rfl⟩ : ∃ y : UInt8, i = 257 + y.toNat := ⟨UInt8.ofNat (i - 257), by simp; omega⟩
        rw [ci_unbox]
        have := (h.2.2 (Fld.ub y) (Fld.ub y).toNat_lt).2
        rwa [Fld.sb_ub] at this
      · rw [Array.getElem?_eq_none (by have := h.1; omega), Array.getElem?_eq_none]
        simp only [ciCells, List.size_toArray, List.length_cons, List.length_append, bytes_length, tab_len, untab_len]
        omega
/-- a row of round keys, read as the cipher reads it -/
theorem keys_of_own {w : World} {base kb nr kc : Nat} {T : List UInt8} (hl : T.length = 16 * nr) (h : w.ownsRow base 34 16 (.slice (some ⟨kb, 0, none⟩) nr kc) nr (bytes T)) :
    nr ≤ kc ∧ ∃ cur, Blk w kb 34 cur ∧ ∀ j, j < 16 * nr → cur[j]? = some (.int .u8 (I (T.getD j 0))) := by
  rcases h.2 with ⟨h', _⟩ | ⟨g', cap', cur, h', _, hh, hnc, _, _, htake⟩
  · cases h'
  · simp only [Value.slice.injEq, Option.some.injEq, Addr.mk.injEq, and_true, true_and] at h'
    obtain ⟨rfl, rfl⟩ := h'
    refine ⟨hnc, cur, hh, fun j hj => ?_⟩
    have := congrArg (fun l => l[j]?) htake
    simp only [List.getElem?_take] at this
    rw [if_pos (by omega), bytes_get (by omega)] at this
    simpa using this
def sliceLen (v : Value) : Nat := match v with | .slice _ n _ => n | _ => 0
theorem cells16 {w : World} (b : List UInt8) (hb : b.length = 16) : Reads (w.alloc (.cells (bytes b).toArray 34)) (w.heap.size + 1) 16 (some ⟨w.heap.size, 0, none⟩) 1 (bytes b) :=
  ⟨by rw [bytes_length, hb], fun _ => ⟨_, rfl, by simp, fun j u hj => by
    rw [Addr.add_lit, Nat.zero_add]
    exact (cell_of_row _ _ _ _ _ _ (heap_alloc_new w _)).trans (by simpa using hj)⟩⟩
theorem info34 : (Try.prog.info? 34).map (fun i => (i.zero, i.size, i.bytes)) = some (some (.agg #[.int .u8 0, .int .u8 0, .int .u8 0, .int .u8 0, .int .u8 0, .int .u8 0, .int .u8 0, .int .u8 0, .int .u8 0, .int .u8 0, .int .u8 0, .int .u8 0, .int .u8 0, .int .u8 0, .int .u8 0, .int .u8 0]), 16, 16) := by kernel_rfl
theorem times_lit2 (a : UInt8) (w : World) : Calls Try.prog 14 #[.int .u8 (I a), .int .u8 2] w fun e w' => e = .returned (.int .u8 (I (Fld.times a 2))) ∧ w = w' := times_any a 2 w
theorem four_of {W : List UInt8} {f : Nat → UInt8} (hl : W.length = 4) (h : ∀ x, x < 4 → W.getD x 0 = f x) : W = [f 0, f 1, f 2, f 3] := by
  match W, hl with
  | [a, b, c, d], _ =>
    rw [← h 0 (by omega), ← h 1 (by omega), ← h 2 (by omega), ← h 3 (by omega)]
    rfl
end Go.Proofs.Ytjcdblnodbadcaa
