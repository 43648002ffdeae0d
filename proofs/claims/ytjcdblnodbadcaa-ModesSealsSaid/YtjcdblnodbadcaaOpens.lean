/- What came in, opened: a slice of bytes, an array of bytes. -/
import Derived.Test.YtjcdblnodbadcaaLawField
import Derived.Test.YtjcdblnodbadcaaMem
import Derived.OpenShut
import Derived.SizedLaws
import Derived.WideKeyArr2
namespace Go.Proofs.Ytjcdblnodbadcaa
open Go.RowKit Go.WideShapes Go.ChangeShapes
theorem bytes_of_wf : ∀ (zs : List Int), (∀ n ∈ zs, (Lit.int .u8 n).wf = true) → ∃ l : List UInt8, zs = l.map I
  | [], _ => ⟨[], rfl⟩
  | z :: zs, h => by
    obtain ⟨x, rfl⟩ := byte_of (h z (by simp))
    obtain ⟨l, rfl⟩ := bytes_of_wf zs (fun n hn => h n (by simp [hn]))
    exact ⟨x :: l, rfl⟩
theorem cells5 : Try.prog.cellsOf 5 = 1 := by kernel_rfl
theorem bytesOf5 : Try.prog.bytesOf 5 = 1 := by kernel_rfl
section
variable {H : Type} {enc : TypeId × Value → H} {W : World} {base : Nat} {v : Value} {d : DataW H} {p : List MemPlace}
theorem open_sl (hval : Value.okWide Try.prog W .any base 26 v) (h : DataW.Trod enc Try.prog W 0 (fun _ => true) true 26 v d p)
    (hs : ∀ elems spare, d = .slice elems spare → (elems.length + spare.length) * Try.prog.bytesOf 5 ≤ reachBytes) :
    ∃ A n c l, v = .slice A n c ∧ Sl W A n c l ∧ n ≤ 140737488351232 := by
  obtain ⟨A, n, c, rfl⟩ := okWide_slice Try.underlying26 hval
  obtain ⟨fuel, hf⟩ := h
  rcases open_ints Try.underlying26 Try.underlying5 cells5 hf with ⟨hcs, _⟩ | ⟨a, n', c', zs, hcs, _, hl, hm, hz, hx, hcell, hw⟩
  · simp [Value.cells] at hcs
    obtain ⟨rfl, rfl, rfl⟩ := hcs
    exact ⟨none, 0, 0, [], rfl, ⟨rfl, Nat.le_refl _, fun _ => rfl, Reads.none_⟩, by omega⟩
  · simp [Value.cells] at hcs
    obtain ⟨rfl, rfl, rfl⟩ := hcs
    simp only [if_true] at hz
    simp only [Prod.mk.injEq] at hx
    have := hs _ _ hx.1
    rw [bytesOf5] at this
    simp only [lits, List.length_map, List.length_take, List.length_drop, reachBytes] at this
    obtain ⟨l, rfl⟩ := bytes_of_wf zs hw
    rw [List.length_map] at hz
    refine ⟨_, n, c, l.take n, rfl, ⟨by rw [List.length_take]; omega, hl, (fun h => by cases h), ?_⟩, by rw [List.length_map] at this; omega⟩
    refine ⟨by rw [bytes_length, List.length_take]; omega, fun hn => ⟨a, rfl, ?_, fun j u hu => ?_⟩⟩
    · have := World.block_lt_of_cell? W _ (hcell 0 (by rw [List.length_map]; omega))
      rwa [block_of_add] at this
    · rw [bytes_take, List.getElem?_take] at hu
      split at hu
      · rename_i hj
        rw [bytes_get (by omega)] at hu
        injection hu with hu
        subst hu
        rw [hcell j (by rw [List.length_map]; omega)]
        congr 2
        simp [List.getD, List.getElem?_map, List.getElem?_eq_getElem (show j < l.length by omega)]
      · cases hu
/-- an array of bytes -/
theorem open_ar {t n : Nat} (ht : Try.prog.underlying t = some (.array n 5)) (hn : Try.prog.cellsOf t = n) (hval : Value.okWide Try.prog W .any base t v) (h : DataW.Trod enc Try.prog W 0 (fun _ => true) true t v d p) :
    ∃ l : List UInt8, v = .agg (bytes l).toArray ∧ l.length = n := by
  simp only [Value.okWide, ht] at hval
  obtain ⟨cs, rfl, hsz, _⟩ := hval
  obtain ⟨fuel, hf⟩ := h
  obtain ⟨xs, m, _, _, _, hl, hel⟩ := DataW.trod_array ht hf
  simp only [Value.cells, cells5, Nat.mul_one] at hel
  rw [hn] at hsz
  have each : ∀ i, i < n → ∃ x : UInt8, cs[i]? = some (.int .u8 (I x)) := by
    intro i hi
    have h1 := hel i hi
    have h2 : (cs.toList.drop i).take 1 = [cs[i]'(by omega)] := by
      rw [List.drop_eq_getElem_cons (by simpa using (by omega : i < cs.size))]
      simp
    rw [h2] at h1
    have hy : xs[i]? = some (xs[i]'(by omega)) := List.getElem?_eq_getElem (by omega)
    rw [hy] at h1
    obtain ⟨a, ea, _, wa⟩ := DataW.trod_int Try.underlying5 h1
    obtain ⟨x, rfl⟩ := byte_of wa
    injection ea with ea _
    exact ⟨x, by rw [Array.getElem?_eq_getElem (by omega), ea]⟩
  obtain ⟨f, hf⟩ : ∃ f : Nat → UInt8, ∀ i, i < n → cs[i]? = some (.int .u8 (I (f i))) :=
    ⟨fun i => if h : i < n then (each i h).choose else 0, fun i hi => by simp only [dif_pos hi]; exact (each i hi).choose_spec⟩
  refine ⟨(List.range n).map f, ?_, by simp⟩
  congr 1
  apply Array.ext_getElem?
  intro i
  by_cases hi : i < n
  · rw [hf i hi, List.getElem?_toArray, bytes_get (by simp [hi])]
    simp [List.getD, List.getElem?_map, List.getElem?_range hi]
  · rw [Array.getElem?_eq_none (by omega), List.getElem?_toArray, List.getElem?_eq_none (by simp [bytes_length]; omega)]
end
end Go.Proofs.Ytjcdblnodbadcaa
