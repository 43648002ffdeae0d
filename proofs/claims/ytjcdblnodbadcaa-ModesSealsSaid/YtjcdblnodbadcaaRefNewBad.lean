/- The walk of the reference's New at a key of another length. -/
import Derived.Test.YtjcdblnodbadcaaNewPlain
import Derived.Deep.DeepCutAuto
namespace Go.Proofs.Ytjcdblnodbadcaa
open Go.RowKit
set_option maxRecDepth 100000 in
set_option maxHeartbeats 1600000 in
theorem rnewBad_any (A : Option Addr) (n c : Nat) (w : World) (h1 : ¬ (n : Int) = 16) (h2 : ¬ (n : Int) = 24) (h3 : ¬ (n : Int) = 32) :
    Calls Try.prog 29 #[.slice A n c] w fun e w' => e = .returned (.tuple #[.pointer none, .bool false]) ∧ w = w' := by
  obtain ⟨q, hq⟩ : ∃ q : Nat, (n : Int) / (4 : Int) = (q : Int) := ⟨n / 4, by omega⟩
  go_enter Try.func29, Try.ntmps29
  have H1 := hide h1
  have H2 := hide h2
  have H3 := hide h3
  clear h1 h2 h3
  go_upto_region 2 with fail
  go_cut [25] (fun v wc => v = .bool true ∧ w = wc)
  case first =>
    go_wp2_with fail
    all_goals
      first
        | (exfalso; have := H1.out; have := H2.out; have := H3.out; omega)
        | (go_meet
           case rel =>
             refine ⟨?_, rfl⟩
             have := H1.out
             have := H2.out
             have := H3.out
             simp_all)
  case rest =>
    obtain ⟨rfl, rfl⟩ := hcut
    clear H1 H2 H3 hq
    go_wp2_with fail
    go_ret2
    exact ⟨rfl, rfl⟩
end Go.Proofs.Ytjcdblnodbadcaa
