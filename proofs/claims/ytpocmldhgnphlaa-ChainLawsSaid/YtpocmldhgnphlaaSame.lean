/- SameInts by a contract that leaves the world a letter. -/
import Derived.Test.YtpocmldhgnphlaaLawSums
namespace Go.Proofs.Ytpocmldhgnphlaa
open Go.RowKit
theorem sameB {w : World} {u v : Value} {xs ys : List Int} (hu : Ints w u xs) (hv : Ints w v ys) :
    Calls Try.prog 14 #[u, v] w fun e w' => e = .returned (.bool (decide (xs = ys))) ∧ Below w.heap.size w w' := by
  refine (sameInts hu hv).mono ?_
  rintro e w' ⟨rfl, nd, rfl⟩
  exact ⟨rfl, below_drewN (Below.refl _ _) nd⟩
end Go.Proofs.Ytpocmldhgnphlaa
