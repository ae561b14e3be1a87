/- A closed fact of the whole program, for all rows: mayEnter. -/
import Derived.Test.YtacmeafpieoaaaaRows
import Derived.ProofKit
namespace Go.Proofs.Ytacmeafpieoaaaa
theorem fx_mayEnter : Try.prog.mayEnter = true := by kernel_rfl
end Go.Proofs.Ytacmeafpieoaaaa
