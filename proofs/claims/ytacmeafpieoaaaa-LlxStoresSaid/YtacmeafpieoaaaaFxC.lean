/- A closed fact of the whole program, for all rows: make. -/
import Derived.Test.YtacmeafpieoaaaaRows
import Derived.ProofKit
namespace Go.Proofs.Ytacmeafpieoaaaa
theorem fx_make : (Try.prog.make == some Rows.helpNoneRow.make) = true := by kernel_rfl
end Go.Proofs.Ytacmeafpieoaaaa
