/- A closed fact of the whole program, for all rows: lifted. -/
import Derived.Test.YtacmeafpieoaaaaRows
import Derived.ProofKit
namespace Go.Proofs.Ytacmeafpieoaaaa
theorem fx_lifted : (Rows.helpNoneRow.lifted == Try.prog.liftsFinal) = true := by kernel_rfl
end Go.Proofs.Ytacmeafpieoaaaa
