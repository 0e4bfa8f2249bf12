/- Lemmas towards the law: what of the text Lec5 it needs. -/
import Derived.Test.YtekjihmepdhmeaaLec3q
import Derived.Test.YtekjihmepdhmeaaLedIq
import Derived.Laws.Rows
namespace Go.Proofs.Ytekjihmepdhmeaa.Led
open Go.RowKit Go.Proofs.YtekjihmepdhmeaaW.PrintWords Go.Proofs.Ytekjihmepdhmeaa.Sl
set_option linter.unusedVariables false
set_option linter.unusedSimpArgs false
theorem infoLast : (Try.prog.info? 76).map (fun i => (i.zero, i.size, i.bytes)) = some (some (.agg #[.int .i64 0, .int .u64 0, .int .u64 0, .int .i64 0, .int .i64 0, .int .u64 0]), 6, 48) := by kernel_rfl
end Go.Proofs.Ytekjihmepdhmeaa.Led
