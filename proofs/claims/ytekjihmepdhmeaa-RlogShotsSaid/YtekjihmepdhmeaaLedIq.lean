/- Lemmas towards the law: what of the text LedI it needs. -/
import Derived.Test.YtekjihmepdhmeaaLed0q
namespace Go.Proofs.Ytekjihmepdhmeaa.Led
open Go.RowKit Go.Proofs.YtekjihmepdhmeaaW.PrintWords Go.Proofs.Ytekjihmepdhmeaa.Sl
theorem infoHeld : (Try.prog.info? 72).map (fun i => (i.zero, i.size, i.bytes)) = some (some (.agg #[.int .i64 0, .int .i64 0, .int .u64 0, .int .u64 0, .int .u64 0]), 5, 40) := by kernel_rfl
end Go.Proofs.Ytekjihmepdhmeaa.Led
