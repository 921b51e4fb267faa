/- The walk of as: entries as the document's. -/
import Derived.Test.YtccioehckfdjdaaScnew
import Derived.Test.YtccioehckfdjdaaTape
import Derived.Deep.LoopGhost
set_option linter.unusedSimpArgs false
set_option linter.unusedVariables false
namespace Go.Proofs.Ytccioehckfdjdaa
open Go.RowKit Go.Tum Go.Tum.Sc
theorem Sc_infoR : (Try.prog.info? 177).map (fun i => (i.zero, i.size, i.bytes)) = some (some (.agg #[.int .i64 0, .int .u64 0]), 2, 16) := by kernel_rfl
end Go.Proofs.Ytccioehckfdjdaa
