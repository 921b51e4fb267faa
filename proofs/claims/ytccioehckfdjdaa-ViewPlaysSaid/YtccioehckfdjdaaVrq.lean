/- Chapter 9: requests; what the laws' walks lean on. -/
import Derived.Test.YtccioehckfdjdaaVrun
import Derived.Test.YtccioehckfdjdaaValive
import Derived.Test.YtccioehckfdjdaaMap
import Derived.Deep.LoopGhost
set_option linter.unusedSimpArgs false
set_option linter.unusedVariables false
namespace Go.Tum.Vw
/-- A request: kind, at, block. -/
structure Rq where
  k : Int
  a : Int
  b : Int
def enU (x : Int) : List Value := [.int .u64 x]
def enR (q : Rq) : List Value := [.int .i64 q.k, .int .i64 q.a, .int .i64 q.b]
theorem enR_len (q : Rq) : (enR q).length = 3 := rfl
theorem enR_one (q : Rq) : ∀ u ∈ enR q, u.oneCell' = true := by simp [enR, Value.oneCell']
end Go.Tum.Vw
namespace Go.Proofs.Ytccioehckfdjdaa
open Go.RowKit Go.Tum Go.Tum.Y Go.Tum.Vw
theorem rright09_any (w : World) (c : Cfg) : Calls Try.prog 16 #[.agg (cfgL c).toArray] w fun e w' => e = .returned (.bool (right c)) ∧ Fr [] w w' := rright_any w c
end Go.Proofs.Ytccioehckfdjdaa
