/- Rows of steps that came in. -/
import Derived.Test.YtbgmcekbldponaaChecked
import Derived.Test.YtbgmcekbldponaaCsteps
namespace Go.Proofs.Ytbgmcekbldponaa
open Go.ChangeShapes Go.WideShapes Go.RowKit Go.Deep Go.Tum Go.Tum.C
theorem argSt_of {H : Type} {enc : TypeId × Value → H} {W : World} {base : Nat} {spare : Nat → Bool} {held : Bool} {fuel : Nat} {a : Option Addr} {len cap : Nat} {x : DataW H × List MemPlace}
    (h : DataW.trod enc Try.prog W base spare held fuel 22 (Value.slice a len cap).cells.toList = some x) :
    ∃ l : List St, ArgE enSt 7 W (.slice a len cap) l ∧ len = l.length ∧ l.length ≤ maxLen := by
  obtain ⟨l, h1, _, h2, h3⟩ := argE_of (en := enSt) (n := 7) (good := fun _ => True) (ks := [.int .i64, .int .i64, .int .i64, .int .u64, .int .u64, .int .u64, .int .u64]) (f := 5) Try.underlying22 (by kernel_rfl) (by kernel_rfl) rfl (by decide) enSt_of h
  exact ⟨l, h1, h2, h3⟩
end Go.Proofs.Ytbgmcekbldponaa
