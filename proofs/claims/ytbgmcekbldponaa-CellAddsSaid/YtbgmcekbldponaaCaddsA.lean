/- Rows of numbers that came in. -/
import Derived.Test.YtbgmcekbldponaaChecked
import Derived.Test.YtbgmcekbldponaaCadds
namespace Go.Proofs.Ytbgmcekbldponaa
open Go.ChangeShapes Go.WideShapes Go.RowKit Go.Deep Go.Tum Go.Tum.C
theorem argU_of {H : Type} {enc : TypeId × Value → H} {W : World} {base : Nat} {spare : Nat → Bool} {held : Bool} {fuel : Nat} {a : Option Addr} {len cap : Nat} {x : DataW H × List MemPlace}
    (h : DataW.trod enc Try.prog W base spare held fuel 54 (Value.slice a len cap).cells.toList = some x) :
    ∃ l : List Int, ArgE enU 1 W (.slice a len cap) l ∧ len = l.length ∧ l.length ≤ maxLen := by
  obtain ⟨l, h1, _, h2, h3⟩ := argE_of (en := enU) (n := 1) (good := fun _ => True) (ks := [.int .u64]) (f := 5) Try.underlying54 (by kernel_rfl) (by kernel_rfl) rfl (by decide)
    (fun vs hv => by
      obtain ⟨_, r0, rfl, ⟨x0, rfl, _⟩, h0⟩ := LKs.cons hv
      rw [LKs.none h0]
      exact ⟨x0, rfl, trivial⟩) h
  exact ⟨l, h1, h2, h3⟩
end Go.Proofs.Ytbgmcekbldponaa
