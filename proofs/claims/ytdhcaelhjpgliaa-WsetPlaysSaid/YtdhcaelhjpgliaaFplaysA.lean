/- The rows of steps that come into WsetPlays. -/
import Derived.Test.YtdhcaelhjpgliaaFplays
import Derived.Test.YtdhcaelhjpgliaaRowBase
namespace Go.Proofs.Ytdhcaelhjpgliaa
open Go.ChangeShapes Go.WideShapes Go.ChangeAt Go.RowKit Go.Deep Go.Tum Go.Tum.W
theorem argOp_of {H : Type} {enc : TypeId × Value → H} {W : World} {base : Nat} {spare : Nat → Bool} {held : Bool} {fuel : Nat} {a : Option Addr} {len cap : Nat} {x : DataW H × List MemPlace}
    (h : DataW.trod enc Try.prog W base spare held fuel 22 (Value.slice a len cap).cells.toList = some x) :
    ∃ l : List (Bool × Int × Int × Int), ArgE enOp 4 W (.slice a len cap) l ∧ len = l.length ∧ l.length ≤ maxLen := by
  obtain ⟨l, h1, _, h2, h3⟩ := argE_of (en := enOp) (n := 4) (good := fun _ => True) (ks := [.bool, .int .i64, .int .i64, .int .u64]) (f := 3) Try.underlying22 (by kernel_rfl) (by kernel_rfl) rfl (by decide)
    (fun vs hv => by
      obtain ⟨_, r0, rfl, ⟨b, rfl⟩, h0⟩ := LKs.cons hv
      obtain ⟨_, r1, rfl, ⟨m, rfl, _⟩, h1⟩ := LKs.cons h0
      obtain ⟨_, r2, rfl, ⟨c, rfl, _⟩, h2⟩ := LKs.cons h1
      obtain ⟨_, r3, rfl, ⟨d, rfl, _⟩, h3⟩ := LKs.cons h2
      rw [LKs.none h3]
      exact ⟨(b, m, c, d), rfl, trivial⟩) h
  exact ⟨l, h1, h2, h3⟩
end Go.Proofs.Ytdhcaelhjpgliaa
