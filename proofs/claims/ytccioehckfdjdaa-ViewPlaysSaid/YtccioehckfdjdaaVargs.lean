/- Slices of requests that came in. -/
import Derived.Test.YtccioehckfdjdaaChecked
import Derived.Test.YtccioehckfdjdaaVrq
namespace Go.Proofs.Ytccioehckfdjdaa
open Go.ChangeShapes Go.WideShapes Go.RowKit Go.Deep Go.Tum Go.Tum.Vw
theorem enR_of (vs : List Value) (h : LKs [.int .i64, .int .i64, .int .i64] vs) : ∃ s : Rq, vs = enR s ∧ True := by
  obtain ⟨_, r0, rfl, ⟨x0, rfl, _⟩, h0⟩ := LKs.cons h
  obtain ⟨_, r1, rfl, ⟨x1, rfl, _⟩, h1⟩ := LKs.cons h0
  obtain ⟨_, r2, rfl, ⟨x2, rfl, _⟩, h2⟩ := LKs.cons h1
  rw [LKs.none h2]
  exact ⟨⟨x0, x1, x2⟩, rfl, trivial⟩
theorem argRq_of {H : Type} {enc : TypeId × Value → H} {W : World} {base : Nat} {spare : Nat → Bool} {held : Bool} {fuel : Nat} {a : Option Addr} {len cap : Nat} {x : DataW H × List MemPlace}
    (h : DataW.trod enc Try.prog W base spare held fuel 25 (Value.slice a len cap).cells.toList = some x) :
    ∃ l : List Rq, ArgE enR 3 W (.slice a len cap) l ∧ len = l.length ∧ l.length ≤ maxLen := by
  obtain ⟨l, h1, _, h2, h3⟩ := argE_of (en := enR) (n := 3) (good := fun _ => True) (ks := [.int .i64, .int .i64, .int .i64]) (f := 5) Try.underlying25 (by kernel_rfl) (by kernel_rfl) rfl (by decide) enR_of h
  exact ⟨l, h1, h2, h3⟩
theorem argV_of {H : Type} {enc : TypeId × Value → H} {W : World} {base : Nat} {spare : Nat → Bool} {held : Bool} {fuel : Nat} {a : Option Addr} {len cap : Nat} {x : DataW H × List MemPlace}
    (h : DataW.trod enc Try.prog W base spare held fuel 63 (Value.slice a len cap).cells.toList = some x) :
    ∃ l : List Int, ArgE enU 1 W (.slice a len cap) l ∧ len = l.length ∧ l.length ≤ maxLen := by
  obtain ⟨l, h1, _, h2, h3⟩ := argE_of (en := enU) (n := 1) (good := fun _ => True) (ks := [.int .u64]) (f := 5) Try.underlying63 (by kernel_rfl) (by kernel_rfl) rfl (by decide)
    (fun vs hv => by
      obtain ⟨_, r0, rfl, ⟨x0, rfl, _⟩, h0⟩ := LKs.cons hv
      rw [LKs.none h0]
      exact ⟨x0, rfl, trivial⟩) h
  exact ⟨l, h1, h2, h3⟩
end Go.Proofs.Ytccioehckfdjdaa
