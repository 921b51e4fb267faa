/- Slices of acts, of numbers, that came in. -/
import Derived.Test.YtccioehckfdjdaaChecked
import Derived.Test.YtccioehckfdjdaaPl0
import Derived.Test.YtccioehckfdjdaaArgO
namespace Go.Proofs.Ytccioehckfdjdaa
open Go.ChangeShapes Go.WideShapes Go.RowKit Go.Deep Go.Tum
def goodU (x : Int) : Prop := 0 ≤ x ∧ x ≤ 18446744073709551615
def enI (x : Int) : List Value := [.int .i64 x]
theorem argA2_of {H : Type} {enc : TypeId × Value → H} {W : World} {base : Nat} {spare : Nat → Bool} {held : Bool} {fuel : Nat} {a : Option Addr} {len cap : Nat} {x : DataW H × List MemPlace}
    (h : DataW.trod enc Try.prog W base spare held fuel 86 (Value.slice a len cap).cells.toList = some x) :
    ∃ l : List (Int × Int), ArgE enA2 2 W (.slice a len cap) l ∧ len = l.length ∧ l.length ≤ maxLen := by
  obtain ⟨l, h1, _, h2, h3⟩ := argE_of (en := enA2) (n := 2) (good := fun _ => True) (ks := [.int .i64, .int .i64]) (f := 5) Try.underlying86 (by kernel_rfl) (by kernel_rfl) rfl (by decide)
    (fun vs hv => by
      obtain ⟨_, r0, rfl, ⟨x0, rfl, _⟩, h0⟩ := LKs.cons hv
      obtain ⟨_, r1, rfl, ⟨x1, rfl, _⟩, h1⟩ := LKs.cons h0
      rw [LKs.none h1]
      exact ⟨(x0, x1), rfl, trivial⟩) h
  exact ⟨l, h1, h2, h3⟩
theorem argU_of {H : Type} {enc : TypeId × Value → H} {W : World} {base : Nat} {spare : Nat → Bool} {held : Bool} {fuel : Nat} {a : Option Addr} {len cap : Nat} {x : DataW H × List MemPlace}
    (h : DataW.trod enc Try.prog W base spare held fuel 63 (Value.slice a len cap).cells.toList = some x) :
    ∃ l : List Int, ArgG goodU enU 1 W (.slice a len cap) l ∧ len = l.length ∧ l.length ≤ maxLen := by
  obtain ⟨l, h1, hg, h2, h3⟩ := argE_of (en := enU) (n := 1) (good := goodU) (ks := [.int .u64]) (f := 5) Try.underlying63 (by kernel_rfl) (by kernel_rfl) rfl (by decide)
    (fun vs hv => by
      obtain ⟨_, r0, rfl, ⟨x0, rfl, g0⟩, h0⟩ := LKs.cons hv
      rw [LKs.none h0]
      exact ⟨x0, rfl, wf_u64 g0⟩) h
  exact ⟨l, ⟨h1, hg⟩, h2, h3⟩
theorem argI_of {H : Type} {enc : TypeId × Value → H} {W : World} {base : Nat} {spare : Nat → Bool} {held : Bool} {fuel : Nat} {a : Option Addr} {len cap : Nat} {x : DataW H × List MemPlace}
    (h : DataW.trod enc Try.prog W base spare held fuel 70 (Value.slice a len cap).cells.toList = some x) :
    ∃ l : List Int, ArgE enI 1 W (.slice a len cap) l ∧ len = l.length ∧ l.length ≤ maxLen := by
  obtain ⟨l, h1, _, h2, h3⟩ := argE_of (en := enI) (n := 1) (good := fun _ => True) (ks := [.int .i64]) (f := 5) Try.underlying70 (by kernel_rfl) (by kernel_rfl) rfl (by decide)
    (fun vs hv => by
      obtain ⟨_, r0, rfl, ⟨x0, rfl, _⟩, h0⟩ := LKs.cons hv
      rw [LKs.none h0]
      exact ⟨x0, rfl, trivial⟩) h
  exact ⟨l, h1, h2, h3⟩
end Go.Proofs.Ytccioehckfdjdaa
