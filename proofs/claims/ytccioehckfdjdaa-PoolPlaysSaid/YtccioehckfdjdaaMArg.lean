/- Several texts in one: ArgO, Pargs. -/
import Derived.Test.YtccioehckfdjdaaChecked
import Derived.Test.YtccioehckfdjdaaTape
import Derived.Test.YtccioehckfdjdaaScw
import Derived.Test.YtccioehckfdjdaaPl0
/- Slices of replies and of entries that came in, with the bounds of their numbers. -/
section
namespace Go.Tum
/-- A slice that came in, all elements of which are good. -/
def ArgG {T : Type} (good : T → Prop) (en : T → List Value) (n : Nat) (w : World) (v : Value) (l : List T) : Prop := ArgE en n w v l ∧ ∀ x ∈ l, good x
def goodO (o : O3) : Prop := 0 ≤ o.v ∧ o.v ≤ 18446744073709551615 ∧ 0 ≤ o.s ∧ o.s ≤ 18446744073709551615
def goodE (e : Int × Int) : Prop := -9223372036854775808 ≤ e.1 ∧ e.1 ≤ 9223372036854775807 ∧ 0 ≤ e.2 ∧ e.2 ≤ 18446744073709551615
theorem wf_u64 {x : Int} (h : (Lit.int .u64 x).wf = true) : 0 ≤ x ∧ x ≤ 18446744073709551615 := by
  have e0 : IntKind.u64.min = 0 := by decide
  have e1 : IntKind.u64.max = 18446744073709551615 := by decide
  simp only [Lit.wf, Bool.and_eq_true, decide_eq_true_eq] at h; omega
theorem wf_i64 {x : Int} (h : (Lit.int .i64 x).wf = true) : -9223372036854775808 ≤ x ∧ x ≤ 9223372036854775807 := by
  have e0 : IntKind.i64.min = -9223372036854775808 := by decide
  have e1 : IntKind.i64.max = 9223372036854775807 := by decide
  simp only [Lit.wf, Bool.and_eq_true, decide_eq_true_eq] at h; omega
end Go.Tum
namespace Go.Proofs.Ytccioehckfdjdaa
open Go.ChangeShapes Go.WideShapes Go.RowKit Go.Deep Go.Tum Go.Tum.Sc
theorem enE_of (vs : List Value) (h : LKs [.int .i64, .int .u64] vs) : ∃ s : Int × Int, vs = enE s ∧ goodE s := by
  obtain ⟨_, r0, rfl, ⟨x0, rfl, g0⟩, h0⟩ := LKs.cons h
  obtain ⟨_, r1, rfl, ⟨x1, rfl, g1⟩, h1⟩ := LKs.cons h0
  rw [LKs.none h1]
  exact ⟨(x0, x1), rfl, (wf_i64 g0).1, (wf_i64 g0).2, (wf_u64 g1).1, (wf_u64 g1).2⟩
theorem enO_of (vs : List Value) (h : LKs [.int .u64, .int .u64, .bool] vs) : ∃ s : O3, vs = enO s ∧ goodO s := by
  obtain ⟨_, r0, rfl, ⟨x0, rfl, g0⟩, h0⟩ := LKs.cons h
  obtain ⟨_, r1, rfl, ⟨x1, rfl, g1⟩, h1⟩ := LKs.cons h0
  obtain ⟨_, r2, rfl, ⟨x2, rfl⟩, h2⟩ := LKs.cons h1
  rw [LKs.none h2]
  exact ⟨⟨x0, x1, x2⟩, rfl, (wf_u64 g0).1, (wf_u64 g0).2, (wf_u64 g1).1, (wf_u64 g1).2⟩
theorem argEn_of {H : Type} {enc : TypeId × Value → H} {W : World} {base : Nat} {spare : Nat → Bool} {held : Bool} {fuel : Nat} {a : Option Addr} {len cap : Nat} {x : DataW H × List MemPlace}
    (h : DataW.trod enc Try.prog W base spare held fuel 113 (Value.slice a len cap).cells.toList = some x) :
    ∃ l : List (Int × Int), ArgG goodE enE 2 W (.slice a len cap) l ∧ len = l.length ∧ l.length ≤ maxLen := by
  obtain ⟨l, h1, hg, h2, h3⟩ := argE_of (en := enE) (n := 2) (good := goodE) (ks := [.int .i64, .int .u64]) (f := 5) Try.underlying113 (by kernel_rfl) (by kernel_rfl) rfl (by decide) enE_of h
  exact ⟨l, ⟨h1, hg⟩, h2, h3⟩
theorem argOut_of {H : Type} {enc : TypeId × Value → H} {W : World} {base : Nat} {spare : Nat → Bool} {held : Bool} {fuel : Nat} {a : Option Addr} {len cap : Nat} {x : DataW H × List MemPlace}
    (h : DataW.trod enc Try.prog W base spare held fuel 26 (Value.slice a len cap).cells.toList = some x) :
    ∃ l : List O3, ArgG goodO enO 3 W (.slice a len cap) l ∧ len = l.length ∧ l.length ≤ maxLen := by
  obtain ⟨l, h1, hg, h2, h3⟩ := argE_of (en := enO) (n := 3) (good := goodO) (ks := [.int .u64, .int .u64, .bool]) (f := 5) Try.underlying26 (by kernel_rfl) (by kernel_rfl) rfl (by decide) enO_of h
  exact ⟨l, ⟨h1, hg⟩, h2, h3⟩
end Go.Proofs.Ytccioehckfdjdaa
end

/- Slices of acts, of numbers, that came in. -/
section
namespace Go.Proofs.Ytccioehckfdjdaa
open Go.ChangeShapes Go.WideShapes Go.RowKit Go.Deep Go.Tum
theorem argA2_of {H : Type} {enc : TypeId × Value → H} {W : World} {base : Nat} {spare : Nat → Bool} {held : Bool} {fuel : Nat} {a : Option Addr} {len cap : Nat} {x : DataW H × List MemPlace}
    (h : DataW.trod enc Try.prog W base spare held fuel 86 (Value.slice a len cap).cells.toList = some x) :
    ∃ l : List (Int × Int), ArgE enA2 2 W (.slice a len cap) l ∧ len = l.length ∧ l.length ≤ maxLen := by
  obtain ⟨l, h1, _, h2, h3⟩ := argE_of (en := enA2) (n := 2) (good := fun _ => True) (ks := [.int .i64, .int .i64]) (f := 5) Try.underlying86 (by kernel_rfl) (by kernel_rfl) rfl (by decide)
    (fun vs hv => by
      obtain ⟨_, r0, rfl, ⟨x0, rfl, _⟩, h0⟩ := LKs.cons hv
      obtain ⟨_, r1, rfl, ⟨x1, rfl, _⟩, h1⟩ := LKs.cons h0
      rw [LKs.none h1]
      exact ⟨(x0, x1), rfl, trivial⟩) h
  exact ⟨l, h1, h2, h3⟩
theorem argU_of {H : Type} {enc : TypeId × Value → H} {W : World} {base : Nat} {spare : Nat → Bool} {held : Bool} {fuel : Nat} {a : Option Addr} {len cap : Nat} {x : DataW H × List MemPlace}
    (h : DataW.trod enc Try.prog W base spare held fuel 63 (Value.slice a len cap).cells.toList = some x) :
    ∃ l : List Int, ArgG goodU enU 1 W (.slice a len cap) l ∧ len = l.length ∧ l.length ≤ maxLen := by
  obtain ⟨l, h1, hg, h2, h3⟩ := argE_of (en := enU) (n := 1) (good := goodU) (ks := [.int .u64]) (f := 5) Try.underlying63 (by kernel_rfl) (by kernel_rfl) rfl (by decide)
    (fun vs hv => by
      obtain ⟨_, r0, rfl, ⟨x0, rfl, g0⟩, h0⟩ := LKs.cons hv
      rw [LKs.none h0]
      exact ⟨x0, rfl, wf_u64 g0⟩) h
  exact ⟨l, ⟨h1, hg⟩, h2, h3⟩
theorem argI_of {H : Type} {enc : TypeId × Value → H} {W : World} {base : Nat} {spare : Nat → Bool} {held : Bool} {fuel : Nat} {a : Option Addr} {len cap : Nat} {x : DataW H × List MemPlace}
    (h : DataW.trod enc Try.prog W base spare held fuel 70 (Value.slice a len cap).cells.toList = some x) :
    ∃ l : List Int, ArgG goodI enI 1 W (.slice a len cap) l ∧ len = l.length ∧ l.length ≤ maxLen := by
  obtain ⟨l, h1, hg, h2, h3⟩ := argE_of (en := enI) (n := 1) (good := goodI) (ks := [.int .i64]) (f := 5) Try.underlying70 (by kernel_rfl) (by kernel_rfl) rfl (by decide)
    (fun vs hv => by
      obtain ⟨_, r0, rfl, ⟨x0, rfl, g0⟩, h0⟩ := LKs.cons hv
      rw [LKs.none h0]
      exact ⟨x0, rfl, wf_i64 g0⟩) h
  exact ⟨l, ⟨h1, hg⟩, h2, h3⟩
end Go.Proofs.Ytccioehckfdjdaa
end
