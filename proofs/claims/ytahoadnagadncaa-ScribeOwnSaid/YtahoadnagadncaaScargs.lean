/- Slices of entries and of replies that came in. -/
import Derived.Test.YtahoadnagadncaaChecked
import Derived.Test.YtahoadnagadncaaScclear
namespace Go.Tum
open Go.RowKit Go.Deep
section
variable {P : Program} {H : Type} {enc : TypeId × Value → H} {w : World} {base : Nat} {spare : Nat → Bool} {held : Bool}
theorem argN_of {T : Type} {en : T → List Value} {n : Nat} {good : T → Prop} {t e : TypeId} {ks : List LK} {f : Nat} (ht : P.underlying t = some (.slice e)) (hk : leafs P f e = some ks) (hc : P.cellsOf e = n) (hn : ks.length = n) (h0 : 0 < n)
    (hen : ∀ vs, LKs ks vs → ∃ x : T, vs = en x ∧ good x) {fuel : Nat} {a : Option Addr} {len cap : Nat} {x : DataW H × List MemPlace}
    (h : DataW.trod enc P w base spare held fuel t (Value.slice a len cap).cells.toList = some x) :
    ∃ l : List T, ArgN en n w (.slice a len cap) l ∧ (∀ e ∈ l, good e) ∧ len = l.length ∧ l.length ≤ maxLen := by
  obtain ⟨l, h1, h2, h3, h4⟩ := argE_of ht hk hc hn h0 hen h
  refine ⟨l, ⟨h1, fun m cap' e => ?_⟩, h2, h3, h4⟩
  simp only [Value.slice.injEq] at e
  obtain ⟨rfl, rfl, rfl⟩ := e
  rcases open_slice ht h with ⟨hcs, _⟩ | ⟨b, ln, c, m, n', D, Pl, hcs, _⟩
  · simp [Value.cells] at hcs; exact hcs.2
  · simp [Value.cells] at hcs
end
theorem ArgE.form {T : Type} {en : T → List Value} {n : Nat} {w : World} {v : Value} {l : List T} (h : ArgE en n w v l) : ∃ a cap, v = .slice a l.length cap := by
  obtain ⟨a, cap, e, _⟩ := h
  exact ⟨a, cap, e⟩
end Go.Tum
namespace Go.Proofs.Ytahoadnagadncaa
open Go.ChangeShapes Go.WideShapes Go.RowKit Go.Deep Go.Tum Go.Tum.Sc
theorem enE_of (vs : List Value) (h : LKs [.int .i64, .int .u64] vs) : ∃ s : Int × Int, vs = enE s ∧ True := by
  obtain ⟨_, r0, rfl, ⟨x0, rfl, _⟩, h0⟩ := LKs.cons h
  obtain ⟨_, r1, rfl, ⟨x1, rfl, _⟩, h1⟩ := LKs.cons h0
  rw [LKs.none h1]
  exact ⟨(x0, x1), rfl, trivial⟩
theorem enO_of (vs : List Value) (h : LKs [.int .u64, .int .u64, .bool] vs) : ∃ s : O3, vs = enO s ∧ True := by
  obtain ⟨_, r0, rfl, ⟨x0, rfl, _⟩, h0⟩ := LKs.cons h
  obtain ⟨_, r1, rfl, ⟨x1, rfl, _⟩, h1⟩ := LKs.cons h0
  obtain ⟨_, r2, rfl, ⟨x2, rfl⟩, h2⟩ := LKs.cons h1
  rw [LKs.none h2]
  exact ⟨⟨x0, x1, x2⟩, rfl, trivial⟩
theorem argEn_of {H : Type} {enc : TypeId × Value → H} {W : World} {base : Nat} {spare : Nat → Bool} {held : Bool} {fuel : Nat} {a : Option Addr} {len cap : Nat} {x : DataW H × List MemPlace}
    (h : DataW.trod enc Try.prog W base spare held fuel 25 (Value.slice a len cap).cells.toList = some x) :
    ∃ l : List (Int × Int), ArgN enE 2 W (.slice a len cap) l ∧ len = l.length ∧ l.length ≤ maxLen := by
  obtain ⟨l, h1, _, h2, h3⟩ := argN_of (en := enE) (n := 2) (good := fun _ => True) (ks := [.int .i64, .int .u64]) (f := 5) Try.underlying25 (by kernel_rfl) (by kernel_rfl) rfl (by decide) enE_of h
  exact ⟨l, h1, h2, h3⟩
theorem argOut_of {H : Type} {enc : TypeId × Value → H} {W : World} {base : Nat} {spare : Nat → Bool} {held : Bool} {fuel : Nat} {a : Option Addr} {len cap : Nat} {x : DataW H × List MemPlace}
    (h : DataW.trod enc Try.prog W base spare held fuel 26 (Value.slice a len cap).cells.toList = some x) :
    ∃ l : List O3, ArgE enO 3 W (.slice a len cap) l ∧ len = l.length ∧ l.length ≤ maxLen := by
  obtain ⟨l, h1, _, h2, h3⟩ := argE_of (en := enO) (n := 3) (good := fun _ => True) (ks := [.int .u64, .int .u64, .bool]) (f := 5) Try.underlying26 (by kernel_rfl) (by kernel_rfl) rfl (by decide) enO_of h
  exact ⟨l, h1, h2, h3⟩
end Go.Proofs.Ytahoadnagadncaa
