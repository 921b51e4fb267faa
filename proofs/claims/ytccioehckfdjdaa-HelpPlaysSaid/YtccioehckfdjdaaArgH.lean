/- Slices of entries that came in, where nil has no room; what the laws of chapter 12 share. -/
import Derived.Test.YtccioehckfdjdaaArgO
import Derived.Test.YtccioehckfdjdaaHown
set_option linter.unusedSimpArgs false
set_option linter.unusedVariables false
namespace Go.Proofs.Ytccioehckfdjdaa
open Go.RowKit Go.Tum Go.Tum.Y Go.Tum.Sc
/-- Entries that came in. -/
def ArgH (w : World) (v : Value) (l : List (Int × Int)) : Prop := ArgG goodE enE 2 w v l ∧ ∀ a m cap, v = .slice a m cap → NilA a m cap
open Go.ChangeShapes Go.WideShapes Go.Deep in
theorem argHn_of {H : Type} {enc : TypeId × Value → H} {W : World} {base : Nat} {spare : Nat → Bool} {held : Bool} {fuel : Nat} {a : Option Addr} {len cap : Nat} {x : DataW H × List MemPlace}
    (h : DataW.trod enc Try.prog W base spare held fuel 113 (Value.slice a len cap).cells.toList = some x) :
    ∃ l : List (Int × Int), ArgH W (.slice a len cap) l ∧ len = l.length ∧ l.length ≤ maxLen := by
  obtain ⟨l, h1, h2, h3⟩ := argEn_of h
  refine ⟨l, ⟨h1, ?_⟩, h2, h3⟩
  intro a' m' cap' e
  obtain ⟨rfl, rfl, rfl⟩ : a = a' ∧ len = m' ∧ cap = cap' := by simpa using e
  exact argNil_of Try.underlying113 h
theorem rright12_any (w : World) (c : Cfg) : Calls Try.prog 16 #[.agg (cfgL c).toArray] w fun e w' => e = .returned (.bool (right c)) ∧ Fr [] w w' := rright_any w c
theorem tmod_in {q t r : Int} (h : Int.tmod q t = r) (h0 : 0 ≤ q) (ht : 1 ≤ t) : 0 ≤ r ∧ r < t := by
  rw [Int.tmod_eq_emod_of_nonneg h0] at h
  subst h
  exact ⟨Int.emod_nonneg _ (by omega), Int.emod_lt_of_pos _ (by omega)⟩
end Go.Proofs.Ytccioehckfdjdaa
