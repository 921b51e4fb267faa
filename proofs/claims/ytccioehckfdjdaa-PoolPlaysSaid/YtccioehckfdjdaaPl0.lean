/- What the laws of chapter 10 share: rows of numbers, the first calls. -/
import Derived.Test.YtccioehckfdjdaaPex
import Derived.Test.YtccioehckfdjdaaYof
import Derived.Test.YtccioehckfdjdaaPtell
set_option linter.unusedSimpArgs false
set_option linter.unusedVariables false
namespace Go.Tum
def enA2 (e : Int × Int) : List Value := [.int .i64 e.1, .int .i64 e.2]
theorem enA2_len (e : Int × Int) : (enA2 e).length = 2 := rfl
def goodU (x : Int) : Prop := 0 ≤ x ∧ x ≤ 18446744073709551615
def goodI (x : Int) : Prop := -9223372036854775808 ≤ x ∧ x ≤ 9223372036854775807
def enI (x : Int) : List Value := [.int .i64 x]
theorem enI_len (x : Int) : (enI x).length = 1 := rfl
theorem enU_len (x : Int) : (enU x).length = 1 := rfl
theorem flat_enU (l : List Int) : flat enU l = l.map (Value.int .u64) := by
  induction l with
  | nil => rfl
  | cons x l ih => unfold flat at *; rw [List.flatMap_cons, ih]; rfl
end Go.Tum
namespace Go.Tum
theorem flat_enI (l : List Int) : flat enI l = l.map (Value.int .i64) := by
  induction l with
  | nil => rfl
  | cons x l ih => unfold flat at *; rw [List.flatMap_cons, ih]; rfl
theorem ArgE.takeU {w : World} {a : Option Addr} {m cap : Nat} {l : List Int} (h : ArgE enU 1 w (.slice a m cap) l) (k : Nat) (hk : k ≤ l.length) : ArgE enU 1 w (.slice a k cap) (l.take k) := by
  obtain ⟨a', cap', e, hc, h⟩ := h
  simp only [Value.slice.injEq] at e
  obtain ⟨rfl, rfl, rfl⟩ := e
  refine ⟨a, cap, by rw [List.length_take, Nat.min_eq_left hk], by rw [List.length_take]; omega, ?_⟩
  rcases h with h | ⟨x, e, hx, hcell⟩
  · subst h; left; simp
  · right
    refine ⟨x, e, hx, fun i hi j u hu => ?_⟩
    rw [List.length_take] at hi
    rw [List.getElem_take] at hu
    exact hcell i (by omega) j u hu
/-- The cells of a slice of numbers that came in. -/
theorem ArgE.rowU {w : World} {a : Option Addr} {m cap : Nat} {l : List Int} (h : ArgE enU 1 w (.slice a m cap) l) (h0 : l ≠ []) : ∃ x : Addr, a = some x ∧ ∀ j u, (l.map (Value.int .u64))[j]? = some u → w.cell? (x.add j) = some u := by
  obtain ⟨a', cap', e, _, h⟩ := h
  simp only [Value.slice.injEq] at e
  obtain ⟨rfl, rfl, rfl⟩ := e
  rcases h with h | ⟨x, rfl, hx, hc⟩
  · exact absurd h h0
  · refine ⟨x, rfl, fun j u hu => ?_⟩
    rw [List.getElem?_map] at hu
    by_cases hj : j < l.length
    · rw [List.getElem?_eq_getElem hj] at hu
      have := hc j hj 0 u (by simpa [enU] using hu)
      simpa using this
    · rw [List.getElem?_eq_none (by omega)] at hu; cases hu
end Go.Tum
namespace Go.Proofs.Ytccioehckfdjdaa
open Go.RowKit Go.Tum Go.Tum.Y
theorem rright10_any (w : World) (c : Cfg) : Calls Try.prog 16 #[.agg (cfgL c).toArray] w fun e w' => e = .returned (.bool (right c)) ∧ Fr [] w w' := rright_any w c
theorem of10_any (w : World) (c : Cfg) (h : Y.Ok c) : Calls Try.prog 25 #[.agg (cfgL c).toArray] w fun e w' => e = .returned (.tuple #[.agg (mapCells c).toArray, .int .i64 0]) ∧ Fr [] w w' := of_good w c h
theorem limit10_any (w : World) (c : Cfg) (h : Y.Ok c) : Calls Try.prog 42 #[.agg (mapCells c).toArray] w fun e w' => e = .returned (.int .i64 (limit c)) ∧ Fr [] w w' := limit_any w c h
theorem made_u64 (n : Nat) : (madeCells #[Value.int .u64 0] n).toList = (List.replicate n (0 : Int)).map (Value.int .u64) := by
  apply List.ext_getElem?
  intro i
  simp only [madeCells, Value.cells]
  rw [Array.getElem?_toList, Array.getElem?_map, List.getElem?_map, List.getElem?_replicate, Array.getElem?_range]
  by_cases hi : i < n
  · rw [if_pos hi, if_pos hi]
    simp only [Option.map_some]
    rw [show i % (#[Value.int .u64 0] : Array Value).size = 0 from by simp [Nat.mod_one]]; rfl
  · rw [if_neg hi, if_neg hi]; rfl
theorem rowU_arg {w : World} {v : Value} {l : List Int} {n : Nat} (hn : n = l.length) (h : w.ownsRow 0 22 1 v n (l.map (Value.int .u64))) : ArgE enU 1 w v l := by
  subst hn
  refine argE_row (base := 0) (e := 22) enU_len ?_
  rw [flat_enU]
  exact h
end Go.Proofs.Ytccioehckfdjdaa
