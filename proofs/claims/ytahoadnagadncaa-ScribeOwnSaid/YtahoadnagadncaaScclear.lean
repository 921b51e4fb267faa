/- clear of a slice that the call owns; slices that came in, where nil has no room. -/
import Derived.Test.YtahoadnagadncaaScplain
set_option linter.unusedSimpArgs false
set_option linter.unusedVariables false
namespace Go.Tum
open Go.RowKit
theorem Fr.setCells' {g : Nat} : ∀ (vs : List Value) (w : World) (o : Nat), Fr [g] w (w.setCells g o vs) := fun vs w o => Fr.setCells (by simp) vs o (Fr.refl _ _)
theorem wpList_clear {P : Program} {ops : Array Oper} {rest : List Oper} {o : Oper} {a : Act} {w w0 : World} {Q : Exit → Act → World → Prop} {R : List Thing} {base : Nat} {e : TypeId} {size g n cap : Nat} {xs : List Value}
    (h : Sep w0 w (rowT base e size (.slice (some ⟨g, 0, none⟩) n cap) n xs :: R)) (hgd : o.guard = none) (x : Operand) (t : TypeId) (ho : o.op = .call { callee := .builtin .clear, args := #[x], argTypes := #[t] }) (hx : a.eval x = .slice (some ⟨g, 0, none⟩) n cap)
    (ht : P.underlying t = some (.slice e)) (i : TypeInfo) (z : Value) (hi : P.info? e = some i) (hz : i.zero = some z) (hzs : z.cells.size = size) (h1 : ∀ u ∈ (Builtin.zeroCells z.cells n).toList, u.oneCell' = true)
    (hk : ∀ w', Sep w0 w' R → wpList P ops Q rest (a.put o.dst (.tuple #[])) w') : wpList P ops Q (o :: rest) a w := by
  refine wpList_plain hgd fun K hK => ?_
  have hr := h.row 0 rfl
  have hlen : (Builtin.zeroCells z.cells n).toList.length = n * size := by simp [Builtin.zeroCells, hzs]
  have hrun : (Builtin.clear_ #[t] o.type #[.slice (some ⟨g, 0, none⟩) n cap]).run P w = .ok (.tuple #[]) (w.setCells g 0 (Builtin.zeroCells z.cells n).toList) := by
    cases n with
    | zero =>
      have : (Builtin.zeroCells z.cells 0).toList = [] := List.eq_nil_of_length_eq_zero (by rw [hlen]; simp)
      rw [this]
      simp [Builtin.clear_, Sem.run_bind, run_underlying ht w, World.setCells]
    | succ m =>
      have hs := run_storeCells_cells (P := P) g 0 (Builtin.zeroCells z.cells (m + 1)).toList 0 w (fun j hj => by
        rw [ownsRow_cell hr (0 + 0 + j) (xs[j]'(by rw [hr.1]; omega)) (by simp)]; rfl) (fun j hj => ownsRow_froz hr _) h1
      simp [Builtin.clear_, Sem.run_bind, run_underlying ht w, zeroValue, typeInfo, hi, hz, hs]
  have hS : Sep w0 (w.setCells g 0 (Builtin.zeroCells z.cells n).toList) R := by
    obtain ⟨h0, F, hF, hd⟩ := h
    have p0 := hF 0 _ rfl
    have e0 : F 0 = [g] := by rw [p0.1.1]; rfl
    have f := Fr.setCells' (Builtin.zeroCells z.cells n).toList (g := g) w 0
    refine ⟨h0.trans' f (fun x hx => .inr (p0.2 x (by rw [e0]; exact hx))), fun j => F (j + 1), fun j T hj => ?_, fun j l hj hl hjl => hd (j + 1) (l + 1) (by simpa using hj) (by simpa using hl) (by omega)⟩
    have pj := hF (j + 1) T (by simpa using hj)
    exact ⟨T.fr pj.1 f (fun k hk => by have := hd (j + 1) 0 (by have := (List.getElem?_eq_some_iff.1 hj).1; simp; omega) (by simp) (by omega) k hk; rwa [e0] at this), pj.2⟩
  unfold Oper.wp execOp
  simp only [ho, resolve, invoke, builtin, Sem.run_bind, Sem.run_pure, Result.andThen_ok, List.map_toArray, List.map_cons, List.map_nil, hx, hrun]
  exact hK _ _ (hk _ hS)
/-- A slice that came in; nil has no room. -/
def ArgN {T : Type} (en : T → List Value) (n : Nat) (w : World) (v : Value) (l : List T) : Prop := ArgE en n w v l ∧ ∀ m cap, v = .slice none m cap → cap = 0
end Go.Tum
