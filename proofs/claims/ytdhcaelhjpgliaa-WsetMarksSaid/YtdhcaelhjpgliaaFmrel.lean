/- Two sets side by side, the marks, and the row of lists: what WsetMarks goes on with. -/
import Derived.Test.YtdhcaelhjpgliaaPuts
namespace Go.Proofs.Ytdhcaelhjpgliaa
open Go.RowKit Go.Tum Go.Tum.W

structure MR (w0 wr : World) (bx bz : Nat) (fx fy : List Nat) (sx sy : S) (vm : Value) (ms : List Int) (gn : Nat) (cs : List Value) : Prop where
  x : Live w0 wr bx fx sx
  y : Live w0 wr bz fy sy
  xy : ∀ k ∈ fx, k ∉ fy
  n : Blk wr gn 49 cs
  nx : gn ∉ fx
  ny : gn ∉ fy
  m : wr.ownsRow w0.heap.size 3 1 vm ms.length (ms.map (Value.int .i64))
  mx : ∀ k, vm.ownBlock = some k → k ∉ fx ∧ k ∉ fy ∧ k ≠ gn

section
variable {w0 wr w' : World} {bx bz gn : Nat} {fx fy fx' fy' : List Nat} {sx sy sx' sy' : S} {vm : Value} {ms : List Int} {cs : List Value}
theorem MR.fr0 (h : MR w0 wr bx bz fx fy sx sy vm ms gn cs) (f : Fr [] wr w') : MR w0 w' bx bz fx fy sx sy vm ms gn cs :=
  ⟨h.x.fr0 f, h.y.fr0 f, h.xy, h.n.fr f (by simp), h.nx, h.ny, ownsRow_fr h.m f (by simp), h.mx⟩
theorem MR.swap (h : MR w0 wr bx bz fx fy sx sy vm ms gn cs) : MR w0 wr bz bx fy fx sy sx vm ms gn cs :=
  ⟨h.y, h.x, fun k h1 h2 => h.xy k h2 h1, h.n, h.ny, h.nx, h.m, fun k e => ⟨(h.mx k e).2.1, (h.mx k e).1, (h.mx k e).2.2⟩⟩
theorem MR.turnx (h : MR w0 wr bx bz fx fy sx sy vm ms gn cs) (hx : Live w0 w' bx fx' sx') (f : Fr fx wr w') (hn : ∀ k ∈ fx', k ∈ fx ∨ wr.heap.size ≤ k) : MR w0 w' bx bz fx' fy sx' sy vm ms gn cs := by
  refine ⟨hx, h.y.fr f (fun k h1 h2 => h.xy k h2 h1) (fun k hk => (h.x.1.lt k hk).1), fun k h1 h2 => ?_, h.n.fr f h.nx, fun h1 => ?_, h.ny, ownsRow_fr h.m f (fun k e => (h.mx k e).1), fun k e => ⟨fun h1 => ?_, (h.mx k e).2⟩⟩
  · rcases hn k h1 with h3 | h3
    · exact h.xy k h3 h2
    · have := (h.y.1.lt k h2).2; omega
  · rcases hn gn h1 with h3 | h3
    · exact h.nx h3
    · have := h.n.lt; omega
  · rcases hn k h1 with h3 | h3
    · exact (h.mx k e).1 h3
    · have := (World.ownsRow.lt h.m k e).2; omega
theorem MR.turny (h : MR w0 wr bx bz fx fy sx sy vm ms gn cs) (hy : Live w0 w' bz fy' sy') (f : Fr fy wr w') (hn : ∀ k ∈ fy', k ∈ fy ∨ wr.heap.size ≤ k) : MR w0 w' bx bz fx fy' sx sy' vm ms gn cs :=
  (h.swap.turnx hy f hn).swap
theorem MR.push {g c n : Nat} {m : Int} (h : MR w0 wr bx bz fx fy sx sy vm ms gn cs) (ho : w'.ownsRow w0.heap.size 3 1 (.slice (some ⟨g, 0, none⟩) n c) n (ms.map (Value.int .i64) ++ [.int .i64 m])) (hn : n = ms.length + 1)
    (hg : wr.grownBy w' vm.ownBlock) (hgg : vm.ownBlock = some g ∨ g = wr.heap.size) : MR w0 w' bx bz fx fy sx sy (.slice (some ⟨g, 0, none⟩) n c) (ms ++ [m]) gn cs := by
  have hf : Fr vm.ownBlock.toList wr w' := (Fr.refl _ _).grown hg (fun k e => .inl (by simp [e]))
  have hb : ∀ k ∈ vm.ownBlock.toList, w0.heap.size ≤ k := fun k hk => (World.ownsRow.lt h.m k (by simpa using hk)).1
  have hout : ∀ {F : List Nat}, (∀ k ∈ F, k < wr.heap.size) → (∀ k, vm.ownBlock = some k → k ∉ F) → g ∉ F := by
    intro F h1 h2 h3
    rcases hgg with e | e
    · exact h2 g e h3
    · have := h1 g h3; omega
  refine ⟨h.x.fr hf (fun k h1 h2 => (h.mx k (by simpa using h2)).1 h1) hb, h.y.fr hf (fun k h1 h2 => (h.mx k (by simpa using h2)).2.1 h1) hb, h.xy, h.n.fr hf (fun h2 => (h.mx gn (by simpa using h2)).2.2 rfl), h.nx, h.ny, ?_, ?_⟩
  · subst hn
    simpa using ho
  · intro k e
    simp [Value.ownBlock] at e
    subst e
    exact ⟨hout (fun k hk => (h.x.1.lt k hk).2) (fun k e => (h.mx k e).1), hout (fun k hk => (h.y.1.lt k hk).2) (fun k e => (h.mx k e).2.1), fun e2 => by
      rcases hgg with e | e
      · exact (h.mx _ e).2.2 e2
      · have := h.n.lt; omega⟩
end
end Go.Proofs.Ytdhcaelhjpgliaa
