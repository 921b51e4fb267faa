/- A set, a map and a row of numbers side by side: what WsetKeeps goes on with. -/
import Derived.Test.YtdhcaelhjpgliaaKplain
namespace Go.Proofs.Ytdhcaelhjpgliaa
open Go.RowKit Go.Tum Go.Tum.W

theorem ownsMap_fr {P : Program} {k : TypeId} {R : Value → Option (DataW Unit × List MemPlace)} {w w' : World} {b n : Nat} {D : DataW Unit} {fp : List Nat} (h : w.ownsMap P k R b n D) (f : Fr fp w w') (hn : b ∉ fp) : w'.ownsMap P k R b n D := by
  have hl := h.lt
  obtain ⟨es, clock, h1, h2⟩ := h
  exact ⟨es, clock, (f.block b hl hn).trans h1, h2⟩

structure KR (w0 wr : World) (b : Nat) (fp : List Nat) (s : S) (mb n : Nat) (D : DataW Unit) (vo : Value) (ks : List Int) : Prop where
  x : Live w0 wr b fp s
  m : wr.ownsMap Try.prog 3 (plainElem Try.prog 30) mb n D
  mb0 : w0.heap.size ≤ mb
  mfp : mb ∉ fp
  o : wr.ownsRow w0.heap.size 3 1 vo ks.length (ks.map (Value.int .i64))
  ofp : ∀ k, vo.ownBlock = some k → k ∉ fp ∧ k ≠ mb

section
variable {w0 wr w' : World} {b mb n : Nat} {fp fp' : List Nat} {s s' : S} {D D' : DataW Unit} {vo : Value} {ks : List Int}
theorem KR.fr0 (h : KR w0 wr b fp s mb n D vo ks) (f : Fr [] wr w') : KR w0 w' b fp s mb n D vo ks :=
  ⟨h.x.fr0 f, ownsMap_fr h.m f (by simp), h.mb0, h.mfp, ownsRow_fr h.o f (by simp), h.ofp⟩
theorem KR.turn (h : KR w0 wr b fp s mb n D vo ks) (hx : Live w0 w' b fp' s') (f : Fr fp wr w') (hn : ∀ k ∈ fp', k ∈ fp ∨ wr.heap.size ≤ k) : KR w0 w' b fp' s' mb n D vo ks := by
  refine ⟨hx, ownsMap_fr h.m f h.mfp, h.mb0, fun h1 => ?_, ownsRow_fr h.o f (fun k e => (h.ofp k e).1), fun k e => ⟨fun h1 => ?_, (h.ofp k e).2⟩⟩
  · rcases hn mb h1 with h3 | h3
    · exact h.mfp h3
    · have := h.m.lt; omega
  · rcases hn k h1 with h3 | h3
    · exact (h.ofp k e).1 h3
    · have := (World.ownsRow.lt h.o k e).2; omega
theorem KR.push {g c n' : Nat} {m : Int} (h : KR w0 wr b fp s mb n D vo ks) (ho : w'.ownsRow w0.heap.size 3 1 (.slice (some ⟨g, 0, none⟩) n' c) n' (ks.map (Value.int .i64) ++ [.int .i64 m])) (hn : n' = ks.length + 1)
    (hg : wr.grownBy w' vo.ownBlock) (hgg : vo.ownBlock = some g ∨ g = wr.heap.size) : KR w0 w' b fp s mb n D (.slice (some ⟨g, 0, none⟩) n' c) (ks ++ [m]) := by
  have hf : Fr vo.ownBlock.toList wr w' := (Fr.refl _ _).grown hg (fun k e => .inl (by simp [e]))
  have hb : ∀ k ∈ vo.ownBlock.toList, w0.heap.size ≤ k := fun k hk => (World.ownsRow.lt h.o k (by simpa using hk)).1
  refine ⟨h.x.fr hf (fun k h1 h2 => (h.ofp k (by simpa using h2)).1 h1) hb, ownsMap_fr h.m hf (fun h2 => (h.ofp mb (by simpa using h2)).2 rfl), h.mb0, h.mfp, ?_, ?_⟩
  · subst hn
    simpa using ho
  · intro k e
    simp [Value.ownBlock] at e
    subst e
    refine ⟨fun h3 => ?_, fun e2 => ?_⟩
    · rcases hgg with e | e
      · exact (h.ofp g e).1 h3
      · have := (h.x.1.lt g h3).2; omega
    · rcases hgg with e | e
      · exact (h.ofp _ e).2 e2
      · have := h.m.lt; omega
theorem KR.store (h : KR w0 wr b fp s mb n D vo ks) (hm : w'.ownsMap Try.prog 3 (plainElem Try.prog 30) mb (n + 1) D') (hg : wr.grownBy w' (some mb)) : KR w0 w' b fp s mb (n + 1) D' vo ks := by
  have hf : Fr [mb] wr w' := (Fr.refl _ _).grown hg (fun k e => .inl (by simp at e; simp [e]))
  exact ⟨h.x.fr hf (fun k h1 h2 => h.mfp (by simp at h2; subst h2; exact h1)) (by simpa using h.mb0), hm, h.mb0, h.mfp, ownsRow_fr h.o hf (fun k e h2 => (h.ofp k e).2 (by simpa using h2)), h.ofp⟩
end
end Go.Proofs.Ytdhcaelhjpgliaa
