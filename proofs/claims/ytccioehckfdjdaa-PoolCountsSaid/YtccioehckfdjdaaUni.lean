/- Small facts that several chapters' texts share. -/
import Derived.Test.YtccioehckfdjdaaLoad2
import Derived.Test.YtccioehckfdjdaaLeaf
import Derived.Test.YtccioehckfdjdaaYplain
namespace Go.Tum
open Go.RowKit
theorem rangeAt_pre {fp : List Nat} {w0 : World} {b : Nat} {T : TypeId} {cs tl : List Value} (h : Blk w0 b T (cs ++ tl)) (hn : b ∉ fp) : ∀ w', (∃ x : After fp w0, w' = x.wd) → w'.rangeAt b 0 cs := by
  rintro _ ⟨x, rfl⟩ j v hj
  rw [(h.fr x.fr hn).cell, Nat.zero_add, List.getElem?_append_left (List.getElem?_eq_some_iff.1 hj).1]; exact hj
theorem Blk.pre {w : World} {b : Nat} {T : TypeId} {cs tl : List Value} (h : Blk w b T (cs ++ tl)) : w.rangeAt b 0 cs := by
  intro j v hj
  rw [h.cell, Nat.zero_add, List.getElem?_append_left (List.getElem?_eq_some_iff.1 hj).1]; exact hj
theorem Sep.ne {w0 w : World} {Ts : List Thing} (h : Sep w0 w Ts) (i j : Nat) {k k' : Nat} {T T' : TypeId} {cs cs' : List Value} (hi : Ts[i]? = some (blkT k T cs)) (hj : Ts[j]? = some (blkT k' T' cs')) (hij : i ≠ j) : k ≠ k' := by
  obtain ⟨h0, F, hF, hd⟩ := h
  have p0 := (hF i _ hi).1.1
  have p1 := (hF j _ hj).1.1
  have d := hd i j (List.getElem?_eq_some_iff.1 hi).1 (List.getElem?_eq_some_iff.1 hj).1 hij
  rw [p0, p1] at d
  intro e
  exact d k (by simp) (by simp [e])
theorem Sep.ge {w0 w : World} {Ts : List Thing} (h : Sep w0 w Ts) (i : Nat) {k : Nat} {T : TypeId} {cs : List Value} (hi : Ts[i]? = some (blkT k T cs)) : w0.heap.size ≤ k := by
  obtain ⟨h0, F, hF, hd⟩ := h
  have p := hF i _ hi
  have e := p.1.1
  exact p.2 k (by rw [e]; simp)
theorem Sep.snd {w0 w : World} {T U : Thing} {Ts : List Thing} (h : Sep w0 w (T :: U :: Ts)) : Sep w0 w (T :: Ts) := (h.pull 1 rfl).tail
end Go.Tum
namespace Go.Proofs.Ytccioehckfdjdaa
open Go.RowKit Go.Tum Go.Tum.Y
theorem oneMap (c : Cfg) : ∀ v ∈ mapCells c, v.oneCell' = true := by simp [mapCells, Value.oneCell']
end Go.Proofs.Ytccioehckfdjdaa
