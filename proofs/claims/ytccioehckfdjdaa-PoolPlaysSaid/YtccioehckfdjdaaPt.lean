/- Take, Give, End over a set and a pool, as two things. -/
import Derived.Test.YtccioehckfdjdaaMPac
set_option linter.unusedSimpArgs false
set_option linter.unusedVariables false
namespace Go.Proofs.Ytccioehckfdjdaa
open Go.RowKit Go.Tum Go.Tum.Y
theorem take_same (c : Cfg) (bb : Int) (p : P.St) (s : W.S) : (P.take c bb p s).1.next = p.next ∧ (P.take c bb p s).1.f = p.f ∧ (P.take c bb p s).1.lim = p.lim := by
  unfold P.take
  split <;> exact ⟨rfl, rfl, rfl⟩
theorem give_same (c : Cfg) (bb : Int) (p : P.St) (s : W.S) : (P.give c bb p s).1.next = p.next ∧ (P.give c bb p s).1.f = p.f ∧ (P.give c bb p s).1.lim = p.lim := by
  unfold P.give
  split <;> exact ⟨rfl, rfl, rfl⟩
/-- Opened, and closed again. -/
theorem sp_with {w0 w : World} {R : List Thing} {c : Cfg} {seq : Int} {b k : Nat} {p p' : P.St} {s s' : W.S} {fn : FuncId} {args : Array Value} (h1 : p'.next = p.next) (h2 : p'.f = p.f) (h3 : p'.lim = p.lim)
    (hc : ∀ (mv v : Value) (RR : List Thing), Sep w0 w (sp c seq b k mv v p s RR) → Calls Try.prog fn args w fun e w' => e = .returned (.tuple #[]) ∧ Sep w0 w' (sp c seq b k mv v p' s' RR))
    (hS : Sep w0 w (setT k s :: poolT c seq b p :: R)) : Calls Try.prog fn args w fun e w' => e = .returned (.tuple #[]) ∧ Sep w0 w' (setT k s' :: poolT c seq b p' :: R) := by
  obtain ⟨mb, la, lc, h4⟩ := poolT_of (hS.pull 1 rfl)
  refine (hc (.map (some mb)) (.slice la p.lim.length lc) (_ :: _ :: R) (h4.pull 3 rfl)).mono ?_
  rintro e w' ⟨he, h5⟩
  refine ⟨he, ?_⟩
  unfold sp at h5
  have h6 : Sep w0 w' (blkT b 162 (P.poolL (mapCells c) seq (.map (some mb)) (.slice la p.lim.length lc) p') :: mapT Try.prog 22 3 .u64 .i64 mb p.next.toNat p'.f :: rowT 0 22 1 (.slice la p.lim.length lc) p.lim.length (p'.lim.map (Value.int .u64)) :: setT k s' :: R) := by
    rw [h2, h3]
    exact (((h5.pull 3 rfl).pull 3 rfl).pull 3 rfl)
  exact (poolT_to (by rw [h1]; exact Nat.le_refl _) (by rw [h3]) h6).pull 1 rfl
theorem ptakeT {w0 w : World} {R : List Thing} (b k : Nat) (c : Cfg) (hok : Y.Ok c) (seq : Int) (p : P.St) (s : W.S) (bb : Int) (hnt : 0 ≤ p.nt ∧ p.nt ≤ c.b) (hd : s.done.length ≤ 900000) (hS : Sep w0 w (setT k s :: poolT c seq b p :: R)) :
    Calls Try.prog 40 #[.pointer (some ⟨b, 0, none⟩), .pointer (some ⟨k, 0, none⟩), .int .i64 bb] w fun e w' => e = .returned (.tuple #[]) ∧ Sep w0 w' (setT k (P.take c bb p s).2 :: poolT c seq b (P.take c bb p s).1 :: R) :=
  sp_with (take_same c bb p s).1 (take_same c bb p s).2.1 (take_same c bb p s).2.2 (fun mv v RR h => ptake_of b k c hok seq mv v p s bb hnt hd h) hS
theorem pgiveT {w0 w : World} {R : List Thing} (b k : Nat) (c : Cfg) (hok : Y.Ok c) (seq : Int) (p : P.St) (s : W.S) (bb : Int) (hnl : 0 ≤ p.nl ∧ p.nl ≤ limit c) (hd : s.done.length ≤ 900000) (hS : Sep w0 w (setT k s :: poolT c seq b p :: R)) :
    Calls Try.prog 41 #[.pointer (some ⟨b, 0, none⟩), .pointer (some ⟨k, 0, none⟩), .int .i64 bb] w fun e w' => e = .returned (.tuple #[]) ∧ Sep w0 w' (setT k (P.give c bb p s).2 :: poolT c seq b (P.give c bb p s).1 :: R) :=
  sp_with (give_same c bb p s).1 (give_same c bb p s).2.1 (give_same c bb p s).2.2 (fun mv v RR h => pgive_of b k c hok seq mv v p s bb hnl hd h) hS
theorem pendT {w0 w : World} {R : List Thing} (b k : Nat) (c : Cfg) (hok : Y.Ok c) (seq : Int) (p : P.St) (s : W.S) (hnt : 0 ≤ p.nt ∧ p.nt ≤ c.b) (hnl : 0 ≤ p.nl ∧ p.nl ≤ limit c) (hd : s.done.length ≤ 900000) (hS : Sep w0 w (setT k s :: poolT c seq b p :: R)) :
    Calls Try.prog 45 #[.pointer (some ⟨b, 0, none⟩), .pointer (some ⟨k, 0, none⟩)] w fun e w' => e = .returned (.tuple #[]) ∧ Sep w0 w' (setT k (P.end_ c p s) :: poolT c seq b p :: R) :=
  sp_with rfl rfl rfl (fun mv v RR h => pend_of b k c hok seq mv v p s hnt hnl hd h) hS
end Go.Proofs.Ytccioehckfdjdaa
