/- A thread that does a transaction, as one thing: Ask, Tell, Done, New. -/
import Derived.Test.YtccioehckfdjdaaHown
import Derived.Test.YtccioehckfdjdaaHinv
set_option linter.unusedSimpArgs false
set_option linter.unusedVariables false
namespace Go.Proofs.Ytccioehckfdjdaa
open Go.RowKit Go.Tum Go.Tum.Y Go.Tum.Sc
theorem htell_any {w0 w : World} {R : List Thing} (b : Nat) (c : Cfg) (hok : Ok c) (who owner seq : Int) (h : H.H) (x s : Int) (ok : Bool) (hx : 0 ≤ x ∧ x ≤ 18446744073709551615) (hs : 0 ≤ s) (hg : H.Good c h) (hr : 0 ≤ h.next ∧ h.next ≤ 8) (hS : Sep w0 w (helpT c who owner seq b h :: R)) :
    Calls Try.prog 67 #[.pointer (some ⟨b, 0, none⟩), .agg #[.int .u64 x, .int .u64 s, .bool ok]] w fun e w' => e = .returned (.tuple #[]) ∧ Sep w0 w' (helpT c who owner seq b (H.tell c seq x s h) :: R) := by
  obtain ⟨L, n, k, held, cv, cc, nx⟩ := h
  obtain ⟨kn, hk⟩ : ∃ kn : Nat, k = (kn : Int) := ⟨k.toNat, by have := hg.2.2.2.2.1; dsimp only at this; omega⟩
  subst hk
  dsimp only at hr
  rcases (show nx = 0 ∨ nx = 1 ∨ nx = 2 ∨ nx = 3 ∨ nx = 4 ∨ nx = 5 ∨ nx = 6 ∨ nx = 7 ∨ nx = 8 by omega) with e | e | e | e | e | e | e | e | e
  · exact htell_0 b c hok who owner seq L n kn held cv cc nx x s ok hx hs hg e hS
  · exact htell_1 b c hok who owner seq L n kn held cv cc nx x s ok hx hs hg e hS
  · exact htell_2 b c hok who owner seq L n kn held cv cc nx x s ok hx hs hg e hS
  · exact htell_3 b c hok who owner seq L n kn held cv cc nx x s ok hx hs hg e hS
  · exact htell_4 b c hok who owner seq L n kn held cv cc nx x s ok hx hs hg e hS
  · exact htell_5 b c hok who owner seq L n kn held cv cc nx x s ok hx hs hg e hS
  · exact htell_6 b c hok who owner seq L n kn held cv cc nx x s ok hx hs hg e hS
  · exact htell_7 b c hok who owner seq L n kn held cv cc nx x s ok hx hs hg e hS
  · exact htell_8 b c hok who owner seq L n kn held cv cc nx x s ok hx hs hg e hS
theorem hask_of {w0 w : World} {R : List Thing} (b : Nat) (c : Cfg) (hok : Ok c) (who owner seq : Int) (h : H.H) (hg : H.Good c h) (hS : Sep w0 w (helpT c who owner seq b h :: R)) :
    Calls Try.prog 65 #[.pointer (some ⟨b, 0, none⟩)] w fun e w' => e = .returned (.tuple #[.agg (enP (H.ask c who owner seq h).1).toArray, .bool (H.ask c who owner seq h).2]) ∧ Fr [] w w' := by
  obtain ⟨la, lc, h2⟩ := helpT_of hS
  exact hask_any w c hok b who owner seq _ h (h2.blk 0 rfl) (h2.row 1 rfl) hg
theorem hdone_of {w0 w : World} {R : List Thing} (b : Nat) (c : Cfg) (who owner seq : Int) (h : H.H) (hS : Sep w0 w (helpT c who owner seq b h :: R)) :
    Calls Try.prog 66 #[.pointer (some ⟨b, 0, none⟩)] w fun e w' => e = .returned (.bool (decide (h.next = 8))) ∧ Fr [] w w' := by
  obtain ⟨la, lc, h2⟩ := helpT_of hS
  exact hdone_any w b (mapCells c) rfl who owner seq _ h (h2.blk 0 rfl)
/-- A thread that does somebody's transaction, from the beginning. -/
def H.hNew : H.H := ⟨[], 0, 0, -1, 0, 0, 0⟩
theorem H.inv_new (c : Cfg) : H.Inv c H.hNew := ⟨⟨by decide, by decide, by decide, by decide, by decide, by decide⟩, by decide, fun h => absurd h (by decide), fun _ => rfl⟩
theorem hnew_of (w : World) (c : Cfg) (who owner seq : Int) :
    Calls Try.prog 60 #[mapV c, .int .i64 who, .int .i64 owner, .int .u64 seq] w fun e w' => ∃ b, e = .returned (.pointer (some ⟨b, 0, none⟩)) ∧ Sep w w' [helpT c who owner seq b H.hNew] := by
  refine (hnew_any w (mapCells c) rfl (by simp [mapCells, Value.oneCell']) who owner seq).mono ?_
  rintro e w' ⟨b, rfl, hS⟩
  exact ⟨b, rfl, helpT_to rfl hS⟩
/-- One's own, from the beginning. -/
def H.hOwn (c : Cfg) (L : List (Int × Int)) : H.H := H.entry c ⟨L, 0, 0, -1, 0, 0, 0⟩ 0
theorem H.inv_own (c : Cfg) (L : List (Int × Int)) (hl : L.length ≤ 100000) : H.Inv c (H.hOwn c L) :=
  H.entry_inv ⟨Int.le_refl 0, by simp, by simp, hl, Int.le_refl 0, by simp⟩ 0 (Nat.zero_le _)
end Go.Proofs.Ytccioehckfdjdaa
