/- What a thread wrote into its log another one does: the memory behind the scribe's steps; plain. -/
import Derived.Test.YtccioehckfdjdaaHright
import Derived.Test.YtccioehckfdjdaaScask
import Derived.Test.YtccioehckfdjdaaScnew
set_option linter.unusedSimpArgs false
set_option linter.unusedVariables false
namespace Go.Tum.Sc
open Go.Tum Go.Tum.Y
/-- The step that writes an entry of the log. -/
def logOp (c : Cfg) (who : Int) (K : List (Int × Int)) (i : Nat) : P6 := ⟨1, at_ c 6 who i, 0, 0, (K.getD i (0, 0)).2, IntKind.u64.wrap (K.getD i (0, 0)).1⟩
def lenOp (c : Cfg) (who : Int) (k : Nat) : P6 := ⟨1, at_ c 5 who 0, 0, 0, k, 0⟩
def openOp (c : Cfg) (who seq : Int) : P6 := ⟨1, at_ c 4 who 0, 0, 0, 1, seq⟩
def opAt (c : Cfg) (who seq : Int) (K : List (Int × Int)) (k d : Nat) : P6 := if d < k then logOp c who K d else if d = k then lenOp c who k else openOp c who seq
end Go.Tum.Sc
namespace Go.Proofs.Ytccioehckfdjdaa
open Go.RowKit Go.Tum Go.Tum.Y Go.Tum.Sc
theorem scask_any (w : World) (c : Cfg) (h : Ok c) (b : Nat) (who seq : Int) (la : Option Addr) (n lc d : Nat) (K : List (Int × Int)) (hB : Blk w b 205 (scL (mapCells c) who seq (.slice la n lc) d)) (hr : w.ownsRow 0 136 2 (.slice la n lc) n (flat enE K)) (hK : K.length = n) (hn : n ≤ 100000) (hd : d ≤ 100000) :
    Calls Try.prog 85 #[.pointer (some ⟨b, 0, none⟩)] w fun e w' => e = .returned (.tuple #[.agg (enP (if d ≤ n + 1 then Sc.opAt c who seq K n d else p0)).toArray, .bool (decide (d ≤ n + 1))]) ∧ Fr [] w w' := by
  by_cases h1 : d ≤ n + 1
  · rw [if_pos h1, decide_eq_true h1]
    have hdn : decide (d > n + 1) = false := by simp; omega
    unfold Sc.opAt
    by_cases h2 : d < n
    · rw [if_pos h2]
      obtain ⟨g, rfl⟩ : ∃ g, la = some ⟨g, 0, none⟩ := by
        rcases ownsRow_form hr with ⟨_, e⟩ | ⟨g, cap, e, _⟩
        · omega
        · simp only [Value.slice.injEq] at e; exact ⟨g, e.1⟩
      have hgd : K.getD d (0, 0) = K[d]'(by omega) := by simp [List.getD_eq_getElem?_getD, List.getElem?_eq_getElem (show d < K.length by omega)]
      unfold logOp; rw [hgd]
      exact ask_log w c h b who seq g n lc d K hB hr hK hn hd hdn h2
    · rw [if_neg h2]
      by_cases h3 : d = n
      · rw [if_pos h3]; exact ask_len w c h b who seq la n lc d hB hn hd hdn h3
      · rw [if_neg h3]; exact ask_open w c h b who seq la n lc d hB hn hd hdn h2 h3
  · rw [if_neg h1, decide_eq_false h1]
    exact ask_done w c h b who seq la n lc d hB hn hd (by simp; omega)
end Go.Proofs.Ytccioehckfdjdaa
namespace Go.Tum.H
open Go.Tum.Y Go.Tum.Sc Go.Tum.C Go.Proofs.Ytccioehckfdjdaa
def scM (c : Cfg) (who seq : Int) (L : List (Int × Int)) : Nat → M
  | 0 => bootM c
  | d + 1 => (scM c who seq L d).step who (op6 (Sc.opAt c who seq L L.length d))
section
variable {c : Cfg} {who seq : Int} {L : List (Int × Int)}
theorem scM_len (c : Cfg) (who seq : Int) (L : List (Int × Int)) : ∀ d, (scM c who seq L d).cells.length = (size c).toNat
  | 0 => boot_len c
  | d + 1 => by unfold scM; rw [step_cells]; exact scM_len c who seq L d
theorem opAt_place (hok : Ok c) (hw : 0 ≤ who ∧ who < c.t) (hl : (L.length : Int) ≤ cap c) (d : Nat) : (Sc.opAt c who seq L L.length d).k = 1 ∧ 0 ≤ (Sc.opAt c who seq L L.length d).a ∧ (Sc.opAt c who seq L L.length d).a < size c := by
  unfold Sc.opAt
  split
  · rename_i h
    have i := is_log hok hw (show 0 ≤ (d : Int) ∧ (d : Int) < cap c by omega)
    unfold logOp
    rw [at_is i]
    exact ⟨rfl, (wh_place hok i).2⟩
  · split
    · have i := (is_own hok hw).2.2
      unfold lenOp
      rw [at_is i]
      exact ⟨rfl, (wh_place hok i).2⟩
    · have i := (is_own hok hw).2.1
      unfold openOp
      rw [at_is i]
      exact ⟨rfl, (wh_place hok i).2⟩
theorem scM_err (hok : Ok c) (hw : 0 ≤ who ∧ who < c.t) (hl : (L.length : Int) ≤ cap c) (d : Nat) : err (scM c who seq L d).cells.length who (op6 (Sc.opAt c who seq L L.length d)) = 0 := by
  have h8 := hok.t8
  have h := opAt_place (seq := seq) hok hw hl d
  have e := scM_len c who seq L d
  exact err_no (by omega) (by unfold op6; dsimp only; omega) (by unfold op6; dsimp only; omega)
theorem scM_trace (hok : Ok c) (hw : 0 ≤ who ∧ who < c.t) (hl : (L.length : Int) ≤ cap c) : ∀ d, (scM c who seq L d).trace.length = d
  | 0 => rfl
  | d + 1 => by unfold scM; rw [step_trace1 (scM_err hok hw hl d), scM_trace hok hw hl d]
theorem scM_rd (hok : Ok c) (hw : 0 ≤ who ∧ who < c.t) (hl : (L.length : Int) ≤ cap c) (d : Nat) {b : Int} (hb : 0 ≤ b) : rd (scM c who seq L (d + 1)) b = if b = (Sc.opAt c who seq L L.length d).a then ((Sc.opAt c who seq L L.length d).nv, (Sc.opAt c who seq L L.length d).ns) else rd (scM c who seq L d) b := by
  show rd ((scM c who seq L d).step who (op6 (Sc.opAt c who seq L L.length d))) b = _
  rw [rd_step (scM_err hok hw hl d) hb]
  have h := (opAt_place (seq := seq) hok hw hl d).1
  have hb2 : becomes (rd (scM c who seq L d) b) (op6 (Sc.opAt c who seq L L.length d)) = ((Sc.opAt c who seq L L.length d).nv, (Sc.opAt c who seq L L.length d).ns) := by
    unfold becomes
    rw [if_pos (.inl h)]
    rfl
  rw [hb2]
  rfl
theorem scM_log (hok : Ok c) (hw : 0 ≤ who ∧ who < c.t) (hl : (L.length : Int) ≤ cap c) : ∀ d, d ≤ L.length → ∀ b, 0 ≤ b → rd (scM c who seq L d) b = rd (logM c who L d) b
  | 0, _, b, _ => rfl
  | d + 1, hd, b, hb => by
    have i := is_log hok hw (show 0 ≤ (d : Int) ∧ (d : Int) < cap c by omega)
    rw [scM_rd hok hw hl d hb, scM_log hok hw hl d (by omega) b hb]
    have e : Sc.opAt c who seq L L.length d = logOp c who L d := by unfold Sc.opAt; rw [if_pos (by omega)]
    rw [e]
    show _ = rd (M.put (logM c who L d) (at_ c 6 who d) ((L.getD d (0, 0)).2, IntKind.u64.wrap (L.getD d (0, 0)).1)) b
    unfold logOp
    have hp := (wh_place hok i).2
    rw [at_is i, rd_put (by rw [logM_len]; omega) hb]
theorem scM_laid (hok : Ok c) (hw : 0 ≤ who ∧ who < c.t) (hl : (L.length : Int) ≤ cap c) (b : Int) (hb : 0 ≤ b) : rd (scM c who seq L (L.length + 2)) b = rd (laidM c who seq L) b := by
  have i4 := (is_own hok hw).2.1
  have i5 := (is_own hok hw).2.2
  rw [laid_rd hok hw b hb, scM_rd hok hw hl (L.length + 1) hb, scM_rd hok hw hl L.length hb, scM_log hok hw hl L.length (Nat.le_refl _) b hb]
  have e1 : Sc.opAt c who seq L L.length (L.length + 1) = openOp c who seq := by unfold Sc.opAt; rw [if_neg (by omega), if_neg (by omega)]
  have e2 : Sc.opAt c who seq L L.length L.length = lenOp c who L.length := by unfold Sc.opAt; rw [if_neg (by omega), if_pos rfl]
  rw [e1, e2]
  unfold openOp lenOp
  rw [at_is i4, at_is i5]
end
end Go.Tum.H
