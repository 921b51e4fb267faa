/- A reading over cells in which each block lives: plain. -/
import Derived.Test.YtccioehckfdjdaaVlaw
set_option linter.unusedSimpArgs false
set_option linter.unusedVariables false
namespace Go.Tum.Vw
open Go.Tum.Y
/-- So many replies of cells of the value 1, of the transaction itself. -/
def runV (seq : Int) : Nat → V → V
  | 0, v => v
  | n + 1, v => tell seq 1 seq (runV seq n v)
theorem runV_succ (seq : Int) (n : Nat) (v : V) : runV seq (n + 1) v = tell seq 1 seq (runV seq n v) := rfl
/-- What a reading comes to: so many steps, and which block is held. -/
structure Reads (seq : Int) (u : V) (N : Nat) (h : Int) : Prop where
  on : ∀ j, j < N → 1 ≤ (runV seq j u).step ∧ (runV seq j u).step ≤ 3
  off : (runV seq N u).step = 0
  good : (runV seq N u).s = 1
  held : (runV seq N u).held = h
theorem reads_load (seq : Int) (v : V) (h : v.step = 3) : Reads seq v 1 v.held := by
  obtain ⟨a1, a2, a3, a4, a5, a6⟩ := v
  dsimp only at h; subst h
  refine ⟨fun j hj => ?_, ?_, ?_, ?_⟩
  · obtain rfl : j = 0 := by omega
    simp [runV]
  all_goals simp [runV, tell, loaded]
theorem reads_more {seq : Int} {v : V} {N : Nat} {h : Int} (hs : 1 ≤ v.step ∧ v.step ≤ 3) (hr : Reads seq (tell seq 1 seq v) N h) : Reads seq v (N + 1) h := by
  have e : ∀ n, runV seq (n + 1) v = runV seq n (tell seq 1 seq v) := by
    intro n
    induction n with
    | zero => rfl
    | succ n ih => rw [runV_succ, ih, runV_succ]
  refine ⟨fun j hj => ?_, by rw [e]; exact hr.off, by rw [e]; exact hr.good, by rw [e]; exact hr.held⟩
  cases j with
  | zero => exact hs
  | succ j => rw [e]; exact hr.on j (by omega)
theorem reads_none {seq : Int} {v : V} (h0 : v.step = 0) (h1 : v.s = 1) : Reads seq v 0 v.held := ⟨fun j hj => by omega, h0, h1, rfl⟩
theorem reads_touch (seq block a : Int) (v : V) : Reads seq (touch block a v) ((if a = -1 then 0 else 1) + (if v.held = block then 0 else 2)) block := by
  obtain ⟨a1, a2, a3, a4, a5, a6⟩ := v
  have hl : ∀ (x1 x2 x3 x4 x5 : Int), Reads seq (lives ⟨x1, x2, block, a, x4, x5⟩) (if a = -1 then 0 else 1) block := by
    intro x1 x2 x3 x4 x5
    unfold lives
    by_cases h : a = -1
    · rw [if_pos h, if_pos h]
      exact reads_none rfl rfl
    · rw [if_neg h, if_neg h]
      exact reads_load seq _ rfl
  unfold touch
  dsimp only
  by_cases h1 : a1 = block
  · rw [if_pos h1, if_pos h1]
    exact hl _ _ 0 _ _
  · rw [if_neg h1, if_neg h1]
    show Reads seq _ ((if a = -1 then 0 else 1) + 1 + 1) block
    refine reads_more (by simp) ?_
    refine reads_more (by simp [tell]) ?_
    have e : tell seq 1 seq (tell seq 1 seq ⟨a1, 1, block, a, a5, a6⟩) = lives ⟨-1, 0, block, a, a5, a6⟩ := by simp [tell, loaded]
    rw [e]
    exact hl _ _ 0 _ _
theorem bgn_good (ok : Bool) (v : V) (h : v.s = 1) : bgn ok v = ({ v with val := 0, step := 0, s := if ok then 0 else 3 }, ok) := by
  unfold bgn; rw [if_neg (by omega)]
theorem reads_cell {c : Cfg} (seq p : Int) (v : V) (h : v.s = 1) (hi : inner c p = true) : Reads seq (cell c p v) 1 v.held := by
  unfold cell
  rw [bgn_good _ v h, hi]
  exact reads_load seq _ rfl
theorem reads_word {c : Cfg} (seq block x : Int) (v : V) (h : v.s = 1) (ha : Y.at_ c 16 block x ≠ -1) : Reads seq (word c block x v) (1 + (if v.held = block then 0 else 2)) block := by
  unfold word
  rw [bgn_good _ v h, decide_eq_true ha]
  have := reads_touch seq block (Y.at_ c 16 block x) { v with val := 0, step := 0, s := if true = true then 0 else 3 }
  rw [if_neg ha] at this
  exact this
theorem reads_live {c : Cfg} (seq block : Int) (v : V) (h : v.s = 1) (ha : Y.at_ c 11 block 0 ≠ -1) : Reads seq (live c block v) (if v.held = block then 0 else 2) block := by
  unfold live
  rw [bgn_good _ v h, decide_eq_true ha]
  have := reads_touch seq block (-1) { v with val := 0, step := 0, s := if true = true then 0 else 3 }
  rw [show (if (-1 : Int) = -1 then 0 else 1 : Nat) = 0 from rfl, Nat.zero_add] at this
  exact this
end Go.Tum.Vw
namespace Go.Proofs.Ytccioehckfdjdaa
open Go.RowKit Go.Tum Go.Tum.Y Go.Tum.Vw
theorem inner_place {c : Cfg} (h : Ok c) {kd i k : Int} (hi : Is c kd i k) (hk : 7 ≤ kd ∧ kd < 16) : inner c (place c kd i k) = true := by
  unfold inner
  rw [whA_place h hi]
  simpa using hk
theorem at_is {c : Cfg} {kd i k : Int} (hi : Is c kd i k) : Y.at_ c kd i k = place c kd i k := by unfold Y.at_; rw [if_pos hi]
theorem is_life {c : Cfg} {b : Int} (h0 : 0 ≤ b) (h1 : b < c.b) : Is c 11 b 0 := ⟨h0, by simpa [cnt] using h1, by decide, by simp [eachP, each]⟩
theorem is_word {c : Cfg} {b k : Int} (h0 : 0 ≤ b) (h1 : b < c.b) (hk : 0 ≤ k ∧ k < 8) : Is c 16 b k := ⟨h0, by simpa [cnt] using h1, hk.1, by simpa [eachP, each] using hk.2⟩
theorem is_root {c : Cfg} {i : Int} (h0 : 0 ≤ i) (h1 : i < 16) : Is c 10 i 0 := ⟨h0, by simpa [cnt] using h1, by decide, by simp [eachP, each]⟩
theorem place_ne {c : Cfg} (h : Ok c) {kd i k : Int} (hi : Is c kd i k) : place c kd i k ≠ -1 := by have := (wh_place h hi).2; omega
/-- The reading of a request whose numbers are held within bounds. -/
theorem reads_req {c : Cfg} (h : Ok c) (seq K B A : Int) (v : V) (hs : v.s = 1) (hK : K = 0 ∨ K = 1 ∨ K = 2 ∨ K = 3) (hB : 0 ≤ B ∧ B < c.b) (hA : 0 ≤ A ∧ A < 8) :
    Reads seq (beg c K (if K = 0 then Y.at_ c 11 B 0 else A) B v) ((if K = 2 then 0 else 1) + (if (K = 1 ∨ K = 2) ∧ v.held ≠ B then 2 else 0)) (if K = 1 ∨ K = 2 then B else v.held) := by
  rcases hK with rfl | rfl | rfl | rfl
  · have := reads_cell (c := c) seq (Y.at_ c 11 B 0) v hs (by rw [at_is (is_life hB.1 hB.2)]; exact inner_place h (is_life hB.1 hB.2) (by decide))
    simpa [beg] using this
  · have := reads_word (c := c) seq B A v hs (by rw [at_is (is_word hB.1 hB.2 hA)]; exact place_ne h (is_word hB.1 hB.2 hA))
    by_cases e : v.held = B <;> simpa [beg, e] using this
  · have := reads_live (c := c) seq B v hs (by rw [at_is (is_life hB.1 hB.2)]; exact place_ne h (is_life hB.1 hB.2))
    by_cases e : v.held = B <;> simpa [beg, e] using this
  · have hb := and_i64_bd A 15 (by omega) (by omega)
    have := reads_cell (c := c) seq (Y.at_ c 10 (bits .and .i64 A 15) 0) v hs (by rw [at_is (is_root hb.1 (by omega))]; exact inner_place h (is_root hb.1 (by omega)) (by decide))
    simpa [beg] using this
theorem ask_on (c : Cfg) (who : Int) (v : V) (h : 1 ≤ v.step ∧ v.step ≤ 3) : (Vw.ask c who v).2 = true := by
  unfold Vw.ask
  by_cases h1 : v.step = 1
  · rw [if_pos h1]
  · rw [if_neg h1]
    by_cases h2 : v.step = 2
    · rw [if_pos h2]
    · rw [if_neg h2, if_pos (by omega)]
theorem ask_off (c : Cfg) (who : Int) (v : V) (h : v.step = 0) : (Vw.ask c who v).2 = false := by
  unfold Vw.ask; simp [h]
end Go.Proofs.Ytccioehckfdjdaa
