/- A reading, and the document's: plain. -/
import Derived.Test.YtccioehckfdjdaaVref
import Derived.Test.YtccioehckfdjdaaVrun
import Derived.Test.YtccioehckfdjdaaKind
set_option linter.unusedSimpArgs false
set_option linter.unusedVariables false
namespace Go.Tum.Vw
open Go.Tum.Y
theorem inner_eq {c : Cfg} (h : Ok c) (p : Int) : inner c p = decide (fTag c ≤ p ∧ p < fWord c) := by
  unfold inner
  have h1 := kind_tag h p
  have h2 := kind_word h p
  have h3 : (whA c p).1 ≤ 16 := (Go.Proofs.Ytccioehckfdjdaa.whA_bd h p).2
  obtain ⟨r0, r1, r2, r3, r4, r5, r6, r7, r8, r9, r10, r11, r12⟩ := row h
  congr 1
  apply propext
  omega
theorem at_neg {c : Cfg} (h : Ok c) (kd i k : Int) : Y.at_ c kd i k < 0 ↔ Y.at_ c kd i k = -1 := by
  unfold Y.at_
  split
  · rename_i hi
    have := (wh_place h hi).2
    omega
  · omega
theorem at_life {c : Cfg} (h : Ok c) (b : Int) : Y.at_ c 11 b 0 ≠ -1 ↔ 0 ≤ b ∧ b < c.b := by
  constructor
  · intro hn
    unfold Y.at_ at hn
    split at hn
    · rename_i hi
      obtain ⟨h0, h1, _, _⟩ := hi
      exact ⟨h0, by simpa [cnt] using h1⟩
    · exact absurd rfl hn
  · intro ⟨h0, h1⟩
    rw [Go.Proofs.Ytccioehckfdjdaa.at_is (Go.Proofs.Ytccioehckfdjdaa.is_life h0 h1)]
    exact Go.Proofs.Ytccioehckfdjdaa.place_ne h (Go.Proofs.Ytccioehckfdjdaa.is_life h0 h1)
theorem at_word {c : Cfg} (h : Ok c) (b k : Int) (hn : Y.at_ c 16 b k ≠ -1) : 0 ≤ b ∧ b < c.b := by
  unfold Y.at_ at hn
  split at hn
  · rename_i hi
    obtain ⟨h0, h1, _, _⟩ := hi
    exact ⟨h0, by simpa [cnt] using h1⟩
  · exact absurd rfl hn
/-- The state behind replies. -/
def run (seq : Int) (v : V) (l : List O3) : V := l.foldl (fun v o => tell seq o.v o.s v) v
/-- Each of them was asked for. -/
def On (seq : Int) : V → List O3 → Prop
  | _, [] => True
  | v, o :: r => v.step ≠ 0 ∧ On seq (tell seq o.v o.s v) r
theorem On.snoc {seq : Int} : ∀ {v : V} {l : List O3} {o : O3}, On seq v l → (run seq v l).step ≠ 0 → On seq v (l ++ [o])
  | v, [], o, _, h => ⟨h, trivial⟩
  | v, a :: r, o, hl, h => ⟨hl.1, On.snoc hl.2 h⟩
theorem run_snoc (seq : Int) (v : V) (l : List O3) (o : O3) : run seq v (l ++ [o]) = tell seq o.v o.s (run seq v l) := by simp [run]
/-- The document's reading says what the view says. -/
structure Ans (c : Cfg) (who : Int) (v : V) (r : Rd) : Prop where
  need : r.t.need = (Vw.ask c who v).2
  ask : r.t.ask = (Vw.ask c who v).1
  s : r.s = v.s
  off : (Vw.ask c who v).2 = false → r.val = v.val ∧ r.x.held = v.held ∧ r.x.stale = decide (v.s = 2)
/-- Between readings. -/
structure Rest (x : X) (v : V) : Prop where
  st : v.step = 0
  held : x.held = v.held
  stale : x.stale = decide (v.s = 2)
  z : v.s = 2 → v.val = 0
def t0 : Tp := ⟨0, p0, false⟩
theorem rload_need (seq : Int) (l : List O3) (x : X) (p : Int) : rload seq l x ⟨l.length, p0, false⟩ p = ⟨x, ⟨l.length, loadOp p, true⟩, 0, 0⟩ := by
  simp [rload, Tp.step]
theorem rload_got (seq : Int) (pre r : List O3) (o : O3) (x : X) (p : Int) :
    rload seq (pre ++ o :: r) x ⟨pre.length, p0, false⟩ p = if seq < o.s then ⟨{ x with stale := true }, ⟨pre.length + 1, p0, false⟩, 0, 2⟩ else ⟨x, ⟨pre.length + 1, p0, false⟩, o.v, 1⟩ := by
  have h1 : ¬ ((pre ++ o :: r).length ≤ pre.length) := by simp
  unfold rload Tp.step Tp.out
  simp only [if_neg h1]
  simp
theorem ans_load {c : Cfg} {who seq : Int} {v : V} {x : X} (hs : v.step = 3) (h0 : v.s = 0) (hz : v.val = 0) (hh : x.held = v.held) (hx : x.stale = false) (pre L : List O3) (hL : On seq v L) :
    Ans c who (run seq v L) (rload seq (pre ++ L) x ⟨pre.length, p0, false⟩ v.at_) := by
  obtain ⟨held, step, block, a, val, s⟩ := v
  dsimp only at *
  subst hs; subst h0; subst hz
  match L, hL with
  | [], _ =>
    rw [List.append_nil, rload_need]
    refine ⟨?_, ?_, ?_, ?_⟩ <;> simp [run, Vw.ask, loadOp]
  | [o], _ =>
    rw [rload_got]
    by_cases h : seq < o.s
    · rw [if_pos h]
      refine ⟨?_, ?_, ?_, ?_⟩ <;> simp [run, Vw.ask, tell, loaded, h, hh]
    · rw [if_neg h]
      refine ⟨?_, ?_, ?_, ?_⟩ <;> simp [run, Vw.ask, tell, loaded, h, hh, hx]
  | o :: o2 :: r, hL =>
    exfalso
    have h2 := hL.2.1
    revert h2
    by_cases h : seq < o.s <;> simp [tell, loaded, h]
/-- Behind asking whether the block lives: the word, if one is to be read. -/
def rthen (seq : Int) (l : List O3) (a : Int) (r : Rd) : Rd := if r.s ≠ 1 then ⟨r.x, r.t, 0, r.s⟩ else if a = -1 then r else rload seq l r.x r.t a
theorem on_off {seq : Int} {v : V} (h : v.step = 0) {L : List O3} (hL : On seq v L) : L = [] := by
  match L, hL with
  | [], _ => rfl
  | o :: r, hL => exact absurd h hL.1
theorem ans_lives {c : Cfg} {who seq : Int} {v : V} {x : X} {r : Rd} (h0 : v.s = 0) (hz : v.val = 0) (hx : x.stale = false) (hb : v.block = x.held) (pre L : List O3) (hr : r = ⟨x, ⟨pre.length, p0, false⟩, 0, 1⟩)
    (hL : On seq (lives v) L) : Ans c who (run seq (lives v) L) (rthen seq (pre ++ L) v.at_ r) := by
  subst hr
  obtain ⟨held, step, block, a, val, s⟩ := v
  dsimp only at *
  subst h0; subst hz
  unfold lives rthen at *
  dsimp only at *
  rw [if_neg (show ¬ ((1 : Int) ≠ 1) by decide)]
  by_cases ha : a = -1
  · rw [if_pos ha] at *
    rw [if_pos ha]
    obtain rfl := on_off rfl hL
    refine ⟨?_, ?_, ?_, ?_⟩ <;> simp [run, Vw.ask, hb, hx]
  · rw [if_neg ha] at hL ⊢
    rw [if_neg ha]
    exact ans_load (v := ⟨block, 3, block, a, 0, 0⟩) rfl rfl rfl hb.symm hx pre L hL
theorem ans_touch {c : Cfg} {who seq : Int} {v : V} {x : X} (h0 : v.s = 0) (hz : v.val = 0) (hh : x.held = v.held) (hx : x.stale = false) (B a : Int) (hB : 0 ≤ B ∧ B < c.b) (L : List O3) (hL : On seq (touch B a v) L) :
    Ans c who (run seq (touch B a v) L) (rthen seq L a (rlive c who seq L x t0 B)) := by
  obtain ⟨held, step, block, a', val, s⟩ := v
  obtain ⟨xh, xs⟩ := x
  dsimp only at *
  subst h0; subst hz; subst hx; subst hh
  unfold touch at *
  dsimp only at *
  by_cases h1 : xh = B
  · rw [if_pos h1] at *
    have := ans_lives (c := c) (who := who) (seq := seq) (v := ⟨xh, 1, B, a, 0, 0⟩) (x := ⟨xh, false⟩) (r := rlive c who seq L ⟨xh, false⟩ t0 B) rfl rfl rfl h1.symm [] L (by
      unfold rlive; rw [if_neg (by simp), if_neg (by omega), if_pos h1]; rfl) hL
    simpa using this
  · rw [if_neg h1] at *
    match L, hL with
    | [], _ =>
      refine ⟨?_, ?_, ?_, ?_⟩ <;> simp [run, Vw.ask, rthen, rlive, t0, Tp.step, h1, show ¬ (B < 0 ∨ c.b ≤ B) by omega]
    | [o], _ =>
      refine ⟨?_, ?_, ?_, ?_⟩ <;> simp [run, Vw.ask, tell, rthen, rlive, rload, t0, Tp.step, h1, show ¬ (B < 0 ∨ c.b ≤ B) by omega, loadOp]
    | o :: o2 :: r, hL =>
      have hL2 := hL.2.2
      have e : rlive c who seq (o :: o2 :: r) ⟨xh, false⟩ t0 B = if seq < o2.s then ⟨⟨-1, true⟩, ⟨2, p0, false⟩, 0, 2⟩ else if o2.v ≠ 1 then ⟨⟨-1, false⟩, ⟨2, p0, false⟩, 0, 3⟩ else ⟨⟨B, false⟩, ⟨2, p0, false⟩, 0, 1⟩ := by
        unfold rlive
        rw [if_neg (by simp), if_neg (by omega), if_neg h1]
        by_cases h2 : seq < o2.s <;> by_cases h3 : o2.v = 1 <;> simp [rload, t0, Tp.step, Tp.out, h2, h3]
      rw [e]
      by_cases h2 : seq < o2.s
      · rw [if_pos h2]
        have e2 : tell seq o2.v o2.s (tell seq o.v o.s ⟨xh, 1, B, a, 0, 0⟩) = ⟨-1, 0, B, a, 0, 2⟩ := by simp [tell, loaded, h2]
        rw [e2] at hL2
        obtain rfl := on_off rfl hL2
        rw [show run seq ⟨xh, 1, B, a, 0, 0⟩ [o, o2] = ⟨-1, 0, B, a, 0, 2⟩ from e2]
        refine ⟨?_, ?_, ?_, ?_⟩ <;> simp [Vw.ask, rthen]
      · rw [if_neg h2]
        by_cases h3 : o2.v = 1
        · rw [if_neg (by simp [h3])]
          have e2 : tell seq o2.v o2.s (tell seq o.v o.s ⟨xh, 1, B, a, 0, 0⟩) = lives ⟨-1, 0, B, a, 0, 0⟩ := by simp [tell, loaded, h2, h3]
          rw [e2] at hL2
          have e3 : run seq ⟨xh, 1, B, a, 0, 0⟩ (o :: o2 :: r) = run seq (lives ⟨-1, 0, B, a, 0, 0⟩) r := by
            show run seq (tell seq o2.v o2.s (tell seq o.v o.s ⟨xh, 1, B, a, 0, 0⟩)) r = _
            rw [e2]
          rw [e3]
          exact ans_lives (c := c) (who := who) (seq := seq) (v := ⟨-1, 0, B, a, 0, 0⟩) (x := ⟨B, false⟩) rfl rfl rfl rfl [o, o2] r rfl hL2
        · rw [if_pos h3]
          have e2 : tell seq o2.v o2.s (tell seq o.v o.s ⟨xh, 1, B, a, 0, 0⟩) = ⟨-1, 0, B, a, 0, 3⟩ := by simp [tell, loaded, h2, h3]
          rw [e2] at hL2
          obtain rfl := on_off rfl hL2
          rw [show run seq ⟨xh, 1, B, a, 0, 0⟩ [o, o2] = ⟨-1, 0, B, a, 0, 3⟩ from e2]
          refine ⟨?_, ?_, ?_, ?_⟩ <;> simp [Vw.ask, rthen]
/-- The document's reading, whichever is asked for. -/
def rdoes (c : Cfg) (who seq : Int) (l : List O3) (x : X) (t : Tp) (K A B : Int) : Rd :=
  if K = 0 then rcell c seq l x t A else if K = 1 then rword c who seq l x t B A else if K = 2 then rlive c who seq l x t B else rcell c seq l x t (Y.at_ c 10 (bits .and .i64 A 15) 0)
theorem rlive_val (c : Cfg) (who seq : Int) (l : List O3) (x : X) (t : Tp) (b : Int) : (rlive c who seq l x t b).val = 0 := by
  unfold rlive
  dsimp only
  repeat (first | rfl | (split <;> first | rfl | skip))
theorem ans_still {c : Cfg} {who seq : Int} {x : X} {v : V} (hr : Rest x v) {L : List O3} (hL : On seq v L) (r : Rd) (he : r = ⟨x, t0, v.val, v.s⟩) : Ans c who (run seq v L) r := by
  obtain rfl := on_off hr.st hL
  subst he
  have h0 := hr.st
  refine ⟨?_, ?_, rfl, fun _ => ⟨rfl, hr.held, hr.stale⟩⟩ <;> simp [run, Vw.ask, h0, t0]
theorem ans_cell {c : Cfg} (hok : Ok c) {who seq : Int} {x : X} {v : V} (hr : Rest x v) (p : Int) {L : List O3} (hL : On seq (cell c p v) L) : Ans c who (run seq (cell c p v) L) (rcell c seq L x t0 p) := by
  unfold cell at hL ⊢
  unfold rcell
  by_cases h2 : v.s = 2
  · have e : ∀ g, bgn g v = (v, false) := fun g => by unfold bgn; rw [if_pos h2]
    simp only [e, Bool.false_eq_true, if_false] at hL ⊢
    have hx : x.stale = true := by rw [hr.stale]; simpa using h2
    rw [if_pos hx]
    exact ans_still hr hL _ (by rw [hr.z h2, h2])
  · have e : ∀ g, bgn g v = ({ v with val := 0, step := 0, s := if g then 0 else 3 }, g) := fun g => by unfold bgn; rw [if_neg h2]
    have hx : x.stale = false := by rw [hr.stale]; simpa using h2
    rw [if_neg (show ¬ x.stale = true by simp [hx])]
    simp only [e, inner_eq hok] at hL ⊢
    by_cases hp : fTag c ≤ p ∧ p < fWord c
    · rw [if_neg (show ¬ (p < fTag c ∨ fWord c ≤ p) by omega)]
      simp only [decide_eq_true hp, if_true] at hL ⊢
      exact ans_load (v := { v with val := 0, step := 3, s := 0, at_ := p }) rfl rfl rfl hr.held hx [] L hL
    · rw [if_pos (show p < fTag c ∨ fWord c ≤ p by omega)]
      simp only [decide_eq_false hp, Bool.false_eq_true, if_false] at hL ⊢
      exact ans_still (x := x) (v := { v with val := 0, step := 0, s := 3 }) ⟨rfl, hr.held, by rw [hx]; rfl, by simp⟩ hL _ rfl
theorem ans_word {c : Cfg} (hok : Ok c) {who seq : Int} {x : X} {v : V} (hr : Rest x v) (B k : Int) {L : List O3} (hL : On seq (word c B k v) L) : Ans c who (run seq (word c B k v) L) (rword c who seq L x t0 B k) := by
  unfold word at hL ⊢
  unfold rword
  by_cases h2 : v.s = 2
  · have e : ∀ g, bgn g v = (v, false) := fun g => by unfold bgn; rw [if_pos h2]
    simp only [e, Bool.false_eq_true, if_false] at hL ⊢
    have hx : x.stale = true := by rw [hr.stale]; simpa using h2
    rw [if_pos hx]
    exact ans_still hr hL _ (by rw [hr.z h2, h2])
  · have e : ∀ g, bgn g v = ({ v with val := 0, step := 0, s := if g then 0 else 3 }, g) := fun g => by unfold bgn; rw [if_neg h2]
    have hx : x.stale = false := by rw [hr.stale]; simpa using h2
    rw [if_neg (show ¬ x.stale = true by simp [hx])]
    simp only [e] at hL ⊢
    by_cases hp : Y.at_ c 16 B k = -1
    · rw [if_pos (show Y.at_ c 16 B k < 0 by omega)]
      simp only [show decide (Y.at_ c 16 B k ≠ -1) = false from decide_eq_false (by simpa using hp), Bool.false_eq_true, if_false] at hL ⊢
      exact ans_still (x := x) (v := { v with val := 0, step := 0, s := 3 }) ⟨rfl, hr.held, by rw [hx]; rfl, by simp⟩ hL _ rfl
    · rw [if_neg (show ¬ Y.at_ c 16 B k < 0 by rw [at_neg hok]; exact hp)]
      simp only [show decide (Y.at_ c 16 B k ≠ -1) = true from decide_eq_true hp, if_true] at hL ⊢
      have := ans_touch (v := { v with val := 0, step := 0, s := 0 }) (c := c) (who := who) (seq := seq) rfl rfl hr.held hx B (Y.at_ c 16 B k) (at_word hok B k hp) L hL
      unfold rthen at this
      rw [if_neg hp] at this
      exact this
theorem ans_live {c : Cfg} (hok : Ok c) {who seq : Int} {x : X} {v : V} (hr : Rest x v) (B : Int) {L : List O3} (hL : On seq (live c B v) L) : Ans c who (run seq (live c B v) L) (rlive c who seq L x t0 B) := by
  unfold live at hL ⊢
  by_cases h2 : v.s = 2
  · have e : ∀ g, bgn g v = (v, false) := fun g => by unfold bgn; rw [if_pos h2]
    simp only [e, Bool.false_eq_true, if_false] at hL ⊢
    have hx : x.stale = true := by rw [hr.stale]; simpa using h2
    unfold rlive
    rw [if_pos hx]
    exact ans_still hr hL _ (by rw [hr.z h2, h2])
  · have e : ∀ g, bgn g v = ({ v with val := 0, step := 0, s := if g then 0 else 3 }, g) := fun g => by unfold bgn; rw [if_neg h2]
    have hx : x.stale = false := by rw [hr.stale]; simpa using h2
    simp only [e] at hL ⊢
    by_cases hp : 0 ≤ B ∧ B < c.b
    · simp only [show decide (Y.at_ c 11 B 0 ≠ -1) = true from decide_eq_true ((at_life hok B).2 hp), if_true] at hL ⊢
      have := ans_touch (v := { v with val := 0, step := 0, s := 0 }) (c := c) (who := who) (seq := seq) rfl rfl hr.held hx B (-1) hp L hL
      have e2 : rthen seq L (-1) (rlive c who seq L x t0 B) = rlive c who seq L x t0 B := by
        unfold rthen
        have hv := rlive_val c who seq L x t0 B
        generalize rlive c who seq L x t0 B = q at *
        obtain ⟨q1, q2, q3, q4⟩ := q
        dsimp only at hv
        subst hv
        split
        · rfl
        · rw [if_pos rfl]
      rw [e2] at this
      exact this
    · have hd : decide (Y.at_ c 11 B 0 ≠ -1) = false := decide_eq_false (fun hn => hp ((at_life hok B).1 hn))
      simp only [hd, Bool.false_eq_true, if_false] at hL ⊢
      unfold rlive
      rw [if_neg (show ¬ x.stale = true by simp [hx]), if_pos (show B < 0 ∨ c.b ≤ B by omega)]
      exact ans_still (x := x) (v := { v with val := 0, step := 0, s := 3 }) ⟨rfl, hr.held, by rw [hx]; rfl, by simp⟩ hL _ rfl
theorem ans_beg {c : Cfg} (hok : Ok c) {who seq : Int} {x : X} {v : V} (hr : Rest x v) (K A B : Int) {L : List O3} (hL : On seq (beg c K A B v) L) : Ans c who (run seq (beg c K A B v) L) (rdoes c who seq L x t0 K A B) := by
  unfold beg at hL ⊢
  unfold rdoes
  by_cases h0 : K = 0
  · rw [if_pos h0] at hL ⊢
    rw [if_pos h0]
    exact ans_cell hok hr A hL
  · rw [if_neg h0] at hL ⊢
    rw [if_neg h0]
    by_cases h1 : K = 1
    · rw [if_pos h1] at hL ⊢
      rw [if_pos h1]
      exact ans_word hok hr B A hL
    · rw [if_neg h1] at hL ⊢
      rw [if_neg h1]
      by_cases h2 : K = 2
      · rw [if_pos h2] at hL ⊢
        rw [if_pos h2]
        exact ans_live hok hr B hL
      · rw [if_neg h2] at hL ⊢
        rw [if_neg h2]
        exact ans_cell hok hr _ hL
end Go.Tum.Vw
