/- The document's thread that does a transaction, plain; and that the program's does the same. -/
import Derived.Test.YtccioehckfdjdaaHinv
set_option linter.unusedSimpArgs false
set_option linter.unusedVariables false
namespace Go.Tum.H
open Go.Tum.Y Go.Tum.Sc
def ldOp (p : Int) : P6 := ⟨0, p, 0, 0, 0, 0⟩
def blockOf (c : Cfg) (a : Int) : Int := if a < fWord c then -1 else (a - fWord c) / 8
def isOpen (seq : Int) (o : O3) : Bool := decide (o.v = 1 ∧ o.s = seq)
/-- An entry is done: the cell is read, and swapped if it is elder. -/
def turn1 (seq : Int) (l : List O3) (e : Int × Int) (t : Tp) : Tp :=
  if (t.out l).s < seq then (t.step l.length (ldOp e.1)).step l.length ⟨2, e.1, (t.out l).v, (t.out l).s, e.2, seq⟩ else t.step l.length (ldOp e.1)
/-- A block is named, and the transaction looked for. -/
def name1 (c : Cfg) (who owner : Int) (l : List O3) (b : Int) (t : Tp) : Tp := (t.step l.length ⟨1, at_ c 3 who 0, 0, 0, nameOf b, 0⟩).step l.length (ldOp (at_ c 4 owner 0))
def nameIs (c : Cfg) (who seq : Int) (l : List O3) (b : Int) (t : Tp) : Bool := isOpen seq ((t.step l.length ⟨1, at_ c 3 who 0, 0, 0, nameOf b, 0⟩).out l)
def applyG (c : Cfg) (who owner seq : Int) (l : List O3) : List (Int × Int) → Int → Tp → Tp
  | [], _, t => t.step l.length ⟨2, at_ c 4 owner 0, 1, seq, 0, seq⟩
  | e :: r, held, t =>
    if e.1 < fTag c ∨ size c ≤ e.1 then applyG c who owner seq l r held t
    else if 0 ≤ blockOf c e.1 ∧ blockOf c e.1 ≠ held then
      (if (name1 c who owner l (blockOf c e.1) t).need = true ∨ nameIs c who seq l (blockOf c e.1) t = false then name1 c who owner l (blockOf c e.1) t
       else if (turn1 seq l e (name1 c who owner l (blockOf c e.1) t)).need then turn1 seq l e (name1 c who owner l (blockOf c e.1) t)
       else applyG c who owner seq l r (blockOf c e.1) (turn1 seq l e (name1 c who owner l (blockOf c e.1) t)))
    else if (turn1 seq l e t).need then turn1 seq l e t else applyG c who owner seq l r held (turn1 seq l e t)
def copyG (c : Cfg) (owner : Int) (l : List O3) (n : Int) : Nat → Nat → Tp → List (Int × Int) → Tp × List (Int × Int)
  | 0, _, t, acc => (t, acc)
  | g + 1, k, t, acc => if (k : Int) < n ∧ t.need = false then copyG c owner l n g (k + 1) (t.step l.length (ldOp (at_ c 6 owner k))) (acc ++ [(placeOf (t.out l).s, (t.out l).v)]) else (t, acc)
/-- Behind the log: is it being done? Then all is done. -/
def restG (c : Cfg) (who owner seq : Int) (l : List O3) (p : Tp × List (Int × Int)) : Tp :=
  if (p.1.step l.length (ldOp (at_ c 4 owner 0))).need = true ∨ isOpen seq (p.1.out l) = false then p.1.step l.length (ldOp (at_ c 4 owner 0)) else applyG c who owner seq l p.2 (-1) (p.1.step l.length (ldOp (at_ c 4 owner 0)))
def helpG (c : Cfg) (who owner seq : Int) (l : List O3) (t : Tp) : Tp :=
  restG c who owner seq l (copyG c owner l (t.out l).v (cap c).toNat 0 (t.step l.length (ldOp (at_ c 5 owner 0))) [])
def runH (c : Cfg) (seq : Int) (h : H) (l : List O3) : H := l.foldl (fun h o => tell c seq o.v o.s h) h
def OnH (c : Cfg) (seq : Int) : H → List O3 → Prop
  | _, [] => True
  | h, o :: r => h.next ≠ 8 ∧ OnH c seq (tell c seq o.v o.s h) r
theorem OnH.snoc {c : Cfg} {seq : Int} : ∀ {h : H} {l : List O3} {o : O3}, OnH c seq h l → (runH c seq h l).next ≠ 8 → OnH c seq h (l ++ [o])
  | h, [], o, _, hn => ⟨hn, trivial⟩
  | h, a :: r, o, hl, hn => ⟨hl.1, OnH.snoc hl.2 hn⟩
theorem runH_snoc (c : Cfg) (seq : Int) (h : H) (l : List O3) (o : O3) : runH c seq h (l ++ [o]) = tell c seq o.v o.s (runH c seq h l) := by simp [runH]
/-- The tape says what the state says. -/
def AnsT (c : Cfg) (who owner seq : Int) (h : H) (t : Tp) : Prop := t.need = (ask c who owner seq h).2 ∧ t.ask = (ask c who owner seq h).1
def tj (j : Nat) : Tp := ⟨j, p0, false⟩
theorem step_last (l : List O3) (op : P6) : (tj l.length).step l.length op = ⟨l.length, op, true⟩ := by simp [tj, Tp.step]
theorem step_got (pre r : List O3) (o : O3) (op : P6) : (tj pre.length).step (pre ++ o :: r).length op = tj (pre ++ [o]).length := by simp [tj, Tp.step]
theorem out_got (pre r : List O3) (o : O3) : (tj pre.length).out (pre ++ o :: r) = o := by simp [tj, Tp.out]
theorem out_last (l : List O3) : (tj l.length).out l = ⟨0, 0, false⟩ := by simp [tj, Tp.out]
theorem step_need (n j : Nat) (a op : P6) : (⟨j, a, true⟩ : Tp).step n op = ⟨j, a, true⟩ := by simp [Tp.step]
theorem on_over {c : Cfg} {seq : Int} {h : H} (h8 : h.next = 8) {L : List O3} (hL : OnH c seq h L) : L = [] := by
  match L, hL with
  | [], _ => rfl
  | o :: r, hL => exact absurd h8 hL.1
theorem ans_over {c : Cfg} {who owner seq : Int} {h : H} (h8 : h.next = 8) (j : Nat) : AnsT c who owner seq h (tj j) := by
  unfold AnsT ask tj
  simp [h8]
section
variable {c : Cfg} {who owner seq : Int}
theorem ans_shut {h : H} (h7 : h.next = 7) (pre L : List O3) (hL : OnH c seq h L) : AnsT c who owner seq (runH c seq h L) ((tj pre.length).step (pre ++ L).length ⟨2, at_ c 4 owner 0, 1, seq, 0, seq⟩) := by
  match L, hL with
  | [], _ =>
    rw [List.append_nil, step_last]
    unfold AnsT ask
    simp [runH, h7]
  | o :: r, hL =>
    have e : (tell c seq o.v o.s h).next = 8 := by simp [tell, h7]
    obtain rfl := on_over e hL.2
    rw [step_got]
    exact ans_over e _
/-- What one entry's reading and swapping come to, given what comes behind it. -/
theorem ans_turn {h : H} (h5 : h.next = 5) (R : List (Int × Int)) (hk : 0 ≤ h.k) (held : Int) (hh : h.held = held)
    (ih : ∀ (pre L : List O3) (h' : H), h'.list = h.list → h'.held = held → OnH c seq (entry c h' (h.k.toNat + 1)) L → AnsT c who owner seq (runH c seq (entry c h' (h.k.toNat + 1)) L) (applyG c who owner seq (pre ++ L) R held (tj pre.length)))
    (pre L : List O3) (hL : OnH c seq h L) :
    AnsT c who owner seq (runH c seq h L) (if (turn1 seq (pre ++ L) (nth h h.k.toNat) (tj pre.length)).need then turn1 seq (pre ++ L) (nth h h.k.toNat) (tj pre.length) else applyG c who owner seq (pre ++ L) R held (turn1 seq (pre ++ L) (nth h h.k.toNat) (tj pre.length))) := by
  match L, hL with
  | [], _ =>
    have e : turn1 seq (pre ++ []) (nth h h.k.toNat) (tj pre.length) = ⟨pre.length, ldOp (nth h h.k.toNat).1, true⟩ := by
      unfold turn1
      rw [List.append_nil, step_last, step_need]
      split <;> rfl
    rw [e, if_pos rfl]
    unfold AnsT ask
    simp [runH, h5, ldOp]
  | o :: r, hL =>
    have hL2 := hL.2
    by_cases hs : seq ≤ o.s
    · have e : tell c seq o.v o.s h = entry c { h with cv := o.v, cs := o.s, next := 6 } (h.k.toNat + 1) := by simp [tell, h5, hs]
      have e2 : turn1 seq (pre ++ o :: r) (nth h h.k.toNat) (tj pre.length) = tj (pre ++ [o]).length := by
        unfold turn1
        rw [out_got, if_neg (by omega), step_got]
      rw [e2, if_neg (by simp [tj])]
      have e3 : pre ++ o :: r = (pre ++ [o]) ++ r := by simp
      rw [e3]
      show AnsT c who owner seq (runH c seq (tell c seq o.v o.s h) r) _
      rw [e] at hL2 ⊢
      exact ih (pre ++ [o]) r _ rfl hh hL2
    · have e : tell c seq o.v o.s h = { h with cv := o.v, cs := o.s, next := 6 } := by simp [tell, h5, hs]
      show AnsT c who owner seq (runH c seq (tell c seq o.v o.s h) r) _
      rw [e] at hL2 ⊢
      have e3 : pre ++ o :: r = (pre ++ [o]) ++ r := by simp
      have e2 : turn1 seq (pre ++ o :: r) (nth h h.k.toNat) (tj pre.length) = (tj (pre ++ [o]).length).step ((pre ++ [o]) ++ r).length ⟨2, (nth h h.k.toNat).1, o.v, o.s, (nth h h.k.toNat).2, seq⟩ := by
        unfold turn1
        rw [out_got, if_pos (by omega), step_got, e3]
      rw [e2, e3]
      generalize pre ++ [o] = pre2
      match r, hL2 with
      | [], _ =>
        rw [List.append_nil, step_last, if_pos rfl]
        unfold AnsT ask
        simp [runH, nth]
      | o2 :: r2, hL2 =>
        have hL3 := hL2.2
        rw [step_got, if_neg (by simp [tj])]
        have e4 : pre2 ++ o2 :: r2 = (pre2 ++ [o2]) ++ r2 := by simp
        rw [e4]
        show AnsT c who owner seq (runH c seq (tell c seq o2.v o2.s { h with cv := o.v, cs := o.s, next := 6 }) r2) _
        have e5 : tell c seq o2.v o2.s { h with cv := o.v, cs := o.s, next := 6 } = entry c { h with cv := o.v, cs := o.s, next := 6 } (h.k.toNat + 1) := by simp [tell]
        rw [e5] at hL3 ⊢
        exact ih (pre2 ++ [o2]) r2 _ rfl hh hL3
theorem entryG_nil (h : H) (k : Nat) (hk : h.list.length ≤ k) : entry c h k = { h with next := 7 } := by
  unfold entry
  rw [show h.list.length - k = 0 by omega]
  rfl
theorem entry_cons (h : H) (k : Nat) (hk : k < h.list.length) : entry c h k = if (whA c (nth h k).1).1 < 7 then entry c h (k + 1) else { h with k := k, next := if (whA c (nth h k).1).1 = 16 ∧ (whA c (nth h k).1).2.1 ≠ h.held then 3 else 5 } := by
  unfold entry
  rw [show h.list.length - k = (h.list.length - (k + 1)) + 1 by omega]
  rfl
theorem ans_apply (hok : Ok c) : ∀ (R : List (Int × Int)) (k : Nat) (pre L : List O3) (h : H), h.list.drop k = R → OnH c seq (entry c h k) L →
    AnsT c who owner seq (runH c seq (entry c h k) L) (applyG c who owner seq (pre ++ L) R h.held (tj pre.length))
  | [], k, pre, L, h, hR, hL => by
    have hk : h.list.length ≤ k := by simpa using hR
    rw [entryG_nil h k hk] at hL ⊢
    exact ans_shut rfl pre L hL
  | e :: R, k, pre, L, h, hR, hL => by
    have hk : k < h.list.length := by
      apply Nat.lt_of_not_le
      intro hx
      rw [List.drop_eq_nil_of_le hx] at hR
      cases hR
    have hn : nth h k = e := by
      have h1 : (h.list.drop k)[0]? = some e := by rw [hR]; rfl
      rw [List.getElem?_drop, Nat.add_zero] at h1
      simp [nth, List.getD_eq_getElem?_getD, h1]
    have hd : h.list.drop (k + 1) = R := by rw [← List.drop_drop, hR]; rfl
    rw [entry_cons h k hk, hn] at hL ⊢
    have htag := kind_tag hok e.1
    have hwd := kind_word hok e.1
    unfold applyG
    by_cases h1 : (whA c e.1).1 < 7
    · rw [if_pos h1] at hL ⊢
      rw [if_pos (show e.1 < fTag c ∨ size c ≤ e.1 by omega)]
      exact ans_apply hok R (k + 1) pre L h hd hL
    · rw [if_neg h1] at hL ⊢
      have hin : fTag c ≤ e.1 ∧ e.1 < size c := htag.1 (by omega)
      rw [if_neg (show ¬ (e.1 < fTag c ∨ size c ≤ e.1) by omega)]
      have hb : blockOf c e.1 = if (whA c e.1).1 = 16 then (whA c e.1).2.1 else -1 := by
        unfold blockOf
        by_cases hx : (whA c e.1).1 = 16
        · have := hwd.1 hx
          rw [if_neg (by omega), if_pos hx, word_block hok _ this]
        · have : e.1 < fWord c := by omega
          rw [if_pos this, if_neg hx]
      have hbd := (Go.Proofs.Ytccioehckfdjdaa.whA_bd2 hok e.1).1
      have ih : ∀ (held : Int) (pre L : List O3) (h' : H), h'.list = h.list → h'.held = held → OnH c seq (entry c h' (k + 1)) L → AnsT c who owner seq (runH c seq (entry c h' (k + 1)) L) (applyG c who owner seq (pre ++ L) R held (tj pre.length)) := by
        intro held pre L h' hl hh hL
        subst hh
        exact ans_apply hok R (k + 1) pre L h' (by rw [hl]; exact hd) hL
      by_cases h2 : (whA c e.1).1 = 16 ∧ (whA c e.1).2.1 ≠ h.held
      · rw [if_pos h2] at hL ⊢
        rw [if_pos h2.1] at hb
        rw [if_pos (by rw [hb]; exact ⟨hbd, h2.2⟩), hb]
        generalize hB : (whA c e.1).2.1 = B at *
        match L, hL with
        | [], _ =>
          have e1 : name1 c who owner (pre ++ []) B (tj pre.length) = ⟨pre.length, ⟨1, at_ c 3 who 0, 0, 0, nameOf B, 0⟩, true⟩ := by
            unfold name1
            rw [List.append_nil, step_last, step_need]
          rw [e1, if_pos (.inl rfl)]
          unfold AnsT ask
          have hn2 : nth { h with k := (k : Int), next := 3 } k = e := hn
          simp [runH, hn2, hB]
        | o :: r, hL =>
          have hL2 := hL.2
          show AnsT c who owner seq (runH c seq (tell c seq o.v o.s { h with k := (k : Int), next := 3 }) r) _
          have e2 : tell c seq o.v o.s { h with k := (k : Int), next := 3 } = { h with k := (k : Int), held := -1, next := 4 } := by simp [tell]
          rw [e2] at hL2 ⊢
          have e3 : pre ++ o :: r = (pre ++ [o]) ++ r := by simp
          have e4 : name1 c who owner (pre ++ o :: r) B (tj pre.length) = (tj (pre ++ [o]).length).step ((pre ++ [o]) ++ r).length (ldOp (at_ c 4 owner 0)) := by
            unfold name1
            rw [step_got, e3]
          have e5 : nameIs c who seq (pre ++ o :: r) B (tj pre.length) = isOpen seq ((tj (pre ++ [o]).length).out ((pre ++ [o]) ++ r)) := by
            unfold nameIs
            rw [step_got, e3]
          rw [e4, e5, e3]
          generalize pre ++ [o] = pre2
          match r, hL2 with
          | [], _ =>
            rw [List.append_nil, step_last, if_pos (.inl rfl)]
            unfold AnsT ask
            simp [runH, ldOp]
          | o2 :: r2, hL2 =>
            have hL3 := hL2.2
            rw [step_got, out_got]
            show AnsT c who owner seq (runH c seq (tell c seq o2.v o2.s { h with k := (k : Int), held := -1, next := 4 }) r2) _
            have hn2 : nth { h with k := (k : Int), held := -1, next := 4 } k = e := hn
            have e6 : tell c seq o2.v o2.s { h with k := (k : Int), held := -1, next := 4 } = unl (decide (o2.v = 1 ∧ o2.s = seq)) { h with k := (k : Int), held := B, next := 5 } := by
              simp [tell, hn2, hB]
            rw [e6] at hL3 ⊢
            have e7 : isOpen seq o2 = decide (o2.v = 1 ∧ o2.s = seq) := rfl
            rw [e7]
            by_cases hop : o2.v = 1 ∧ o2.s = seq
            · rw [decide_eq_true hop] at hL3 ⊢
              rw [if_neg (by simp [tj])]
              have e8 : pre2 ++ o2 :: r2 = (pre2 ++ [o2]) ++ r2 := by simp
              rw [e8]
              have := ans_turn (c := c) (who := who) (owner := owner) (seq := seq) (h := { h with k := (k : Int), held := B, next := 5 }) rfl R (by simp) B rfl (fun p2 L2 h' hl hh => ih B p2 L2 h' hl hh) (pre2 ++ [o2]) r2 hL3
              have hn3 : nth { h with k := (k : Int), held := B, next := 5 } (k : Int).toNat = e := hn
              dsimp only at this
              rw [hn3] at this
              exact this
            · rw [decide_eq_false hop] at hL3 ⊢
              rw [if_pos (.inr rfl)]
              obtain rfl := on_over rfl hL3
              exact ans_over rfl _
      · rw [if_neg h2] at hL ⊢
        have hne : ¬ (0 ≤ blockOf c e.1 ∧ blockOf c e.1 ≠ h.held) := by
          rw [hb]
          by_cases hx : (whA c e.1).1 = 16
          · rw [if_pos hx]
            intro hy
            exact h2 ⟨hx, hy.2⟩
          · rw [if_neg hx]; omega
        rw [if_neg hne]
        have := ans_turn (c := c) (who := who) (owner := owner) (seq := seq) (h := { h with k := (k : Int), next := 5 }) rfl R (by simp) h.held rfl (fun p2 L2 h' hl hh => ih h.held p2 L2 h' hl hh) pre L hL
        have hn3 : nth { h with k := (k : Int), next := 5 } (k : Int).toNat = e := hn
        dsimp only at this
        rw [hn3] at this
        exact this
theorem copyG_need (l : List O3) (n : Int) (g k : Nat) (t : Tp) (acc : List (Int × Int)) (ht : t.need = true) : copyG c owner l n g k t acc = (t, acc) := by
  cases g with
  | zero => rfl
  | succ g => unfold copyG; rw [if_neg (by simp [ht])]
theorem restG_need (l : List O3) (t : Tp) (acc : List (Int × Int)) (ht : t.need = true) : restG c who owner seq l (t, acc) = t := by
  obtain ⟨j, a, nd⟩ := t
  dsimp only at ht; subst ht
  unfold restG
  rw [step_need, if_pos (.inl rfl)]
theorem ans_read (hok : Ok c) (n : Int) : ∀ (d f : Nat) (h : H) (pre L : List O3), (h.list.length : Int) + d = min n (cap c) → h.n = min n (cap c) → f + h.list.length = (cap c).toNat → h.held = -1 → OnH c seq (read h) L →
    AnsT c who owner seq (runH c seq (read h) L) (restG c who owner seq (pre ++ L) (copyG c owner (pre ++ L) n f h.list.length (tj pre.length) h.list))
  | 0, f, h, pre, L, hd, hn, hf, hh, hL => by
    have hcap := cap_bd hok
    have e1 : copyG c owner (pre ++ L) n f h.list.length (tj pre.length) h.list = (tj pre.length, h.list) := by
      cases f with
      | zero => rfl
      | succ f => unfold copyG; rw [if_neg (by omega)]
    rw [e1]
    have e2 : read h = { h with next := 2 } := by unfold read; rw [if_pos (by omega)]
    rw [e2] at hL ⊢
    unfold restG
    dsimp only
    match L, hL with
    | [], _ =>
      rw [List.append_nil, step_last, if_pos (.inl rfl)]
      unfold AnsT ask
      simp [runH, ldOp]
    | o :: r, hL =>
      have hL2 := hL.2
      rw [step_got, out_got]
      show AnsT c who owner seq (runH c seq (tell c seq o.v o.s { h with next := 2 }) r) _
      have e3 : tell c seq o.v o.s { h with next := 2 } = unl (decide (o.v = 1 ∧ o.s = seq)) (entry c { h with next := 2 } 0) := by simp [tell]
      rw [e3] at hL2 ⊢
      have e4 : isOpen seq o = decide (o.v = 1 ∧ o.s = seq) := rfl
      rw [e4]
      by_cases hop : o.v = 1 ∧ o.s = seq
      · rw [decide_eq_true hop] at hL2 ⊢
        rw [if_neg (by simp [tj])]
        have e5 : pre ++ o :: r = (pre ++ [o]) ++ r := by simp
        rw [e5, ← hh]
        exact ans_apply hok h.list 0 (pre ++ [o]) r { h with next := 2 } rfl hL2
      · rw [decide_eq_false hop] at hL2 ⊢
        rw [if_pos (.inr rfl)]
        obtain rfl := on_over rfl hL2
        exact ans_over rfl _
  | d + 1, f, h, pre, L, hd, hn, hf, hh, hL => by
    have hcap := cap_bd hok
    obtain ⟨f, rfl⟩ : ∃ f', f = f' + 1 := ⟨f - 1, by omega⟩
    have e2 : read h = { h with next := 1 } := by unfold read; rw [if_neg (by omega)]
    rw [e2] at hL ⊢
    unfold copyG
    rw [if_pos ⟨by omega, rfl⟩]
    match L, hL with
    | [], _ =>
      rw [List.append_nil, step_last, copyG_need _ _ _ _ _ _ rfl, restG_need _ _ _ rfl]
      unfold AnsT ask
      simp [runH, ldOp]
    | o :: r, hL =>
      have hL2 := hL.2
      rw [step_got, out_got]
      show AnsT c who owner seq (runH c seq (tell c seq o.v o.s { h with next := 1 }) r) _
      have e3 : tell c seq o.v o.s { h with next := 1 } = read { h with list := h.list ++ [(placeOf o.s, o.v)], next := 1 } := by simp [tell]
      rw [e3] at hL2 ⊢
      have e5 : pre ++ o :: r = (pre ++ [o]) ++ r := by simp
      rw [e5]
      have := ans_read hok n d f { h with list := h.list ++ [(placeOf o.s, o.v)], next := 1 } (pre ++ [o]) r (by simp; omega) hn (by simp; omega) hh hL2
      simpa using this
/-- Somebody's transaction. -/
theorem ans_help (hok : Ok c) (L : List O3) (hp : ∀ o ∈ L, 0 ≤ o.v) (hL : OnH c seq ⟨[], 0, 0, -1, 0, 0, 0⟩ L) : AnsT c who owner seq (runH c seq ⟨[], 0, 0, -1, 0, 0, 0⟩ L) (helpG c who owner seq L (tj 0)) := by
  have hcap := cap_bd hok
  unfold helpG
  match L, hL with
  | [], _ =>
    have e : (tj 0).step ([] : List O3).length (ldOp (at_ c 5 owner 0)) = ⟨0, ldOp (at_ c 5 owner 0), true⟩ := rfl
    rw [e, copyG_need _ _ _ _ _ _ rfl, restG_need _ _ _ rfl]
    unfold AnsT ask
    simp [runH, ldOp]
  | o :: r, hL =>
    have hL2 := hL.2
    have h0 := hp o (by simp)
    have e : (tj 0).step (o :: r).length (ldOp (at_ c 5 owner 0)) = tj 1 := by simp [tj, Tp.step]
    have e1 : (tj 0).out (o :: r) = o := by simp [tj, Tp.out]
    rw [e, e1]
    show AnsT c who owner seq (runH c seq (tell c seq o.v o.s ⟨[], 0, 0, -1, 0, 0, 0⟩) r) _
    have e2 : tell c seq o.v o.s ⟨[], 0, 0, -1, 0, 0, 0⟩ = read ⟨[], min o.v (cap c), 0, -1, 0, 0, 0⟩ := by simp [tell]
    rw [e2] at hL2 ⊢
    exact ans_read hok o.v (min o.v (cap c)).toNat (cap c).toNat ⟨[], min o.v (cap c), 0, -1, 0, 0, 0⟩ [o] r (by simp; omega) rfl (by simp) rfl hL2
/-- One's own. -/
theorem ans_own (hok : Ok c) (E : List (Int × Int)) (h : H) (he : h.list = E) (hh : h.held = -1) (L : List O3) (hL : OnH c seq (entry c h 0) L) : AnsT c who owner seq (runH c seq (entry c h 0) L) (applyG c who owner seq L E (-1) (tj 0)) := by
  have := ans_apply (c := c) (who := who) (owner := owner) (seq := seq) hok E 0 [] L h (by rw [he]; rfl) hL
  rw [hh] at this
  exact this
end
end Go.Tum.H
