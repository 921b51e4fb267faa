/- A transaction that several threads do: what holds of the memory and of each of them; plain. -/
import Derived.Test.YtccioehckfdjdaaHalive
import Derived.Test.YtccioehckfdjdaaHslots
set_option linter.unusedSimpArgs false
set_option linter.unusedVariables false
namespace Go.Tum.H
open Go.Tum.Y Go.Tum.Sc Go.Tum.C Go.Proofs.Ytccioehckfdjdaa
def rd (m : M) (a : Int) : Int × Int := m.at a.toNat
/-- What a place becomes: what its first entry says. -/
def valAt (L : List (Int × Int)) (a : Int) : Int := ((L.find? fun e => e.1 == a).map (·.2)).getD 0
theorem valAt_first {L : List (Int × Int)} {k : Nat} (hk : k < L.length) (hf : ∀ j (hj : j < k), (L[j]'(by omega)).1 ≠ L[k].1) : valAt L L[k].1 = L[k].2 := by
  have : L.find? (fun e => e.1 == L[k].1) = some L[k] := by
    rw [List.find?_eq_some_iff_getElem]
    exact ⟨by simp, k, hk, rfl, fun j hj => by simpa using hf j hj⟩
  unfold valAt
  rw [this]; rfl
structure Job (c : Cfg) (owner seq : Int) (L : List (Int × Int)) (B : M) : Prop where
  ok : Ok c
  own : 0 ≤ owner ∧ owner < c.t
  len : (L.length : Int) ≤ cap c
  ent : ∀ e ∈ L, fTag c ≤ e.1 ∧ e.1 < size c ∧ 0 ≤ e.2 ∧ e.2 ≤ 18446744073709551615
  sq : 0 ≤ seq
  old : ∀ a, fTag c ≤ a → a < size c → (rd B a).2 < seq
  log : ∀ k, (hk : k < L.length) → rd B (place c 6 owner k) = (L[k].2, L[k].1)
  lenc : (rd B (place c 5 owner 0)).1 = L.length
/-- The memory, while it is being done, or was. -/
structure MOk (c : Cfg) (owner seq : Int) (L : List (Int × Int)) (B m : M) : Prop where
  len : m.cells.length = (size c).toNat
  val : ∀ a, (0 ≤ (rd m a).1 ∧ (rd m a).1 ≤ 18446744073709551615) ∧ 0 ≤ (rd m a).2
  cell : ∀ a, fTag c ≤ a → a < size c → rd m a = rd B a ∨ ((∃ e ∈ L, e.1 = a) ∧ rd m a = (valAt L a, seq))
  opn : rd m (place c 4 owner 0) = (1, seq) ∨ (rd m (place c 4 owner 0) = (0, seq) ∧ ∀ e ∈ L, (rd m e.1).2 = seq)
  rest : ∀ a, 0 ≤ a → a < fTag c → (whA c a).1 ≠ 3 → a ≠ place c 4 owner 0 → rd m a = rd B a
/-- A thread that does it. -/
structure TOk (c : Cfg) (owner seq : Int) (L : List (Int × Int)) (B m : M) (h : H) : Prop where
  inv : Inv c h
  n : h.n = 0 ∨ h.n = L.length
  st1 : h.next = 1 → h.n = L.length ∧ h.list = L.take h.list.length
  st2 : 2 ≤ h.next → h.list = L
  dn : h.next = 3 ∨ h.next = 4 ∨ h.next = 5 ∨ h.next = 6 → ∀ j, j < h.k.toNat → (rd m (nth h j).1).2 = seq
  six : h.next = 6 → (h.cv, h.cs) = rd B (nth h h.k.toNat).1 ∧ ∀ j, j < h.k.toNat → (nth h j).1 ≠ (nth h h.k.toNat).1
  all : h.next = 7 → ∀ e ∈ L, (rd m e.1).2 = seq
  over : h.next = 8 → rd m (place c 4 owner 0) = (0, seq)
theorem nth_get {h : H} {j : Nat} (hj : j < h.list.length) : nth h j = h.list[j] := by
  unfold nth; simp [List.getD_eq_getElem?_getD, List.getElem?_eq_getElem hj]
theorem nth_mem {h : H} {j : Nat} (hj : j < h.list.length) : nth h j ∈ h.list := by rw [nth_get hj]; exact List.getElem_mem hj
theorem entry_all {c : Cfg} {h : H} (ha : ∀ e ∈ h.list, 7 ≤ (whA c e.1).1) (k : Nat) (hk : k ≤ h.list.length) :
    entry c h k = if k < h.list.length then { h with k := k, next := if (whA c (nth h k).1).1 = 16 ∧ (whA c (nth h k).1).2.1 ≠ h.held then 3 else 5 } else { h with next := 7 } := by
  unfold entry
  by_cases hl : k < h.list.length
  · rw [if_pos hl]
    obtain ⟨g, hg⟩ : ∃ g, h.list.length - k = g + 1 := ⟨h.list.length - k - 1, by omega⟩
    rw [hg]
    unfold entryG
    rw [if_neg (by have := ha _ (nth_mem hl); omega)]
  · rw [if_neg hl, show h.list.length - k = 0 by omega]
    rfl
section
variable {c : Cfg} {owner seq : Int} {L : List (Int × Int)} {B : M}
theorem Job.kind (J : Job c owner seq L B) : ∀ e ∈ L, 7 ≤ (whA c e.1).1 := fun e he => (kind_tag J.ok e.1).2 ⟨(J.ent e he).1, (J.ent e he).2.1⟩
theorem Job.low (J : Job c owner seq L B) {kd i k : Int} (hi : Is c kd i k) (hk : kd < 7) : 0 ≤ place c kd i k ∧ place c kd i k < fTag c := by
  have h1 := wh_place J.ok hi
  have h2 := whA_place J.ok hi
  have h3 := kind_tag J.ok (place c kd i k)
  rw [h2] at h3
  dsimp only at h3
  refine ⟨h1.2.1, ?_⟩
  have := h1.2.2
  omega
/-- An entry that was seen to be done, or was done. -/
theorem TOk.entry {m : M} (J : Job c owner seq L B) {h : H} (hg : Good c h) (hn : h.n = 0 ∨ h.n = L.length) (hl : h.list = L) (k : Nat) (hk : k ≤ L.length) (hd : ∀ j, j < k → (rd m (nth h j).1).2 = seq) : TOk c owner seq L B m (entry c h k) := by
  have hi := entry_inv hg k (by rw [hl]; exact hk)
  rw [entry_all (by rw [hl]; exact J.kind) k (by rw [hl]; exact hk)] at hi ⊢
  by_cases hkl : k < h.list.length
  · rw [if_pos hkl] at hi ⊢
    refine ⟨hi, hn, ?_, fun _ => hl, fun _ j hj => hd j (by simpa using hj), ?_, ?_, ?_⟩
    all_goals (dsimp only; split <;> simp)
  · rw [if_neg hkl] at hi ⊢
    refine ⟨hi, hn, by simp, fun _ => hl, by simp, by simp, fun _ e he => ?_, by simp⟩
    obtain ⟨j, hj, rfl⟩ := List.getElem_of_mem he
    have := hd j (by rw [hl] at hkl; omega)
    rwa [nth_get (by rw [hl]; exact hj), List.getElem_of_eq hl] at this
/-- What was done stays done. -/
structure Le (c : Cfg) (owner seq : Int) (m m' : M) : Prop where
  dn : ∀ a, fTag c ≤ a → a < size c → (rd m a).2 = seq → (rd m' a).2 = seq
  op : rd m (place c 4 owner 0) = (0, seq) → rd m' (place c 4 owner 0) = (0, seq)
theorem TOk.le {m m' : M} (J : Job c owner seq L B) {h : H} (t : TOk c owner seq L B m h) (l : Le c owner seq m m') : TOk c owner seq L B m' h := by
  obtain ⟨a1, a2, a4, a5, a6, a7, a8, a9⟩ := t
  refine ⟨a1, a2, a4, a5, fun hx j hj => ?_, a7, fun hx e he => l.dn _ (J.ent e he).1 (J.ent e he).2.1 (a8 hx e he), fun hx => l.op (a9 hx)⟩
  have hll := a5 (by omega)
  have hk := a1.good.2.2.2.2.2 hx
  have hm : nth h j ∈ L := by rw [← hll]; exact nth_mem (by omega)
  exact l.dn _ (J.ent _ hm).1 (J.ent _ hm).2.1 (a6 hx j hj)
/-! ### a step -/
theorem rd_step {m : M} {who : Int} {o : Op6} (he : err m.cells.length who o = 0) {b : Int} (hb : 0 ≤ b) : rd (m.step who o) b = if b = o.a then becomes (rd m b) o else rd m b := by
  obtain ⟨_, _, _, _, h0, h1⟩ := err_zero he
  unfold rd M.step M.at
  rw [if_pos he]
  simp only [List.getD_eq_getElem?_getD]
  by_cases e : b = o.a
  · subst e
    rw [if_pos rfl, List.getElem?_set_self (by omega)]; rfl
  · rw [if_neg e, List.getElem?_set_ne (by omega)]
theorem rd_neg {m : M} {a : Int} (ha : a < 0) : rd m a = rd m 0 := by unfold rd; rw [show a.toNat = (0 : Int).toNat by omega]
theorem told_is {m : M} {who : Int} {o : Op6} (he : err m.cells.length who o = 0) : m.told who o = outOf (rd m o.a) o := by unfold M.told; rw [if_pos he]; rfl
theorem err_no {n : Nat} {who : Int} {o : Op6} (hw : 0 ≤ who ∧ who < 8) (hk : 0 ≤ o.k ∧ o.k ≤ 3) (ha : 0 ≤ o.a ∧ o.a < n) : err n who o = 0 := by
  unfold err
  rw [if_neg (by omega), if_neg (by omega), if_neg (by omega)]
/-- A memory of which all cells are as before, but perhaps a slot. -/
theorem MOk.same {m m' : M} (J : Job c owner seq L B) (hm : MOk c owner seq L B m) (hl : m'.cells.length = m.cells.length) (p : Int) (u : Int × Int) (hp : (whA c p).1 = 3 ∧ 0 ≤ p) (hu : (0 ≤ u.1 ∧ u.1 ≤ 18446744073709551615) ∧ 0 ≤ u.2)
    (hs : ∀ a, 0 ≤ a → rd m' a = rd m a ∨ (a = p ∧ rd m' a = u)) : MOk c owner seq L B m' ∧ Le c owner seq m m' := by
  have hi4 := (is_own J.ok J.own).2.1
  have hb := J.low hi4 (by decide)
  have hT := (bds J.ok).tag
  have hne : place c 4 owner 0 ≠ p := by
    intro e
    have := whA_place J.ok hi4
    rw [e] at this
    rw [this] at hp
    have := hp.1
    dsimp only at this
    omega
  have hk : ∀ a, fTag c ≤ a → a < size c → rd m' a = rd m a := fun a h1 h2 => by
    refine (hs a (by omega)).resolve_right fun hx => ?_
    have := (kind_tag J.ok a).2 ⟨h1, h2⟩
    rw [hx.1] at this
    omega
  have ho : rd m' (place c 4 owner 0) = rd m (place c 4 owner 0) := (hs _ hb.1).resolve_right fun hx => hne hx.1
  refine ⟨⟨hl.trans hm.len, fun a => ?_, fun a h1 h2 => ?_, ?_, fun a h0 h1 h2 h3 => ?_⟩, ⟨fun a h1 h2 h3 => by rw [hk a h1 h2]; exact h3, fun h => by rw [ho]; exact h⟩⟩
  · by_cases h0 : 0 ≤ a
    · rcases hs a h0 with e | ⟨_, e⟩
      · rw [e]; exact hm.val a
      · rw [e]; exact hu
    · rw [rd_neg (by omega)]
      rcases hs 0 (by omega) with e | ⟨_, e⟩
      · rw [e]; exact hm.val 0
      · rw [e]; exact hu
  · rw [hk a h1 h2]; exact hm.cell a h1 h2
  · rw [ho]
    refine hm.opn.imp id fun ⟨a, b⟩ => ⟨a, fun e he => ?_⟩
    rw [hk _ (J.ent e he).1 (J.ent e he).2.1]; exact b e he
  · have := (hs a h0).resolve_right fun hx => h2 (by rw [hx.1]; exact hp.1)
    rw [this]; exact hm.rest a h0 h1 h2 h3
/-- Done, or as it was. -/
theorem MOk.done {m : M} (J : Job c owner seq L B) (hm : MOk c owner seq L B m) {a : Int} (h1 : fTag c ≤ a) (h2 : a < size c) : (rd m a = rd B a ∧ (rd m a).2 < seq) ∨ (rd m a).2 = seq := by
  rcases hm.cell a h1 h2 with e | ⟨_, e⟩
  · exact .inl ⟨e, by rw [e]; exact J.old a h1 h2⟩
  · exact .inr (by rw [e])
/-- What a thread knows behind the reply to a step that turned nothing of the memory. -/
theorem TOk.tell {m : M} (J : Job c owner seq L B) (hm : MOk c owner seq L B m) {who : Int} {h : H} (ht : TOk c owner seq L B m h) (hw : 0 ≤ who ∧ who < c.t) (hr : h.next = 0 ∨ h.next = 1 ∨ h.next = 2 ∨ h.next = 3 ∨ h.next = 4 ∨ h.next = 5) (v s : Int)
    (hv : h.next = 3 ∨ (v, s) = rd m (ask c who owner seq h).1.a) (hv0 : 0 ≤ v) : TOk c owner seq L B m (tell c seq v s h) := by
  have hok := J.ok
  have hcap := cap_bd hok
  obtain ⟨r0, r1, r2, r3, r4, r5, r6, r7, r8, r9, r10, r11, r12⟩ := row hok
  have hi2 := tell_inv hok (seq := seq) ht.inv v s hv0
  obtain ⟨⟨hg, hrg, hent, hnil⟩, t2, t4, t5, t6, t7, t8, t9⟩ := id ht
  have hLen := J.len
  have i4 := (is_own hok J.own).2.1
  have i5 := (is_own hok J.own).2.2
  have hopn : ∀ (x : Int × Int), (v, s) = rd m (place c 4 owner 0) → decide (v = 1 ∧ s = seq) = false → rd m (place c 4 owner 0) = (0, seq) := fun _ e hd => by
    rcases hm.opn with h1 | h1
    · rw [h1] at e
      simp only [Prod.mk.injEq] at e
      simp [e.1, e.2] at hd
    · exact h1.1
  unfold H.tell at hi2 ⊢
  by_cases h0 : h.next = 0
  · rw [if_pos h0] at hi2 ⊢
    have hl := hnil h0
    have hv := hv.resolve_left (by omega)
    unfold ask at hv
    rw [if_pos h0, at_is i5] at hv
    dsimp only at hv
    have lo := J.low i5 (by decide)
    have hb := hm.rest (place c 5 owner 0) lo.1 lo.2 (by rw [whA_place hok i5]; dsimp only; omega) (fun e => by have := (place_inj hok i5 i4 e).1; omega)
    rw [hb] at hv
    have hvL : v = L.length := by rw [← J.lenc, ← hv]
    have hmin : min v (cap c) = L.length := by omega
    rw [hmin] at hi2 ⊢
    unfold read at hi2 ⊢
    rw [hl] at hi2 ⊢
    refine ⟨hi2, .inr rfl, fun hx => ⟨rfl, by simp [hl]⟩, fun hx => ?_, ?_, ?_, ?_, ?_⟩
    · dsimp only at hx ⊢
      split at hx <;> rename_i hz
      · have : L.length = 0 := by simpa using hz.symm
        exact (List.length_eq_zero_iff.1 this).symm
      · omega
    all_goals (dsimp only; split <;> simp)
  rw [if_neg h0] at hi2 ⊢
  by_cases h1 : h.next = 1
  · rw [if_pos h1] at hi2 ⊢
    obtain ⟨hn, htk⟩ := t4 h1
    have hll := hg.2.2.1 h1
    have hlt : h.list.length < L.length := by omega
    have i6 : Is c 6 owner h.list.length := is_log hok J.own (by omega)
    have hv := hv.resolve_left (by omega)
    unfold ask at hv
    rw [if_neg h0, if_pos h1, at_is i6] at hv
    dsimp only at hv
    have lo := J.low i6 (by decide)
    have hb := hm.rest (place c 6 owner h.list.length) lo.1 lo.2 (by rw [whA_place hok i6]; dsimp only; omega) (fun e => by have := (place_inj hok i6 i4 e).1; omega)
    rw [hb, J.log _ hlt] at hv
    simp only [Prod.mk.injEq] at hv
    obtain ⟨e1, e2⟩ := hv
    have hE := J.ent _ (List.getElem_mem hlt)
    have hsz := size_bd hok
    have hpl : placeOf s = L[h.list.length].1 := by unfold placeOf; rw [if_neg (by omega)]; exact e2
    have hap : h.list ++ [(placeOf s, v)] = L.take (h.list.length + 1) := by
      rw [List.take_succ_eq_append_getElem hlt, ← htk, hpl, e1]
    rw [hap] at hi2 ⊢
    have hle : (L.take (h.list.length + 1)).length = h.list.length + 1 := by rw [List.length_take]; omega
    unfold read at hi2 ⊢
    refine ⟨hi2, .inr hn, fun hx => ⟨hn, by dsimp only; rw [hle]⟩, fun hx => ?_, ?_, ?_, ?_, ?_⟩
    · dsimp only at hx ⊢
      rw [hle] at hx
      split at hx <;> rename_i hz
      · rw [List.take_of_length_le (by omega)]
      · omega
    all_goals (dsimp only; split <;> simp)
  rw [if_neg h1] at hi2 ⊢
  have hl := t5 (by omega)
  by_cases h2 : h.next = 2
  · rw [if_pos h2] at hi2 ⊢
    have he := TOk.entry (m := m) J hg t2 hl 0 (Nat.zero_le _) (by simp)
    have hv := hv.resolve_left (by omega)
    unfold ask at hv
    rw [if_neg h0, if_neg h1, if_pos (.inl h2), at_is i4] at hv
    dsimp only at hv
    have hk := entry_keeps c h 0
    generalize hd : decide (v = 1 ∧ s = seq) = is at hi2 ⊢
    cases is
    · exact ⟨hi2, by rw [(unl_keeps _ _).2.1, hk.2.1]; exact t2, by simp [unl], fun _ => by rw [(unl_keeps _ _).1, hk.1]; exact hl, by simp [unl], by simp [unl], by simp [unl], fun _ => hopn (0, 0) hv hd⟩
    · exact he
  rw [if_neg h2] at hi2 ⊢
  by_cases h3 : h.next = 3
  · rw [if_pos h3] at hi2 ⊢
    exact ⟨hi2, t2, by simp, fun _ => hl, fun _ => t6 (.inl h3), by simp, by simp, by simp⟩
  rw [if_neg h3] at hi2 ⊢
  by_cases h4 : h.next = 4
  · rw [if_pos h4] at hi2 ⊢
    have hv := hv.resolve_left (by omega)
    unfold ask at hv
    rw [if_neg h0, if_neg h1, if_pos (.inr h4), at_is i4] at hv
    dsimp only at hv
    generalize hd : decide (v = 1 ∧ s = seq) = is at hi2 ⊢
    cases is
    · exact ⟨hi2, t2, by simp [unl], fun _ => hl, by simp [unl], by simp [unl], by simp [unl], fun _ => hopn (0, 0) hv hd⟩
    · exact ⟨hi2, t2, by simp [unl], fun _ => hl, fun _ => t6 (.inr (.inl h4)), by simp [unl], by simp [unl], by simp [unl]⟩
  rw [if_neg h4] at hi2 ⊢
  have h5 : h.next = 5 := by omega
  rw [if_pos h5] at hi2 ⊢
  have hk := hg.2.2.2.2.2 (.inr (.inr (.inl h5)))
  have hk0 := hg.2.2.2.2.1
  have hmem : nth h h.k.toNat ∈ L := by rw [← hl]; exact nth_mem (by omega)
  have hE := J.ent _ hmem
  have hv := hv.resolve_left (by omega)
  unfold ask at hv
  rw [if_neg h0, if_neg h1, if_neg (by omega), if_neg h3, if_pos h5] at hv
  dsimp only at hv
  have hdn := hm.done J hE.1 hE.2.1
  rw [← hv] at hdn
  dsimp only at hdn
  have d6 := t6 (.inr (.inr (.inl h5)))
  by_cases hs : seq ≤ s
  · rw [if_pos hs] at hi2 ⊢
    have hse : s = seq := by rcases hdn with h | h; omega; exact h
    refine TOk.entry (h := { h with cv := v, cs := s, next := 6 }) J ⟨hg.1, hg.2.1, by simp, hg.2.2.2.1, hg.2.2.2.2.1, fun _ => hk⟩ t2 hl _ (by rw [← hl]; omega) fun j hj => ?_
    show (rd m (nth h j).1).2 = seq
    by_cases hjk : j < h.k.toNat
    · exact d6 j hjk
    · obtain rfl : j = h.k.toNat := by omega
      rw [← hv]; exact hse
  · rw [if_neg hs] at hi2 ⊢
    refine ⟨hi2, t2, by simp, fun _ => hl, fun _ => d6, fun _ => ⟨?_, fun j hj e => ?_⟩, by simp, by simp⟩
    · exact (hdn.resolve_right (by omega)).1
    · have hj2 : (rd m (nth h j).1).2 = seq := d6 j hj
      have e2 : (nth h j).1 = (nth h h.k.toNat).1 := e
      rw [e2, ← hv] at hj2
      dsimp only at hj2
      omega
/-! ### who turned what -/
def swapsAt (tr : List Ev) (a : Int) : Nat := tr.countP fun e => decide (e.op.k = 2 ∧ e.out.ok = true ∧ e.op.a = a)
def Turned (c : Cfg) (owner seq : Int) (m : M) (a : Int) : Prop := (fTag c ≤ a ∧ a < size c ∧ (rd m a).2 = seq) ∨ (a = place c 4 owner 0 ∧ rd m a = (0, seq))
def TrOk (c : Cfg) (owner seq : Int) (m : M) : Prop := ∀ a, (Turned c owner seq m a → swapsAt m.trace a = 1) ∧ (¬ Turned c owner seq m a → swapsAt m.trace a = 0)
theorem swaps_step {m : M} {who : Int} {o : Op6} (he : err m.cells.length who o = 0) (a : Int) : swapsAt (m.step who o).trace a = swapsAt m.trace a + (if o.k = 2 ∧ (m.told who o).ok = true ∧ o.a = a then 1 else 0) := by
  unfold swapsAt M.step M.told
  rw [if_pos he, if_pos he]
  rw [List.countP_append, List.countP_singleton]
  simp only [decide_eq_true_eq]
theorem TrOk.same {m m' : M} {who : Int} {o : Op6} (he : err m.cells.length who o = 0) (hm' : m' = m.step who o) (hn : ¬ (o.k = 2 ∧ (m.told who o).ok = true)) (ht : TrOk c owner seq m)
    (hs : ∀ a, (fTag c ≤ a ∧ a < size c) ∨ a = place c 4 owner 0 → rd m' a = rd m a) : TrOk c owner seq m' := by
  subst hm'
  intro a
  have e1 : swapsAt (m.step who o).trace a = swapsAt m.trace a := by rw [swaps_step he, if_neg (fun h => hn ⟨h.1, h.2.1⟩)]; rfl
  have e2 : Turned c owner seq (m.step who o) a ↔ Turned c owner seq m a := by
    unfold Turned
    refine or_congr ⟨fun ⟨x, y, z⟩ => ⟨x, y, ?_⟩, fun ⟨x, y, z⟩ => ⟨x, y, ?_⟩⟩ ⟨fun ⟨x, z⟩ => ⟨x, ?_⟩, fun ⟨x, z⟩ => ⟨x, ?_⟩⟩
    · rwa [hs a (.inl ⟨x, y⟩)] at z
    · rwa [hs a (.inl ⟨x, y⟩)]
    · rwa [hs a (.inr x)] at z
    · rwa [hs a (.inr x)]
  rw [e1, e2]
  exact ht a
theorem TrOk.turn {m m' : M} {who : Int} {o : Op6} (he : err m.cells.length who o = 0) (hm' : m' = m.step who o) (hk : o.k = 2) (hok : (m.told who o).ok = true) (ht : TrOk c owner seq m)
    (h1 : ¬ Turned c owner seq m o.a) (h2 : Turned c owner seq m' o.a) (hs : ∀ a, a ≠ o.a → ((fTag c ≤ a ∧ a < size c) ∨ a = place c 4 owner 0) → rd m' a = rd m a) : TrOk c owner seq m' := by
  subst hm'
  intro a
  by_cases e : a = o.a
  · subst e
    have e1 : swapsAt (m.step who o).trace o.a = 1 := by rw [swaps_step he, if_pos ⟨hk, hok, rfl⟩, (ht o.a).2 h1]
    exact ⟨fun _ => e1, fun h => absurd h2 h⟩
  · have e1 : swapsAt (m.step who o).trace a = swapsAt m.trace a := by rw [swaps_step he, if_neg (fun h => e h.2.2.symm)]; rfl
    have e2 : Turned c owner seq (m.step who o) a ↔ Turned c owner seq m a := by
      unfold Turned
      refine or_congr ⟨fun ⟨x, y, z⟩ => ⟨x, y, ?_⟩, fun ⟨x, y, z⟩ => ⟨x, y, ?_⟩⟩ ⟨fun ⟨x, z⟩ => ⟨x, ?_⟩, fun ⟨x, z⟩ => ⟨x, ?_⟩⟩
      · rwa [hs a e (.inl ⟨x, y⟩)] at z
      · rwa [hs a e (.inl ⟨x, y⟩)]
      · rwa [hs a e (.inr x)] at z
      · rwa [hs a e (.inr x)]
    rw [e1, e2]
    exact ht a
/-- All that a step does. -/
structure Stp (c : Cfg) (owner seq : Int) (L : List (Int × Int)) (B m : M) (who : Int) (h : H) (o : Op6) : Prop where
  err : err m.cells.length who o = 0
  mem : MOk c owner seq L B (m.step who o)
  le : Le c owner seq m (m.step who o)
  thr : TOk c owner seq L B (m.step who o) (tell c seq (m.told who o).v (m.told who o).s h)
  val : (0 ≤ (m.told who o).v ∧ (m.told who o).v ≤ 18446744073709551615) ∧ 0 ≤ (m.told who o).s
  tr : TrOk c owner seq m → TrOk c owner seq (m.step who o)
  late : rd m (place c 4 owner 0) = (0, seq) → o.k = 2 → (m.told who o).ok = false
  slot : o.k = 1 → (whA c o.a).1 = 3
theorem step_ok {m : M} (J : Job c owner seq L B) (hm : MOk c owner seq L B m) {who : Int} {h : H} (ht : TOk c owner seq L B m h) (hw : 0 ≤ who ∧ who < c.t) (h8 : h.next ≠ 8) : Stp c owner seq L B m who h (op6 (ask c who owner seq h).1) := by
  have hok := J.ok
  have hcap := cap_bd hok
  have ht8 := hok.t8
  obtain ⟨r0, r1, r2, r3, r4, r5, r6, r7, r8, r9, r10, r11, r12⟩ := row hok
  have hLen := J.len
  have hn : h.n ≤ cap c := by have := ht.n; omega
  have i3 := (is_own hok hw).1
  have i4 := (is_own hok J.own).2.1
  have w3 := whA_place hok i3
  have l3 := J.low i3 (by decide)
  have l4 := J.low i4 (by decide)
  have hsz := (size_bd hok).1
  have hlen := hm.len
  have ha := asks (seq := seq) hok hw J.own ht.inv hn h8
  generalize hoo : (ask c who owner seq h).1 = p at ha
  -- a step that turns nothing but perhaps a slot
  have soft : ∀ (p : P6), (ask c who owner seq h).1 = p → (p.k = 0 ∨ (p.k = 1 ∧ p.a = place c 3 who 0 ∧ p.ns = 0 ∧ 0 ≤ p.nv ∧ p.nv ≤ 18446744073709551615)) → 0 ≤ p.a → p.a < size c → (h.next = 3 ∨ p.k = 0) → (h.next = 0 ∨ h.next = 1 ∨ h.next = 2 ∨ h.next = 3 ∨ h.next = 4 ∨ h.next = 5) → Stp c owner seq L B m who h (op6 p) := by
    intro p hp hk h0 h1 hv hr
    have he : C.err m.cells.length who (op6 p) = 0 := err_no (by omega) (by unfold op6; dsimp only; omega) (by unfold op6; dsimp only; omega)
    have hrd : ∀ a, 0 ≤ a → rd (m.step who (op6 p)) a = rd m a ∨ (a = place c 3 who 0 ∧ rd (m.step who (op6 p)) a = (if p.k = 1 then (p.nv, 0) else (0, 0))) := fun a ha => by
      rw [rd_step he ha]
      rcases hk with hk | ⟨hk, hka, hns, _⟩
      · left
        have : becomes (rd m a) (op6 p) = rd m a := by unfold becomes op6; simp [hk]
        rw [this]; simp
      · by_cases e : a = (op6 p).a
        · right
          rw [if_pos e, if_pos hk]
          refine ⟨e.trans hka, ?_⟩
          unfold becomes op6; simp [hk, hns]
        · left; rw [if_neg e]
    have hu : (0 ≤ (if p.k = 1 then (p.nv, (0 : Int)) else (0, 0)).1 ∧ (if p.k = 1 then (p.nv, (0 : Int)) else (0, 0)).1 ≤ 18446744073709551615) ∧ 0 ≤ (if p.k = 1 then (p.nv, (0 : Int)) else (0, 0)).2 := by
      split
      · rename_i hk1
        dsimp only; omega
      · decide
    obtain ⟨hm2, hle⟩ := hm.same J (step_cells _ _ _) (place c 3 who 0) _ ⟨by rw [w3], l3.1⟩ hu hrd
    have hto := told_is (m := m) (who := who) he
    have hval := hm.val (op6 p).a
    have hv0 : (m.told who (op6 p)).v = (rd m (op6 p).a).1 ∧ (m.told who (op6 p)).s = (rd m (op6 p).a).2 := by rw [hto]; exact ⟨rfl, rfl⟩
    refine ⟨he, hm2, hle, ?_, by rw [hv0.1, hv0.2]; exact hval, ?_, ?_, ?_⟩
    · rw [hv0.1, hv0.2]
      refine (TOk.tell J hm ht hw hr _ _ ?_ hval.1.1).le J hle
      rcases hv with hv | hv
      · exact .inl hv
      · exact .inr (by rw [hp]; rfl)
    · intro hT
      refine hT.same he rfl (fun hx => ?_) fun a hx => (hrd a (by omega)).resolve_right fun hy => ?_
      · have := hx.1; unfold op6 at this; dsimp only at this; omega
      · rcases hx with hx | hx
        · omega
        · have := (place_inj hok i3 i4 (hy.1.symm.trans hx)).1
          omega
    · intro _ hx; unfold op6 at hx; dsimp only at hx; omega
    · intro hx
      unfold op6 at hx ⊢
      dsimp only at hx ⊢
      rcases hk with hk | ⟨_, hk, _⟩
      · omega
      · rw [hk, w3]
  cases ha with
  | own kd i k hk hs hnx =>
    have hb := wh_place hok hs
    exact soft _ hoo (.inl rfl) hb.2.1 hb.2.2 (.inr rfl) (by omega)
  | slot hnx hs =>
    have hb := wh_place hok hs
    exact soft _ hoo (.inr ⟨rfl, rfl, rfl, by unfold nameOf; dsimp only; rw [IntKind.wrap_u64]; omega, by unfold nameOf; dsimp only; rw [IntKind.wrap_u64]; omega⟩) hb.2.1 hb.2.2 (.inl hnx) (by omega)
  | load hnx hk =>
    have := (kind_tag hok _).1 hk
    exact soft _ hoo (.inl rfl) (by dsimp only; omega) (by dsimp only; omega) (.inr rfl) (by omega)
  | swap hnx hk =>
    clear soft
    have hll := ht.st2 (by omega)
    have hg := ht.inv.good
    have hk0 := hg.2.2.2.2.1
    have hk2 := hg.2.2.2.2.2 (by omega)
    have hmem : nth h h.k.toNat ∈ L := by rw [← hll]; exact nth_mem (by omega)
    have hE := J.ent _ hmem
    have six := ht.six hnx
    have d6 := ht.dn (by omega)
    have hdn := hm.done J hE.1 hE.2.1
    have hvat : valAt L (nth h h.k.toNat).1 = (nth h h.k.toNat).2 := by
      have hkL : h.k.toNat < L.length := by rw [← hll]; omega
      have e : nth h h.k.toNat = L[h.k.toNat] := by rw [nth_get (by omega)]; exact List.getElem_of_eq hll _
      rw [e]
      refine valAt_first hkL fun j hj => ?_
      have := six.2 j hj
      rw [nth_get (by omega), e] at this
      rwa [List.getElem_of_eq hll] at this
    have htell : ∀ v s, tell c seq v s h = H.entry c h (h.k.toNat + 1) := fun v s => by
      unfold H.tell
      rw [if_neg (by omega), if_neg (by omega), if_neg (by omega), if_neg (by omega), if_neg (by omega), if_neg (by omega), if_pos hnx]
    generalize hee : nth h h.k.toNat = e at *
    have he : C.err m.cells.length who (op6 ⟨2, e.1, h.cv, h.cs, e.2, seq⟩) = 0 := err_no (by omega) (by unfold op6; dsimp only; omega) (by unfold op6; dsimp only; omega)
    have hrd : ∀ a, 0 ≤ a → rd (m.step who (op6 ⟨2, e.1, h.cv, h.cs, e.2, seq⟩)) a = if a = e.1 ∧ rd m e.1 = (h.cv, h.cs) then (e.2, seq) else rd m a := fun a ha => by
      rw [rd_step he ha]
      unfold becomes op6
      dsimp only
      by_cases e1 : a = e.1
      · subst e1
        simp
      · rw [if_neg e1, if_neg (fun h => e1 h.1)]
    have hto := told_is (m := m) (who := who) he
    have hval := hm.val e.1
    have hnT : rd m e.1 = (h.cv, h.cs) → ¬ (rd m e.1).2 = seq := fun hx hy => by
      have := J.old e.1 hE.1 hE.2.1
      rw [← six.1, ← hx] at this
      omega
    have hle : Le c owner seq m (m.step who (op6 ⟨2, e.1, h.cv, h.cs, e.2, seq⟩)) := by
      refine ⟨fun a h1 h2 h3 => ?_, fun hx => ?_⟩
      · rw [hrd a (by omega)]; split
        · rfl
        · exact h3
      · rw [hrd _ l4.1, if_neg (by omega)]; exact hx
    have hself : (rd (m.step who (op6 ⟨2, e.1, h.cv, h.cs, e.2, seq⟩)) e.1).2 = seq := by
      rw [hrd _ (by omega)]
      by_cases hx : rd m e.1 = (h.cv, h.cs)
      · rw [if_pos ⟨rfl, hx⟩]
      · rw [if_neg (fun h => hx h.2)]
        rcases hdn with ⟨h1, _⟩ | h1
        · exact absurd (h1.trans six.1.symm) hx
        · exact h1
    refine ⟨he, ⟨?_, fun a => ?_, fun a h1 h2 => ?_, ?_, fun a h0 h1 h2 h3 => ?_⟩, hle, ?_, by rw [hto]; exact hval, fun hT => ?_, fun hx _ => ?_, fun hx => by simp [op6] at hx⟩
    · rw [step_cells]; exact hm.len
    · by_cases h0 : 0 ≤ a
      · rw [hrd a h0]; split
        · exact ⟨hE.2.2, J.sq⟩
        · exact hm.val a
      · rw [rd_neg (by omega), hrd 0 (by omega)]; split
        · exact ⟨hE.2.2, J.sq⟩
        · exact hm.val 0
    · rw [hrd a (by omega)]; split
      · rename_i hx
        right
        rw [hx.1]
        exact ⟨⟨e, hmem, rfl⟩, by rw [hvat]⟩
      · exact hm.cell a h1 h2
    · rw [hrd _ l4.1, if_neg (by omega)]
      exact hm.opn.imp id fun ⟨x, y⟩ => ⟨x, fun e' he' => hle.dn _ (J.ent e' he').1 (J.ent e' he').2.1 (y e' he')⟩
    · rw [hrd a h0, if_neg (by omega)]; exact hm.rest a h0 h1 h2 h3
    · rw [htell]
      refine TOk.entry J hg ht.n hll _ (by rw [← hll]; omega) fun j hj => ?_
      by_cases hjk : j < h.k.toNat
      · have hmj : nth h j ∈ L := by rw [← hll]; exact nth_mem (by omega)
        exact hle.dn _ (J.ent _ hmj).1 (J.ent _ hmj).2.1 (d6 j hjk)
      · obtain rfl : j = h.k.toNat := by omega
        rw [hee]; exact hself
    · by_cases hx : rd m e.1 = (h.cv, h.cs)
      · refine hT.turn he rfl rfl (by rw [hto]; unfold outOf op6; simp [hx]) ?_ (.inl ⟨hE.1, hE.2.1, hself⟩) fun a hne hr => ?_
        · rintro (⟨_, _, hy⟩ | ⟨hy, _⟩)
          · exact hnT hx hy
          · unfold op6 at hy; dsimp only at hy; omega
        · rw [hrd a (by omega), if_neg (fun h => hne h.1)]
      · refine hT.same he rfl (fun hy => ?_) fun a hr => ?_
        · have := hy.2
          rw [hto] at this
          unfold outOf op6 at this
          simp [hx] at this
        · rw [hrd a (by omega), if_neg (fun h => hx h.2)]
    · have hal : (rd m e.1).2 = seq := by
        rcases hm.opn with h1 | h1
        · rw [h1] at hx; simp at hx
        · exact h1.2 e hmem
      have hx2 : ¬ rd m e.1 = (h.cv, h.cs) := fun hy => hnT hy hal
      rw [hto]
      unfold outOf op6
      simp [hx2]
  | shut hnx hs =>
    clear soft
    have hll := ht.st2 (by omega)
    have hb := wh_place hok hs
    have he : C.err m.cells.length who (op6 ⟨2, place c 4 owner 0, 1, seq, 0, seq⟩) = 0 := err_no (by omega) (by unfold op6; dsimp only; omega) (by unfold op6; dsimp only; omega)
    have hrd : ∀ a, 0 ≤ a → rd (m.step who (op6 ⟨2, place c 4 owner 0, 1, seq, 0, seq⟩)) a = if a = place c 4 owner 0 then (0, seq) else rd m a := fun a ha => by
      rw [rd_step he ha]
      unfold becomes op6
      dsimp only
      by_cases e1 : a = place c 4 owner 0
      · rw [if_pos e1, if_pos e1, e1]
        rcases hm.opn with hx | ⟨hx, _⟩
        · rw [hx]; simp
        · rw [hx]; simp
      · rw [if_neg e1, if_neg e1]
    have hto := told_is (m := m) (who := who) he
    have hval := hm.val (place c 4 owner 0)
    have hself : rd (m.step who (op6 ⟨2, place c 4 owner 0, 1, seq, 0, seq⟩)) (place c 4 owner 0) = (0, seq) := by rw [hrd _ l4.1, if_pos rfl]
    have hle : Le c owner seq m (m.step who (op6 ⟨2, place c 4 owner 0, 1, seq, 0, seq⟩)) := ⟨fun a h1 h2 h3 => by rw [hrd a (by omega), if_neg (by omega)]; exact h3, fun _ => hself⟩
    have hall := ht.all hnx
    refine ⟨he, ⟨?_, fun a => ?_, fun a h1 h2 => ?_, .inr ⟨hself, fun e' he' => hle.dn _ (J.ent e' he').1 (J.ent e' he').2.1 (hall e' he')⟩, fun a h0 h1 h2 h3 => ?_⟩, hle, ?_, by rw [hto]; exact hval, fun hT => ?_, fun hx _ => ?_, fun hx => by simp [op6] at hx⟩
    · rw [step_cells]; exact hm.len
    · by_cases h0 : 0 ≤ a
      · rw [hrd a h0]; split
        · exact ⟨⟨by simp, by simp⟩, J.sq⟩
        · exact hm.val a
      · rw [rd_neg (by omega), hrd 0 (by omega)]; split
        · exact ⟨⟨by simp, by simp⟩, J.sq⟩
        · exact hm.val 0
    · rw [hrd a (by omega), if_neg (by omega)]; exact hm.cell a h1 h2
    · rw [hrd a h0, if_neg h3]; exact hm.rest a h0 h1 h2 h3
    · have hi2 := tell_inv hok (seq := seq) ht.inv (m.told who (op6 ⟨2, place c 4 owner 0, 1, seq, 0, seq⟩)).v (m.told who (op6 ⟨2, place c 4 owner 0, 1, seq, 0, seq⟩)).s (by rw [hto]; exact hval.1.1)
      unfold H.tell at hi2 ⊢
      rw [if_neg (by omega), if_neg (by omega), if_neg (by omega), if_neg (by omega), if_neg (by omega), if_neg (by omega), if_neg (by omega), if_pos hnx] at hi2 ⊢
      exact ⟨hi2, ht.n, by simp, fun _ => hll, by simp, by simp, by simp, fun _ => hself⟩
    · rcases hm.opn with hx | ⟨hx, _⟩
      · refine hT.turn he rfl rfl (by rw [hto]; unfold outOf op6; simp [hx]) ?_ (.inr ⟨rfl, hself⟩) fun a hne hr => ?_
        · rintro (⟨hy, _⟩ | ⟨_, hy⟩)
          · unfold op6 at hy; dsimp only at hy; omega
          · have hy2 : rd m (place c 4 owner 0) = (0, seq) := hy
            rw [hx] at hy2; simp at hy2
        · rw [hrd a (by omega), if_neg (show ¬ a = place c 4 owner 0 from hne)]
      · refine hT.same he rfl (fun hy => ?_) fun a hr => ?_
        · have := hy.2
          rw [hto] at this
          unfold outOf op6 at this
          simp [hx] at this
        · rw [hrd a (by omega)]; split
          · rename_i e1; rw [e1, hx]
          · rfl
    · rw [hto]
      unfold outOf op6
      simp [hx]
end
end Go.Tum.H
namespace Go.Tum.H
open Go.Tum.Y Go.Tum.Sc Go.Tum.C Go.Proofs.Ytccioehckfdjdaa
/-! ### how it begins -/
def Small (l : List (Int × Int)) : Prop := ∀ i, (0 ≤ (l.getD i (0, 0)).1 ∧ (l.getD i (0, 0)).1 ≤ 18446744073709551615) ∧ 0 ≤ (l.getD i (0, 0)).2 ∧ (1 ≤ i → (l.getD i (0, 0)).2 = 0)
theorem Small.set {l : List (Int × Int)} (h : Small l) (k : Nat) (u v : Int) (hu : 0 ≤ u ∧ u ≤ 18446744073709551615) (hv : 0 ≤ v) (hk : 1 ≤ k → v = 0) : Small (l.set k (u, v)) := by
  intro i
  have hi := h i
  simp only [List.getD_eq_getElem?_getD] at *
  by_cases e : k = i
  · subst e
    by_cases hl : k < l.length
    · rw [List.getElem?_set_self hl]
      exact ⟨hu, hv, hk⟩
    · rw [List.getElem?_eq_none (by simp; omega)]
      simp
  · rw [List.getElem?_set_ne e]; exact hi
theorem boot_small {c : Cfg} (hok : Ok c) (hf : 0 ≤ c.fi) : ∀ k : Nat, (k : Int) ≤ c.b → Small (bootK c k)
  | 0, _ => by
    have h0 : Small (List.replicate (size c).toNat ((0 : Int), (0 : Int))) := fun i => by
      simp only [List.getD_eq_getElem?_getD, List.getElem?_replicate]
      split <;> simp
    have hb := hok.b1; have hb2 := hok.b64
    unfold bootK bootB
    exact (h0.set 0 0 c.fi (by omega) hf (by omega)).set _ _ _ (by omega) (by omega) (fun _ => rfl)
  | k + 1, hk => by
    have hb2 := hok.b64
    unfold bootK
    exact (boot_small hok hf k (by omega)).set _ _ _ (by omega) (by omega) (fun _ => rfl)
theorem rd_put {m : M} {a b : Int} {u : Int × Int} (ha : 0 ≤ a ∧ a < m.cells.length) (hb : 0 ≤ b) : rd (M.put m a u) b = if b = a then u else rd m b := by
  unfold rd M.put M.at
  rw [if_pos ha]
  simp only [List.getD_eq_getElem?_getD]
  by_cases e : b = a
  · subst e
    rw [if_pos rfl, List.getElem?_set_self (by omega)]; rfl
  · rw [if_neg e, List.getElem?_set_ne (by omega)]
theorem put_len (m : M) (a : Int) (u : Int × Int) : (M.put m a u).cells.length = m.cells.length := by unfold M.put; split <;> simp
theorem put_tr (m : M) (a : Int) (u : Int × Int) : (M.put m a u).trace = m.trace := by unfold M.put; split <;> rfl
section
variable {c : Cfg} {owner seq : Int} {L : List (Int × Int)}
theorem boot_len (c : Cfg) : (bootM c).cells.length = (size c).toNat := bootK_len c _
theorem logM_len (c : Cfg) (owner : Int) (L : List (Int × Int)) : ∀ k, (logM c owner L k).cells.length = (size c).toNat
  | 0 => boot_len c
  | k + 1 => by unfold logM; rw [put_len]; exact logM_len c owner L k
theorem logM_tr (c : Cfg) (owner : Int) (L : List (Int × Int)) : ∀ k, (logM c owner L k).trace = []
  | 0 => rfl
  | k + 1 => by unfold logM; rw [put_tr]; exact logM_tr c owner L k
theorem laid_tr (c : Cfg) (owner seq : Int) (L : List (Int × Int)) : (laidM c owner seq L).trace = [] := by unfold laidM; rw [put_tr, put_tr]; exact logM_tr c owner L _
theorem laid_len (c : Cfg) (owner seq : Int) (L : List (Int × Int)) : (laidM c owner seq L).cells.length = (size c).toNat := by unfold laidM; rw [put_len, put_len]; exact logM_len c owner L _
theorem logM_rd (hok : Ok c) (ho : 0 ≤ owner ∧ owner < c.t) (hl : (L.length : Int) ≤ cap c) : ∀ k, k ≤ L.length → ∀ b, 0 ≤ b →
    rd (logM c owner L k) b = rd (bootM c) b ∨ ∃ j, j < k ∧ b = place c 6 owner j ∧ rd (logM c owner L k) b = ((L.getD j (0, 0)).2, IntKind.u64.wrap (L.getD j (0, 0)).1)
  | 0, _, b, _ => .inl rfl
  | k + 1, hk, b, hb => by
    have i6 : Is c 6 owner k := is_log hok ho (by omega)
    have hw := wh_place hok i6
    have ih := logM_rd hok ho hl k (by omega) b hb
    unfold logM
    rw [at_is i6, rd_put (by rw [logM_len]; omega) hb]
    by_cases e : b = place c 6 owner k
    · rw [if_pos e]
      exact .inr ⟨k, by omega, e, rfl⟩
    · rw [if_neg e]
      refine ih.imp id fun ⟨j, hj, h1, h2⟩ => ⟨j, by omega, h1, h2⟩
theorem logM_at (hok : Ok c) (ho : 0 ≤ owner ∧ owner < c.t) (hl : (L.length : Int) ≤ cap c) : ∀ k, k ≤ L.length → ∀ j, j < k → rd (logM c owner L k) (place c 6 owner j) = ((L.getD j (0, 0)).2, IntKind.u64.wrap (L.getD j (0, 0)).1)
  | 0, _, j, hj => by omega
  | k + 1, hk, j, hj => by
    have i6 : Is c 6 owner k := is_log hok ho (by omega)
    have i6j : Is c 6 owner j := is_log hok ho (by omega)
    have hw := wh_place hok i6
    have hwj := wh_place hok i6j
    unfold logM
    rw [at_is i6, rd_put (by rw [logM_len]; omega) hwj.2.1]
    by_cases e : place c 6 owner j = place c 6 owner k
    · rw [if_pos e]
      have := (place_inj hok i6j i6 e).2.2
      obtain rfl : j = k := by omega
      rfl
    · rw [if_neg e]
      refine logM_at hok ho hl k (by omega) j ?_
      by_cases e2 : j = k
      · subst e2; exact absurd rfl e
      · omega
structure Right (c : Cfg) (L : List (Int × Int)) : Prop where
  len : (L.length : Int) ≤ cap c
  ent : ∀ e ∈ L, fTag c ≤ e.1 ∧ e.1 < size c ∧ 0 ≤ e.2 ∧ e.2 ≤ 18446744073709551615
theorem laid_rd (hok : Ok c) (ho : 0 ≤ owner ∧ owner < c.t) (b : Int) (hb : 0 ≤ b) : rd (laidM c owner seq L) b = if b = place c 4 owner 0 then (1, seq) else if b = place c 5 owner 0 then ((L.length : Int), 0) else rd (logM c owner L L.length) b := by
  have i4 := (is_own hok ho).2.1
  have i5 := (is_own hok ho).2.2
  have h4 := wh_place hok i4
  have h5 := wh_place hok i5
  unfold laidM
  rw [at_is i4, at_is i5, rd_put (by rw [put_len, logM_len]; omega) hb]
  split
  · rfl
  · rw [rd_put (by rw [logM_len]; omega) hb]
theorem laid_bd (hok : Ok c) (hf : 0 ≤ c.fi) (ho : 0 ≤ owner ∧ owner < c.t) (hr : Right c L) (hs : 0 ≤ seq) (b : Int) (hb : 0 ≤ b) : ((0 ≤ (rd (laidM c owner seq L) b).1 ∧ (rd (laidM c owner seq L) b).1 ≤ 18446744073709551615) ∧ 0 ≤ (rd (laidM c owner seq L) b).2) ∧ (fTag c ≤ b → (rd (laidM c owner seq L) b).2 = 0) := by
  have hcap := cap_bd hok
  have hlen := hr.len
  have hT := (bds hok).tag
  have hb1 := hok.b1
  have own7 : ∀ kd i k, kd < 7 → Is c kd i k → place c kd i k < fTag c := fun kd i k hk hi => by
    have h1 := (wh_place hok hi).2.2
    have h3 := kind_tag hok (place c kd i k)
    rw [whA_place hok hi] at h3
    dsimp only at h3
    omega
  rw [laid_rd hok ho b hb]
  by_cases e4 : b = place c 4 owner 0
  · rw [if_pos e4]
    have := own7 4 owner 0 (by decide) (is_own hok ho).2.1
    exact ⟨⟨by simp, hs⟩, fun h => by omega⟩
  rw [if_neg e4]
  by_cases e5 : b = place c 5 owner 0
  · rw [if_pos e5]
    have := own7 5 owner 0 (by decide) (is_own hok ho).2.2
    exact ⟨⟨by dsimp only; omega, by simp⟩, fun h => by omega⟩
  rw [if_neg e5]
  have hsm := boot_small hok hf c.b.toNat (by omega) b.toNat
  have ebt : rd (bootM c) b = (bootK c c.b.toNat).getD b.toNat (0, 0) := rfl
  rw [← ebt] at hsm
  rcases logM_rd hok ho hr.len L.length (Nat.le_refl _) b hb with e | ⟨j, hj, e1, e2⟩
  · rw [e]
    exact ⟨⟨hsm.1, hsm.2.1⟩, fun h => hsm.2.2 (by omega)⟩
  · rw [e2]
    have hm : L.getD j (0, 0) ∈ L := by
      simp only [List.getD_eq_getElem?_getD, List.getElem?_eq_getElem hj, Option.getD_some]
      exact List.getElem_mem hj
    have := hr.ent _ hm
    have h6 := own7 6 owner j (by decide) (is_log hok ho (by omega))
    refine ⟨⟨this.2.2, by rw [IntKind.wrap_u64]; dsimp only; omega⟩, fun h => by omega⟩
theorem laid_job (hok : Ok c) (hf : 0 ≤ c.fi) (ho : 0 ≤ owner ∧ owner < c.t) (hr : Right c L) (hs : 1 ≤ seq) : Job c owner seq L (laidM c owner seq L) := by
  have hsz := size_bd hok
  have i4 := (is_own hok ho).2.1
  have i5 := (is_own hok ho).2.2
  have hlen := hr.len
  have hT := (bds hok).tag
  refine ⟨hok, ho, hr.len, hr.ent, by omega, fun a h1 h2 => ?_, fun k hk => ?_, ?_⟩
  · rw [(laid_bd hok hf ho hr (by omega) a (by omega)).2 h1]; omega
  · have i6 : Is c 6 owner k := is_log hok ho (by omega)
    rw [laid_rd hok ho _ (wh_place hok i6).2.1, if_neg (fun e => by have := (place_inj hok i6 i4 e).1; omega), if_neg (fun e => by have := (place_inj hok i6 i5 e).1; omega), logM_at hok ho hr.len _ (Nat.le_refl _) k hk]
    have e : L.getD k (0, 0) = L[k] := by simp only [List.getD_eq_getElem?_getD, List.getElem?_eq_getElem hk, Option.getD_some]
    have := hr.ent _ (List.getElem_mem hk)
    rw [e, IntKind.wrap_u64]
    congr 1; omega
  · rw [laid_rd hok ho _ (wh_place hok i5).2.1, if_neg (fun e => by have := (place_inj hok i5 i4 e).1; omega), if_pos rfl]
theorem laid_mok (hok : Ok c) (hf : 0 ≤ c.fi) (ho : 0 ≤ owner ∧ owner < c.t) (hr : Right c L) (hs : 1 ≤ seq) {m : M} (hl : m.cells.length = (size c).toNat) (hrd : ∀ a, 0 ≤ a → rd m a = rd (laidM c owner seq L) a) : MOk c owner seq L (laidM c owner seq L) m := by
  have i4 := (is_own hok ho).2.1
  have hT := (bds hok).tag
  refine ⟨hl, fun a => ?_, fun a h1 h2 => .inl (hrd a (by omega)), .inl ?_, fun a h0 _ _ _ => hrd a h0⟩
  · by_cases h0 : 0 ≤ a
    · rw [hrd a h0]; exact (laid_bd hok hf ho hr (by omega) a h0).1
    · rw [rd_neg (by omega), hrd 0 (by omega)]; exact (laid_bd hok hf ho hr (by omega) 0 (by omega)).1
  · rw [hrd _ (wh_place hok i4).2.1, laid_rd hok ho _ (wh_place hok i4).2.1, if_pos rfl]
theorem laid_trok (hok : Ok c) (hf : 0 ≤ c.fi) (ho : 0 ≤ owner ∧ owner < c.t) (hr : Right c L) (hs : 1 ≤ seq) : TrOk c owner seq (laidM c owner seq L) := by
  have i4 := (is_own hok ho).2.1
  have hT := (bds hok).tag
  intro a
  have h0 : swapsAt (laidM c owner seq L).trace a = 0 := by rw [laid_tr]; rfl
  refine ⟨fun h => ?_, fun _ => h0⟩
  rcases h with ⟨h1, h2, h3⟩ | ⟨h1, h2⟩
  · rw [(laid_bd hok hf ho hr (by omega) a (by omega)).2 h1] at h3; omega
  · rw [h1, laid_rd hok ho _ (wh_place hok i4).2.1, if_pos rfl] at h2
    simp at h2
variable {B : M}
theorem tok_new (J : Job c owner seq L B) (m : M) : TOk c owner seq L B m Go.Proofs.Ytccioehckfdjdaa.H.hNew :=
  ⟨Go.Proofs.Ytccioehckfdjdaa.H.inv_new c, .inl rfl, by simp [Go.Proofs.Ytccioehckfdjdaa.H.hNew], by simp [Go.Proofs.Ytccioehckfdjdaa.H.hNew], by simp [Go.Proofs.Ytccioehckfdjdaa.H.hNew], by simp [Go.Proofs.Ytccioehckfdjdaa.H.hNew], by simp [Go.Proofs.Ytccioehckfdjdaa.H.hNew], by simp [Go.Proofs.Ytccioehckfdjdaa.H.hNew]⟩
theorem tok_own (J : Job c owner seq L B) (m : M) : TOk c owner seq L B m (Go.Proofs.Ytccioehckfdjdaa.H.hOwn c L) := by
  have := J.len; have := cap_bd J.ok
  exact TOk.entry (h := ⟨L, 0, 0, -1, 0, 0, 0⟩) J ⟨Int.le_refl 0, by simp, by simp, by dsimp only; omega, Int.le_refl 0, by simp⟩ (.inl rfl) rfl 0 (Nat.zero_le _) (by simp)
/-! ### how many steps -/
def ms (L : List (Int × Int)) (h : H) : Int := if h.next = 0 then 5 * L.length + 3 else left h
theorem TOk.pos {m : M} {h : H} (ht : TOk c owner seq L B m h) (h8 : h.next ≠ 8) : 1 ≤ ms L h := by
  obtain ⟨⟨hg, hr, he, hn⟩, t2, t4, t5, _⟩ := ht
  obtain ⟨a1, a2, a3, a4, a5, a6⟩ := hg
  unfold ms left
  by_cases h0 : h.next = 0
  · rw [if_pos h0]; omega
  rw [if_neg h0]
  repeat (first | (split <;> rename_i hx) | omega)
theorem TOk.nn {m : M} {h : H} (ht : TOk c owner seq L B m h) : 0 ≤ ms L h := by
  by_cases h8 : h.next = 8
  · simp [ms, left, h8]
  · have := ht.pos h8; omega
theorem TOk.most {m : M} {h : H} (ht : TOk c owner seq L B m h) : ms L h ≤ 5 * L.length + 3 := by
  obtain ⟨⟨hg, hr, he, hn⟩, t2, t4, t5, _⟩ := ht
  obtain ⟨a1, a2, a3, a4, a5, a6⟩ := hg
  unfold ms left
  by_cases h0 : h.next = 0
  · rw [if_pos h0]; omega
  rw [if_neg h0]
  by_cases h1 : h.next = 1
  · rw [if_pos h1]; have := (t4 h1).1; omega
  have := t5 (by omega)
  rw [this] at a4 a6 ⊢
  repeat (first | (split <;> rename_i hx) | omega)
theorem unl_left2 (is : Bool) (h : H) (b : Int) (h0 : 0 ≤ b) (h1 : left h ≤ b) : left (unl is h) ≤ b := by
  unfold unl
  cases is
  · simp [left]; exact h0
  · exact h1
theorem entry_not0 (c : Cfg) (h : H) (k : Nat) : (entry c h k).next ≠ 0 := by
  have h1 : ∀ g k, (entryG c h g k).next ≠ 0 := fun g => by
    induction g with
    | zero => intro k; simp [entryG]
    | succ g ih => intro k; unfold entryG; split; exact ih _; dsimp only; split <;> decide
  exact h1 _ _
theorem ms_down {m : M} {h : H} (J : Job c owner seq L B) (ht : TOk c owner seq L B m h) (h8 : h.next ≠ 8) (v s : Int) (hv : h.next = 0 → v = L.length) : ms L (tell c seq v s h) < ms L h := by
  have hcap := cap_bd J.ok
  have hLen := J.len
  obtain ⟨⟨hg, hr, he, hn⟩, t2, t4, t5, _⟩ := id ht
  obtain ⟨a1, a2, a3, a4, a5, a6⟩ := id hg
  have ent : ∀ (h : H) k, k ≤ h.list.length → ms L (entry c h k) ≤ 4 * (h.list.length - k) + 1 := fun h k hk => by
    unfold ms; rw [if_neg (entry_not0 c h k)]; exact entry_left c h k hk
  unfold H.tell
  by_cases h0 : h.next = 0
  · rw [if_pos h0]
    have hl := hn h0
    have hv := hv h0
    have hmin : min v (cap c) = L.length := by omega
    rw [hmin]
    unfold ms read
    rw [if_pos h0, if_neg (by dsimp only; split <;> decide), hl]
    unfold left
    dsimp only
    split <;> (simp <;> omega)
  rw [if_neg h0]
  by_cases h1 : h.next = 1
  · rw [if_pos h1]
    have hl := a3 h1
    have hn1 := (t4 h1).1
    unfold ms read
    rw [if_neg (by dsimp only; split <;> decide), if_neg h0]
    unfold left
    rw [if_pos h1]
    dsimp only
    split <;> (simp <;> omega)
  rw [if_neg h1]
  have hlL := t5 (by omega)
  by_cases h2 : h.next = 2
  · rw [if_pos h2]
    have e := ent h 0 (Nat.zero_le _)
    have hm : ms L h = 4 * h.list.length + 2 := by unfold ms left; rw [if_neg h0, if_neg h1, if_pos h2]
    generalize decide (v = 1 ∧ s = seq) = is
    cases is
    · have e2 : ms L (unl false (entry c h 0)) = 0 := by simp [unl, ms, left]
      omega
    · show ms L (entry c h 0) < _
      omega
  rw [if_neg h2]
  by_cases h3 : h.next = 3
  · rw [if_pos h3]
    have hk := a6 (.inl h3)
    simp [ms, left, h3] <;> omega
  rw [if_neg h3]
  by_cases h4 : h.next = 4
  · rw [if_pos h4]
    have hk := a6 (.inr (.inl h4))
    generalize decide (v = 1 ∧ s = seq) = is
    cases is <;> (simp [ms, left, h4, unl] <;> omega)
  rw [if_neg h4]
  by_cases h5 : h.next = 5
  · rw [if_pos h5]
    have hk := a6 (.inr (.inr (.inl h5)))
    have hm : ms L h = 4 * (h.list.length - h.k) - 1 := by simp [ms, left, h5]
    split
    · have := ent { h with cv := v, cs := s, next := 6 } (h.k.toNat + 1) (by dsimp only; omega)
      dsimp only at this
      omega
    · rw [hm]; simp [ms, left] <;> omega
  rw [if_neg h5]
  have h67 : h.next = 6 ∨ h.next = 7 := by omega
  rcases h67 with h6 | h7
  · rw [if_pos h6]
    have hk := a6 (.inr (.inr (.inr h6)))
    have := ent h (h.k.toNat + 1) (by omega)
    have hm : ms L h = 4 * (h.list.length - h.k) - 2 := by simp [ms, left, h6]
    omega
  · rw [if_neg (by omega), if_pos h7]
    simp [ms, left, h7]
theorem Stp.down {m : M} {h : H} {who : Int} (J : Job c owner seq L B) (hm : MOk c owner seq L B m) (ht : TOk c owner seq L B m h) (h8 : h.next ≠ 8) (S : Stp c owner seq L B m who h (op6 (ask c who owner seq h).1)) :
    ms L (tell c seq (m.told who (op6 (ask c who owner seq h).1)).v (m.told who (op6 (ask c who owner seq h).1)).s h) < ms L h := by
  refine ms_down J ht h8 _ _ fun h0 => ?_
  have i4 := (is_own J.ok J.own).2.1
  have i5 := (is_own J.ok J.own).2.2
  rw [told_is S.err]
  have e : (ask c who owner seq h).1 = ⟨0, place c 5 owner 0, 0, 0, 0, 0⟩ := by unfold ask; rw [if_pos h0, at_is i5]
  rw [e]
  show (rd m (place c 5 owner 0)).1 = _
  have lo := J.low i5 (by decide)
  rw [hm.rest (place c 5 owner 0) lo.1 lo.2 (by rw [whA_place J.ok i5]; dsimp only; omega) (fun e => by have := (place_inj J.ok i5 i4 e).1; omega), J.lenc]
end
end Go.Tum.H
