/- A transaction that several threads do: how it begins, how many steps it takes, how it ends; plain. -/
import Derived.Test.YtccioehckfdjdaaHpar
set_option linter.unusedSimpArgs false
set_option linter.unusedVariables false
namespace Go.Tum.H
open Go.Tum.Y Go.Tum.Sc Go.Tum.C Go.Proofs.Ytccioehckfdjdaa
/-! ### how it begins -/
def Small (l : List (Int × Int)) : Prop := ∀ i, (0 ≤ (l.getD i (0, 0)).1 ∧ (l.getD i (0, 0)).1 ≤ 18446744073709551615) ∧ 0 ≤ (l.getD i (0, 0)).2 ∧ (1 ≤ i → (l.getD i (0, 0)).2 = 0)
theorem Small.set {l : List (Int × Int)} (h : Small l) (k : Nat) (u v : Int) (hu : 0 ≤ u ∧ u ≤ 18446744073709551615) (hv : 0 ≤ v) (hk : 1 ≤ k → v = 0) : Small (l.set k (u, v)) := by
  intro i
  have hi := h i
  simp only [List.getD_eq_getElem?_getD] at *
  by_cases e : k = i
  · subst e
    by_cases hl : k < l.length
    · rw [List.getElem?_set_self hl]
      exact ⟨hu, hv, hk⟩
    · rw [List.getElem?_eq_none (by simp; omega)]
      simp
  · rw [List.getElem?_set_ne e]; exact hi
theorem boot_small {c : Cfg} (hok : Ok c) (hf : 0 ≤ c.fi) : ∀ k : Nat, (k : Int) ≤ c.b → Small (bootK c k)
  | 0, _ => by
    have h0 : Small (List.replicate (size c).toNat ((0 : Int), (0 : Int))) := fun i => by
      simp only [List.getD_eq_getElem?_getD, List.getElem?_replicate]
      split <;> simp
    have hb := hok.b1; have hb2 := hok.b64
    unfold bootK bootB
    exact (h0.set 0 0 c.fi (by omega) hf (by omega)).set _ _ _ (by omega) (by omega) (fun _ => rfl)
  | k + 1, hk => by
    have hb2 := hok.b64
    unfold bootK
    exact (boot_small hok hf k (by omega)).set _ _ _ (by omega) (by omega) (fun _ => rfl)
theorem rd_put {m : M} {a b : Int} {u : Int × Int} (ha : 0 ≤ a ∧ a < m.cells.length) (hb : 0 ≤ b) : rd (M.put m a u) b = if b = a then u else rd m b := by
  unfold rd M.put M.at
  rw [if_pos ha]
  simp only [List.getD_eq_getElem?_getD]
  by_cases e : b = a
  · subst e
    rw [if_pos rfl, List.getElem?_set_self (by omega)]; rfl
  · rw [if_neg e, List.getElem?_set_ne (by omega)]
theorem put_len (m : M) (a : Int) (u : Int × Int) : (M.put m a u).cells.length = m.cells.length := by unfold M.put; split <;> simp
theorem put_tr (m : M) (a : Int) (u : Int × Int) : (M.put m a u).trace = m.trace := by unfold M.put; split <;> rfl
section
variable {c : Cfg} {owner seq : Int} {L : List (Int × Int)}
theorem boot_len (c : Cfg) : (bootM c).cells.length = (size c).toNat := bootK_len c _
theorem logM_len (c : Cfg) (owner : Int) (L : List (Int × Int)) : ∀ k, (logM c owner L k).cells.length = (size c).toNat
  | 0 => boot_len c
  | k + 1 => by unfold logM; rw [put_len]; exact logM_len c owner L k
theorem logM_tr (c : Cfg) (owner : Int) (L : List (Int × Int)) : ∀ k, (logM c owner L k).trace = []
  | 0 => rfl
  | k + 1 => by unfold logM; rw [put_tr]; exact logM_tr c owner L k
theorem laid_tr (c : Cfg) (owner seq : Int) (L : List (Int × Int)) : (laidM c owner seq L).trace = [] := by unfold laidM; rw [put_tr, put_tr]; exact logM_tr c owner L _
theorem laid_len (c : Cfg) (owner seq : Int) (L : List (Int × Int)) : (laidM c owner seq L).cells.length = (size c).toNat := by unfold laidM; rw [put_len, put_len]; exact logM_len c owner L _
theorem logM_rd (hok : Ok c) (ho : 0 ≤ owner ∧ owner < c.t) (hl : (L.length : Int) ≤ cap c) : ∀ k, k ≤ L.length → ∀ b, 0 ≤ b →
    rd (logM c owner L k) b = rd (bootM c) b ∨ ∃ j, j < k ∧ b = place c 6 owner j ∧ rd (logM c owner L k) b = ((L.getD j (0, 0)).2, IntKind.u64.wrap (L.getD j (0, 0)).1)
  | 0, _, b, _ => .inl rfl
  | k + 1, hk, b, hb => by
    have i6 : Is c 6 owner k := is_log hok ho (by omega)
    have hw := wh_place hok i6
    have ih := logM_rd hok ho hl k (by omega) b hb
    unfold logM
    rw [at_is i6, rd_put (by rw [logM_len]; omega) hb]
    by_cases e : b = place c 6 owner k
    · rw [if_pos e]
      exact .inr ⟨k, by omega, e, rfl⟩
    · rw [if_neg e]
      refine ih.imp id fun ⟨j, hj, h1, h2⟩ => ⟨j, by omega, h1, h2⟩
theorem logM_at (hok : Ok c) (ho : 0 ≤ owner ∧ owner < c.t) (hl : (L.length : Int) ≤ cap c) : ∀ k, k ≤ L.length → ∀ j, j < k → rd (logM c owner L k) (place c 6 owner j) = ((L.getD j (0, 0)).2, IntKind.u64.wrap (L.getD j (0, 0)).1)
  | 0, _, j, hj => by omega
  | k + 1, hk, j, hj => by
    have i6 : Is c 6 owner k := is_log hok ho (by omega)
    have i6j : Is c 6 owner j := is_log hok ho (by omega)
    have hw := wh_place hok i6
    have hwj := wh_place hok i6j
    unfold logM
    rw [at_is i6, rd_put (by rw [logM_len]; omega) hwj.2.1]
    by_cases e : place c 6 owner j = place c 6 owner k
    · rw [if_pos e]
      have := (place_inj hok i6j i6 e).2.2
      obtain rfl : j = k := by omega
      rfl
    · rw [if_neg e]
      refine logM_at hok ho hl k (by omega) j ?_
      by_cases e2 : j = k
      · subst e2; exact absurd rfl e
      · omega
structure Right (c : Cfg) (L : List (Int × Int)) : Prop where
  len : (L.length : Int) ≤ cap c
  ent : ∀ e ∈ L, fTag c ≤ e.1 ∧ e.1 < size c ∧ 0 ≤ e.2 ∧ e.2 ≤ 18446744073709551615
theorem laid_rd (hok : Ok c) (ho : 0 ≤ owner ∧ owner < c.t) (b : Int) (hb : 0 ≤ b) : rd (laidM c owner seq L) b = if b = place c 4 owner 0 then (1, seq) else if b = place c 5 owner 0 then ((L.length : Int), 0) else rd (logM c owner L L.length) b := by
  have i4 := (is_own hok ho).2.1
  have i5 := (is_own hok ho).2.2
  have h4 := wh_place hok i4
  have h5 := wh_place hok i5
  unfold laidM
  rw [at_is i4, at_is i5, rd_put (by rw [put_len, logM_len]; omega) hb]
  split
  · rfl
  · rw [rd_put (by rw [logM_len]; omega) hb]
theorem laid_bd (hok : Ok c) (hf : 0 ≤ c.fi) (ho : 0 ≤ owner ∧ owner < c.t) (hr : Right c L) (hs : 0 ≤ seq) (b : Int) (hb : 0 ≤ b) : ((0 ≤ (rd (laidM c owner seq L) b).1 ∧ (rd (laidM c owner seq L) b).1 ≤ 18446744073709551615) ∧ 0 ≤ (rd (laidM c owner seq L) b).2) ∧ (fTag c ≤ b → (rd (laidM c owner seq L) b).2 = 0) := by
  have hcap := cap_bd hok
  have hlen := hr.len
  have hT := (bds hok).tag
  have hb1 := hok.b1
  have own7 : ∀ kd i k, kd < 7 → Is c kd i k → place c kd i k < fTag c := fun kd i k hk hi => by
    have h1 := (wh_place hok hi).2.2
    have h3 := kind_tag hok (place c kd i k)
    rw [whA_place hok hi] at h3
    dsimp only at h3
    omega
  rw [laid_rd hok ho b hb]
  by_cases e4 : b = place c 4 owner 0
  · rw [if_pos e4]
    have := own7 4 owner 0 (by decide) (is_own hok ho).2.1
    exact ⟨⟨by simp, hs⟩, fun h => by omega⟩
  rw [if_neg e4]
  by_cases e5 : b = place c 5 owner 0
  · rw [if_pos e5]
    have := own7 5 owner 0 (by decide) (is_own hok ho).2.2
    exact ⟨⟨by dsimp only; omega, by simp⟩, fun h => by omega⟩
  rw [if_neg e5]
  have hsm := boot_small hok hf c.b.toNat (by omega) b.toNat
  have ebt : rd (bootM c) b = (bootK c c.b.toNat).getD b.toNat (0, 0) := rfl
  rw [← ebt] at hsm
  rcases logM_rd hok ho hr.len L.length (Nat.le_refl _) b hb with e | ⟨j, hj, e1, e2⟩
  · rw [e]
    exact ⟨⟨hsm.1, hsm.2.1⟩, fun h => hsm.2.2 (by omega)⟩
  · rw [e2]
    have hm : L.getD j (0, 0) ∈ L := by
      simp only [List.getD_eq_getElem?_getD, List.getElem?_eq_getElem hj, Option.getD_some]
      exact List.getElem_mem hj
    have := hr.ent _ hm
    have h6 := own7 6 owner j (by decide) (is_log hok ho (by omega))
    refine ⟨⟨this.2.2, by rw [IntKind.wrap_u64]; dsimp only; omega⟩, fun h => by omega⟩
theorem laid_job (hok : Ok c) (hf : 0 ≤ c.fi) (ho : 0 ≤ owner ∧ owner < c.t) (hr : Right c L) (hs : 1 ≤ seq) : Job c owner seq L (laidM c owner seq L) := by
  have hsz := size_bd hok
  have i4 := (is_own hok ho).2.1
  have i5 := (is_own hok ho).2.2
  have hlen := hr.len
  have hT := (bds hok).tag
  refine ⟨hok, ho, hr.len, hr.ent, by omega, fun a h1 h2 => ?_, fun k hk => ?_, ?_⟩
  · rw [(laid_bd hok hf ho hr (by omega) a (by omega)).2 h1]; omega
  · have i6 : Is c 6 owner k := is_log hok ho (by omega)
    rw [laid_rd hok ho _ (wh_place hok i6).2.1, if_neg (fun e => by have := (place_inj hok i6 i4 e).1; omega), if_neg (fun e => by have := (place_inj hok i6 i5 e).1; omega), logM_at hok ho hr.len _ (Nat.le_refl _) k hk]
    have e : L.getD k (0, 0) = L[k] := by simp only [List.getD_eq_getElem?_getD, List.getElem?_eq_getElem hk, Option.getD_some]
    have := hr.ent _ (List.getElem_mem hk)
    rw [e, IntKind.wrap_u64]
    congr 1; omega
  · rw [laid_rd hok ho _ (wh_place hok i5).2.1, if_neg (fun e => by have := (place_inj hok i5 i4 e).1; omega), if_pos rfl]
theorem laid_mok (hok : Ok c) (hf : 0 ≤ c.fi) (ho : 0 ≤ owner ∧ owner < c.t) (hr : Right c L) (hs : 1 ≤ seq) {m : M} (hl : m.cells.length = (size c).toNat) (hrd : ∀ a, 0 ≤ a → rd m a = rd (laidM c owner seq L) a) : MOk c owner seq L (laidM c owner seq L) m := by
  have i4 := (is_own hok ho).2.1
  have hT := (bds hok).tag
  refine ⟨hl, fun a => ?_, fun a h1 h2 => .inl (hrd a (by omega)), .inl ?_, fun a h0 _ _ _ => hrd a h0⟩
  · by_cases h0 : 0 ≤ a
    · rw [hrd a h0]; exact (laid_bd hok hf ho hr (by omega) a h0).1
    · rw [rd_neg (by omega), hrd 0 (by omega)]; exact (laid_bd hok hf ho hr (by omega) 0 (by omega)).1
  · rw [hrd _ (wh_place hok i4).2.1, laid_rd hok ho _ (wh_place hok i4).2.1, if_pos rfl]
theorem laid_trok (hok : Ok c) (hf : 0 ≤ c.fi) (ho : 0 ≤ owner ∧ owner < c.t) (hr : Right c L) (hs : 1 ≤ seq) : TrOk c owner seq (laidM c owner seq L) := by
  have i4 := (is_own hok ho).2.1
  have hT := (bds hok).tag
  intro a
  have h0 : swapsAt (laidM c owner seq L).trace a = 0 := by rw [laid_tr]; rfl
  refine ⟨fun h => ?_, fun _ => h0⟩
  rcases h with ⟨h1, h2, h3⟩ | ⟨h1, h2⟩
  · rw [(laid_bd hok hf ho hr (by omega) a (by omega)).2 h1] at h3; omega
  · rw [h1, laid_rd hok ho _ (wh_place hok i4).2.1, if_pos rfl] at h2
    simp at h2
variable {B : M}
theorem tok_new (J : Job c owner seq L B) (m : M) : TOk c owner seq L B m Go.Proofs.Ytccioehckfdjdaa.H.hNew :=
  ⟨Go.Proofs.Ytccioehckfdjdaa.H.inv_new c, .inl rfl, by simp [Go.Proofs.Ytccioehckfdjdaa.H.hNew], by simp [Go.Proofs.Ytccioehckfdjdaa.H.hNew], by simp [Go.Proofs.Ytccioehckfdjdaa.H.hNew], by simp [Go.Proofs.Ytccioehckfdjdaa.H.hNew], by simp [Go.Proofs.Ytccioehckfdjdaa.H.hNew], by simp [Go.Proofs.Ytccioehckfdjdaa.H.hNew]⟩
theorem tok_own (J : Job c owner seq L B) (m : M) : TOk c owner seq L B m (Go.Proofs.Ytccioehckfdjdaa.H.hOwn c L) := by
  have := J.len; have := cap_bd J.ok
  exact TOk.entry (h := ⟨L, 0, 0, -1, 0, 0, 0⟩) J ⟨Int.le_refl 0, by simp, by simp, by dsimp only; omega, Int.le_refl 0, by simp⟩ (.inl rfl) rfl 0 (Nat.zero_le _) (by simp)
/-! ### how many steps -/
def ms (L : List (Int × Int)) (h : H) : Int := if h.next = 0 then 5 * L.length + 3 else left h
theorem TOk.pos {m : M} {h : H} (ht : TOk c owner seq L B m h) (h8 : h.next ≠ 8) : 1 ≤ ms L h := by
  obtain ⟨⟨hg, hr, he, hn⟩, t2, t4, t5, _⟩ := ht
  obtain ⟨a1, a2, a3, a4, a5, a6⟩ := hg
  unfold ms left
  by_cases h0 : h.next = 0
  · rw [if_pos h0]; omega
  rw [if_neg h0]
  repeat (first | (split <;> rename_i hx) | omega)
theorem TOk.nn {m : M} {h : H} (ht : TOk c owner seq L B m h) : 0 ≤ ms L h := by
  by_cases h8 : h.next = 8
  · simp [ms, left, h8]
  · have := ht.pos h8; omega
theorem TOk.most {m : M} {h : H} (ht : TOk c owner seq L B m h) : ms L h ≤ 5 * L.length + 3 := by
  obtain ⟨⟨hg, hr, he, hn⟩, t2, t4, t5, _⟩ := ht
  obtain ⟨a1, a2, a3, a4, a5, a6⟩ := hg
  unfold ms left
  by_cases h0 : h.next = 0
  · rw [if_pos h0]; omega
  rw [if_neg h0]
  by_cases h1 : h.next = 1
  · rw [if_pos h1]; have := (t4 h1).1; omega
  have := t5 (by omega)
  rw [this] at a4 a6 ⊢
  repeat (first | (split <;> rename_i hx) | omega)
theorem unl_left2 (is : Bool) (h : H) (b : Int) (h0 : 0 ≤ b) (h1 : left h ≤ b) : left (unl is h) ≤ b := by
  unfold unl
  cases is
  · simp [left]; exact h0
  · exact h1
theorem entry_not0 (c : Cfg) (h : H) (k : Nat) : (entry c h k).next ≠ 0 := by
  have h1 : ∀ g k, (entryG c h g k).next ≠ 0 := fun g => by
    induction g with
    | zero => intro k; simp [entryG]
    | succ g ih => intro k; unfold entryG; split; exact ih _; dsimp only; split <;> decide
  exact h1 _ _
theorem ms_down {m : M} {h : H} (J : Job c owner seq L B) (ht : TOk c owner seq L B m h) (h8 : h.next ≠ 8) (v s : Int) (hv : h.next = 0 → v = L.length) : ms L (tell c seq v s h) < ms L h := by
  have hcap := cap_bd J.ok
  have hLen := J.len
  obtain ⟨⟨hg, hr, he, hn⟩, t2, t4, t5, _⟩ := id ht
  obtain ⟨a1, a2, a3, a4, a5, a6⟩ := id hg
  have ent : ∀ (h : H) k, k ≤ h.list.length → ms L (entry c h k) ≤ 4 * (h.list.length - k) + 1 := fun h k hk => by
    unfold ms; rw [if_neg (entry_not0 c h k)]; exact entry_left c h k hk
  unfold H.tell
  by_cases h0 : h.next = 0
  · rw [if_pos h0]
    have hl := hn h0
    have hv := hv h0
    have hmin : min v (cap c) = L.length := by omega
    rw [hmin]
    unfold ms read
    rw [if_pos h0, if_neg (by dsimp only; split <;> decide), hl]
    unfold left
    dsimp only
    split <;> (simp <;> omega)
  rw [if_neg h0]
  by_cases h1 : h.next = 1
  · rw [if_pos h1]
    have hl := a3 h1
    have hn1 := (t4 h1).1
    unfold ms read
    rw [if_neg (by dsimp only; split <;> decide), if_neg h0]
    unfold left
    rw [if_pos h1]
    dsimp only
    split <;> (simp <;> omega)
  rw [if_neg h1]
  have hlL := t5 (by omega)
  by_cases h2 : h.next = 2
  · rw [if_pos h2]
    have e := ent h 0 (Nat.zero_le _)
    have hm : ms L h = 4 * h.list.length + 2 := by unfold ms left; rw [if_neg h0, if_neg h1, if_pos h2]
    generalize decide (v = 1 ∧ s = seq) = is
    cases is
    · have e2 : ms L (unl false (entry c h 0)) = 0 := by simp [unl, ms, left]
      omega
    · show ms L (entry c h 0) < _
      omega
  rw [if_neg h2]
  by_cases h3 : h.next = 3
  · rw [if_pos h3]
    have hk := a6 (.inl h3)
    simp [ms, left, h3] <;> omega
  rw [if_neg h3]
  by_cases h4 : h.next = 4
  · rw [if_pos h4]
    have hk := a6 (.inr (.inl h4))
    generalize decide (v = 1 ∧ s = seq) = is
    cases is <;> (simp [ms, left, h4, unl] <;> omega)
  rw [if_neg h4]
  by_cases h5 : h.next = 5
  · rw [if_pos h5]
    have hk := a6 (.inr (.inr (.inl h5)))
    have hm : ms L h = 4 * (h.list.length - h.k) - 1 := by simp [ms, left, h5]
    split
    · have := ent { h with cv := v, cs := s, next := 6 } (h.k.toNat + 1) (by dsimp only; omega)
      dsimp only at this
      omega
    · rw [hm]; simp [ms, left] <;> omega
  rw [if_neg h5]
  have h67 : h.next = 6 ∨ h.next = 7 := by omega
  rcases h67 with h6 | h7
  · rw [if_pos h6]
    have hk := a6 (.inr (.inr (.inr h6)))
    have := ent h (h.k.toNat + 1) (by omega)
    have hm : ms L h = 4 * (h.list.length - h.k) - 2 := by simp [ms, left, h6]
    omega
  · rw [if_neg (by omega), if_pos h7]
    simp [ms, left, h7]
theorem Stp.down {m : M} {h : H} {who : Int} (J : Job c owner seq L B) (hm : MOk c owner seq L B m) (ht : TOk c owner seq L B m h) (h8 : h.next ≠ 8) (S : Stp c owner seq L B m who h (op6 (ask c who owner seq h).1)) :
    ms L (tell c seq (m.told who (op6 (ask c who owner seq h).1)).v (m.told who (op6 (ask c who owner seq h).1)).s h) < ms L h := by
  refine ms_down J ht h8 _ _ fun h0 => ?_
  have i4 := (is_own J.ok J.own).2.1
  have i5 := (is_own J.ok J.own).2.2
  rw [told_is S.err]
  have e : (ask c who owner seq h).1 = ⟨0, place c 5 owner 0, 0, 0, 0, 0⟩ := by unfold ask; rw [if_pos h0, at_is i5]
  rw [e]
  show (rd m (place c 5 owner 0)).1 = _
  have lo := J.low i5 (by decide)
  rw [hm.rest (place c 5 owner 0) lo.1 lo.2 (by rw [whA_place J.ok i5]; dsimp only; omega) (fun e => by have := (place_inj J.ok i5 i4 e).1; omega), J.lenc]
end
end Go.Tum.H
