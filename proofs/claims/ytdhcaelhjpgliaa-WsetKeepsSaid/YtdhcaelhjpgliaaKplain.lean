/- WsetKeeps, plain: the map beside a set reads as the set does. -/
import Derived.Test.YtdhcaelhjpgliaaPuts
import Derived.Maps.OwnSet
import Derived.Maps.OwnOps
namespace Go.Tum.W
theorem idx_map (l : List (Int × Int)) (a : Int) : idx l a = (l.map (·.1)).findIdx? (· == a) := by
  unfold idx
  rw [List.findIdx?_map]
  rfl
theorem set_keys {l : List (Int × Int)} {i : Nat} (hi : i < l.length) {a : Int} (v : Int) (ha : l[i].1 = a) : (l.set i (a, v)).map (·.1) = l.map (·.1) := by
  apply List.ext_getElem
  · simp
  · intro j h1 h2
    simp only [List.getElem_map, List.getElem_set]
    split
    · rename_i e; subst e; exact ha.symm
    · rfl
/-- A put that has room: done, told as OK. -/
theorem put_ok {s : S} (h : s.list.length < s.room) (a v : Int) : (put s a v).2 = 0 ∧ (put s a v).1.done.length = s.done.length + 1 ∧ (put s a v).1.list.length ≤ s.list.length + 1 ∧
    (put s a v).1.list.map (·.1) = s.list.map (·.1) ++ (if (get s a).2 then [] else [a]) ∧ ∀ b, get (put s a v).1 b = if b = a then (v, true) else get s b := by
  unfold put get
  cases hx : idx s.list a with
  | some i =>
    obtain ⟨hi, ha⟩ := idx_some hx
    refine ⟨rfl, by simp, by simp, by simp [set_keys hi v ha], fun b => ?_⟩
    have e : idx (s.list.set i (a, v)) b = idx s.list b := by rw [idx_map, idx_map, set_keys hi v ha]
    simp only [e]
    by_cases hb : b = a
    · subst hb
      rw [hx, if_pos rfl]
      simp [List.getD, hi]
    · rw [if_neg hb]
      cases hy : idx s.list b with
      | none => rfl
      | some j =>
        obtain ⟨hj, hjb⟩ := idx_some hy
        have hij : i ≠ j := fun e => hb (by subst e; rw [← hjb, ← ha])
        simp [List.getD, hij]
  | none =>
    simp only [Nat.not_le.2 h, if_false]
    refine ⟨trivial, by simp, by simp, by simp, fun b => ?_⟩
    by_cases hb : b = a
    · subst hb
      have e : idx (s.list ++ [(b, v)]) b = some s.list.length := by
        unfold idx at hx ⊢
        rw [List.findIdx?_append, hx]
        simp
      rw [if_pos rfl]
      simp only [e]
      simp [List.getD]
    · rw [if_neg hb]
      cases hy : idx s.list b with
      | none =>
        have e : idx (s.list ++ [(a, v)]) b = none := by
          unfold idx at hy ⊢
          rw [List.findIdx?_append, hy]
          simp [Ne.symm hb]
        simp only [e]
      | some j =>
        obtain ⟨hj, hjb⟩ := idx_some hy
        have e : idx (s.list ++ [(a, v)]) b = some j := by
          unfold idx at hy ⊢
          rw [List.findIdx?_append, hy]
          rfl
        simp only [e]
        simp [List.getD, List.getElem?_append_left hj]
theorem puts_ok (l : List (Int × Int)) : ∀ s : S, s.list.length + l.length ≤ s.room → (puts s l).done.length = s.done.length + l.length ∧ (puts s l).list.length ≤ s.list.length + l.length := by
  induction l with
  | nil => intro s _; exact ⟨rfl, Nat.le_refl _⟩
  | cons e l ih =>
    intro s h
    rw [List.length_cons] at h
    obtain ⟨_, h1, h2, _⟩ := put_ok (s := s) (by omega) e.1 e.2
    have h3 := ih (put s e.1 e.2).1 (by rw [put_room]; omega)
    have e2 : puts s (e :: l) = puts (put s e.1 e.2).1 l := rfl
    rw [e2, List.length_cons]
    omega
theorem puts_rep (l : List (Int × Int)) : ∀ {s : S} {room : Nat} {p : List (Int × Int)}, Rep s room p → ∃ p', Rep (puts s l) room p' := by
  induction l with
  | nil => intro s room p h; exact ⟨p, h⟩
  | cons e l ih =>
    intro s room p h
    exact ih (s := (put s e.1 e.2).1) (rep_put h e.1 e.2).2
/-- In a set that came by puts each entry is told as it stands. -/
theorem puts_get (r : Nat) (l : List (Int × Int)) {j : Nat} (hj : j < (puts ⟨r, [], []⟩ l).list.length) :
    get (puts ⟨r, [], []⟩ l) (puts ⟨r, [], []⟩ l).list[j].1 = ((puts ⟨r, [], []⟩ l).list[j].2, true) := by
  obtain ⟨p, hp⟩ := puts_rep l (rep_new r)
  generalize puts ⟨r, [], []⟩ l = s at *
  have hd : Distinct s.list := by rw [hp.list]; exact distinct_rall p
  unfold get
  rw [idx_of hd hj rfl]
  simp [List.getD, hj]
theorem put_keys (s : S) (a v : Int) : ∀ x ∈ (put s a v).1.list.map (·.1), x ∈ s.list.map (·.1) ∨ x = a := by
  intro x hx
  unfold put at hx
  cases hi : idx s.list a with
  | some i =>
    obtain ⟨hl, ha⟩ := idx_some hi
    simp only [hi, set_keys hl v ha] at hx
    exact .inl hx
  | none =>
    simp only [hi] at hx
    split at hx
    · exact .inl hx
    · simp only [List.map_append, List.map_cons, List.map_nil, List.mem_append, List.mem_singleton] at hx
      exact hx
theorem puts_keys (l : List (Int × Int)) : ∀ (s : S), ∀ x ∈ (puts s l).list.map (·.1), x ∈ s.list.map (·.1) ∨ x ∈ l.map (·.1) := by
  induction l with
  | nil => intro s x hx; exact .inl hx
  | cons e l ih =>
    intro s x hx
    rcases ih (put s e.1 e.2).1 x hx with h | h
    · rcases put_keys s e.1 e.2 x h with h | h
      · exact .inl h
      · exact .inr (by simp [h])
    · exact .inr (by simp only [List.map_cons, List.mem_cons]; exact .inr h)
def key (a : Int) : Lit := .int .i64 a
/-- The map reads as the set. -/
def MapIs (D : DataW Unit) (s : S) : Prop := ∀ a, Maps.has D (key a) = (get s a).2 ∧ D.atKey (key a) (.lit (.int .u64 0)) = .lit (.int .u64 (get s a).1)
theorem MapIs.put {D : DataW Unit} {s : S} (h : MapIs D s) (hD : Maps.IsMap D) (hl : s.list.length < s.room) (a v : Int) : MapIs (D.put (key a) (.lit (.int .u64 v))) (put s a v).1 := by
  intro b
  obtain ⟨_, _, _, _, hg⟩ := put_ok hl a v
  rw [hg b]
  by_cases hb : b = a
  · subst hb
    rw [if_pos rfl]
    have hk : WideAt.IsKeyLit (key b) := trivial
    exact ⟨Maps.has_put_same hD hk _, Maps.atKey_put_same hD hk _ _⟩
  · rw [if_neg hb]
    have hne : key b ≠ key a := fun e => hb (by simpa [key] using e)
    exact ⟨(Maps.has_put_other hne _).trans (h b).1, (Maps.atKey_put_other hne _ _).trans (h b).2⟩
theorem mapIs_nil (r : Nat) : MapIs (.map []) ⟨r, [], []⟩ := fun _ => ⟨rfl, rfl⟩
end Go.Tum.W
