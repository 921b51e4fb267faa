/- append onto a slice that the call owns: where the new value stands; one element pushed; a clone. -/
import Derived.Test.YtccioehckfdjdaaBase
import Derived.Deep.RegionLaw
import Derived.Laws.AppendOwnNone
namespace Go.Tum
open Go.RowKit

section
variable {P : Program} (w : World)

/-- As the kit's own law, and: the new value stands where the old one stood, or in the newest block. -/
theorem run_append_at (base : Nat) (t ty e : TypeId) (i : TypeInfo) (z : Value) (size bytes : Nat) (ht : P.underlying t = some (.slice e)) (hi : P.info? e = some i) (hz : i.zero = some z)
    (hsize : i.size = size) (hby : i.bytes = bytes) (hzs : z.cells.size = size) (hsz : 0 < size)
    (v : Value) (n : Nat) (xs : List Value) (hown : w.ownsRow base e size v n xs)
    (a : Addr) (m c : Nat) (news : List Value) (hl : news.length = m * size) (hnews : ∀ j u, news[j]? = some u → w.cell? (a.add j) = some u) (h1 : ∀ u ∈ news, u.oneCell' = true)
    (h63 : n + m ≤ maxLen) (hbytes : (n + m) * bytes ≤ 140737488355328) (hbase : base ≤ w.heap.size) :
    ∃ v' w', (Builtin.append_ #[t, t] ty #[v, .slice (some a) m c]).run P w = .ok v' w' ∧ w'.ownsRow base e size v' (n + m) (xs ++ news) ∧ w.grownBy w' v.ownBlock ∧
      (v' = .slice none 0 0 ↔ v = .slice none 0 0 ∧ m = 0) ∧ (v'.ownBlock = v.ownBlock ∨ v'.ownBlock = some w.heap.size) := by
  obtain ⟨v', w', hr, ho, hg, hn⟩ := run_append_own (P := P) w base t ty e i z size bytes ht hi hz hsize hby hzs hsz v n xs hown a m c news hl hnews h1 h63 hbytes hbase
  refine ⟨v', w', hr, ho, hg, hn, ?_⟩
  have hm63 : n + m ≤ 9223372036854775807 := by simp only [maxLen] at h63; omega
  rcases hown.2 with ⟨rfl, rfl⟩ | ⟨g, cap, cur, rfl, hbg, hgg, hnc, hcm, hcs, htake⟩
  · by_cases hm : m = 0
    · have := hn.2 ⟨rfl, hm⟩
      rw [this]; exact .inl rfl
    · have hr2 := run_append_nil (P := P) w t ty e i z ht hi hz a m c news (by rw [hsize]; exact hl) hnews (by omega) (by omega) (by rw [hby]; have hb := hbytes; simp only [Nat.zero_add] at hb; omega)
      rw [hr2] at hr
      injection hr with e1 e2
      rw [← e1]; exact .inr rfl
  · by_cases hroom : n + m ≤ cap
    · obtain ⟨w2, hr2, _⟩ := run_append_fits (P := P) w base t ty e i size ht hi hsize g n cap xs hown a m c news hl hnews h1 hroom
      rw [hr2] at hr
      injection hr with e1 e2
      rw [← e1]; exact .inl rfl
    · have hr2 := run_append_grow (P := P) w t ty e i z ht hi hz ⟨g, 0, none⟩ n cap xs (by rw [hsize]; exact hown.1) (hown.cells (g := g) rfl) a m c news (by rw [hsize]; exact hl) hnews (by omega) (by omega)
        (by rw [hby]; exact growslice_fits (by omega) hbytes)
      rw [hr2] at hr
      injection hr with e1 e2
      rw [← e1]; exact .inr rfl

theorem new_cells (cs : List Value) (e : TypeId) : ∀ j u, cs[j]? = some u → (w.alloc (.cells cs.toArray e)).cell? ((⟨w.heap.size, 0, none⟩ : Addr).add j) = some u := by
  intro j u h
  have := (Blk.new w e cs).cell j
  simp only [Addr.add_lit, Nat.zero_add] at *
  rw [this, h]

/-- One element is pushed ('s = append(s, x)'; its cells lie in the block that was made last). -/
theorem wp_push {o : Oper} {a : Act} {K : Act → World → Prop} {Q : Exit → Act → World → Prop} (s x : Operand) (t : TypeId)
    (ho : o.op = .call { callee := .builtin .append, args := #[s, x], argTypes := #[t, t] })
    (base : Nat) (e : TypeId) (i : TypeInfo) (z : Value) (size bytes : Nat) (ht : P.underlying t = some (.slice e)) (hi : P.info? e = some i) (hz : i.zero = some z)
    (hsize : i.size = size) (hby : i.bytes = bytes) (hzs : z.cells.size = size) (hsz : 0 < size)
    (v : Value) (n : Nat) (xs : List Value) (hs : a.eval s = v) (hown : w.ownsRow base e size v n xs)
    (cs : List Value) (ex : TypeId) (bk : Nat) (hx : a.eval x = .slice (some ⟨bk, 0, none⟩) 1 1) (hbk : w.heap.size = bk) (hl : cs.length = size) (h1 : ∀ u ∈ cs, u.oneCell' = true)
    (h63 : n + 1 ≤ maxLen) (hbytes : (n + 1) * bytes ≤ 140737488355328) (hbase : base ≤ w.heap.size)
    (h : ∀ g c' w', w'.ownsRow base e size (.slice (some ⟨g, 0, none⟩) (n + 1) c') (n + 1) (xs ++ cs) → (w.alloc (.cells cs.toArray ex)).grownBy w' v.ownBlock → (v.ownBlock = some g ∨ g = w.heap.size + 1) → n + 1 ≤ c' → c' ≤ maxLen → K (a.put o.dst (.slice (some ⟨g, 0, none⟩) (n + 1) c')) w') :
    o.wp P a (w.alloc (.cells cs.toArray ex)) K Q := by
  subst hbk
  obtain ⟨v', w', hr, h2, h3, h4, h5⟩ := run_append_at (P := P) (w.alloc (.cells cs.toArray ex)) base t o.type e i z size bytes ht hi hz hsize hby hzs hsz v n xs (hown.alloc _) ⟨w.heap.size, 0, none⟩ 1 1 cs
    (by omega) (new_cells w cs ex) h1 h63 hbytes (by simp; omega)
  unfold Oper.wp execOp
  simp only [ho, resolve, invoke, builtin, Sem.run_bind, Sem.run_pure, Result.andThen_ok, List.map_toArray, List.map_cons, List.map_nil, hs, hx, hr]
  rcases ownsRow_form h2 with ⟨e0, _⟩ | ⟨g, c', rfl, hgl, _, h6, h7⟩
  · have := (h4.1 e0).2; omega
  · refine h g c' w' h2 h3 ?_ h6 h7
    rcases h5 with h5 | h5
    · exact .inl h5.symm
    · simp [Value.ownBlock] at h5; exact .inr h5

theorem wpList_push {ops : Array Oper} {rest : List Oper} {o : Oper} {a : Act} {Q : Exit → Act → World → Prop} (hgd : o.guard = none) (s x : Operand) (t : TypeId)
    (ho : o.op = .call { callee := .builtin .append, args := #[s, x], argTypes := #[t, t] })
    (base : Nat) (e : TypeId) (i : TypeInfo) (z : Value) (size bytes : Nat) (ht : P.underlying t = some (.slice e)) (hi : P.info? e = some i) (hz : i.zero = some z)
    (hsize : i.size = size) (hby : i.bytes = bytes) (hzs : z.cells.size = size) (hsz : 0 < size)
    (v : Value) (n : Nat) (xs : List Value) (hs : a.eval s = v) (hown : w.ownsRow base e size v n xs)
    (cs : List Value) (ex : TypeId) (bk : Nat) (hx : a.eval x = .slice (some ⟨bk, 0, none⟩) 1 1) (hbk : w.heap.size = bk) (hl : cs.length = size) (h1 : ∀ u ∈ cs, u.oneCell' = true)
    (h63 : n + 1 ≤ maxLen) (hbytes : (n + 1) * bytes ≤ 140737488355328) (hbase : base ≤ w.heap.size)
    (h : ∀ g c' w', w'.ownsRow base e size (.slice (some ⟨g, 0, none⟩) (n + 1) c') (n + 1) (xs ++ cs) → (w.alloc (.cells cs.toArray ex)).grownBy w' v.ownBlock → (v.ownBlock = some g ∨ g = w.heap.size + 1) → n + 1 ≤ c' → c' ≤ maxLen → wpList P ops Q rest (a.put o.dst (.slice (some ⟨g, 0, none⟩) (n + 1) c')) w') :
    wpList P ops Q (o :: rest) a (w.alloc (.cells cs.toArray ex)) :=
  wpList_plain hgd fun _ hK => wp_push w s x t ho base e i z size bytes ht hi hz hsize hby hzs hsz v n xs hs hown cs ex bk hx hbk hl h1 h63 hbytes hbase fun g c' w' h2 h3 h4 h5 h6 => hK _ _ (h g c' w' h2 h3 h4 h5 h6)

/-- The same as one step of a region that draws its order. -/
theorem step_push {ops : Array Oper} {o : Oper} {a : Act} {K : Act → World → Prop} {Q : Exit → Act → World → Prop} {E : Prop} (hgd : o.guard = none) (s x : Operand) (t : TypeId)
    (ho : o.op = .call { callee := .builtin .append, args := #[s, x], argTypes := #[t, t] })
    (base : Nat) (e : TypeId) (i : TypeInfo) (z : Value) (size bytes : Nat) (ht : P.underlying t = some (.slice e)) (hi : P.info? e = some i) (hz : i.zero = some z)
    (hsize : i.size = size) (hby : i.bytes = bytes) (hzs : z.cells.size = size) (hsz : 0 < size)
    (v : Value) (n : Nat) (xs : List Value) (hs : a.eval s = v) (hown : w.ownsRow base e size v n xs)
    (cs : List Value) (ex : TypeId) (bk : Nat) (hx : a.eval x = .slice (some ⟨bk, 0, none⟩) 1 1) (hbk : w.heap.size = bk) (hl : cs.length = size) (h1 : ∀ u ∈ cs, u.oneCell' = true)
    (h63 : n + 1 ≤ maxLen) (hbytes : (n + 1) * bytes ≤ 140737488355328) (hbase : base ≤ w.heap.size)
    (h : ∀ g c' w', w'.ownsRow base e size (.slice (some ⟨g, 0, none⟩) (n + 1) c') (n + 1) (xs ++ cs) → (w.alloc (.cells cs.toArray ex)).grownBy w' v.ownBlock → (v.ownBlock = some g ∨ g = w.heap.size + 1) → n + 1 ≤ c' → c' ≤ maxLen → K (a.put o.dst (.slice (some ⟨g, 0, none⟩) (n + 1) c')) w') :
    if Region.wanted o (yielded ops a.tmps) = true then Oper.wp P o a (w.alloc (.cells cs.toArray ex)) K Q else E := by
  rw [if_pos (by simp [Region.wanted, hgd])]
  exact wp_push w s x t ho base e i z size bytes ht hi hz hsize hby hzs hsz v n xs hs hown cs ex bk hx hbk hl h1 h63 hbytes hbase h

/-- append of another slice's cells ('append(xs, ys...)'). -/
theorem wpList_append_at {ops : Array Oper} {rest : List Oper} {o : Oper} {a : Act} {Q : Exit → Act → World → Prop} (hgd : o.guard = none) (s x : Operand) (t : TypeId)
    (ho : o.op = .call { callee := .builtin .append, args := #[s, x], argTypes := #[t, t] })
    (base : Nat) (e : TypeId) (i : TypeInfo) (z : Value) (size bytes : Nat) (ht : P.underlying t = some (.slice e)) (hi : P.info? e = some i) (hz : i.zero = some z)
    (hsize : i.size = size) (hby : i.bytes = bytes) (hzs : z.cells.size = size) (hsz : 0 < size)
    (v : Value) (n : Nat) (xs : List Value) (hs : a.eval s = v) (hown : w.ownsRow base e size v n xs)
    (ad : Addr) (m c : Nat) (news : List Value) (hx : a.eval x = .slice (some ad) m c) (hl : news.length = m * size) (hnews : ∀ j u, news[j]? = some u → w.cell? (ad.add j) = some u) (h1 : ∀ u ∈ news, u.oneCell' = true)
    (h63 : n + m ≤ maxLen) (hbytes : (n + m) * bytes ≤ 140737488355328) (hbase : base ≤ w.heap.size) (hnn : v ≠ .slice none 0 0)
    (h : ∀ g c' w', w'.ownsRow base e size (.slice (some ⟨g, 0, none⟩) (n + m) c') (n + m) (xs ++ news) → w.grownBy w' v.ownBlock → (v.ownBlock = some g ∨ g = w.heap.size) → n + m ≤ c' → c' ≤ maxLen → wpList P ops Q rest (a.put o.dst (.slice (some ⟨g, 0, none⟩) (n + m) c')) w') :
    wpList P ops Q (o :: rest) a w := by
  refine wpList_plain hgd fun K hK => ?_
  obtain ⟨v', w', hr, h2, h3, h4, h5⟩ := run_append_at (P := P) w base t o.type e i z size bytes ht hi hz hsize hby hzs hsz v n xs hown ad m c news hl hnews h1 h63 hbytes hbase
  unfold Oper.wp execOp
  simp only [ho, resolve, invoke, builtin, Sem.run_bind, Sem.run_pure, Result.andThen_ok, List.map_toArray, List.map_cons, List.map_nil, hs, hx, hr]
  rcases ownsRow_form h2 with ⟨e0, _⟩ | ⟨g, c', rfl, hgl, _, h6, h7⟩
  · exact absurd (h4.1 e0).1 hnn
  · refine hK _ _ (h g c' w' h2 h3 ?_ h6 h7)
    rcases h5 with h5 | h5
    · exact .inl h5.symm
    · simp [Value.ownBlock] at h5; exact .inr h5

/-- append of a row that may be nil. -/
theorem wpList_append_row {ops : Array Oper} {rest : List Oper} {o : Oper} {a : Act} {Q : Exit → Act → World → Prop} (hgd : o.guard = none) (s x : Operand) (t : TypeId)
    (ho : o.op = .call { callee := .builtin .append, args := #[s, x], argTypes := #[t, t] })
    (base : Nat) (e : TypeId) (i : TypeInfo) (z : Value) (size bytes : Nat) (ht : P.underlying t = some (.slice e)) (hi : P.info? e = some i) (hz : i.zero = some z)
    (hsize : i.size = size) (hby : i.bytes = bytes) (hzs : z.cells.size = size) (hsz : 0 < size)
    (g0 n c0 : Nat) (xs : List Value) (hs : a.eval s = .slice (some ⟨g0, 0, none⟩) n c0) (hown : w.ownsRow base e size (.slice (some ⟨g0, 0, none⟩) n c0) n xs)
    (base' : Nat) (e' : TypeId) (vx : Value) (m : Nat) (news : List Value) (hx : a.eval x = vx) (hxo : w.ownsRow base' e' size vx m news) (h1 : ∀ u ∈ news, u.oneCell' = true)
    (h63 : n + m ≤ maxLen) (hbytes : (n + m) * bytes ≤ 140737488355328) (hbase : base ≤ w.heap.size)
    (h : ∀ g c' w', w'.ownsRow base e size (.slice (some ⟨g, 0, none⟩) (n + m) c') (n + m) (xs ++ news) → w.grownBy w' (some g0) → (g0 = g ∨ g = w.heap.size) → n + m ≤ c' → c' ≤ maxLen → wpList P ops Q rest (a.put o.dst (.slice (some ⟨g, 0, none⟩) (n + m) c')) w') :
    wpList P ops Q (o :: rest) a w := by
  rcases ownsRow_form hxo with ⟨rfl, rfl⟩ | ⟨gx, cx, rfl, _⟩
  · have hne : news = [] := List.eq_nil_of_length_eq_zero (by simpa using hxo.1)
    subst hne
    rcases ownsRow_form hown with ⟨e0, _⟩ | ⟨g, c, e1, hgl, _, h6, h7⟩
    · cases e0
    · simp only [Value.slice.injEq, Option.some.injEq, Addr.mk.injEq, and_true] at e1
      obtain ⟨rfl, _, rfl⟩ := e1
      refine wpList_append_own_none hgd s x t ho base e i size ht hi _ n xs hs hown hx ?_
      exact h g0 c0 w (by simpa using hown) ⟨rfl, rfl, rfl, Nat.le_refl _, fun _ _ _ => rfl⟩ (.inl rfl) h6 h7
  · refine wpList_append_at w hgd s x t ho base e i z size bytes ht hi hz hsize hby hzs hsz _ n xs hs hown ⟨gx, 0, none⟩ m cx news hx hxo.1 (hxo.cells rfl) h1 h63 hbytes hbase (by simp) fun g c' w' h2 h3 h4 h5 h6 => h g c' w' h2 h3 ?_ h5 h6
    rcases h4 with h4 | h4
    · simp [Value.ownBlock] at h4; exact .inl h4
    · exact .inr h4

/-- One element pushed, its cells lying in a block that is known whole. -/
theorem wpList_push_blk {ops : Array Oper} {rest : List Oper} {o : Oper} {a : Act} {Q : Exit → Act → World → Prop} (hgd : o.guard = none) (s x : Operand) (t : TypeId)
    (ho : o.op = .call { callee := .builtin .append, args := #[s, x], argTypes := #[t, t] })
    (base : Nat) (e : TypeId) (i : TypeInfo) (z : Value) (size bytes : Nat) (ht : P.underlying t = some (.slice e)) (hi : P.info? e = some i) (hz : i.zero = some z)
    (hsize : i.size = size) (hby : i.bytes = bytes) (hzs : z.cells.size = size) (hsz : 0 < size)
    (v : Value) (n : Nat) (xs : List Value) (hs : a.eval s = v) (hown : w.ownsRow base e size v n xs)
    (cs : List Value) (ex : TypeId) (bk : Nat) (hx : a.eval x = .slice (some ⟨bk, 0, none⟩) 1 1) (hbk : Blk w bk ex cs) (hl : cs.length = size) (h1 : ∀ u ∈ cs, u.oneCell' = true)
    (h63 : n + 1 ≤ maxLen) (hbytes : (n + 1) * bytes ≤ 140737488355328) (hbase : base ≤ w.heap.size)
    (h : ∀ g c' w', w'.ownsRow base e size (.slice (some ⟨g, 0, none⟩) (n + 1) c') (n + 1) (xs ++ cs) → w.grownBy w' v.ownBlock → (v.ownBlock = some g ∨ g = w.heap.size) → n + 1 ≤ c' → c' ≤ maxLen → wpList P ops Q rest (a.put o.dst (.slice (some ⟨g, 0, none⟩) (n + 1) c')) w') :
    wpList P ops Q (o :: rest) a w := by
  refine wpList_plain hgd fun K hK => ?_
  obtain ⟨v', w', hr, h2, h3, h4, h5⟩ := run_append_at (P := P) w base t o.type e i z size bytes ht hi hz hsize hby hzs hsz v n xs hown ⟨bk, 0, none⟩ 1 1 cs (by omega)
    (fun j u hj => by simp only [Addr.add_lit, Nat.zero_add]; rw [hbk.cell j, hj]) h1 h63 hbytes hbase
  unfold Oper.wp execOp
  simp only [ho, resolve, invoke, builtin, Sem.run_bind, Sem.run_pure, Result.andThen_ok, List.map_toArray, List.map_cons, List.map_nil, hs, hx, hr]
  rcases ownsRow_form h2 with ⟨e0, _⟩ | ⟨g, c', rfl, hgl, _, h6, h7⟩
  · have := (h4.1 e0).2; omega
  · refine hK _ _ (h g c' w' h2 h3 ?_ h6 h7)
    rcases h5 with h5 | h5
    · exact .inl h5.symm
    · simp [Value.ownBlock] at h5; exact .inr h5

end
end Go.Tum
