/- Several texts in one: Pref, PrefS. -/
import Derived.Test.YtccioehckfdjdaaPlaw
import Derived.Test.YtccioehckfdjdaaRplain
import Derived.Test.YtccioehckfdjdaaPr5
/- Plain: what the document's Read of chapter 10 reads, and that a pool that was told the same replies stands there. -/
section
set_option linter.unusedSimpArgs false
set_option linter.unusedVariables false
namespace Go.Tum.P
open Go.Tum.Y Go.Tum
def ldP (a : Int) : P6 := ⟨0, a, 0, 0, 0, 0⟩
def tp0 : Tp := ⟨0, p0, false⟩
def vals (l : List O3) : List Int := l.map O3.v
/-- Behind so many slots. -/
def rslots (c : Cfg) (l : List O3) : Nat → Tp × List Int
  | 0 => (tp0, [])
  | u + 1 => ((rslots c l u).1.step l.length (ldP (at_ c 3 u 0)), (rslots c l u).2 ++ [((rslots c l u).1.out l).v])
/-- Those in limbo, from a place on. -/
def rlims (c : Cfg) (seq : Int) (l : List O3) : Nat → Nat → Tp → List Int → List Int × Tp × Int
  | 0, _, t, lim => (lim, t, 1)
  | g + 1, k, t, lim =>
    if (t.step l.length (ldP (at_ c 15 k 0))).need = true then (lim, t.step l.length (ldP (at_ c 15 k 0)), 0)
    else if seq < (t.out l).s then (lim, t.step l.length (ldP (at_ c 15 k 0)), 2)
    else rlims c seq l g (k + 1) (t.step l.length (ldP (at_ c 15 k 0))) (lim ++ [(t.out l).v])
structure RP where
  ns : List Int
  lim : List Int
  wt : Int
  wl : Int
  top : Int
  nl : Int
def rread (c : Cfg) (seq : Int) (l : List O3) : RP × Tp × Int :=
  let x := rslots c l c.t.toNat
  let t1 := x.1.step l.length (ldP (at_ c 12 0 0))
  let o1 := x.1.out l
  if t1.need = true then (⟨x.2, [], 0, 0, 0, 0⟩, t1, 0)
  else if seq < o1.s then (⟨x.2, [], 0, 0, 0, 0⟩, t1, 2)
  else
    let t2 := t1.step l.length (ldP (at_ c 14 0 0))
    let o2 := t1.out l
    if t2.need = true then (⟨x.2, [], 0, 0, 0, 0⟩, t2, 0)
    else if seq < o2.s then (⟨x.2, [], 0, 0, 0, 0⟩, t2, 2)
    else
      let z := rlims c seq l (min o2.v (limit c)).toNat 0 t2 []
      (⟨x.2, z.1, min o1.v c.b, min o2.v (limit c), min o1.v c.b, min o2.v (limit c)⟩, z.2.1, z.2.2)
theorem step_on (l : List O3) {k : Nat} (hk : k < l.length) (op : P6) : (⟨k, p0, false⟩ : Tp).step l.length op = ⟨k + 1, p0, false⟩ := by
  unfold Tp.step
  rw [if_neg (by simp), if_neg (by dsimp only; omega)]
theorem step_end (l : List O3) {k : Nat} (hk : k = l.length) (op : P6) : (⟨k, p0, false⟩ : Tp).step l.length op = ⟨k, op, true⟩ := by
  unfold Tp.step
  rw [if_neg (by simp), if_pos (by dsimp only; omega)]
theorem step_need (n k : Nat) (a op : P6) : (⟨k, a, true⟩ : Tp).step n op = ⟨k, a, true⟩ := by
  unfold Tp.step
  rw [if_pos (by simp)]
theorem out_on (l : List O3) {k : Nat} (hk : k < l.length) : (⟨k, p0, false⟩ : Tp).out l = l[k] := by
  unfold Tp.out
  rw [if_neg (by simp), List.getElem?_eq_getElem (by exact hk)]
  rfl
theorem rslots_on (c : Cfg) (l : List O3) : ∀ u, u ≤ l.length → rslots c l u = (⟨u, p0, false⟩, vals (l.take u))
  | 0, _ => rfl
  | u + 1, h => by
    have ih := rslots_on c l u (by omega)
    unfold rslots
    rw [ih]
    dsimp only
    rw [step_on l (by omega), out_on l (by omega), List.take_succ_eq_append_getElem (by omega)]
    unfold vals
    rw [List.map_append]
    rfl
theorem rslots_end (c : Cfg) (l : List O3) : ∀ u, l.length < u → ∃ x, rslots c l u = (⟨l.length, ldP (at_ c 3 l.length 0), true⟩, x)
  | 0, h => by omega
  | u + 1, h => by
    by_cases hu : u = l.length
    · subst hu
      have ih := rslots_on c l l.length (Nat.le_refl _)
      unfold rslots
      rw [ih]
      dsimp only
      rw [step_end l rfl]
      exact ⟨_, rfl⟩
    · obtain ⟨x, ih⟩ := rslots_end c l u (by omega)
      unfold rslots
      rw [ih]
      dsimp only
      rw [step_need]
      exact ⟨_, rfl⟩
/-- Replies, each told while it goes on. -/
def Gone (c : Cfg) (seq : Int) : List O3 → St → Prop
  | [], _ => True
  | o :: r, p => p.s = 0 ∧ Gone c seq r (tell c seq o.v o.s p)
def told (c : Cfg) (seq : Int) (l : List O3) (p : St) : St := l.foldl (fun p o => tell c seq o.v o.s p) p
theorem gone_snoc {c : Cfg} {seq : Int} {o : O3} : ∀ {l : List O3} {p : St}, Gone c seq l p → (told c seq l p).s = 0 → Gone c seq (l ++ [o]) p
  | [], p, _, h => ⟨h, trivial⟩
  | x :: l, p, h, h2 => ⟨h.1, gone_snoc h.2 h2⟩
theorem told_snoc (c : Cfg) (seq : Int) (l : List O3) (o : O3) (p : St) : told c seq (l ++ [o]) p = tell c seq o.v o.s (told c seq l p) := by simp [told]
theorem told_app (c : Cfg) (seq : Int) (l r : List O3) (p : St) : told c seq (l ++ r) p = told c seq r (told c seq l p) := by simp [told]
theorem gone_app {c : Cfg} {seq : Int} {r : List O3} : ∀ {l : List O3} {p : St}, Gone c seq (l ++ r) p → Gone c seq l p ∧ Gone c seq r (told c seq l p)
  | [], p, h => ⟨trivial, h⟩
  | x :: l, p, h => ⟨⟨h.1, (gone_app h.2).1⟩, (gone_app h.2).2⟩
/-- What read hands on. -/
theorem feed_told {c : Cfg} {seq : Int} : ∀ (l : List O3) (k : Nat) (p : St), ∃ n, (feed c seq l k p).2 = k + n ∧ n ≤ l.length ∧ (feed c seq l k p).1 = told c seq (l.take n) p ∧ Gone c seq (l.take n) p
  | [], k, p => ⟨0, rfl, Nat.le_refl _, rfl, trivial⟩
  | o :: r, k, p => by
    unfold feed
    by_cases hs : p.s ≠ 0
    · rw [if_pos hs]
      exact ⟨0, rfl, Nat.zero_le _, rfl, trivial⟩
    · rw [if_neg hs]
      obtain ⟨n, h1, h2, h3, h4⟩ := feed_told r (k + 1) (tell c seq o.v o.s p)
      exact ⟨n + 1, by rw [h1]; omega, by simp; omega, h3, Classical.not_not.1 hs, h4⟩
theorem told_slots {c : Cfg} {seq : Int} : ∀ (l : List O3) (p : St), p.s = 0 → p.next + (l.length : Int) ≤ c.t →
    told c seq l p = { p with f := bumps p.f (vals l), next := p.next + (l.length : Int) }
  | [], p, hs, hn => by simp [told, vals, bumps]
  | x :: l, p, hs, hn => by
    rw [List.length_cons] at hn
    have ht : tell c seq x.v x.s p = { p with f := bump p.f x.v, next := p.next + 1 } := by
      unfold tell
      rw [if_neg (by simpa using hs), if_pos (by omega)]
      unfold fin
      rw [if_neg]
      dsimp only
      omega
    have e : told c seq (x :: l) p = told c seq l (tell c seq x.v x.s p) := rfl
    rw [e, ht, told_slots l _ (by exact hs) (by dsimp only; omega)]
    have e3 : p.next + 1 + (l.length : Int) = p.next + ((x :: l).length : Int) := by simp; omega
    simp only [e3]
    rfl
/-- Where the document's reading stands, and where the pool does. -/
structure Agree (c : Cfg) (ns : List Int) (p : St) (z : RP × Tp × Int) : Prop where
  s : z.2.2 = p.s
  ask : (z.2.1.ask, z.2.1.need) = ask c p
  good : p.s = 1 → z.1 = ⟨ns, p.lim, p.wt, p.wl, p.nt, p.nl⟩ ∧ p.f = bumps (fun _ => 0) ns
theorem lims_told {c : Cfg} {seq : Int} (l : List O3) (ht : 1 ≤ c.t) : ∀ (R : List O3) (j : Nat) (p : St), l.length = c.t.toNat + 2 + j + R.length → l.drop (c.t.toNat + 2 + j) = R → Gone c seq R p → p.s = 0 → p.next = c.t + 2 + (j : Int) → p.lim.length = j → (j : Int) < p.wl →
    (rlims c seq l (p.wl.toNat - j) j ⟨c.t.toNat + 2 + j, p0, false⟩ p.lim).2.2 = (told c seq R p).s ∧
    ((rlims c seq l (p.wl.toNat - j) j ⟨c.t.toNat + 2 + j, p0, false⟩ p.lim).2.1.ask, (rlims c seq l (p.wl.toNat - j) j ⟨c.t.toNat + 2 + j, p0, false⟩ p.lim).2.1.need) = ask c (told c seq R p) ∧
    ((told c seq R p).s = 1 → (rlims c seq l (p.wl.toNat - j) j ⟨c.t.toNat + 2 + j, p0, false⟩ p.lim).1 = (told c seq R p).lim ∧ (told c seq R p).f = p.f ∧ (told c seq R p).wt = p.wt ∧ (told c seq R p).wl = p.wl ∧ (told c seq R p).nt = p.wt ∧ (told c seq R p).nl = p.wl)
  | [], j, p, hl, hd, hg, hs, hn, hj, hw => by
    obtain ⟨g, hgg⟩ : ∃ g, p.wl.toNat - j = g + 1 := ⟨p.wl.toNat - j - 1, by omega⟩
    rw [hgg]
    unfold rlims
    rw [step_end l (by simp at hl; omega)]
    dsimp only
    rw [if_pos rfl]
    refine ⟨hs.symm, ?_, fun h => by change p.s = 1 at h; omega⟩
    show (ldP (at_ c 15 j 0), true) = ask c p
    unfold ask
    rw [if_neg (by simpa using hs), if_neg (by omega), if_neg (by omega), if_neg (by omega), show p.next - c.t - 2 = (j : Int) by omega]
    rfl
  | x :: R, j, p, hl, hd, hg, hs, hn, hj, hw => by
    obtain ⟨g, hgg⟩ : ∃ g, p.wl.toNat - j = g + 1 := ⟨p.wl.toNat - j - 1, by omega⟩
    rw [List.length_cons] at hl
    have hlt : c.t.toNat + 2 + j < l.length := by omega
    have hx : l[c.t.toNat + 2 + j] = x := by
      have := List.drop_eq_getElem_cons hlt
      rw [hd] at this
      simp only [List.cons.injEq] at this
      exact this.1.symm
    have hd2 : l.drop (c.t.toNat + 2 + (j + 1)) = R := by
      have := List.drop_eq_getElem_cons hlt
      rw [hd] at this
      simp only [List.cons.injEq] at this
      rw [show c.t.toNat + 2 + (j + 1) = c.t.toNat + 2 + j + 1 by omega]
      exact this.2.symm
    rw [hgg]
    unfold rlims
    rw [step_on l hlt, out_on l hlt, hx]
    dsimp only
    rw [if_neg (by simp)]
    have e : told c seq (x :: R) p = told c seq R (tell c seq x.v x.s p) := rfl
    rw [e]
    have hg2 := hg.2
    by_cases h2 : seq < x.s
    · have ht2 : tell c seq x.v x.s p = { p with s := 2 } := by
        unfold tell
        rw [if_neg (by simpa using hs), if_neg (by omega), if_pos h2]
      rw [ht2] at hg2 ⊢
      have hR : R = [] := by
        cases R with
        | nil => rfl
        | cons y R => exact absurd hg2.1 (by simp)
      subst hR
      rw [if_pos h2]
      exact ⟨rfl, rfl, fun h => by change (2 : Int) = 1 at h; omega⟩
    · have ht2 : tell c seq x.v x.s p = fin c { p with lim := p.lim ++ [x.v], next := p.next + 1 } := by
        unfold tell
        rw [if_neg (by simpa using hs), if_neg (by omega), if_neg h2, if_neg (by omega), if_neg (by omega)]
      rw [ht2] at hg2 ⊢
      rw [if_neg h2]
      unfold fin at hg2 ⊢
      dsimp only at hg2 ⊢
      by_cases h3 : (j : Int) + 1 = p.wl
      · rw [if_pos ⟨by omega, by simp; omega⟩] at hg2 ⊢
        have hR : R = [] := by
          cases R with
          | nil => rfl
          | cons y R => exact absurd hg2.1 (by simp)
        subst hR
        obtain rfl : g = 0 := by omega
        exact ⟨rfl, rfl, fun _ => ⟨rfl, rfl, rfl, rfl, rfl, rfl⟩⟩
      · rw [if_neg (by simp; omega)] at hg2 ⊢
        have ih := lims_told l ht R (j + 1) { p with lim := p.lim ++ [x.v], next := p.next + 1 } (by omega) hd2 hg2 hs (by dsimp only; omega) (by simp; omega) (by dsimp only; omega)
        have eg : p.wl.toNat - (j + 1) = g := by omega
        dsimp only at ih
        rw [eg] at ih
        exact ih
theorem ask_slot {c : Cfg} {p : St} (hs : p.s = 0) (h : p.next < c.t) : ask c p = (ldP (at_ c 3 p.next 0), true) := by
  unfold ask
  rw [if_neg (by simpa using hs), if_pos h]
  rfl
theorem ask_top {c : Cfg} {p : St} (hs : p.s = 0) (h : p.next = c.t) : ask c p = (ldP (at_ c 12 0 0), true) := by
  unfold ask
  rw [if_neg (by simpa using hs), if_neg (by omega), if_pos h]
  rfl
theorem ask_lim {c : Cfg} {p : St} (hs : p.s = 0) (h : p.next = c.t + 1) : ask c p = (ldP (at_ c 14 0 0), true) := by
  unfold ask
  rw [if_neg (by simpa using hs), if_neg (by omega), if_neg (by omega), if_pos h]
  rfl
theorem rread_told {c : Cfg} (hok : Y.Ok c) (seq : Int) (l : List O3) (hv : ∀ o ∈ l, 0 ≤ o.v) (hg : Gone c seq l new0) : Agree c (vals (l.take c.t.toNat)) (told c seq l new0) (rread c seq l) := by
  have ht1 := hok.t1
  have hlim := limit_pos hok
  by_cases h1 : l.length ≤ c.t.toNat
  · have htold := told_slots (c := c) (seq := seq) l new0 rfl (by simp [new0]; omega)
    rw [htold]
    by_cases h2 : l.length = c.t.toNat
    · have hs := rslots_on c l c.t.toNat (by omega)
      unfold rread
      rw [hs]
      dsimp only
      rw [step_end l h2.symm, if_pos rfl]
      exact ⟨rfl, (ask_top rfl (by show (0 : Int) + l.length = c.t; omega)).symm, fun h => by change (0 : Int) = 1 at h; omega⟩
    · obtain ⟨x, hs⟩ := rslots_end c l c.t.toNat (by omega)
      unfold rread
      rw [hs]
      dsimp only
      rw [step_need, if_pos rfl]
      refine ⟨rfl, ?_, fun h => by change (0 : Int) = 1 at h; omega⟩
      have e : new0.next + (l.length : Int) = l.length := by show (0 : Int) + l.length = l.length; omega
      rw [e]
      exact (ask_slot (p := { new0 with f := bumps new0.f (vals l), next := (l.length : Int) }) rfl (by dsimp only; omega)).symm
  · have hlt : c.t.toNat < l.length := by omega
    have hs := rslots_on c l c.t.toNat (by omega)
    have hsplit : l = l.take c.t.toNat ++ l[c.t.toNat] :: l.drop (c.t.toNat + 1) := by rw [← List.drop_eq_getElem_cons hlt, List.take_append_drop]
    obtain ⟨A, hA⟩ : ∃ A, l.take c.t.toNat = A := ⟨_, rfl⟩
    have hAl : A.length = c.t.toNat := by rw [← hA, List.length_take]; omega
    obtain ⟨x, hx⟩ : ∃ x, l[c.t.toNat] = x := ⟨_, rfl⟩
    obtain ⟨R, hR⟩ : ∃ R, l.drop (c.t.toNat + 1) = R := ⟨_, rfl⟩
    have hxv : 0 ≤ x.v := hv x (by rw [← hx]; exact List.getElem_mem hlt)
    rw [hA, hx, hR] at hsplit
    have hg2 := gone_app (c := c) (seq := seq) (l := A) (r := x :: R) (by rw [← hsplit]; exact hg)
    have htA := told_slots (c := c) (seq := seq) A new0 rfl (by simp [new0]; omega)
    have hnA : new0.next + (A.length : Int) = c.t := by simp [new0]; omega
    rw [hnA] at htA
    have etold : told c seq l new0 = told c seq R (tell c seq x.v x.s (told c seq A new0)) := by
      conv => lhs; rw [hsplit, told_app]
      rfl
    rw [etold]
    replace hg2 := hg2.2.2
    rw [htA] at hg2 ⊢
    unfold rread
    rw [hs, hA]
    dsimp only
    rw [step_on l hlt, out_on l hlt, hx]
    rw [if_neg (by simp)]
    by_cases h2 : seq < x.s
    · have hte : tell c seq x.v x.s { new0 with f := bumps new0.f (vals A), next := c.t } = { new0 with f := bumps new0.f (vals A), next := c.t, s := 2 } := by
        unfold tell
        rw [if_neg (by simp [new0]), if_neg (by simp), if_pos h2]
      rw [hte] at hg2 ⊢
      have hR0 : R = [] := by
        cases R with
        | nil => rfl
        | cons y R => exact absurd hg2.1 (by simp)
      subst hR0
      rw [if_pos h2]
      exact ⟨rfl, rfl, fun h => by change (2 : Int) = 1 at h; omega⟩
    · have hte : tell c seq x.v x.s { new0 with f := bumps new0.f (vals A), next := c.t } = { new0 with f := bumps new0.f (vals A), next := c.t + 1, wt := min x.v c.b } := by
        unfold tell
        rw [if_neg (by simp [new0]), if_neg (by simp), if_neg h2, if_pos rfl]
        unfold fin
        rw [if_neg (by simp)]
      rw [hte] at hg2 ⊢
      rw [if_neg h2]
      cases R with
      | nil =>
        have hle : c.t.toNat + 1 = l.length := by
          have := congrArg List.length hsplit
          simp at this; omega
        rw [step_end l hle, if_pos rfl]
        refine ⟨rfl, ?_, fun h => by change (0 : Int) = 1 at h; omega⟩
        exact (ask_lim (p := { new0 with f := bumps new0.f (vals A), next := c.t + 1, wt := min x.v c.b }) rfl rfl).symm
      | cons y R =>
        have hlt2 : c.t.toNat + 1 < l.length := by
          have := congrArg List.length hsplit
          simp at this; omega
        have hy : l[c.t.toNat + 1] = y := by
          have := List.drop_eq_getElem_cons hlt2
          rw [hR] at this
          simp only [List.cons.injEq] at this
          exact this.1.symm
        have hR2 : l.drop (c.t.toNat + 2) = R := by
          have := List.drop_eq_getElem_cons hlt2
          rw [hR] at this
          simp only [List.cons.injEq] at this
          exact this.2.symm
        have hyv : 0 ≤ y.v := hv y (by rw [← hy]; exact List.getElem_mem hlt2)
        rw [step_on l hlt2, out_on l hlt2, hy, if_neg (by simp)]
        have e : told c seq (y :: R) { new0 with f := bumps new0.f (vals A), next := c.t + 1, wt := min x.v c.b } = told c seq R (tell c seq y.v y.s { new0 with f := bumps new0.f (vals A), next := c.t + 1, wt := min x.v c.b }) := rfl
        rw [e]
        replace hg2 := hg2.2
        by_cases h3 : seq < y.s
        · have hte2 : tell c seq y.v y.s { new0 with f := bumps new0.f (vals A), next := c.t + 1, wt := min x.v c.b } = { new0 with f := bumps new0.f (vals A), next := c.t + 1, wt := min x.v c.b, s := 2 } := by
            unfold tell
            rw [if_neg (by simp [new0]), if_neg (by dsimp only; omega), if_pos h3]
          rw [hte2] at hg2 ⊢
          have hR0 : R = [] := by
            cases R with
            | nil => rfl
            | cons y R => exact absurd hg2.1 (by simp)
          subst hR0
          rw [if_pos h3]
          exact ⟨rfl, rfl, fun h => by change (2 : Int) = 1 at h; omega⟩
        · have hte2 : tell c seq y.v y.s { new0 with f := bumps new0.f (vals A), next := c.t + 1, wt := min x.v c.b } = fin c { new0 with f := bumps new0.f (vals A), next := c.t + 2, wt := min x.v c.b, wl := min y.v (limit c) } := by
            unfold tell
            rw [if_neg (by simp [new0]), if_neg (by dsimp only; omega), if_neg h3, if_neg (by dsimp only; omega), if_pos rfl]
            dsimp only
            rw [show c.t + 1 + 1 = c.t + 2 by omega]
          rw [hte2] at hg2 ⊢
          rw [if_neg h3]
          have hwl0 : 0 ≤ min y.v (limit c) := by omega
          generalize min y.v (limit c) = wl at *
          unfold fin at hg2 ⊢
          by_cases h4 : wl = 0
          · subst h4
            rw [if_pos ⟨by dsimp only; omega, by simp [new0]⟩] at hg2 ⊢
            have hR0 : R = [] := by
              cases R with
              | nil => rfl
              | cons y R => exact absurd hg2.1 (by simp)
            subst hR0
            exact ⟨rfl, rfl, fun _ => ⟨rfl, rfl⟩⟩
          · rw [if_neg (by simp [new0]; omega)] at hg2 ⊢
            have ih := lims_told (c := c) (seq := seq) l ht1 R 0 { new0 with f := bumps new0.f (vals A), next := c.t + 2, wt := min x.v c.b, wl := wl } (by have := congrArg List.length hsplit; simp at this; omega) hR2 hg2 rfl (by simp) rfl (by dsimp only; omega)
            obtain ⟨i1, i2, i3⟩ := ih
            refine ⟨i1, i2, fun h => ?_⟩
            obtain ⟨j1, j2, j3, j4, j5, j6⟩ := i3 h
            refine ⟨?_, j2⟩
            rw [j3, j4, j5, j6]
            have j1' : (rlims c seq l wl.toNat 0 ⟨c.t.toNat + 1 + 1, p0, false⟩ []).1 = _ := j1
            simp only [j1']
end Go.Tum.P
end

/- Plain: what the document's Settle, Take, Give, End of chapter 10 put, and that a pool and a set do the same. -/
section
set_option linter.unusedSimpArgs false
set_option linter.unusedVariables false
namespace Go.Tum.P
open Go.Tum.Y Go.Tum Go.Tum.W
def rp1 (R : Nat) (q : List (Int × Int)) (a v : Int) : List (Int × Int) := (rput R q a v).1
theorem rp1_len (R : Nat) (q : List (Int × Int)) (a v : Int) : (rp1 R q a v).length ≤ q.length + 1 := by
  unfold rp1 rput
  split <;> simp
theorem rep1 {s : S} {R : Nat} {q : List (Int × Int)} (h : Rep s R q) (a v : Int) : Rep (putS s a v) R (rp1 R q a v) := (rep_put h a v).2
def rsettleG (c : Cfg) (ns : List Int) (R : Nat) : List Int → Int → Int → Int → List (Int × Int) → Int × Int × List (Int × Int)
  | [], _, top, nl, q => (top, nl, q)
  | b :: r, k, top, nl, q =>
    if c.b ≤ b then rsettleG c ns R r (k + 1) top nl q
    else if b + 1 ∈ ns then (if nl ≠ k then rsettleG c ns R r (k + 1) top (nl + 1) (rp1 R q (at_ c 15 nl 0) b) else rsettleG c ns R r (k + 1) top (nl + 1) q)
    else if top < c.b then rsettleG c ns R r (k + 1) (top + 1) nl (rp1 R (rp1 R q (at_ c 11 b 0) 0) (at_ c 13 top 0) b)
    else rsettleG c ns R r (k + 1) top nl (rp1 R q (at_ c 11 b 0) 0)
theorem settleG_rep {c : Cfg} {ns : List Int} {R : Nat} {f : Int → Int} (hf : ∀ z, f z = 0 ↔ z ∉ ns) : ∀ (L : List Int) (k : Int) (p : St) (s : S) (q : List (Int × Int)) (kept : Int), p.f = f → Rep s R q →
    (rsettleG c ns R L k p.nt kept q).1 = (settleG c L k kept (p, s)).1.nt ∧ (rsettleG c ns R L k p.nt kept q).2.1 = (settleG c L k kept (p, s)).2.2 ∧ Rep (settleG c L k kept (p, s)).2.1 R (rsettleG c ns R L k p.nt kept q).2.2 ∧
    (settleG c L k kept (p, s)).1.wt = p.wt ∧ (settleG c L k kept (p, s)).1.wl = p.wl
  | [], k, p, s, q, kept, hp, h => ⟨rfl, rfl, h, rfl, rfl⟩
  | b :: L, k, p, s, q, kept, hp, h => by
    unfold settleG rsettleG
    by_cases h1 : c.b ≤ b
    · rw [if_pos h1, if_pos h1]
      exact settleG_rep hf L (k + 1) p s q kept hp h
    rw [if_neg h1, if_neg h1]
    by_cases h2 : b + 1 ∈ ns
    · rw [if_pos h2, if_neg (show ¬ p.f (b + 1) = 0 from by rw [hp, hf]; exact fun h => h h2)]
      by_cases h3 : kept ≠ k
      · rw [if_pos h3, if_pos h3]
        exact settleG_rep hf L (k + 1) p _ _ (kept + 1) hp (rep1 h _ _)
      · rw [if_neg h3, if_neg h3]
        exact settleG_rep hf L (k + 1) p s q (kept + 1) hp h
    · rw [if_neg h2, if_pos (show p.f (b + 1) = 0 from by rw [hp, hf]; exact h2)]
      unfold release
      dsimp only
      by_cases h3 : p.nt < c.b
      · rw [if_pos h3, if_pos h3]
        exact settleG_rep hf L (k + 1) { p with nt := p.nt + 1 } _ _ kept hp (rep1 (rep1 h _ _) _ _)
      · rw [if_neg h3, if_neg h3]
        exact settleG_rep hf L (k + 1) p _ _ kept hp (rep1 h _ _)
/-- How the document's pool stands beside the pool's state. -/
structure Like (p : St) (top nl wt wl : Int) : Prop where
  top : top = p.nt
  nl : nl = p.nl
  wt : wt = p.wt
  wl : wl = p.wl
theorem settle_like {c : Cfg} {ns : List Int} {R : Nat} {p : St} (hf : p.f = bumps (fun _ => 0) ns) {s : S} {q : List (Int × Int)} (h : Rep s R q) {top nl wt wl : Int} (hk : Like p top nl wt wl) :
    Like (settle c p s).1 (rsettleG c ns R p.lim 0 top 0 q).1 (rsettleG c ns R p.lim 0 top 0 q).2.1 wt wl ∧ Rep (settle c p s).2 R (rsettleG c ns R p.lim 0 top 0 q).2.2 := by
  have hz : ∀ z, bumps (fun _ => 0) ns z = 0 ↔ z ∉ ns := fun z => by
    have := (bumps_zero ns (fun _ => 0) z (fun _ => Int.le_refl _)).2
    rw [this]; simp
  obtain ⟨rfl, rfl, rfl, rfl⟩ := hk
  obtain ⟨h1, h2, h3, h4, h5⟩ := settleG_rep (c := c) (R := R) hz p.lim 0 p s q 0 hf h
  exact ⟨⟨h1, h2, h4.symm, h5.symm⟩, h3⟩
def rwipe (c : Cfg) (b : Int) (R : Nat) : Nat → List (Int × Int) → List (Int × Int)
  | 0, q => q
  | k + 1, q => rp1 R (rwipe c b R k q) (at_ c 16 b k) 0
theorem rwipe_len (c : Cfg) (b : Int) (R : Nat) (q : List (Int × Int)) : ∀ n, (rwipe c b R n q).length ≤ q.length + n
  | 0 => Nat.le_refl _
  | n + 1 => by
    have := rwipe_len c b R q n
    have := rp1_len R (rwipe c b R n q) (at_ c 16 b n) 0
    unfold rwipe
    omega
theorem wipe_rep {c : Cfg} {b : Int} {R : Nat} {s : S} {q : List (Int × Int)} (h : Rep s R q) : ∀ n, Rep (wipe c b n s) R (rwipe c b R n q)
  | 0 => h
  | n + 1 => rep1 (wipe_rep h n) _ _
def rtakeP (c : Cfg) (b : Int) (R : Nat) (top : Int) (q : List (Int × Int)) : Int × List (Int × Int) :=
  if top = 0 ∨ b < 0 ∨ c.b ≤ b then (top, q) else (top - 1, rwipe c b R 8 (rp1 R q (at_ c 11 b 0) 1))
def rgiveP (c : Cfg) (b : Int) (R : Nat) (nl : Int) (q : List (Int × Int)) : Int × List (Int × Int) :=
  if limit c ≤ nl ∨ b < 0 ∨ c.b ≤ b then (nl, q) else (nl + 1, rp1 R (rp1 R q (at_ c 11 b 0) 2) (at_ c 15 nl 0) b)
theorem life_none {c : Cfg} (hok : Y.Ok c) (b : Int) : at_ c 11 b 0 = -1 ↔ b < 0 ∨ c.b ≤ b := by
  constructor
  · intro h
    apply Classical.byContradiction
    intro hn
    have hi : Is c 11 b 0 := is11 (by omega)
    unfold at_ at h
    rw [if_pos hi] at h
    have := (wh_place hok hi).2
    omega
  · intro h
    unfold at_
    rw [if_neg]
    rintro ⟨h1, h2, _⟩
    have : b < c.b := by simpa [cnt] using h2
    omega
theorem take_like {c : Cfg} (hok : Y.Ok c) {R : Nat} {p : St} {s : S} {q : List (Int × Int)} (h : Rep s R q) {top nl wt wl : Int} (hk : Like p top nl wt wl) (b : Int) :
    Like (take c b p s).1 (rtakeP c b R top q).1 nl wt wl ∧ Rep (take c b p s).2 R (rtakeP c b R top q).2 := by
  obtain ⟨rfl, rfl, rfl, rfl⟩ := hk
  unfold take rtakeP
  have hl := life_none hok b
  by_cases h1 : p.nt = 0 ∨ b < 0 ∨ c.b ≤ b
  · rw [if_pos (show p.nt = 0 ∨ at_ c 11 b 0 = -1 from by rw [hl]; exact h1), if_pos h1]
    exact ⟨⟨rfl, rfl, rfl, rfl⟩, h⟩
  · rw [if_neg (show ¬ (p.nt = 0 ∨ at_ c 11 b 0 = -1) from by rw [hl]; exact h1), if_neg h1]
    have hw := wipe_rep (c := c) (b := b) (rep1 h (at_ c 11 b 0) 1) 8
    generalize wipe c b 8 (putS s (at_ c 11 b 0) 1) = z1 at *
    generalize rwipe c b R 8 (rp1 R q (at_ c 11 b 0) 1) = z2 at *
    exact ⟨⟨rfl, rfl, rfl, rfl⟩, hw⟩
theorem give_like {c : Cfg} (hok : Y.Ok c) {R : Nat} {p : St} {s : S} {q : List (Int × Int)} (h : Rep s R q) {top nl wt wl : Int} (hk : Like p top nl wt wl) (b : Int) :
    Like (give c b p s).1 top (rgiveP c b R nl q).1 wt wl ∧ Rep (give c b p s).2 R (rgiveP c b R nl q).2 := by
  obtain ⟨rfl, rfl, rfl, rfl⟩ := hk
  unfold give rgiveP
  have hl := life_none hok b
  by_cases h1 : limit c ≤ p.nl ∨ b < 0 ∨ c.b ≤ b
  · rw [if_pos (show limit c ≤ p.nl ∨ at_ c 11 b 0 = -1 from by rw [hl]; exact h1), if_pos h1]
    exact ⟨⟨rfl, rfl, rfl, rfl⟩, h⟩
  · rw [if_neg (show ¬ (limit c ≤ p.nl ∨ at_ c 11 b 0 = -1) from by rw [hl]; exact h1), if_neg h1]
    exact ⟨⟨rfl, rfl, rfl, rfl⟩, rep1 (rep1 h _ _) _ _⟩
theorem end_like {c : Cfg} {R : Nat} {p : St} {s : S} {q : List (Int × Int)} (h : Rep s R q) {top nl wt wl : Int} (hk : Like p top nl wt wl) :
    Rep (end_ c p s) R (Go.Proofs.Ytccioehckfdjdaa.rendP c wt wl top nl R q) := by
  obtain ⟨rfl, rfl, rfl, rfl⟩ := hk
  unfold end_ Go.Proofs.Ytccioehckfdjdaa.rendP
  dsimp only
  by_cases h1 : p.nt ≠ p.wt <;> by_cases h2 : p.nl ≠ p.wl
  · rw [if_pos h2, if_pos h2, if_pos h1, if_pos h1]; exact rep1 (rep1 h _ _) _ _
  · rw [if_neg h2, if_neg h2, if_pos h1, if_pos h1]; exact rep1 h _ _
  · rw [if_pos h2, if_pos h2, if_neg h1, if_neg h1]; exact rep1 h _ _
  · rw [if_neg h2, if_neg h2, if_neg h1, if_neg h1]; exact h
theorem top_like {c : Cfg} {p : St} {top nl wt wl : Int} (hk : Like p top nl wt wl) : P.top c p = Go.Proofs.Ytccioehckfdjdaa.rtopP c top := by
  obtain ⟨rfl, rfl, rfl, rfl⟩ := hk
  rfl
end Go.Tum.P
end
