/- Plain: what a pool is that was told slots, how many are free, and who is in limbo; taken, given, settled, undone. -/
import Derived.Test.YtccioehckfdjdaaPread
import Derived.Test.YtccioehckfdjdaaPcells
import Derived.Test.YtccioehckfdjdaaWplain
import Derived.Test.YtccioehckfdjdaaYany
import Derived.Test.YtccioehckfdjdaaWha
set_option linter.unusedSimpArgs false
set_option linter.unusedVariables false
namespace Go.Tum.P
open Go.Tum.Y Go.Tum
def bumps (f : Int → Int) (l : List Int) : Int → Int := l.foldl bump f
theorem bumps_zero : ∀ (l : List Int) (f : Int → Int) (z : Int), (∀ z, 0 ≤ f z) → (0 ≤ bumps f l z) ∧ (bumps f l z = 0 ↔ f z = 0 ∧ z ∉ l)
  | [], f, z, h => ⟨h z, by simp [bumps]⟩
  | y :: l, f, z, h => by
    have hb : ∀ z, 0 ≤ bump f y z := fun z => by unfold bump; have := h y; have := h z; split <;> omega
    have ih := bumps_zero l (bump f y) z hb
    have e : bumps f (y :: l) = bumps (bump f y) l := rfl
    rw [e]
    refine ⟨ih.1, ih.2.trans ?_⟩
    have h1 : bump f y z = 0 ↔ f z = 0 ∧ z ≠ y := by
      unfold bump
      have := h y
      by_cases hz : z = y
      · subst hz; simp; omega
      · simp [hz]
    rw [h1]
    constructor
    · rintro ⟨⟨a, b⟩, d⟩; exact ⟨a, by simp [b, d]⟩
    · rintro ⟨a, b⟩; simp at b; exact ⟨⟨a, b.1⟩, b.2⟩
theorem feed_slots {c : Cfg} (r : List O3) : ∀ (l : List Int) (k : Nat) (p : St), p.s = 0 → p.next + (l.length : Int) ≤ c.t →
    feed c 5 (fives l ++ r) k p = feed c 5 r (k + l.length) { p with f := bumps p.f l, next := p.next + (l.length : Int) }
  | [], k, p, hs, hn => by simp [fives, bumps]
  | x :: l, k, p, hs, hn => by
    rw [List.length_cons] at hn
    have e : fives (x :: l) ++ r = ⟨x, 5, true⟩ :: (fives l ++ r) := rfl
    rw [e]
    conv => lhs; unfold feed
    rw [if_neg (by simpa using hs)]
    have ht : tell c 5 x 5 p = { p with f := bump p.f x, next := p.next + 1 } := by
      unfold tell
      rw [if_neg (by simpa using hs), if_pos (by omega)]
      unfold fin
      rw [if_neg]
      dsimp only
      omega
    rw [ht, feed_slots r l (k + 1) _ (by exact hs) (by dsimp only; omega)]
    have e2 : k + 1 + l.length = k + (x :: l).length := by simp; omega
    have e3 : p.next + 1 + (l.length : Int) = p.next + ((x :: l).length : Int) := by simp; omega
    rw [e2]
    congr 2
theorem feed_lim {c : Cfg} : ∀ (l : List Int) (k : Nat) (p : St), p.s = 0 → l ≠ [] → p.next = c.t + 2 + p.lim.length → (p.lim.length : Int) + (l.length : Int) = p.wl →
    feed c 5 (fives l) k p = ({ p with next := p.next + (l.length : Int), lim := p.lim ++ l, nt := p.wt, nl := p.wl, s := 1 }, k + l.length)
  | [], _, _, _, h, _, _ => absurd rfl h
  | x :: l, k, p, hs, _, hn, hl => by
    rw [List.length_cons] at hl
    have e : fives (x :: l) = ⟨x, 5, true⟩ :: fives l := rfl
    rw [e]
    unfold feed
    rw [if_neg (by simpa using hs)]
    have h0 : tell c 5 x 5 p = fin c { p with lim := p.lim ++ [x], next := p.next + 1 } := by
      unfold tell
      rw [if_neg (by simpa using hs), if_neg (by omega), if_neg (by omega), if_neg (by omega), if_neg (by omega)]
    rw [h0]
    unfold fin
    dsimp only
    by_cases hl0 : l = []
    · subst hl0
      rw [if_pos ⟨by omega, by simp at hl ⊢; omega⟩]
      simp [fives, feed]
    · have hpos : 0 < l.length := List.length_pos_iff.2 hl0
      rw [if_neg (by simp; omega)]
      rw [feed_lim l (k + 1) _ (by exact hs) hl0 (by simp; omega) (by simp; omega)]
      simp only [List.append_assoc, List.singleton_append, List.length_cons, Prod.mk.injEq, St.mk.injEq, and_true, true_and]
      refine ⟨?_, by omega⟩
      push_cast
      omega
theorem feed_all {c : Cfg} (hok : Y.Ok c) (slots limbo : List Int) (x : Int) (hs : (slots.length : Int) = c.t) (hx : 0 ≤ x) (hl : (limbo.length : Int) ≤ limit c) :
    feed c 5 (fives (slots ++ x :: (limbo.length : Int) :: limbo)) 0 new0 = (⟨c.t + 2 + limbo.length, bumps (fun _ => 0) slots, min x c.b, limbo.length, min x c.b, limbo.length, limbo, 1⟩, slots.length + 2 + limbo.length) := by
  have e : fives (slots ++ x :: (limbo.length : Int) :: limbo) = fives slots ++ (⟨x, 5, true⟩ :: ⟨(limbo.length : Int), 5, true⟩ :: fives limbo) := by simp [fives]
  rw [e, feed_slots _ slots 0 new0 rfl (by simp [new0]; omega)]
  have hn : new0.next + (slots.length : Int) = c.t := by simp [new0]; omega
  rw [hn]
  have ht1 := hok.t1
  have h1 : tell c 5 x 5 { new0 with f := bumps new0.f slots, next := c.t } = { new0 with f := bumps new0.f slots, next := c.t + 1, wt := min x c.b } := by
    unfold tell
    rw [if_neg (by simp [new0]), if_neg (by simp), if_neg (by simp), if_pos rfl]
    unfold fin
    rw [if_neg (by simp)]
  unfold feed
  rw [if_neg (by simp [new0])]
  rw [show (⟨x, 5, true⟩ : O3).v = x from rfl, show (⟨x, 5, true⟩ : O3).s = 5 from rfl, h1]
  have h2 : tell c 5 (limbo.length : Int) 5 { new0 with f := bumps new0.f slots, next := c.t + 1, wt := min x c.b } = fin c { new0 with f := bumps new0.f slots, next := c.t + 2, wt := min x c.b, wl := limbo.length } := by
    unfold tell
    rw [if_neg (by simp [new0]), if_neg (by dsimp only; omega), if_neg (by simp), if_neg (by dsimp only; omega), if_pos rfl]
    dsimp only
    rw [Int.min_eq_left hl, show c.t + 1 + 1 = c.t + 2 by omega]
  unfold feed
  rw [if_neg (by simp [new0])]
  rw [show (⟨(limbo.length : Int), 5, true⟩ : O3).v = limbo.length from rfl, show (⟨(limbo.length : Int), 5, true⟩ : O3).s = 5 from rfl, h2]
  unfold fin
  by_cases hl0 : limbo = []
  · subst hl0
    rw [if_pos (by simp [new0])]
    simp [fives, feed, new0]
  · have hpos : 0 < limbo.length := List.length_pos_iff.2 hl0
    rw [if_neg (by simp [new0]; omega)]
    rw [feed_lim limbo _ _ rfl hl0 (by simp [new0]) (by simp [new0])]
    simp [new0]
end Go.Tum.P
namespace Go.Tum.W
open Go.Tum
/-- Whatever was put: all undone, nothing is there. -/
theorem back_nil {s : S} (h : Good s) : (back s 0).1.list = [] ∧ (back s 0).1.done = [] := by
  have hb := good_back h 0
  have e : (back s 0).1.done = [] := by
    have h0 := undoTo_done_len 0 s.done.length s rfl
    unfold back
    rw [if_neg (by omega)]
    exact List.eq_nil_of_length_eq_zero (by simpa using h0)
  unfold Good at hb
  rw [e] at hb
  exact ⟨hb, e⟩
theorem back_room (s : S) (m : Int) : (back s m).1.room = s.room := by
  have h : ∀ (n : Nat) (m : Nat) (s : S), (undoTo m n s).room = s.room := by
    intro n
    induction n with
    | zero => intro m s; rfl
    | succ n ih => intro m s; unfold undoTo; split; rfl; rw [ih]
  unfold back
  split
  · rfl
  · exact h _ _ _
end Go.Tum.W
namespace Go.Tum.P
open Go.Tum.Y Go.Tum
theorem putS_done (s : W.S) (a v : Int) : (putS s a v).done.length ≤ s.done.length + 1 := W.put_done_len s a v
theorem putS_good {s : W.S} (h : W.Good s) (a v : Int) : W.Good (putS s a v) := W.good_put h a v
theorem putS_room (s : W.S) (a v : Int) : (putS s a v).room = s.room := W.put_room s a v
theorem wipe_all (c : Cfg) (b : Int) : ∀ (n : Nat) (s : W.S), (wipe c b n s).done.length ≤ s.done.length + n ∧ (W.Good s → W.Good (wipe c b n s)) ∧ (wipe c b n s).room = s.room
  | 0, s => ⟨Nat.le_refl _, id, rfl⟩
  | n + 1, s => by
    obtain ⟨h1, h2, h3⟩ := wipe_all c b n s
    unfold wipe
    refine ⟨?_, fun h => putS_good (h2 h) _ _, (putS_room _ _ _).trans h3⟩
    have := putS_done (wipe c b n s) (at_ c 16 b n) 0
    omega
/-- What an act keeps. -/
structure Acts (c : Cfg) (p p' : St) (s s' : W.S) : Prop where
  nt : p'.nt ≤ p.nt
  nl : p.nl ≤ p'.nl
  nt0 : 0 ≤ p.nt → 0 ≤ p'.nt
  nlm : p.nl ≤ limit c → p'.nl ≤ limit c
  done : s'.done.length ≤ s.done.length + 9
  good : W.Good s → W.Good s'
  room : s'.room = s.room
  same : p'.next = p.next ∧ p'.f = p.f ∧ p'.wt = p.wt ∧ p'.wl = p.wl ∧ p'.lim = p.lim ∧ p'.s = p.s
theorem take_acts (c : Cfg) (b : Int) (p : St) (s : W.S) : Acts c p (take c b p s).1 s (take c b p s).2 := by
  unfold take
  split
  · exact ⟨Int.le_refl _, Int.le_refl _, id, id, by dsimp only; omega, id, rfl, rfl, rfl, rfl, rfl, rfl, rfl⟩
  · rename_i h
    have hd := putS_done s (at_ c 11 b 0) 1
    have hg : W.Good s → W.Good (putS s (at_ c 11 b 0) 1) := fun h0 => putS_good h0 _ _
    have hr := putS_room s (at_ c 11 b 0) 1
    generalize putS s (at_ c 11 b 0) 1 = y at *
    have hw := wipe_all c b 8 y
    generalize wipe c b 8 y = z at *
    obtain ⟨h1, h2, h3⟩ := hw
    exact ⟨by dsimp only; omega, Int.le_refl _, fun h0 => by dsimp only; omega, id, by dsimp only; omega, fun h0 => h2 (hg h0), h3.trans hr, rfl, rfl, rfl, rfl, rfl, rfl⟩
theorem give_acts (c : Cfg) (b : Int) (p : St) (s : W.S) : Acts c p (give c b p s).1 s (give c b p s).2 := by
  unfold give
  split
  · exact ⟨Int.le_refl _, Int.le_refl _, id, id, by dsimp only; omega, id, rfl, rfl, rfl, rfl, rfl, rfl, rfl⟩
  · rename_i h
    have hd := putS_done s (at_ c 11 b 0) 2
    have hd2 := putS_done (putS s (at_ c 11 b 0) 2) (at_ c 15 p.nl 0) b
    exact ⟨Int.le_refl _, by dsimp only; omega, id, fun h0 => by dsimp only; omega, by dsimp only; omega, fun h0 => putS_good (putS_good h0 _ _) _ _, (putS_room _ _ _).trans (putS_room _ _ _), rfl, rfl, rfl, rfl, rfl, rfl⟩
/-- What is so all the while, behind so many acts. -/
structure Bk (c : Cfg) (x : Int) (j : Nat) (p : St) (s : W.S) : Prop where
  nt : 0 ≤ p.nt ∧ p.nt ≤ min x c.b
  nl : 0 ≤ p.nl ∧ p.nl ≤ limit c
  wt : p.wt = min x c.b
  wl : p.wl = 0
  done : s.done.length ≤ 9 * j
  good : W.Good s
theorem Bk.acts {c : Cfg} {x : Int} {j : Nat} {p p' : St} {s s' : W.S} (h : Bk c x j p s) (a : Acts c p p' s s') : Bk c x (j + 1) p' s' :=
  ⟨⟨a.nt0 h.nt.1, by have := a.nt; have := h.nt; omega⟩, ⟨by have := a.nl; have := h.nl; omega, a.nlm h.nl.2⟩, by rw [a.same.2.2.1, h.wt], by rw [a.same.2.2.2.1, h.wl], by have := a.done; have := h.done; omega, a.good h.good⟩
theorem Bk.end {c : Cfg} {x : Int} {j : Nat} {p : St} {s : W.S} (h : Bk c x j p s) : end_ c { p with nt := min x c.b, nl := 0 } (W.back s 0).1 = (W.back s 0).1 ∧ (W.back s 0).1.list = [] := by
  refine ⟨?_, (W.back_nil h.good).1⟩
  unfold end_
  have h1 := h.wt; have h2 := h.wl
  rw [if_neg (fun hn => hn h2.symm), if_neg (fun hn => hn h1.symm)]
def bk0 (c : Cfg) (x : Int) : St := ⟨c.t + 2, bumps (fun _ => 0) (List.replicate c.t.toNat 0), min x c.b, 0, min x c.b, 0, [], 1⟩
theorem feed_bk {c : Cfg} (hok : Y.Ok c) (x : Int) (hx : 0 ≤ x) : feed c 5 (fives (List.replicate c.t.toNat 0 ++ [x, 0])) 0 new0 = (bk0 c x, c.t.toNat + 2) := by
  have ht := hok.t1
  have hl := limit_pos hok
  have h := feed_all hok (List.replicate c.t.toNat 0) [] x (by simp; omega) hx (by simp; omega)
  simp only [List.length_nil, Int.ofNat_zero, List.length_replicate, Int.add_zero, Nat.add_zero] at h
  exact h
theorem bk0_ok {c : Cfg} (hok : Y.Ok c) (x : Int) (hx : 0 ≤ x ∧ x ≤ 1000) : Ok c (bk0 c x) := by
  have h := feed_ok hok 5 (fives (List.replicate c.t.toNat 0 ++ [x, 0])) 0 new0 (ok_new c hok) (fun o ho => by
    obtain ⟨z, hz, rfl⟩ := List.mem_map.1 ho
    rcases List.mem_append.1 hz with hz | hz
    · have := List.eq_of_mem_replicate hz; subst this; decide
    · simp at hz; dsimp only; omega)
  rwa [feed_bk hok x hx.1] at h
theorem settle_bk (c : Cfg) (x : Int) (s : W.S) : settle c (bk0 c x) s = (bk0 c x, s) := rfl
theorem bk_start {c : Cfg} (hok : Y.Ok c) (x : Int) (hx : 0 ≤ x) (r : Nat) : Bk c x 0 (bk0 c x) ⟨r, [], []⟩ := by
  have := hok.b1; have := limit_pos hok
  exact ⟨⟨by simp [bk0]; omega, by simp [bk0]⟩, ⟨by simp [bk0], by simp [bk0]; omega⟩, rfl, rfl, by simp, W.good_new r⟩
end Go.Tum.P
namespace Go.Tum.W
theorem idx_map (l : List (Int × Int)) (a : Int) : idx l a = (l.map (·.1)).findIdx? (· == a) := by
  unfold idx
  rw [List.findIdx?_map]
  rfl
theorem set_keys {l : List (Int × Int)} {i : Nat} (hi : i < l.length) {a : Int} (v : Int) (ha : l[i].1 = a) : (l.set i (a, v)).map (·.1) = l.map (·.1) := by
  apply List.ext_getElem
  · simp
  · intro j h1 h2
    simp only [List.getElem_map, List.getElem_set]
    split
    · rename_i e; subst e; exact ha.symm
    · rfl
/-- A put that has room: done, told as OK. -/
theorem put_ok {s : S} (h : s.list.length < s.room) (a v : Int) : (put s a v).2 = 0 ∧ (put s a v).1.done.length = s.done.length + 1 ∧ (put s a v).1.list.length ≤ s.list.length + 1 ∧
    (put s a v).1.list.map (·.1) = s.list.map (·.1) ++ (if (get s a).2 then [] else [a]) ∧ ∀ b, get (put s a v).1 b = if b = a then (v, true) else get s b := by
  unfold put get
  cases hx : idx s.list a with
  | some i =>
    obtain ⟨hi, ha⟩ := idx_some hx
    refine ⟨rfl, by simp, by simp, by simp [set_keys hi v ha], fun b => ?_⟩
    have e : idx (s.list.set i (a, v)) b = idx s.list b := by rw [idx_map, idx_map, set_keys hi v ha]
    simp only [e]
    by_cases hb : b = a
    · subst hb
      rw [hx, if_pos rfl]
      simp [List.getD, hi]
    · rw [if_neg hb]
      cases hy : idx s.list b with
      | none => rfl
      | some j =>
        obtain ⟨hj, hjb⟩ := idx_some hy
        have hij : i ≠ j := fun e => hb (by subst e; rw [← hjb, ← ha])
        simp [List.getD, hij]
  | none =>
    simp only [Nat.not_le.2 h, if_false]
    refine ⟨trivial, by simp, by simp, by simp, fun b => ?_⟩
    by_cases hb : b = a
    · subst hb
      have e : idx (s.list ++ [(b, v)]) b = some s.list.length := by
        unfold idx at hx ⊢
        rw [List.findIdx?_append, hx]
        simp
      rw [if_pos rfl]
      simp only [e]
      simp [List.getD]
    · rw [if_neg hb]
      cases hy : idx s.list b with
      | none =>
        have e : idx (s.list ++ [(a, v)]) b = none := by
          unfold idx at hy ⊢
          rw [List.findIdx?_append, hy]
          simp [Ne.symm hb]
        simp only [e]
      | some j =>
        obtain ⟨hj, hjb⟩ := idx_some hy
        have e : idx (s.list ++ [(a, v)]) b = some j := by
          unfold idx at hy ⊢
          rw [List.findIdx?_append, hy]
          rfl
        simp only [e]
        simp [List.getD, List.getElem?_append_left hj]
end Go.Tum.W
namespace Go.Tum.P
open Go.Tum.Y Go.Tum
theorem putS_get {s : W.S} (h : s.list.length < s.room) (a v z : Int) : W.get (putS s a v) z = if z = a then (v, true) else W.get s z := (W.put_ok h a v).2.2.2.2 z
theorem putS_len {s : W.S} (h : s.list.length < s.room) (a v : Int) : (putS s a v).list.length ≤ s.list.length + 1 := (W.put_ok h a v).2.2.1
theorem putS_rm (s : W.S) (a v : Int) : (putS s a v).room = s.room := W.put_room s a v
theorem putS_dn (s : W.S) (a v : Int) : (putS s a v).done.length ≤ s.done.length + 1 := W.put_done_len s a v
theorem is11 {c : Cfg} {b : Int} (h : 0 ≤ b ∧ b < c.b) : Is c 11 b 0 := ⟨h.1, by simpa [cnt] using h.2, by omega, by simp [eachP, each]⟩
theorem is13 {c : Cfg} {b : Int} (h : 0 ≤ b ∧ b < c.b) : Is c 13 b 0 := ⟨h.1, by simpa [cnt] using h.2, by omega, by simp [eachP, each]⟩
theorem is15 {c : Cfg} {b : Int} (h : 0 ≤ b ∧ b < limit c) : Is c 15 b 0 := ⟨h.1, by simpa [cnt] using h.2, by omega, by simp [eachP, each]⟩
theorem at_ne {c : Cfg} (hok : Y.Ok c) {kd i kd' i' k k' : Int} (h1 : Is c kd i k) (h2 : Is c kd' i' k') (hn : ¬ (kd = kd' ∧ i = i' ∧ k = k')) : at_ c kd i k ≠ at_ c kd' i' k' := by
  unfold at_
  rw [if_pos h1, if_pos h2]
  exact fun e => hn (Go.Proofs.Ytccioehckfdjdaa.place_inj hok h1 h2 e)
def freeL (f : Int → Int) (L : List Int) : List Int := L.filter fun b => decide (f (b + 1) = 0)
def keptL (f : Int → Int) (L : List Int) : List Int := L.filter fun b => !decide (f (b + 1) = 0)
theorem freeL_snoc (f : Int → Int) (D : List Int) (b : Int) : freeL f (D ++ [b]) = if f (b + 1) = 0 then freeL f D ++ [b] else freeL f D := by
  unfold freeL; rw [List.filter_append]; by_cases h : f (b + 1) = 0 <;> simp [h]
theorem keptL_snoc (f : Int → Int) (D : List Int) (b : Int) : keptL f (D ++ [b]) = if f (b + 1) = 0 then keptL f D else keptL f D ++ [b] := by
  unfold keptL; rw [List.filter_append]; by_cases h : f (b + 1) = 0 <;> simp [h]
theorem freeL_len (f : Int → Int) (D : List Int) : (freeL f D).length ≤ D.length := List.length_filter_le _ _
theorem keptL_len (f : Int → Int) (D : List Int) : (keptL f D).length ≤ D.length := List.length_filter_le _ _
/-- What has been done for the first ones in limbo. -/
structure Fz (c : Cfg) (f : Int → Int) (top : Int) (D : List Int) (p : St) (s : W.S) (kept : Int) : Prop where
  nt : p.nt = top + (freeL f D).length
  kept : kept = (keptL f D).length
  ff : p.f = f
  life1 : ∀ b ∈ freeL f D, W.get s (at_ c 11 b 0) = (0, true)
  life2 : ∀ b, 0 ≤ b → b < c.b → b ∉ freeL f D → (W.get s (at_ c 11 b 0)).2 = false
  stack : ∀ j (h : j < (freeL f D).length), W.get s (at_ c 13 (top + j) 0) = ((freeL f D)[j], true)
  lim1 : ∀ j (h : j < (keptL f D).length), W.get s (at_ c 15 j 0) = ((keptL f D)[j], true) ∨ (W.get s (at_ c 15 j 0)).2 = false ∧ D[j]? = some (keptL f D)[j]
  lim2 : ∀ j : Nat, (keptL f D).length ≤ j → (j : Int) < limit c → (W.get s (at_ c 15 j 0)).2 = false
  room : s.room = 200
  len : s.list.length ≤ 2 * D.length
  done : s.done.length ≤ 2 * D.length
theorem fz_free {c : Cfg} (hok : Y.Ok c) {f : Int → Int} {top : Int} {D : List Int} {p : St} {s : W.S} {kept : Int} (h : Fz c f top D p s kept) (ht : 0 ≤ top) {b : Int} (hb : 0 ≤ b ∧ b < c.b) (hf : f (b + 1) = 0) (htop : top + (D.length : Int) < c.b) (hl : (D.length : Int) < limit c) (h8 : D.length ≤ 90) :
    Fz c f top (D ++ [b]) (release c (p, s) b).1 (release c (p, s) b).2 kept := by
  have hlen := freeL_len f D
  have hkl := keptL_len f D
  have hnt : p.nt < c.b := by have := h.nt; omega
  unfold release
  rw [if_pos hnt]
  have r0 : s.list.length < s.room := by have := h.room; have := h.len; omega
  have r1 : (putS s (at_ c 11 b 0) 0).list.length < (putS s (at_ c 11 b 0) 0).room := by have := putS_len r0 (at_ c 11 b 0) 0; rw [putS_rm]; have := h.room; have := h.len; omega
  have hg : ∀ z, W.get (putS (putS s (at_ c 11 b 0) 0) (at_ c 13 p.nt 0) b) z = if z = at_ c 13 p.nt 0 then (b, true) else if z = at_ c 11 b 0 then (0, true) else W.get s z := fun z => by
    rw [putS_get r1, putS_get r0]
  have i11 : ∀ x, 0 ≤ x ∧ x < c.b → Is c 11 x 0 := fun x hx => is11 hx
  have i13 : Is c 13 p.nt 0 := is13 ⟨by have := h.nt; omega, hnt⟩
  have hfs := freeL_snoc f D b
  rw [if_pos hf] at hfs
  have hks := keptL_snoc f D b
  rw [if_pos hf] at hks
  refine ⟨?_, ?_, ?_, ?_, ?_, ?_, ?_, ?_, ?_, ?_, ?_⟩
  · rw [hfs]; have := h.nt; simp; omega
  · rw [hks]; exact h.kept
  · exact h.ff
  · intro x hx
    rw [hfs] at hx
    dsimp only
    rw [hg]
    rcases List.mem_append.1 hx with hx | hx
    · by_cases hxb : 0 ≤ x ∧ x < c.b
      · rw [if_neg (at_ne hok (i11 x hxb) i13 (by omega))]
        by_cases e : at_ c 11 x 0 = at_ c 11 b 0
        · rw [if_pos e]
        · rw [if_neg e]; exact h.life1 x hx
      · have e : at_ c 11 x 0 = -1 := by unfold at_; rw [if_neg]; rintro ⟨h1, h2, _⟩; exact hxb ⟨h1, by simpa [cnt] using h2⟩
        have hp : ∀ i, Is c 13 i 0 → at_ c 13 i 0 ≠ -1 := fun i hi => by
          unfold at_; rw [if_pos hi]; have := (wh_place hok hi).2; omega
        have hp2 : at_ c 11 b 0 ≠ -1 := by unfold at_; rw [if_pos (i11 b hb)]; have := (wh_place hok (i11 b hb)).2; omega
        rw [e, if_neg (fun e => hp _ i13 e.symm), if_neg (fun e => hp2 e.symm), ← e]
        exact h.life1 x hx
    · obtain rfl : x = b := by simpa using hx
      rw [if_neg (at_ne hok (i11 x hb) i13 (by omega)), if_pos rfl]
  · intro x h0 h1 hx
    rw [hfs] at hx
    simp at hx
    dsimp only
    rw [hg, if_neg (at_ne hok (i11 x ⟨h0, h1⟩) i13 (by omega)), if_neg (at_ne hok (i11 x ⟨h0, h1⟩) (i11 b hb) (by omega))]
    exact h.life2 x h0 h1 hx.1
  · intro j hj
    have hj' : j < (freeL f D ++ [b]).length := by rw [← hfs]; exact hj
    have he : (freeL f (D ++ [b]))[j] = (freeL f D ++ [b])[j] := by congr 1
    rw [he]
    have hj2 : j < (freeL f D).length + 1 := by simpa using hj'
    dsimp only
    have i13j : Is c 13 (top + j) 0 := is13 (by omega)
    by_cases e : j = (freeL f D).length
    · subst e
      rw [hg, if_pos (by rw [h.nt])]
      simp
    · have hlt : j < (freeL f D).length := by omega
      rw [hg, if_neg (at_ne hok i13j i13 (by have := h.nt; omega)), if_neg (at_ne hok i13j (i11 b hb) (by omega)), h.stack j hlt]
      simp [List.getElem_append_left hlt]
  · intro j hj
    have hj' : j < (keptL f D).length := by rw [← hks]; exact hj
    have he : (keptL f (D ++ [b]))[j] = (keptL f D)[j] := by congr 1
    rw [he]
    dsimp only
    have i15 : Is c 15 j 0 := is15 (by omega)
    rw [hg, if_neg (at_ne hok i15 i13 (by omega)), if_neg (at_ne hok i15 (i11 b hb) (by omega))]
    rcases h.lim1 j hj' with h1 | ⟨h1, h2⟩
    · exact .inl h1
    · exact .inr ⟨h1, by rw [List.getElem?_append_left (by omega)]; exact h2⟩
  · intro j hj hj2
    rw [hks] at hj
    dsimp only
    have i15 : Is c 15 j 0 := is15 (by omega)
    rw [hg, if_neg (at_ne hok i15 i13 (by omega)), if_neg (at_ne hok i15 (i11 b hb) (by omega))]
    exact h.lim2 j hj hj2
  · dsimp only; rw [putS_rm, putS_rm]; exact h.room
  · dsimp only
    have := putS_len r1 (at_ c 13 p.nt 0) b; have := putS_len r0 (at_ c 11 b 0) 0; have := h.len; simp; omega
  · dsimp only
    have := putS_dn (putS s (at_ c 11 b 0) 0) (at_ c 13 p.nt 0) b; have := putS_dn s (at_ c 11 b 0) 0; have := h.done; simp; omega
theorem fz_keep {c : Cfg} (hok : Y.Ok c) {f : Int → Int} {top : Int} {D : List Int} {p : St} {s : W.S} {kept : Int} (h : Fz c f top D p s kept) (ht : 0 ≤ top) {b : Int} (hf : f (b + 1) ≠ 0) (htop : top + (D.length : Int) < c.b) (hl : (D.length : Int) < limit c) (h8 : D.length ≤ 90) :
    Fz c f top (D ++ [b]) p (if kept ≠ D.length then putS s (at_ c 15 kept 0) b else s) (kept + 1) := by
  have hlen := freeL_len f D
  have hkl := keptL_len f D
  have r0 : s.list.length < s.room := by have := h.room; have := h.len; omega
  have hfs := freeL_snoc f D b
  rw [if_neg hf] at hfs
  have hks := keptL_snoc f D b
  rw [if_neg hf] at hks
  have hkp := h.kept
  have i15 : ∀ j : Nat, (j : Int) < limit c → Is c 15 j 0 := fun j hj => is15 ⟨by omega, hj⟩
  have i15k : Is c 15 kept 0 := is15 (by omega)
  have hg : ∀ z, W.get (if kept ≠ D.length then putS s (at_ c 15 kept 0) b else s) z = if kept ≠ D.length ∧ z = at_ c 15 kept 0 then (b, true) else W.get s z := fun z => by
    by_cases e : kept ≠ D.length
    · rw [if_pos e, putS_get r0]; simp [e]
    · rw [if_neg e]; simp [e]
  refine ⟨?_, ?_, h.ff, ?_, ?_, ?_, ?_, ?_, ?_, ?_, ?_⟩
  · rw [hfs]; exact h.nt
  · rw [hks]; simp; omega
  · intro x hx
    rw [hfs] at hx
    rw [hg]
    by_cases hxb : 0 ≤ x ∧ x < c.b
    · rw [if_neg (fun e => at_ne hok (is11 hxb) i15k (by omega) e.2)]; exact h.life1 x hx
    · have e : at_ c 11 x 0 = -1 := by unfold at_; rw [if_neg]; rintro ⟨h1, h2, _⟩; exact hxb ⟨h1, by simpa [cnt] using h2⟩
      have hp2 : at_ c 15 kept 0 ≠ -1 := by unfold at_; rw [if_pos i15k]; have := (wh_place hok i15k).2; omega
      rw [if_neg (fun e2 => hp2 (by rw [← e2.2, e]))]; exact h.life1 x hx
  · intro x h0 h1 hx
    rw [hfs] at hx
    rw [hg, if_neg (fun e => at_ne hok (is11 ⟨h0, h1⟩) i15k (by omega) e.2)]
    exact h.life2 x h0 h1 hx
  · intro j hj
    have hj' : j < (freeL f D).length := by rw [← hfs]; exact hj
    have he : (freeL f (D ++ [b]))[j] = (freeL f D)[j] := by congr 1
    rw [he, hg, if_neg (fun e => at_ne hok (is13 (b := top + j) (by omega)) i15k (by omega) e.2)]
    exact h.stack j hj'
  · intro j hj
    have hj' : j < (keptL f D ++ [b]).length := by rw [← hks]; exact hj
    have he : (keptL f (D ++ [b]))[j] = (keptL f D ++ [b])[j] := by congr 1
    rw [he, hg]
    have hj2 : j < (keptL f D).length + 1 := by simpa using hj'
    by_cases e : j = (keptL f D).length
    · subst e
      by_cases e2 : kept = D.length
      · right
        rw [if_neg (by rintro ⟨h1, _⟩; exact h1 e2)]
        refine ⟨h.lim2 _ (Nat.le_refl _) (by omega), ?_⟩
        have : (keptL f D).length = D.length := by omega
        rw [show (keptL f D ++ [b])[(keptL f D).length] = b from by simp, this]; simp
      · left
        rw [if_pos ⟨e2, by rw [hkp]⟩]
        simp
    · have hlt : j < (keptL f D).length := by omega
      rw [if_neg (fun e2 => at_ne hok (i15 j (by omega)) i15k (by omega) e2.2), List.getElem_append_left hlt]
      rcases h.lim1 j hlt with h1 | ⟨h1, h2⟩
      · exact .inl h1
      · exact .inr ⟨h1, by rw [List.getElem?_append_left (by omega)]; exact h2⟩
  · intro j hj hj2
    rw [hks] at hj
    simp at hj
    rw [hg, if_neg (fun e => at_ne hok (i15 j hj2) i15k (by omega) e.2)]
    exact h.lim2 j (by omega) hj2
  · by_cases e : kept ≠ D.length
    · rw [if_pos e, putS_rm]; exact h.room
    · rw [if_neg e]; exact h.room
  · have := h.len
    by_cases e : kept ≠ D.length
    · rw [if_pos e]; have := putS_len r0 (at_ c 15 kept 0) b; simp; omega
    · rw [if_neg e]; simp; omega
  · have := h.done
    by_cases e : kept ≠ D.length
    · rw [if_pos e]; have := putS_dn s (at_ c 15 kept 0) b; simp; omega
    · rw [if_neg e]; simp; omega
theorem settleG_fz {c : Cfg} (hok : Y.Ok c) {f : Int → Int} {top : Int} (ht : 0 ≤ top) : ∀ (L D : List Int) (k : Int) (p : St) (s : W.S) (kept : Int), k = D.length → Fz c f top D p s kept → (∀ b ∈ L, 0 ≤ b ∧ b < c.b) → top + ((D.length : Int) + (L.length : Int)) ≤ c.b → (D.length : Int) + (L.length : Int) ≤ limit c → D.length + L.length ≤ 90 →
    Fz c f top (D ++ L) (settleG c L k kept (p, s)).1 (settleG c L k kept (p, s)).2.1 (settleG c L k kept (p, s)).2.2
  | [], D, k, p, s, kept, hk, h, _, _, _, _ => by simpa [settleG] using h
  | b :: L, D, k, p, s, kept, hk, h, hb, htop, hl, h8 => by
    rw [List.length_cons] at htop hl h8
    have hb0 := hb b (by simp)
    have hbr : ∀ x ∈ L, 0 ≤ x ∧ x < c.b := fun x hx => hb x (by simp [hx])
    unfold settleG
    rw [if_neg (by omega)]
    have e : D ++ b :: L = (D ++ [b]) ++ L := by simp
    rw [e]
    have hk1 : k + 1 = ((D ++ [b]).length : Int) := by rw [hk]; simp
    have hln : ((D ++ [b]).length : Int) = (D.length : Int) + 1 := by simp
    have hln2 : (D ++ [b]).length = D.length + 1 := by simp
    have hpf : p.f = f := h.ff
    by_cases hf : f (b + 1) = 0
    · rw [if_pos (by rw [hpf]; exact hf)]
      exact settleG_fz hok ht L (D ++ [b]) (k + 1) _ _ kept hk1 (fz_free hok h ht hb0 hf (by omega) (by omega) (by omega)) hbr (by rw [hln]; omega) (by rw [hln]; omega) (by omega)
    · rw [if_neg (by rw [hpf]; exact hf)]
      have h2 := fz_keep hok h ht hf (b := b) (by omega) (by omega) (by omega)
      by_cases e2 : kept ≠ k
      · rw [if_pos e2]
        rw [if_pos (by rw [← hk]; exact e2)] at h2
        exact settleG_fz hok ht L (D ++ [b]) (k + 1) _ _ (kept + 1) hk1 h2 hbr (by rw [hln]; omega) (by rw [hln]; omega) (by omega)
      · rw [if_neg e2]
        rw [if_neg (by rw [← hk]; exact e2)] at h2
        exact settleG_fz hok ht L (D ++ [b]) (k + 1) _ _ (kept + 1) hk1 h2 hbr (by rw [hln]; omega) (by rw [hln]; omega) (by omega)
theorem get_nil (r : Nat) (a : Int) : W.get ⟨r, [], []⟩ a = (0, false) := rfl
def fr0 (c : Cfg) (slots limbo : List Int) (top : Int) : St := ⟨c.t + 2 + limbo.length, bumps (fun _ => 0) slots, min top c.b, limbo.length, min top c.b, limbo.length, limbo, 1⟩
/-- Settled, all in all. -/
theorem settle_fz {c : Cfg} (hok : Y.Ok c) {slots limbo : List Int} {top : Int} (ht : 0 ≤ top) (hb : ∀ b ∈ limbo, 0 ≤ b ∧ b < c.b) (htop : top + (limbo.length : Int) ≤ c.b) (hl : (limbo.length : Int) ≤ limit c) (h8 : limbo.length ≤ 8) :
    ∃ p s, settle c (fr0 c slots limbo top) ⟨200, [], []⟩ = (p, s) ∧ p.lim = [] ∧ Fz c (bumps (fun _ => 0) slots) top limbo { p with nt := p.nt } s p.nl ∧ p.nl = (keptL (bumps (fun _ => 0) slots) limbo).length := by
  have h0 : Fz c (bumps (fun _ => 0) slots) top [] (fr0 c slots limbo top) ⟨200, [], []⟩ 0 := by
    refine ⟨?_, rfl, rfl, ?_, ?_, ?_, ?_, ?_, rfl, Nat.le_refl _, Nat.le_refl _⟩
    · simp [fr0, freeL]; omega
    · intro b hb; simp [freeL] at hb
    · intro b _ _ _; rw [get_nil]
    · intro j hj; simp [freeL] at hj
    · intro j hj; simp [keptL] at hj
    · intro j _ _; rw [get_nil]
  have h := settleG_fz hok ht limbo [] 0 _ _ 0 rfl h0 hb (by simpa using htop) (by simpa using hl) (by simp; omega)
  rw [List.nil_append] at h
  refine ⟨_, _, rfl, rfl, ?_, h.kept⟩
  exact ⟨h.nt, h.kept, h.ff, h.life1, h.life2, h.stack, h.lim1, h.lim2, h.room, h.len, h.done⟩
theorem free_at (f : Int → Int) (L : List Int) (i : Nat) (hi : i < L.length) (hf : f (L[i] + 1) = 0) : ∃ h : (freeL f (L.take i)).length < (freeL f L).length, (freeL f L)[(freeL f (L.take i)).length] = L[i] := by
  have e : freeL f L = freeL f (L.take i) ++ L[i] :: freeL f (L.drop (i + 1)) := by
    have : L = L.take i ++ L[i] :: L.drop (i + 1) := by rw [← List.drop_eq_getElem_cons hi, List.take_append_drop]
    conv => lhs; rw [this]
    unfold freeL
    rw [List.filter_append, List.filter_cons, if_pos (by simpa using hf)]
  refine ⟨by rw [e]; simp, ?_⟩
  have : ∀ (A B : List Int) (x : Int) (X : List Int) (h : A.length < X.length), X = A ++ x :: B → X[A.length] = x := fun A B x X h e => by subst e; simp
  exact this _ _ _ _ _ e
theorem kept_few {slots limbo : List Int} (hd : limbo.Nodup) : (keptL (bumps (fun _ => 0) slots) limbo).length ≤ slots.length := by
  have h1 : ((keptL (bumps (fun _ => 0) slots) limbo).map (· + 1)).Nodup := (hd.filter _).map (f := (· + 1)) (fun a b h => by simpa using h)
  have h2 : (keptL (bumps (fun _ => 0) slots) limbo).map (· + 1) ⊆ slots := by
    intro z hz
    obtain ⟨b, hb, rfl⟩ := List.mem_map.1 hz
    have hb := (List.mem_filter.1 hb).2
    have h3 := (bumps_zero slots (fun _ => 0) (b + 1) (fun _ => Int.le_refl _)).2
    simp only [Bool.not_eq_true', decide_eq_false_iff_not] at hb
    rw [h3] at hb
    simp at hb
    exact hb
  have := List.Nodup.length_le_of_subset h1 h2
  simpa using this
end Go.Tum.P
namespace Go.Tum.P
open Go.Tum.Y Go.Tum
theorem is16 {c : Cfg} {b k : Int} (h : 0 ≤ b ∧ b < c.b) (hk : 0 ≤ k ∧ k < 8) : Is c 16 b k := ⟨h.1, by simpa [cnt] using h.2, hk.1, by simpa [eachP, each] using hk.2⟩
theorem putS_new {s : W.S} (h : s.list.length < s.room) {a : Int} (hn : (W.get s a).2 = false) (v : Int) : (putS s a v).list.length = s.list.length + 1 := by
  have h1 := (W.put_ok h a v).2.2.2.1
  rw [hn] at h1
  have h2 := congrArg List.length h1
  simpa [putS] using h2
/-- Words are wiped: so many new entries, and nothing else is turned. -/
theorem wipe_new {c : Cfg} (hok : Y.Ok c) {b : Int} (hb : 0 ≤ b ∧ b < c.b) : ∀ (n : Nat) (s : W.S), n ≤ 8 → s.list.length + n ≤ s.room → (∀ k, 0 ≤ k → k < 8 → (W.get s (at_ c 16 b k)).2 = false) →
    (wipe c b n s).list.length = s.list.length + n ∧ (∀ z, (∀ k, 0 ≤ k → k < (n : Int) → z ≠ at_ c 16 b k) → W.get (wipe c b n s) z = W.get s z)
  | 0, s, _, _, _ => ⟨rfl, fun z _ => rfl⟩
  | n + 1, s, hn, hr, hk => by
    obtain ⟨h1, h2⟩ := wipe_new hok hb n s (by omega) (by omega) hk
    have hroom : (wipe c b n s).room = s.room := (wipe_all c b n s).2.2
    have r0 : (wipe c b n s).list.length < (wipe c b n s).room := by omega
    have hnew : (W.get (wipe c b n s) (at_ c 16 b n)).2 = false := by
      rw [h2 _ (fun k k0 k1 => at_ne hok (is16 hb ⟨by omega, by omega⟩) (is16 hb ⟨k0, by omega⟩) (by omega))]
      exact hk n (by omega) (by omega)
    unfold wipe
    refine ⟨by rw [putS_new r0 hnew]; omega, fun z hz => ?_⟩
    rw [putS_get r0, if_neg (hz n (by omega) (by omega))]
    exact h2 z (fun k k0 k1 => hz k k0 (by omega))
def ctS (c : Cfg) (x n m : Int) : St := { bk0 c x with nt := n, nl := m }
/-- So many were taken. -/
structure Ct (c : Cfg) (n : Nat) (s : W.S) : Prop where
  room : s.room = 500
  len : s.list.length = 9 * n
  done : s.done.length ≤ 9 * n
  life : ∀ b, (n : Int) ≤ b → b < c.b → (W.get s (at_ c 11 b 0)).2 = false
  word : ∀ b, (n : Int) ≤ b → b < c.b → ∀ k, 0 ≤ k → k < 8 → (W.get s (at_ c 16 b k)).2 = false
theorem ct_start (c : Cfg) : Ct c 0 ⟨500, [], []⟩ := ⟨rfl, rfl, Nat.le_refl _, fun _ _ _ => rfl, fun _ _ _ _ _ _ => rfl⟩
theorem ct_take {c : Cfg} (hok : Y.Ok c) {x m : Int} {n : Nat} {s : W.S} (h : Ct c n s) (hx : (n : Int) < x) (hxb : x ≤ c.b) (hn8 : n < 8) :
    (take c n (ctS c x (x - n) m) s).1 = ctS c x (x - ((n + 1 : Nat) : Int)) m ∧ Ct c (n + 1) (take c n (ctS c x (x - n) m) s).2 ∧ (W.get (take c n (ctS c x (x - n) m) s).2 (at_ c 11 n 0)).1 = 1 := by
  have hb : 0 ≤ (n : Int) ∧ (n : Int) < c.b := by omega
  have i11 : Is c 11 n 0 := is11 hb
  have hne : at_ c 11 n 0 ≠ -1 := by unfold at_; rw [if_pos i11]; have := (wh_place hok i11).2; omega
  unfold take
  rw [if_neg (by rintro (h1 | h1); · simp [ctS] at h1; omega
                 · exact hne h1)]
  have r0 : s.list.length < s.room := by have := h.room; have := h.len; omega
  have l1 := putS_new r0 (h.life n (Int.le_refl _) hb.2) 1
  have g1 := putS_get r0 (at_ c 11 n 0) 1
  have d1 := putS_dn s (at_ c 11 n 0) 1
  have m1 := putS_rm s (at_ c 11 n 0) 1
  have hk : ∀ b, (n : Int) ≤ b → b < c.b → ∀ k, 0 ≤ k → k < 8 → (W.get (putS s (at_ c 11 n 0) 1) (at_ c 16 b k)).2 = false := fun b h0 h1 k k0 k1 => by
    rw [g1, if_neg (at_ne hok (is16 (by omega) ⟨k0, k1⟩) i11 (by omega))]
    exact h.word b h0 h1 k k0 k1
  have g2 : W.get (putS s (at_ c 11 n 0) 1) (at_ c 11 n 0) = (1, true) := by rw [g1, if_pos rfl]
  have g3 : ∀ b, (n : Int) < b → b < c.b → (W.get (putS s (at_ c 11 n 0) 1) (at_ c 11 b 0)).2 = false := fun b h0 h1 => by
    rw [g1, if_neg (at_ne hok (is11 (by omega)) i11 (by omega))]
    exact h.life b (by omega) h1
  clear g1
  generalize putS s (at_ c 11 n 0) 1 = s1 at *
  have hroom := h.room; have hlen := h.len; have hdone := h.done
  obtain ⟨w1, w2⟩ := wipe_new hok hb 8 s1 (Nat.le_refl _) (by omega) (hk n (Int.le_refl _) hb.2)
  have w3 := wipe_all c n 8 s1
  generalize wipe c n 8 s1 = s2 at *
  have h11 : ∀ b, 0 ≤ b ∧ b < c.b → ∀ k, 0 ≤ k → k < ((8 : Nat) : Int) → at_ c 11 b 0 ≠ at_ c 16 n k := fun b hb2 k k0 k1 => at_ne hok (is11 hb2) (is16 hb ⟨k0, by omega⟩) (by omega)
  refine ⟨?_, ⟨?_, ?_, ?_, ?_, ?_⟩, ?_⟩
  · unfold ctS; simp; omega
  · dsimp only; omega
  · dsimp only; omega
  · dsimp only; omega
  · intro b h0 h1
    dsimp only
    rw [w2 _ (h11 b (by omega))]
    exact g3 b (by omega) h1
  · intro b h0 h1 k k0 k1
    dsimp only
    rw [w2 _ (fun k' a0 a1 => at_ne hok (is16 (by omega) ⟨k0, k1⟩) (is16 hb ⟨a0, by omega⟩) (by omega))]
    exact hk b (by omega) h1 k k0 k1
  · dsimp only
    rw [w2 _ (h11 n hb), g2]
theorem ct_give {c : Cfg} (hok : Y.Ok c) {x : Int} {n : Nat} {s : W.S} (hn : (n : Int) < c.b) : (give c n (ctS c x 0 (min (n : Int) (limit c))) s).1 = ctS c x 0 (min ((n + 1 : Nat) : Int) (limit c)) := by
  have i11 : Is c 11 n 0 := is11 (by omega)
  have hne : at_ c 11 n 0 ≠ -1 := by unfold at_; rw [if_pos i11]; have := (wh_place hok i11).2; omega
  unfold give
  have hl : (ctS c x 0 (min (n : Int) (limit c))).nl = min (n : Int) (limit c) := rfl
  by_cases h : limit c ≤ (n : Int)
  · rw [if_pos (.inl (by rw [hl]; omega))]
    dsimp only
    rw [show min ((n + 1 : Nat) : Int) (limit c) = min (n : Int) (limit c) by omega]
  · rw [if_neg (by rintro (h1 | h1); · rw [hl] at h1; omega
                   · exact hne h1)]
    dsimp only
    rw [hl]
    unfold ctS
    simp
    omega
theorem ctS_bk {c : Cfg} {x : Int} (hx : x ≤ c.b) : bk0 c x = ctS c x x 0 := by
  unfold ctS bk0
  simp
  omega
theorem ct_top {c : Cfg} {x m : Int} {n : Nat} (hx : (n : Int) < x) : top c (ctS c x (x - n) m) = (at_ c 13 (x - n - 1) 0, true) := by
  unfold top
  rw [if_neg (by simp [ctS]; omega)]
  rfl
theorem ct_top0 {c : Cfg} {x m : Int} : top c (ctS c x 0 m) = (-1, false) := rfl
theorem ct_what {c : Cfg} (hok : Y.Ok c) {i : Int} (h : 0 ≤ i ∧ i < c.b) : Go.Proofs.Ytccioehckfdjdaa.Tells c (at_ c 13 i 0) 13 i 0 := by
  have hi := is13 h
  have e : at_ c 13 i 0 = place c 13 i 0 := if_pos hi
  have := Go.Proofs.Ytccioehckfdjdaa.what_all hok (at_ c 13 i 0)
  rw [e, Go.Proofs.Ytccioehckfdjdaa.whA_place hok hi] at this
  rw [e]
  exact this
/-- Numbers below n, the last one first. -/
def below : Nat → List Int
  | 0 => []
  | n + 1 => (n : Int) :: below n
theorem below_len : ∀ n, (below n).length = n
  | 0 => rfl
  | n + 1 => by simp [below, below_len n]
theorem below_mem : ∀ n z, z ∈ below n → z < (n : Int)
  | 0, z, h => by simp [below] at h
  | n + 1, z, h => by
    simp only [below, List.mem_cons] at h
    rcases h with rfl | h
    · omega
    · have := below_mem n z h; omega
theorem below_not (n : Nat) : (n : Int) ∉ below n := fun h => by have := below_mem n _ h; omega
end Go.Tum.P
