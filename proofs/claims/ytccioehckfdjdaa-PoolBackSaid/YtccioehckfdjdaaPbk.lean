/- Plain: taken and given, whatever it is, and what stays true. -/
import Derived.Test.YtccioehckfdjdaaPlaw
set_option linter.unusedSimpArgs false
set_option linter.unusedVariables false
namespace Go.Tum.P
open Go.Tum.Y Go.Tum
theorem putS_done (s : W.S) (a v : Int) : (putS s a v).done.length ≤ s.done.length + 1 := W.put_done_len s a v
theorem putS_good {s : W.S} (h : W.Good s) (a v : Int) : W.Good (putS s a v) := W.good_put h a v
theorem putS_room (s : W.S) (a v : Int) : (putS s a v).room = s.room := W.put_room s a v
theorem wipe_all (c : Cfg) (b : Int) : ∀ (n : Nat) (s : W.S), (wipe c b n s).done.length ≤ s.done.length + n ∧ (W.Good s → W.Good (wipe c b n s)) ∧ (wipe c b n s).room = s.room
  | 0, s => ⟨Nat.le_refl _, id, rfl⟩
  | n + 1, s => by
    obtain ⟨h1, h2, h3⟩ := wipe_all c b n s
    unfold wipe
    refine ⟨?_, fun h => putS_good (h2 h) _ _, (putS_room _ _ _).trans h3⟩
    have := putS_done (wipe c b n s) (at_ c 16 b n) 0
    omega
/-- What an act keeps. -/
structure Acts (c : Cfg) (p p' : St) (s s' : W.S) : Prop where
  nt : p'.nt ≤ p.nt
  nl : p.nl ≤ p'.nl
  nt0 : 0 ≤ p.nt → 0 ≤ p'.nt
  nlm : p.nl ≤ limit c → p'.nl ≤ limit c
  done : s'.done.length ≤ s.done.length + 9
  good : W.Good s → W.Good s'
  room : s'.room = s.room
  same : p'.next = p.next ∧ p'.f = p.f ∧ p'.wt = p.wt ∧ p'.wl = p.wl ∧ p'.lim = p.lim ∧ p'.s = p.s
theorem take_acts (c : Cfg) (b : Int) (p : St) (s : W.S) : Acts c p (take c b p s).1 s (take c b p s).2 := by
  unfold take
  split
  · exact ⟨Int.le_refl _, Int.le_refl _, id, id, by dsimp only; omega, id, rfl, rfl, rfl, rfl, rfl, rfl, rfl⟩
  · rename_i h
    have hd := putS_done s (at_ c 11 b 0) 1
    have hg : W.Good s → W.Good (putS s (at_ c 11 b 0) 1) := fun h0 => putS_good h0 _ _
    have hr := putS_room s (at_ c 11 b 0) 1
    generalize putS s (at_ c 11 b 0) 1 = y at *
    have hw := wipe_all c b 8 y
    generalize wipe c b 8 y = z at *
    obtain ⟨h1, h2, h3⟩ := hw
    exact ⟨by dsimp only; omega, Int.le_refl _, fun h0 => by dsimp only; omega, id, by dsimp only; omega, fun h0 => h2 (hg h0), h3.trans hr, rfl, rfl, rfl, rfl, rfl, rfl⟩
theorem give_acts (c : Cfg) (b : Int) (p : St) (s : W.S) : Acts c p (give c b p s).1 s (give c b p s).2 := by
  unfold give
  split
  · exact ⟨Int.le_refl _, Int.le_refl _, id, id, by dsimp only; omega, id, rfl, rfl, rfl, rfl, rfl, rfl, rfl⟩
  · rename_i h
    have hd := putS_done s (at_ c 11 b 0) 2
    have hd2 := putS_done (putS s (at_ c 11 b 0) 2) (at_ c 15 p.nl 0) b
    exact ⟨Int.le_refl _, by dsimp only; omega, id, fun h0 => by dsimp only; omega, by dsimp only; omega, fun h0 => putS_good (putS_good h0 _ _) _ _, (putS_room _ _ _).trans (putS_room _ _ _), rfl, rfl, rfl, rfl, rfl, rfl⟩
/-- What is so all the while, behind so many acts. -/
structure Bk (c : Cfg) (x : Int) (j : Nat) (p : St) (s : W.S) : Prop where
  nt : 0 ≤ p.nt ∧ p.nt ≤ min x c.b
  nl : 0 ≤ p.nl ∧ p.nl ≤ limit c
  wt : p.wt = min x c.b
  wl : p.wl = 0
  done : s.done.length ≤ 9 * j
  good : W.Good s
theorem Bk.acts {c : Cfg} {x : Int} {j : Nat} {p p' : St} {s s' : W.S} (h : Bk c x j p s) (a : Acts c p p' s s') : Bk c x (j + 1) p' s' :=
  ⟨⟨a.nt0 h.nt.1, by have := a.nt; have := h.nt; omega⟩, ⟨by have := a.nl; have := h.nl; omega, a.nlm h.nl.2⟩, by rw [a.same.2.2.1, h.wt], by rw [a.same.2.2.2.1, h.wl], by have := a.done; have := h.done; omega, a.good h.good⟩
theorem Bk.end {c : Cfg} {x : Int} {j : Nat} {p : St} {s : W.S} (h : Bk c x j p s) : end_ c { p with nt := min x c.b, nl := 0 } (W.back s 0).1 = (W.back s 0).1 ∧ (W.back s 0).1.list = [] := by
  refine ⟨?_, (W.back_nil h.good).1⟩
  unfold end_
  have h1 := h.wt; have h2 := h.wl
  rw [if_neg (fun hn => hn h2.symm), if_neg (fun hn => hn h1.symm)]
def bk0 (c : Cfg) (x : Int) : St := ⟨c.t + 2, bumps (fun _ => 0) (List.replicate c.t.toNat 0), min x c.b, 0, min x c.b, 0, [], 1⟩
theorem feed_bk {c : Cfg} (hok : Y.Ok c) (x : Int) (hx : 0 ≤ x) : feed c 5 (fives (List.replicate c.t.toNat 0 ++ [x, 0])) 0 new0 = (bk0 c x, c.t.toNat + 2) := by
  have ht := hok.t1
  have hl := limit_pos hok
  have h := feed_all hok (List.replicate c.t.toNat 0) [] x (by simp; omega) hx (by simp; omega)
  simp only [List.length_nil, Int.ofNat_zero, List.length_replicate, Int.add_zero, Nat.add_zero] at h
  exact h
theorem bk0_ok {c : Cfg} (hok : Y.Ok c) (x : Int) (hx : 0 ≤ x ∧ x ≤ 1000) : Ok c (bk0 c x) := by
  have h := feed_ok hok 5 (fives (List.replicate c.t.toNat 0 ++ [x, 0])) 0 new0 (ok_new c hok) (fun o ho => by
    obtain ⟨z, hz, rfl⟩ := List.mem_map.1 ho
    rcases List.mem_append.1 hz with hz | hz
    · have := List.eq_of_mem_replicate hz; subst this; decide
    · simp at hz; dsimp only; omega)
  rwa [feed_bk hok x hx.1] at h
theorem settle_bk (c : Cfg) (x : Int) (s : W.S) : settle c (bk0 c x) s = (bk0 c x, s) := rfl
theorem bk_start {c : Cfg} (hok : Y.Ok c) (x : Int) (hx : 0 ≤ x) (r : Nat) : Bk c x 0 (bk0 c x) ⟨r, [], []⟩ := by
  have := hok.b1; have := limit_pos hok
  exact ⟨⟨by simp [bk0]; omega, by simp [bk0]⟩, ⟨by simp [bk0], by simp [bk0]; omega⟩, rfl, rfl, by simp, W.good_new r⟩
end Go.Tum.P
