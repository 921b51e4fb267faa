/- Plain: what a pool is that was told slots, how many are free, and who is in limbo; undone sets. -/
import Derived.Test.YtccioehckfdjdaaPread
import Derived.Test.YtccioehckfdjdaaPcells
set_option linter.unusedSimpArgs false
set_option linter.unusedVariables false
namespace Go.Tum.P
open Go.Tum.Y Go.Tum
def bumps (f : Int → Int) (l : List Int) : Int → Int := l.foldl bump f
theorem bumps_zero : ∀ (l : List Int) (f : Int → Int) (z : Int), (∀ z, 0 ≤ f z) → (0 ≤ bumps f l z) ∧ (bumps f l z = 0 ↔ f z = 0 ∧ z ∉ l)
  | [], f, z, h => ⟨h z, by simp [bumps]⟩
  | y :: l, f, z, h => by
    have hb : ∀ z, 0 ≤ bump f y z := fun z => by unfold bump; have := h y; have := h z; split <;> omega
    have ih := bumps_zero l (bump f y) z hb
    have e : bumps f (y :: l) = bumps (bump f y) l := rfl
    rw [e]
    refine ⟨ih.1, ih.2.trans ?_⟩
    have h1 : bump f y z = 0 ↔ f z = 0 ∧ z ≠ y := by
      unfold bump
      have := h y
      by_cases hz : z = y
      · subst hz; simp; omega
      · simp [hz]
    rw [h1]
    constructor
    · rintro ⟨⟨a, b⟩, d⟩; exact ⟨a, by simp [b, d]⟩
    · rintro ⟨a, b⟩; simp at b; exact ⟨⟨a, b.1⟩, b.2⟩
theorem feed_slots {c : Cfg} (r : List O3) : ∀ (l : List Int) (k : Nat) (p : St), p.s = 0 → p.next + (l.length : Int) ≤ c.t →
    feed c 5 (fives l ++ r) k p = feed c 5 r (k + l.length) { p with f := bumps p.f l, next := p.next + (l.length : Int) }
  | [], k, p, hs, hn => by simp [fives, bumps]
  | x :: l, k, p, hs, hn => by
    rw [List.length_cons] at hn
    have e : fives (x :: l) ++ r = ⟨x, 5, true⟩ :: (fives l ++ r) := rfl
    rw [e]
    conv => lhs; unfold feed
    rw [if_neg (by simpa using hs)]
    have ht : tell c 5 x 5 p = { p with f := bump p.f x, next := p.next + 1 } := by
      unfold tell
      rw [if_neg (by simpa using hs), if_pos (by omega)]
      unfold fin
      rw [if_neg]
      dsimp only
      omega
    rw [ht, feed_slots r l (k + 1) _ (by exact hs) (by dsimp only; omega)]
    have e2 : k + 1 + l.length = k + (x :: l).length := by simp; omega
    have e3 : p.next + 1 + (l.length : Int) = p.next + ((x :: l).length : Int) := by simp; omega
    rw [e2]
    congr 2
theorem feed_lim {c : Cfg} : ∀ (l : List Int) (k : Nat) (p : St), p.s = 0 → l ≠ [] → p.next = c.t + 2 + p.lim.length → (p.lim.length : Int) + (l.length : Int) = p.wl →
    feed c 5 (fives l) k p = ({ p with next := p.next + (l.length : Int), lim := p.lim ++ l, nt := p.wt, nl := p.wl, s := 1 }, k + l.length)
  | [], _, _, _, h, _, _ => absurd rfl h
  | x :: l, k, p, hs, _, hn, hl => by
    rw [List.length_cons] at hl
    have e : fives (x :: l) = ⟨x, 5, true⟩ :: fives l := rfl
    rw [e]
    unfold feed
    rw [if_neg (by simpa using hs)]
    have h0 : tell c 5 x 5 p = fin c { p with lim := p.lim ++ [x], next := p.next + 1 } := by
      unfold tell
      rw [if_neg (by simpa using hs), if_neg (by omega), if_neg (by omega), if_neg (by omega), if_neg (by omega)]
    rw [h0]
    unfold fin
    dsimp only
    by_cases hl0 : l = []
    · subst hl0
      rw [if_pos ⟨by omega, by simp at hl ⊢; omega⟩]
      simp [fives, feed]
    · have hpos : 0 < l.length := List.length_pos_iff.2 hl0
      rw [if_neg (by simp; omega)]
      rw [feed_lim l (k + 1) _ (by exact hs) hl0 (by simp; omega) (by simp; omega)]
      simp only [List.append_assoc, List.singleton_append, List.length_cons, Prod.mk.injEq, St.mk.injEq, and_true, true_and]
      refine ⟨?_, by omega⟩
      push_cast
      omega
theorem feed_all {c : Cfg} (hok : Y.Ok c) (slots limbo : List Int) (x : Int) (hs : (slots.length : Int) = c.t) (hx : 0 ≤ x) (hl : (limbo.length : Int) ≤ limit c) :
    feed c 5 (fives (slots ++ x :: (limbo.length : Int) :: limbo)) 0 new0 = (⟨c.t + 2 + limbo.length, bumps (fun _ => 0) slots, min x c.b, limbo.length, min x c.b, limbo.length, limbo, 1⟩, slots.length + 2 + limbo.length) := by
  have e : fives (slots ++ x :: (limbo.length : Int) :: limbo) = fives slots ++ (⟨x, 5, true⟩ :: ⟨(limbo.length : Int), 5, true⟩ :: fives limbo) := by simp [fives]
  rw [e, feed_slots _ slots 0 new0 rfl (by simp [new0]; omega)]
  have hn : new0.next + (slots.length : Int) = c.t := by simp [new0]; omega
  rw [hn]
  have ht1 := hok.t1
  have h1 : tell c 5 x 5 { new0 with f := bumps new0.f slots, next := c.t } = { new0 with f := bumps new0.f slots, next := c.t + 1, wt := min x c.b } := by
    unfold tell
    rw [if_neg (by simp [new0]), if_neg (by simp), if_neg (by simp), if_pos rfl]
    unfold fin
    rw [if_neg (by simp)]
  unfold feed
  rw [if_neg (by simp [new0])]
  rw [show (⟨x, 5, true⟩ : O3).v = x from rfl, show (⟨x, 5, true⟩ : O3).s = 5 from rfl, h1]
  have h2 : tell c 5 (limbo.length : Int) 5 { new0 with f := bumps new0.f slots, next := c.t + 1, wt := min x c.b } = fin c { new0 with f := bumps new0.f slots, next := c.t + 2, wt := min x c.b, wl := limbo.length } := by
    unfold tell
    rw [if_neg (by simp [new0]), if_neg (by dsimp only; omega), if_neg (by simp), if_neg (by dsimp only; omega), if_pos rfl]
    dsimp only
    rw [Int.min_eq_left hl, show c.t + 1 + 1 = c.t + 2 by omega]
  unfold feed
  rw [if_neg (by simp [new0])]
  rw [show (⟨(limbo.length : Int), 5, true⟩ : O3).v = limbo.length from rfl, show (⟨(limbo.length : Int), 5, true⟩ : O3).s = 5 from rfl, h2]
  unfold fin
  by_cases hl0 : limbo = []
  · subst hl0
    rw [if_pos (by simp [new0])]
    simp [fives, feed, new0]
  · have hpos : 0 < limbo.length := List.length_pos_iff.2 hl0
    rw [if_neg (by simp [new0]; omega)]
    rw [feed_lim limbo _ _ rfl hl0 (by simp [new0]) (by simp [new0])]
    simp [new0]
end Go.Tum.P
namespace Go.Tum.W
open Go.Tum
/-- Whatever was put: all undone, nothing is there. -/
theorem back_nil {s : S} (h : Good s) : (back s 0).1.list = [] ∧ (back s 0).1.done = [] := by
  have hb := good_back h 0
  have e : (back s 0).1.done = [] := by
    have h0 := undoTo_done_len 0 s.done.length s rfl
    unfold back
    rw [if_neg (by omega)]
    exact List.eq_nil_of_length_eq_zero (by simpa using h0)
  unfold Good at hb
  rw [e] at hb
  exact ⟨hb, e⟩
theorem back_room (s : S) (m : Int) : (back s m).1.room = s.room := by
  have h : ∀ (n : Nat) (m : Nat) (s : S), (undoTo m n s).room = s.room := by
    intro n
    induction n with
    | zero => intro m s; rfl
    | succ n ih => intro m s; unfold undoTo; split; rfl; rw [ih]
  unfold back
  split
  · rfl
  · exact h _ _ _
end Go.Tum.W
