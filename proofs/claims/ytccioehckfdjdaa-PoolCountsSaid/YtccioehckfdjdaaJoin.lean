/- Things made of things: one of several; two side by side. -/
import Derived.Test.YtccioehckfdjdaaSep
namespace Go.Tum
open Go.RowKit
/-- Some one of them. -/
def exT {A : Type} (T : A → Thing) : Thing where
  P w fp := ∃ a, (T a).P w fp
  fr h f hn := by obtain ⟨a, h⟩ := h; exact ⟨a, (T a).fr h f hn⟩
  lt h := by obtain ⟨a, h⟩ := h; exact (T a).lt h
/-- With a fact that does not turn. -/
def factT (p : Prop) (T : Thing) : Thing where
  P w fp := p ∧ T.P w fp
  fr h f hn := ⟨h.1, T.fr h.2 f hn⟩
  lt h := T.lt h.2
/-- Two, side by side. -/
def andT (T U : Thing) : Thing where
  P w fp := ∃ f g, fp = f ++ g ∧ T.P w f ∧ U.P w g ∧ ∀ k ∈ f, k ∉ g
  fr h f hn := by
    obtain ⟨p, q, rfl, h1, h2, h3⟩ := h
    exact ⟨p, q, rfl, T.fr h1 f (fun k hk => hn k (by simp [hk])), U.fr h2 f (fun k hk => hn k (by simp [hk])), h3⟩
  lt h := by
    obtain ⟨p, q, rfl, h1, h2, _⟩ := h
    intro k hk
    rcases List.mem_append.1 hk with hk | hk
    · exact T.lt h1 k hk
    · exact U.lt h2 k hk
theorem Sep.ofEx {w0 w : World} {A : Type} {T : A → Thing} {R : List Thing} (h : Sep w0 w (exT T :: R)) : ∃ a, Sep w0 w (T a :: R) := by
  obtain ⟨fp, ⟨a, hp⟩, _, hk⟩ := h.get 0 rfl
  exact ⟨a, hk (T a) w fp hp (Fr.refl _ _) (fun q hq => .inl hq)⟩
theorem Sep.toEx {w0 w : World} {A : Type} (T : A → Thing) {a : A} {R : List Thing} (h : Sep w0 w (T a :: R)) : Sep w0 w (exT T :: R) := by
  obtain ⟨fp, hp, _, hk⟩ := h.get 0 rfl
  exact hk (exT T) w fp ⟨a, hp⟩ (Fr.refl _ _) (fun q hq => .inl hq)
theorem Sep.ofFact {w0 w : World} {p : Prop} {T : Thing} {R : List Thing} (h : Sep w0 w (factT p T :: R)) : p ∧ Sep w0 w (T :: R) := by
  obtain ⟨fp, ⟨hp0, hp⟩, _, hk⟩ := h.get 0 rfl
  exact ⟨hp0, hk T w fp hp (Fr.refl _ _) (fun q hq => .inl hq)⟩
theorem Sep.toFact {w0 w : World} {p : Prop} {T : Thing} {R : List Thing} (h : Sep w0 w (T :: R)) (h0 : p) : Sep w0 w (factT p T :: R) := by
  obtain ⟨fp, hp, _, hk⟩ := h.get 0 rfl
  exact hk (factT p T) w fp ⟨h0, hp⟩ (Fr.refl _ _) (fun q hq => .inl hq)
theorem Sep.ofAnd {w0 w : World} {T U : Thing} {R : List Thing} (h : Sep w0 w (andT T U :: R)) : Sep w0 w (T :: U :: R) := by
  obtain ⟨h0, F, hF, hd⟩ := h
  obtain ⟨⟨f, g, hfg, h1, h2, h3⟩, hb⟩ := hF 0 _ rfl
  refine ⟨h0, fun i => match i with | 0 => f | 1 => g | i + 2 => F (i + 1), fun i Ti hi => ?_, fun i j hi hj hij q hq => ?_⟩
  · match i, hi with
    | 0, hi => obtain rfl : T = Ti := by simpa using hi
               exact ⟨h1, fun k hk => hb k (by rw [hfg]; simp [hk])⟩
    | 1, hi => obtain rfl : U = Ti := by simpa using hi
               exact ⟨h2, fun k hk => hb k (by rw [hfg]; simp [hk])⟩
    | i + 2, hi => exact hF (i + 1) Ti (by simpa using hi)
  · simp only [List.length_cons] at hi hj

    match i, j with
    | 0, 0 => omega
    | 1, 1 => omega
    | 0, 1 => exact h3 q hq
    | 1, 0 => intro hm; exact h3 q hm hq
    | 0, j + 2 => exact hd 0 (j + 1) (by simp) (by simp only [List.length_cons]; omega) (by omega) q (by rw [hfg]; simp; exact .inl hq)
    | 1, j + 2 => exact hd 0 (j + 1) (by simp) (by simp only [List.length_cons]; omega) (by omega) q (by rw [hfg]; simp; exact .inr hq)
    | i + 2, 0 => intro hm; exact hd (i + 1) 0 (by simp only [List.length_cons]; omega) (by simp) (by omega) q hq (by rw [hfg]; simp; exact .inl hm)
    | i + 2, 1 => intro hm; exact hd (i + 1) 0 (by simp only [List.length_cons]; omega) (by simp) (by omega) q hq (by rw [hfg]; simp; exact .inr hm)
    | i + 2, j + 2 => exact hd (i + 1) (j + 1) (by simp only [List.length_cons]; omega) (by simp only [List.length_cons]; omega) (by omega) q hq
theorem Sep.toAnd {w0 w : World} {T U : Thing} {R : List Thing} (h : Sep w0 w (T :: U :: R)) : Sep w0 w (andT T U :: R) := by
  obtain ⟨h0, F, hF, hd⟩ := h
  have h1 := hF 0 _ rfl
  have h2 := hF 1 _ rfl
  refine ⟨h0, fun i => match i with | 0 => F 0 ++ F 1 | i + 1 => F (i + 2), fun i Ti hi => ?_, fun i j hi hj hij q hq => ?_⟩
  · match i, hi with
    | 0, hi =>
      obtain rfl : andT T U = Ti := by simpa using hi
      refine ⟨⟨F 0, F 1, rfl, h1.1, h2.1, hd 0 1 (by simp) (by simp) (by omega)⟩, fun k hk => ?_⟩
      rcases List.mem_append.1 hk with hk | hk
      · exact h1.2 k hk
      · exact h2.2 k hk
    | i + 1, hi => exact hF (i + 2) Ti (by simpa using hi)
  · simp only [List.length_cons] at hi hj
    match i, j with
    | 0, 0 => omega
    | 0, j + 1 =>
      rcases List.mem_append.1 hq with hq | hq
      · exact hd 0 (j + 2) (by simp) (by simp only [List.length_cons]; omega) (by omega) q hq
      · exact hd 1 (j + 2) (by simp) (by simp only [List.length_cons]; omega) (by omega) q hq
    | i + 1, 0 =>
      intro hm
      rcases List.mem_append.1 hm with hm | hm
      · exact hd (i + 2) 0 (by simp only [List.length_cons]; omega) (by simp) (by omega) q hq hm
      · exact hd (i + 2) 1 (by simp only [List.length_cons]; omega) (by simp) (by omega) q hq hm
    | i + 1, j + 1 => exact hd (i + 2) (j + 2) (by simp only [List.length_cons]; omega) (by simp only [List.length_cons]; omega) (by omega) q hq
end Go.Tum
