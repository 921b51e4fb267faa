/- A set as a thing apart. -/
import Derived.Test.YtccioehckfdjdaaLive
import Derived.Test.YtccioehckfdjdaaSep
set_option linter.unusedSimpArgs false
set_option linter.unusedVariables false
namespace Go.Proofs.Ytccioehckfdjdaa
open Go.RowKit Go.Tum Go.Tum.W
/-- A set, behind a pointer to block b. -/
def setT (b : Nat) (s : W.S) : Thing where
  P w fp := IsSet w 0 b fp s ∧ W.Good s
  fr h f hn := ⟨h.1.fr f hn, h.2⟩
  lt h := fun k hk => (h.1.lt k hk).2
theorem setT_room {w0 w : World} {Ts : List Thing} (h : Sep w0 w Ts) (i : Nat) {b : Nat} {s : W.S} (hi : Ts[i]? = some (setT b s)) : s.room ≤ 65536 ∧ s.list.length ≤ s.room := by
  obtain ⟨fp, ⟨⟨vl, vt, vd, m, tab, pos, hs, rfl⟩, _⟩, _⟩ := h.get i hi
  exact ⟨hs.room, hs.few⟩
theorem put_sep {w0 w : World} {R : List Thing} {b : Nat} {s : W.S} (h : Sep w0 w (setT b s :: R)) (hd : s.done.length ≤ 1000000) (a v : Int) :
    Calls Try.prog 106 #[.pointer (some ⟨b, 0, none⟩), .int .i64 a, .int .u64 v] w fun e w' => e = .returned (.int .i64 (W.put s a v).2) ∧ Sep w0 w' (setT b (W.put s a v).1 :: R) := by
  obtain ⟨fp, ⟨hp, hg⟩, _, hk⟩ := h.get 0 rfl
  refine (put_any 0 b a v w fp s hp hd (Nat.zero_le _)).mono ?_
  rintro e w' ⟨h1, fp', h2, h3, h4⟩
  exact ⟨h1, hk (setT b (W.put s a v).1) w' fp' ⟨h2, good_put hg a v⟩ h3 h4⟩
theorem wnew_sep (w : World) (r : Int) :
    Calls Try.prog 34 #[.int .i64 r] w fun e w' => ∃ b, e = .returned (.pointer (some ⟨b, 0, none⟩)) ∧ Fresh w w' (setT b ⟨roomOf r, [], []⟩) := by
  refine (new_any 0 r w (Nat.zero_le _)).mono ?_
  rintro e w' ⟨b, fp, h1, h2, h3, h4⟩
  exact ⟨b, h1, h3, fp, ⟨h2, good_new _⟩, h4⟩
theorem back_sep {w0 w : World} {R : List Thing} {b : Nat} {s : W.S} (h : Sep w0 w (setT b s :: R)) (hd : s.done.length ≤ 1000000) (m : Int) :
    Calls Try.prog 44 #[.pointer (some ⟨b, 0, none⟩), .int .i64 m] w fun e w' => e = .returned (.bool (W.back s m).2) ∧ Sep w0 w' (setT b (W.back s m).1 :: R) := by
  obtain ⟨fp, ⟨hp, hg⟩, _, hk⟩ := h.get 0 rfl
  refine (back_any 0 b w fp s m hp hg hd).mono ?_
  rintro e w' ⟨h1, h2, h3⟩
  exact ⟨h1, hk (setT b (W.back s m).1) w' fp ⟨h2, good_back hg m⟩ h3 (fun k hk => .inl hk)⟩
theorem get_sep {w0 w : World} {R : List Thing} {b : Nat} {s : W.S} (h : Sep w0 w (setT b s :: R)) (a : Int) :
    Calls Try.prog 36 #[.pointer (some ⟨b, 0, none⟩), .int .i64 a] w fun e w' => e = .returned (.tuple #[.int .u64 (W.get s a).1, .bool (W.get s a).2]) ∧ Fr [] w w' := by
  obtain ⟨fp, ⟨hp, hg⟩, _, hk⟩ := h.get 0 rfl
  refine (get_any 0 b a w fp s hp).mono ?_
  rintro e w' ⟨h1, n, rfl⟩
  exact ⟨h1, (Fr.refl [] w).drewN n⟩
theorem len_sep {w0 w : World} {R : List Thing} {b : Nat} {s : W.S} (h : Sep w0 w (setT b s :: R)) :
    Calls Try.prog 46 #[.pointer (some ⟨b, 0, none⟩)] w fun e w' => e = .returned (.int .i64 s.list.length) ∧ w = w' := by
  obtain ⟨fp, ⟨hp, hg⟩, _, hk⟩ := h.get 0 rfl
  exact len_any 0 b w fp s hp
theorem mark_sep {w0 w : World} {R : List Thing} {b : Nat} {s : W.S} (h : Sep w0 w (setT b s :: R)) :
    Calls Try.prog 39 #[.pointer (some ⟨b, 0, none⟩)] w fun e w' => e = .returned (.int .i64 s.done.length) ∧ w = w' := by
  obtain ⟨fp, ⟨hp, hg⟩, _, hk⟩ := h.get 0 rfl
  exact mark_any 0 b w fp s hp
theorem wall_sep {w0 w : World} {R : List Thing} {b : Nat} {s : W.S} (h : Sep w0 w (setT b s :: R)) :
    Calls Try.prog 112 #[.pointer (some ⟨b, 0, none⟩)] w fun e w' => ∃ v, e = .returned v ∧ Fresh w w' (rowT 0 136 2 v s.list.length (ents s.list)) := by
  obtain ⟨fp, ⟨hp, hg⟩, _, hk⟩ := h.get 0 rfl
  refine (all_any 0 b w fp s hp (Nat.zero_le _)).mono ?_
  rintro e w' ⟨v, h1, h2, h3, h4⟩
  exact ⟨v, h1, h3, v.ownBlock.toList, ⟨rfl, h2⟩, fun k hk => h4 k (by simpa using hk)⟩
end Go.Proofs.Ytccioehckfdjdaa
