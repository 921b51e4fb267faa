/- WsetFull, plain. -/
import Derived.Test.YtdhcaelhjpgliaaLive
namespace Go.Tum.W
/-- The cell of the i-th entry. -/
def cellAt (f st : Nat) (i : Nat) : Int := ((f + i * st : Nat) : Int)
def lst (f st n : Nat) (g : Nat → Int) : List (Int × Int) := (List.range n).map fun i => (cellAt f st i, g i)
theorem cellAt_inj {f st i j : Nat} (hs : 0 < st) (h : cellAt f st i = cellAt f st j) : i = j := by
  unfold cellAt at h
  have h2 : i * st = j * st := by omega
  exact Nat.eq_of_mul_eq_mul_right hs h2
theorem lst_length (f st n : Nat) (g : Nat → Int) : (lst f st n g).length = n := by simp [lst]
theorem lst_get (f st n : Nat) (g : Nat → Int) {i : Nat} (h : i < (lst f st n g).length) : (lst f st n g)[i] = (cellAt f st i, g i) := by simp [lst]
theorem lst_idx {f st n : Nat} (g : Nat → Int) (hs : 0 < st) {i : Nat} (h : i < n) : idx (lst f st n g) (cellAt f st i) = some i := by
  have hl : i < (lst f st n g).length := by rw [lst_length]; exact h
  refine idx_of (fun i j hi hj e => ?_) hl (by rw [lst_get])
  rw [lst_get, lst_get] at e
  exact cellAt_inj hs e
theorem lst_idx_none {f st n : Nat} (g : Nat → Int) (hs : 0 < st) : idx (lst f st n g) (cellAt f st n) = none := by
  rw [idx, List.findIdx?_eq_none_iff]
  intro e he
  simp only [lst, List.mem_map, List.mem_range] at he
  obtain ⟨j, hj, rfl⟩ := he
  have : cellAt f st j ≠ cellAt f st n := fun h => by have := cellAt_inj hs h; omega
  simpa using this
theorem lst_put {f st r n : Nat} (g : Nat → Int) (hs : 0 < st) (hr : n < r) (d : List (Int × Int × Bool)) :
    put ⟨r, lst f st n g, d⟩ (cellAt f st n) (g n) = (⟨r, lst f st (n + 1) g, d ++ [((n : Int), 0, true)]⟩, 0) := by
  unfold put
  simp only [lst_idx_none g hs, lst_length]
  rw [if_neg (by omega)]
  simp [lst, List.range_succ]
theorem lst_full {f st r : Nat} (g : Nat → Int) (hs : 0 < st) (v : Int) (d : List (Int × Int × Bool)) :
    put ⟨r, lst f st r g, d⟩ (cellAt f st r) v = (⟨r, lst f st r g, d⟩, 6) := by
  unfold put
  simp only [lst_idx_none g hs, lst_length]
  rw [if_pos (by omega)]
def turned (j : Nat) (g h : Nat → Int) : Nat → Int := fun i => if i < j then h i else g i
theorem lst_turn {f st r j : Nat} (g h : Nat → Int) (hs : 0 < st) (hj : j < r) (d : List (Int × Int × Bool)) :
    ∃ x, put ⟨r, lst f st r (turned j g h), d⟩ (cellAt f st j) (h j) = (⟨r, lst f st r (turned (j + 1) g h), d ++ [x]⟩, 0) := by
  unfold put
  simp only [lst_idx _ hs hj]
  have : (lst f st r (turned j g h)).set j (cellAt f st j, h j) = lst f st r (turned (j + 1) g h) := by
    apply List.ext_getElem
    · simp [lst_length]
    · intro i h1 h2
      rw [List.getElem_set, lst_get]
      by_cases e : j = i
      · subst e
        rw [if_pos rfl, lst_get]
        congr 1
        unfold turned
        rw [if_pos (by omega)]
      · rw [if_neg e, lst_get]
        congr 1
        unfold turned
        by_cases h3 : i < j
        · rw [if_pos h3, if_pos (by omega)]
        · rw [if_neg h3, if_neg (by omega)]
  rw [this]
  exact ⟨_, rfl⟩
theorem lst_read {f st r i : Nat} (g : Nat → Int) (hs : 0 < st) (hi : i < r) (d : List (Int × Int × Bool)) : get ⟨r, lst f st r g, d⟩ (cellAt f st i) = (g i, true) := by
  unfold get
  simp only [lst_idx g hs hi]
  rw [List.getD_eq_getElem?_getD, List.getElem?_eq_getElem (by rw [lst_length]; exact hi), lst_get]
  rfl
theorem lst_none {f st r : Nat} (g : Nat → Int) (hs : 0 < st) (d : List (Int × Int × Bool)) : get ⟨r, lst f st r g, d⟩ (cellAt f st r) = (0, false) := by
  unfold get
  simp only [lst_idx_none g hs]
theorem turned_zero (g h : Nat → Int) : turned 0 g h = g := by funext i; simp [turned]
theorem turned_all {r : Nat} {f st : Nat} (g h : Nat → Int) : lst f st r (turned r g h) = lst f st r h := by
  unfold lst turned
  apply List.map_congr_left
  intro i hi
  rw [if_pos (List.mem_range.1 hi)]
end Go.Tum.W
