/- Where things stand, plain: no two at one place; something at each. -/
import Derived.Test.YtccioehckfdjdaaYof
import Derived.Test.YtccioehckfdjdaaYwhat
set_option linter.unusedSimpArgs false
set_option linter.unusedVariables false
namespace Go.Tum.Y
/-- What stands at a place. -/
def wh (c : Cfg) (p : Int) : Int × Int × Int :=
  if p = 0 then (0, 0, 0)
  else if p < fTag c then
    if 8 ≤ (p - 1) % stride c then (6, (p - 1) / stride c, (p - 1) % stride c - 8)
    else if 7 ≤ (p - 1) % stride c then (5, (p - 1) / stride c, (p - 1) % stride c - 7)
    else if 6 ≤ (p - 1) % stride c then (4, (p - 1) / stride c, (p - 1) % stride c - 6)
    else if 5 ≤ (p - 1) % stride c then (3, (p - 1) / stride c, (p - 1) % stride c - 5)
    else if 1 ≤ (p - 1) % stride c then (2, (p - 1) / stride c, (p - 1) % stride c - 1)
    else (1, (p - 1) / stride c, (p - 1) % stride c)
  else if p < fRoot c then (7 + (p - fTag c) % 3, (p - fTag c) / 3, 0)
  else if p < fLife c then (10, p - fRoot c, 0)
  else if p < fTop c then (11, p - fLife c, 0)
  else if p < fStack c then (12, p - fTop c, 0)
  else if p < fLim c then (13, p - fStack c, 0)
  else if p < fLimbo c then (14, p - fLim c, 0)
  else if p < fWord c then (15, p - fLimbo c, 0)
  else (16, (p - fWord c) / 8, (p - fWord c) % 8)

theorem divmod {s i r : Int} (h0 : 0 ≤ r) (h1 : r < s) : (i * s + r) / s = i ∧ (i * s + r) % s = r := by
  refine ⟨?_, ?_⟩
  · rw [Int.add_comm, Int.add_mul_ediv_right _ _ (by omega), Int.ediv_eq_zero_of_lt h0 h1]; omega
  · rw [Int.add_comm, Int.add_mul_emod_self_right, Int.emod_eq_of_lt h0 h1]
/-- Of a thread's own cells: where they are. -/
structure Own (c : Cfg) (p i r : Int) : Prop where
  p_ : p = 1 + i * stride c + r
  i0 : 0 ≤ i
  it : i < c.t
  r0 : 0 ≤ r
  rs : r < stride c
theorem Own.bd {c : Cfg} {p i r : Int} (h : Ok c) (o : Own c p i r) : 1 ≤ p ∧ p < fTag c := by
  have h1 := istr_bd h o.i0 o.it
  have h2 := o.r0; have h3 := o.rs; have h4 := o.p_
  unfold fTag; omega
theorem Own.dm {c : Cfg} {p i r : Int} (o : Own c p i r) : (p - 1) / stride c = i ∧ (p - 1) % stride c = r := by
  rw [show p - 1 = i * stride c + r by have := o.p_; omega]
  exact divmod o.r0 o.rs
theorem Own.wh {c : Cfg} {p i r : Int} (h : Ok c) (o : Own c p i r) : wh c p = if 8 ≤ r then (6, i, r - 8) else if 7 ≤ r then (5, i, r - 7) else if 6 ≤ r then (4, i, r - 6) else if 5 ≤ r then (3, i, r - 5) else if 1 ≤ r then (2, i, r - 1) else (1, i, r) := by
  have hb := o.bd h
  obtain ⟨e1, e2⟩ := o.dm
  unfold Y.wh
  rw [if_neg (by omega), if_pos hb.2, e1, e2]
/-- All places, in a row (as one statement). -/
theorem row {c : Cfg} (h : Ok c) : 14 ≤ fTag c ∧ fRoot c = fTag c + c.t * 3 ∧ fLife c = fRoot c + 16 ∧ fTop c = fLife c + c.b ∧ fStack c = fTop c + 1 ∧ fLim c = fStack c + c.b ∧ fLimbo c = fLim c + 1 ∧ fWord c = fLimbo c + limit c ∧ size c = fWord c + c.b * 8 ∧ 1 ≤ limit c ∧ 1 ≤ c.t ∧ 1 ≤ c.b ∧ size c ≤ 18100 := by
  have h1 := bds h
  exact ⟨h1.tag.1, h1.root, h1.life, h1.top, h1.stack, h1.lim, h1.limbo, h1.word, h1.size_, (limit_pos h).1, h.t1, h.b1, (size_bd h).2⟩
theorem cap_stride (c : Cfg) : stride c = 8 + cap c := rfl

theorem own_is1 {c : Cfg} (h : Ok c) {i k : Int} (hi : Is c 1 i k) : Own c (place c 1 i k) i (0 + k) := by
  obtain ⟨h0, h1, h2, h3⟩ := hi
  have e1 : cnt c 1 = c.t := by simp [cnt]
  have e2 : eachP c 1 = 1 := by simp [eachP, each]
  have e3 : place c 1 i k = 1 + i * stride c + 0 + k := by simp [place, ownOf]
  have := cap_bd h
  have := cap_stride c
  exact ⟨by omega, h0, by omega, by omega, by omega⟩
theorem own_is2 {c : Cfg} (h : Ok c) {i k : Int} (hi : Is c 2 i k) : Own c (place c 2 i k) i (1 + k) := by
  obtain ⟨h0, h1, h2, h3⟩ := hi
  have e1 : cnt c 2 = c.t := by simp [cnt]
  have e2 : eachP c 2 = 4 := by simp [eachP, each]
  have e3 : place c 2 i k = 1 + i * stride c + 1 + k := by simp [place, ownOf]
  have := cap_bd h
  have := cap_stride c
  exact ⟨by omega, h0, by omega, by omega, by omega⟩
theorem own_is3 {c : Cfg} (h : Ok c) {i k : Int} (hi : Is c 3 i k) : Own c (place c 3 i k) i (5 + k) := by
  obtain ⟨h0, h1, h2, h3⟩ := hi
  have e1 : cnt c 3 = c.t := by simp [cnt]
  have e2 : eachP c 3 = 1 := by simp [eachP, each]
  have e3 : place c 3 i k = 1 + i * stride c + 5 + k := by simp [place, ownOf]
  have := cap_bd h
  have := cap_stride c
  exact ⟨by omega, h0, by omega, by omega, by omega⟩
theorem own_is4 {c : Cfg} (h : Ok c) {i k : Int} (hi : Is c 4 i k) : Own c (place c 4 i k) i (6 + k) := by
  obtain ⟨h0, h1, h2, h3⟩ := hi
  have e1 : cnt c 4 = c.t := by simp [cnt]
  have e2 : eachP c 4 = 1 := by simp [eachP, each]
  have e3 : place c 4 i k = 1 + i * stride c + 6 + k := by simp [place, ownOf]
  have := cap_bd h
  have := cap_stride c
  exact ⟨by omega, h0, by omega, by omega, by omega⟩
theorem own_is5 {c : Cfg} (h : Ok c) {i k : Int} (hi : Is c 5 i k) : Own c (place c 5 i k) i (7 + k) := by
  obtain ⟨h0, h1, h2, h3⟩ := hi
  have e1 : cnt c 5 = c.t := by simp [cnt]
  have e2 : eachP c 5 = 1 := by simp [eachP, each]
  have e3 : place c 5 i k = 1 + i * stride c + 7 + k := by simp [place, ownOf]
  have := cap_bd h
  have := cap_stride c
  exact ⟨by omega, h0, by omega, by omega, by omega⟩
theorem own_is6 {c : Cfg} (h : Ok c) {i k : Int} (hi : Is c 6 i k) : Own c (place c 6 i k) i (8 + k) := by
  obtain ⟨h0, h1, h2, h3⟩ := hi
  have e1 : cnt c 6 = c.t := by simp [cnt]
  have e2 : eachP c 6 = cap c := by simp [eachP, each]
  have e3 : place c 6 i k = 1 + i * stride c + 8 + k := by simp [place, ownOf]
  have := cap_bd h
  have := cap_stride c
  exact ⟨by omega, h0, by omega, by omega, by omega⟩

theorem kinds_ {kind : Int} (h : 0 ≤ kind ∧ kind ≤ 16) : kind = 0 ∨ kind = 1 ∨ kind = 2 ∨ kind = 3 ∨ kind = 4 ∨ kind = 5 ∨ kind = 6 ∨ kind = 7 ∨ kind = 8 ∨ kind = 9 ∨ kind = 10 ∨ kind = 11 ∨ kind = 12 ∨ kind = 13 ∨ kind = 14 ∨ kind = 15 ∨ kind = 16 := by omega
theorem wh_place {c : Cfg} (h : Ok c) {kind i k : Int} (hi : Is c kind i k) : wh c (place c kind i k) = (kind, i, k) ∧ 0 ≤ place c kind i k ∧ place c kind i k < size c := by
  have hk := is_kind hi
  obtain ⟨r0, r1, r2, r3, r4, r5, r6, r7, r8, r9, r10, r11, r12⟩ := row h
  have hi' := hi
  obtain ⟨h0, h1, h2, h3⟩ := hi'
  rcases kinds_ hk with rfl | rfl | rfl | rfl | rfl | rfl | rfl | rfl | rfl | rfl | rfl | rfl | rfl | rfl | rfl | rfl | rfl
  · have e1 : cnt c 0 = 1 := by simp [cnt]
    have e2 : eachP c 0 = 1 := by simp [eachP, each]
    have e3 : place c 0 i k = 0 := by simp [place]
    rw [e3]
    refine ⟨?_, by omega, by omega⟩
    unfold wh; rw [if_pos rfl, show i = 0 by omega, show k = 0 by omega]
  · have o := own_is1 h hi
    have hb := o.bd h
    have e2 : eachP c 1 = 1 := by simp [eachP, each]
    refine ⟨?_, by omega, by omega⟩
    rw [o.wh h, if_neg (by omega), if_neg (by omega), if_neg (by omega), if_neg (by omega), if_neg (by omega), show 0 + k = k by omega]
  · have o := own_is2 h hi
    have hb := o.bd h
    have e2 : eachP c 2 = 4 := by simp [eachP, each]
    refine ⟨?_, by omega, by omega⟩
    rw [o.wh h, if_neg (by omega), if_neg (by omega), if_neg (by omega), if_neg (by omega), if_pos (by omega), show 1 + k - 1 = k by omega]
  · have o := own_is3 h hi
    have hb := o.bd h
    have e2 : eachP c 3 = 1 := by simp [eachP, each]
    refine ⟨?_, by omega, by omega⟩
    rw [o.wh h, if_neg (by omega), if_neg (by omega), if_neg (by omega), if_pos (by omega), show 5 + k - 5 = k by omega]
  · have o := own_is4 h hi
    have hb := o.bd h
    have e2 : eachP c 4 = 1 := by simp [eachP, each]
    refine ⟨?_, by omega, by omega⟩
    rw [o.wh h, if_neg (by omega), if_neg (by omega), if_pos (by omega), show 6 + k - 6 = k by omega]
  · have o := own_is5 h hi
    have hb := o.bd h
    have e2 : eachP c 5 = 1 := by simp [eachP, each]
    refine ⟨?_, by omega, by omega⟩
    rw [o.wh h, if_neg (by omega), if_pos (by omega), show 7 + k - 7 = k by omega]
  · have o := own_is6 h hi
    have hb := o.bd h
    refine ⟨?_, by omega, by omega⟩
    rw [o.wh h, if_pos (by omega), show 8 + k - 8 = k by omega]
  · have e1 : cnt c 7 = c.t := by simp [cnt]
    have e2 : eachP c 7 = 1 := by simp [eachP, each]
    have e3 : place c 7 i k = fTag c + i * 3 + 7 - 7 := by simp [place]
    rw [e3]
    refine ⟨?_, by omega, by omega⟩
    unfold wh
    rw [if_neg (by omega), if_neg (by omega), if_pos (by omega)]
    simp only [Prod.mk.injEq, true_and]
    omega
  · have e1 : cnt c 8 = c.t := by simp [cnt]
    have e2 : eachP c 8 = 1 := by simp [eachP, each]
    have e3 : place c 8 i k = fTag c + i * 3 + 8 - 7 := by simp [place]
    rw [e3]
    refine ⟨?_, by omega, by omega⟩
    unfold wh
    rw [if_neg (by omega), if_neg (by omega), if_pos (by omega)]
    simp only [Prod.mk.injEq, true_and]
    omega
  · have e1 : cnt c 9 = c.t := by simp [cnt]
    have e2 : eachP c 9 = 1 := by simp [eachP, each]
    have e3 : place c 9 i k = fTag c + i * 3 + 9 - 7 := by simp [place]
    rw [e3]
    refine ⟨?_, by omega, by omega⟩
    unfold wh
    rw [if_neg (by omega), if_neg (by omega), if_pos (by omega)]
    simp only [Prod.mk.injEq, true_and]
    omega
  · have e1 : cnt c 10 = 16 := by simp [cnt]
    have e2 : eachP c 10 = 1 := by simp [eachP, each]
    have e3 : place c 10 i k = fRoot c + i * 1 + k := by simp [place, fromP, each]
    rw [e3]
    refine ⟨?_, by omega, by omega⟩
    unfold wh
    rw [if_neg (by omega), if_neg (by omega), if_neg (by omega), if_pos (by omega)]
    simp only [Prod.mk.injEq, true_and]
    omega
  · have e1 : cnt c 11 = c.b := by simp [cnt]
    have e2 : eachP c 11 = 1 := by simp [eachP, each]
    have e3 : place c 11 i k = fLife c + i * 1 + k := by simp [place, fromP, each]
    rw [e3]
    refine ⟨?_, by omega, by omega⟩
    unfold wh
    rw [if_neg (by omega), if_neg (by omega), if_neg (by omega), if_neg (by omega), if_pos (by omega)]
    simp only [Prod.mk.injEq, true_and]
    omega
  · have e1 : cnt c 12 = 1 := by simp [cnt]
    have e2 : eachP c 12 = 1 := by simp [eachP, each]
    have e3 : place c 12 i k = fTop c + i * 1 + k := by simp [place, fromP, each]
    rw [e3]
    refine ⟨?_, by omega, by omega⟩
    unfold wh
    rw [if_neg (by omega), if_neg (by omega), if_neg (by omega), if_neg (by omega), if_neg (by omega), if_pos (by omega)]
    simp only [Prod.mk.injEq, true_and]
    omega
  · have e1 : cnt c 13 = c.b := by simp [cnt]
    have e2 : eachP c 13 = 1 := by simp [eachP, each]
    have e3 : place c 13 i k = fStack c + i * 1 + k := by simp [place, fromP, each]
    rw [e3]
    refine ⟨?_, by omega, by omega⟩
    unfold wh
    rw [if_neg (by omega), if_neg (by omega), if_neg (by omega), if_neg (by omega), if_neg (by omega), if_neg (by omega), if_pos (by omega)]
    simp only [Prod.mk.injEq, true_and]
    omega
  · have e1 : cnt c 14 = 1 := by simp [cnt]
    have e2 : eachP c 14 = 1 := by simp [eachP, each]
    have e3 : place c 14 i k = fLim c + i * 1 + k := by simp [place, fromP, each]
    rw [e3]
    refine ⟨?_, by omega, by omega⟩
    unfold wh
    rw [if_neg (by omega), if_neg (by omega), if_neg (by omega), if_neg (by omega), if_neg (by omega), if_neg (by omega), if_neg (by omega), if_pos (by omega)]
    simp only [Prod.mk.injEq, true_and]
    omega
  · have e1 : cnt c 15 = limit c := by simp [cnt]
    have e2 : eachP c 15 = 1 := by simp [eachP, each]
    have e3 : place c 15 i k = fLimbo c + i * 1 + k := by simp [place, fromP, each]
    rw [e3]
    refine ⟨?_, by omega, by omega⟩
    unfold wh
    rw [if_neg (by omega), if_neg (by omega), if_neg (by omega), if_neg (by omega), if_neg (by omega), if_neg (by omega), if_neg (by omega), if_neg (by omega), if_pos (by omega)]
    simp only [Prod.mk.injEq, true_and]
    omega
  · have e1 : cnt c 16 = c.b := by simp [cnt]
    have e2 : eachP c 16 = 8 := by simp [eachP, each]
    have e3 : place c 16 i k = fWord c + i * 8 + k := by simp [place, fromP, each]
    rw [e3]
    refine ⟨?_, by omega, by omega⟩
    unfold wh
    rw [if_neg (by omega), if_neg (by omega), if_neg (by omega), if_neg (by omega), if_neg (by omega), if_neg (by omega), if_neg (by omega), if_neg (by omega), if_neg (by omega)]
    simp only [Prod.mk.injEq, true_and]
    omega
end Go.Tum.Y
