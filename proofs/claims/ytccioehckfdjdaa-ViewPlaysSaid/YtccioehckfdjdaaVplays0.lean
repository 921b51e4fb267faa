/- ViewPlays: what holds between readings, plain. -/
import Derived.Test.YtccioehckfdjdaaVmatch
import Derived.Test.YtccioehckfdjdaaVdoes
set_option linter.unusedSimpArgs false
set_option linter.unusedVariables false
namespace Go.Tum.Vw
open Go.Tum.Y
theorem rng_tell {seq x n : Int} {v : V} (h : 0 ≤ v.step ∧ v.step ≤ 3) : 0 ≤ (tell seq x n v).step ∧ (tell seq x n v).step ≤ 3 := by
  unfold tell loaded lives
  repeat (first | omega | (dsimp only; omega) | split)
theorem rng_touch (b a : Int) (v : V) : 0 ≤ (touch b a v).step ∧ (touch b a v).step ≤ 3 := by
  unfold touch lives
  repeat (first | omega | (dsimp only; omega) | split)
theorem rng_bgn (ok : Bool) {v : V} (h : v.step = 0) : (bgn ok v).1.step = 0 := by
  unfold bgn
  split
  · exact h
  · rfl
theorem rng_beg (c : Cfg) (K A B : Int) {v : V} (h : v.step = 0) : 0 ≤ (beg c K A B v).step ∧ (beg c K A B v).step ≤ 3 := by
  have hb := fun ok => rng_bgn ok h
  unfold beg cell word live
  repeat (first | (exact rng_touch _ _ _) | (rw [hb]; omega) | (dsimp only; omega) | split)
theorem rng_run {seq : Int} : ∀ (l : List O3) (v : V), 0 ≤ v.step ∧ v.step ≤ 3 → 0 ≤ (run seq v l).step ∧ (run seq v l).step ≤ 3
  | [], v, h => h
  | o :: r, v, h => rng_run r _ (rng_tell h)
theorem rload_z (seq : Int) (l : List O3) (x : X) (t : Tp) (p : Int) : (rload seq l x t p).s = 2 → (rload seq l x t p).val = 0 := by
  unfold rload
  split
  · simp
  · split <;> simp
theorem rdoes_z (c : Cfg) (who seq : Int) (l : List O3) (x : X) (t : Tp) (K A B : Int) : (rdoes c who seq l x t K A B).s = 2 → (rdoes c who seq l x t K A B).val = 0 := by
  have hc : ∀ p, (rcell c seq l x t p).s = 2 → (rcell c seq l x t p).val = 0 := fun p => by
    unfold rcell
    split
    · simp
    · split
      · simp
      · exact rload_z _ _ _ _ _
  unfold rdoes
  split
  · exact hc _
  · split
    · unfold rword
      split
      · simp
      · split
        · simp
        · dsimp only
          split
          · simp
          · exact rload_z _ _ _ _ _
    · split
      · intro _; exact rlive_val _ _ _ _ _ _ _
      · exact hc _
theorem rest_new : Rest ⟨-1, false⟩ vNew := ⟨rfl, rfl, by simp [vNew], by simp [vNew]⟩
/-- A reading is over: so it stands between readings again. -/
theorem rest_over {c : Cfg} {who seq : Int} {l : List O3} {x : X} {t : Tp} {K A B : Int} {u : V} (h : Ans c who u (rdoes c who seq l x t K A B)) (hr : 0 ≤ u.step ∧ u.step ≤ 3) (hoff : (Vw.ask c who u).2 = false) : Rest (rdoes c who seq l x t K A B).x u := by
  obtain ⟨e1, e2, e3⟩ := h.off hoff
  have h0 : u.step = 0 := by
    apply Classical.byContradiction
    intro hn
    rw [Go.Proofs.Ytccioehckfdjdaa.ask_on c who u (by omega)] at hoff
    cases hoff
  exact ⟨h0, e2, e3, fun h2 => by rw [← e1]; exact rdoes_z _ _ _ _ _ _ _ _ _ (by rw [h.s, h2])⟩
theorem ask_stop {c : Cfg} {who : Int} {u : V} (h : (Vw.ask c who u).2 = true) : u.step ≠ 0 := by
  intro h0
  rw [Go.Proofs.Ytccioehckfdjdaa.ask_off c who u h0] at h
  cases h
end Go.Tum.Vw
namespace Go.Tum
theorem tape_ask {w : World} {b : Nat} {T : TypeId} {v : Value} {t : Tp} (h : Blk w b T (tapeL v t)) : w.rangeAt b 2 (enP t.ask) := by
  intro j u hj
  rw [h.cell]
  have hl : j < 6 := (List.getElem?_eq_some_iff.1 hj).1
  rcases (show j = 0 ∨ j = 1 ∨ j = 2 ∨ j = 3 ∨ j = 4 ∨ j = 5 by omega) with rfl | rfl | rfl | rfl | rfl | rfl <;> exact hj
/-- A slice of a slice that came in. -/
theorem ArgE.cut {T : Type} {en : T → List Value} {n : Nat} {w : World} {a : Option Addr} {m cap : Nat} {l : List T} (h : ArgE en n w (.slice a m cap) l) (i k : Nat) (hi : i ≤ k) (hk : k ≤ l.length) :
    ArgE en n w (.slice (if cap = i then a else Option.map (fun x => x.add (i * n)) a) (k - i) (cap - i)) ((l.take k).drop i) := by
  obtain ⟨a', cap', e, hc, h⟩ := h
  simp only [Value.slice.injEq] at e
  obtain ⟨rfl, rfl, rfl⟩ := e
  have hl : ((l.take k).drop i).length = k - i := by rw [List.length_drop, List.length_take]; omega
  refine ⟨_, _, by rw [hl], by rw [hl]; omega, ?_⟩
  by_cases hki : k = i
  · left; exact List.eq_nil_of_length_eq_zero (by omega)
  rcases h with h | ⟨x, rfl, hx, hcell⟩
  · left; subst h; simp
  · right
    rw [if_neg (by omega)]
    refine ⟨x.add (i * n), rfl, ?_, fun j hj q u hq => ?_⟩
    · have : (x.add (i * n)).block = x.block := by unfold Addr.add; split <;> rfl
      rw [this]; exact hx
    · rw [hl] at hj
      have := hcell (i + j) (by omega) q u (by rw [List.getElem_drop, List.getElem_take] at hq; exact hq)
      rw [Go.Deep.add_add, show i * n + (j * n + q) = (i + j) * n + q by rw [Nat.add_mul]; omega]
      exact this
end Go.Tum
