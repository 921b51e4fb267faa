/- The walks of the document's answer for layer 1: New, Check, Becomes, Steps. -/
import Derived.Test.YtbgmcekbldponaaClaw
set_option linter.unusedSimpArgs false
set_option linter.unusedVariables false
namespace Go.Proofs.Ytbgmcekbldponaa
open Go.RowKit Go.Tum Go.Tum.C

/-- The document's memory: a slice of cells, a slice of steps. -/
def refT (vc vt : Value) (cs : List (Int × Int)) (tr : List Ev) : Thing where
  P w fp := fp = vc.ownBlock.toList ++ vt.ownBlock.toList ∧ w.ownsRow 0 35 2 vc cs.length (flat enC cs) ∧ w.ownsRow 0 57 10 vt tr.length (flat enEv tr)
  fr := by
    rintro w w' fp fp' ⟨rfl, h1, h2⟩ f hn
    exact ⟨rfl, ownsRow_fr h1 f (fun k hk => hn k (by simp [hk])), ownsRow_fr h2 f (fun k hk => hn k (by simp [hk]))⟩
  lt := by
    rintro w fp ⟨rfl, h1, h2⟩ k hk
    rcases List.mem_append.1 hk with hk | hk
    · exact (World.ownsRow.lt h1 k (by simpa using hk)).2
    · exact (World.ownsRow.lt h2 k (by simpa using hk)).2
theorem sep_ref {w0 w : World} {Ts : List Thing} (h : Sep w0 w Ts) (i : Nat) {vc vt : Value} {cs : List (Int × Int)} {tr : List Ev} (hi : Ts[i]? = some (refT vc vt cs tr)) :
    w.ownsRow 0 35 2 vc cs.length (flat enC cs) ∧ w.ownsRow 0 57 10 vt tr.length (flat enEv tr) := by
  obtain ⟨fp, hp, _⟩ := h.get i hi
  exact hp.2

set_option maxHeartbeats 400000 in
theorem rnew_any (w : World) (n : Nat) (hn : n ≤ 65536) :
    Calls Try.prog 11 #[.int .i64 n] w fun e w' => ∃ vc, e = .returned (.agg #[vc, .slice none 0 0]) ∧ Fresh w w' (refT vc (.slice none 0 0) (List.replicate n (0, 0)) []) := by
  obtain ⟨i0, hi0, hz0, hz1, hz2⟩ := info_parts C_infoCell
  have hni : (n : Int) ≤ 65536 := by omega
  go_enter Try.func11, Try.ntmps11
  go_wp2_with (at_make; refine wpList_make_full _ rfl _ _ 28 rfl 0 35 i0 _ 2 Try.underlying28 hi0 hz0 hz1 .i64 .i64 _ _ n rfl rfl rfl rfl (by rw [hz2]; omega) (by unfold maxLen; omega) (Nat.zero_le _) ?_)
  intro w1 ho hg1
  have f := (Fr.refl [] (w.alloc (.cells #[.slice none 0 0, .slice none 0 0] 31))).grown hg1 (fun k e => by cases e)
  have hb := (Blk.new w 31 [.slice none 0 0, .slice none 0 0]).fr f (by simp)
  have c0 := hb.cell 0
  have c1 := hb.cell 1
  have f0 := hb.froz 0
  have f1 := hb.froz 1
  have hl := hb.lt
  simp only [List.getElem?_cons_zero, List.getElem?_cons_succ] at c0 c1
  have HB := Lib.hid hb; have HF := Lib.hid f; have HO := Lib.hid ho; have HG := Lib.hid hg1
  clear hb f ho hg1
  go_wp2_with fail
  have h2 := (HB.out.set 0 (.slice (some ⟨w.heap.size + 1, 0, none⟩) n n)).set 1 (.slice none 0 0)
  have k0 := h2.cell 0
  have k1 := h2.cell 1
  simp only [List.set_cons_zero, List.set_cons_succ, List.getElem?_cons_succ, List.getElem?_cons_zero] at k0 k1
  refine bodyPost_ret (v := .agg #[.slice (some ⟨w.heap.size + 1, 0, none⟩) n n, .slice none 0 0]) (by simp [results, Try.results11, go_sem, k0, k1]) rfl ⟨_, rfl, ?_⟩
  have ho := HO.out
  rw [show (madeCells #[Value.int .u64 0, Value.int .u64 0] (n * 2)).toList = flat enC (List.replicate n ((0 : Int), (0 : Int))) from made_cells n] at ho
  refine ⟨((((Fr.refl [] w).alloc _).trans HF.out).setCell (.inr (Nat.le_refl _)) _).setCell (.inr (Nat.le_refl _)) _, [w.heap.size + 1], ⟨rfl, ?_, World.ownsRow_nil _ _ _ _⟩, by simp⟩
  rw [List.length_replicate]
  exact ownsRow_setCell (ownsRow_setCell ho (by simp [Value.ownBlock]) _) (by simp [Value.ownBlock]) _

set_option maxHeartbeats 1000000 in
theorem rcheck_any (w : World) (la : Option Addr) (n lc : Nat) (vt : Value) (who : Int) (op : Op6) (hn0 : n ≤ 65536) (hvt : ∃ x y z, vt = .slice x y z) :
    Calls Try.prog 23 #[.agg #[.slice la n lc, vt], .int .i64 who, opV op] w fun e w' => e = .returned (.int .i64 (err n who op)) ∧ Fr [] w w' := by
  obtain ⟨x, y, z, rfl⟩ := hvt
  have hn : (n : Int) ≤ 65536 := by omega
  obtain ⟨k, a, ov, os, nv, ns⟩ := op
  unfold opV
  dsimp only
  by_cases h1 : who < 0
  · have d1 : decide (who < 0) = true := by simp; omega
    have e : err n who ⟨k, a, ov, os, nv, ns⟩ = 1 := by unfold err; rw [if_pos (.inl h1)]
    rw [e]; clear e
    go_enter Try.func23, Try.ntmps23
    go_wp2_with fail
    go_ret
    exact ⟨rfl, ((Fr.refl [] _).alloc _).alloc _⟩
  have d1 : decide (who < 0) = false := by simp; omega
  by_cases h2 : 8 ≤ who
  · have d2 : decide (who > 7) = true := by simp; omega
    have e : err n who ⟨k, a, ov, os, nv, ns⟩ = 1 := by unfold err; rw [if_pos (.inr h2)]
    rw [e]; clear e
    go_enter Try.func23, Try.ntmps23
    go_wp2_with fail
    go_ret
    exact ⟨rfl, ((Fr.refl [] _).alloc _).alloc _⟩
  have d2 : decide (who > 7) = false := by simp; omega
  by_cases h3 : k < 0
  · have d3 : decide (k < 0) = true := by simp; omega
    have e : err n who ⟨k, a, ov, os, nv, ns⟩ = 32 := by unfold err; rw [if_neg (by omega), if_pos (.inl h3)]
    rw [e]; clear e
    go_enter Try.func23, Try.ntmps23
    go_wp2_with fail
    go_ret
    exact ⟨rfl, ((Fr.refl [] _).alloc _).alloc _⟩
  have d3 : decide (k < 0) = false := by simp; omega
  by_cases h4 : 3 < k
  · have d4 : decide (k > 3) = true := by simp; omega
    have e : err n who ⟨k, a, ov, os, nv, ns⟩ = 32 := by unfold err; rw [if_neg (by omega), if_pos (.inr h4)]
    rw [e]; clear e
    go_enter Try.func23, Try.ntmps23
    go_wp2_with fail
    go_ret
    exact ⟨rfl, ((Fr.refl [] _).alloc _).alloc _⟩
  have d4 : decide (k > 3) = false := by simp; omega
  by_cases h5 : a < 0
  · have d5 : decide (a < 0) = true := by simp; omega
    have e : err n who ⟨k, a, ov, os, nv, ns⟩ = 31 := by unfold err; rw [if_neg (by omega), if_neg (by dsimp only; omega), if_pos (.inl h5)]
    rw [e]; clear e
    go_enter Try.func23, Try.ntmps23
    go_wp2_with fail
    go_ret
    exact ⟨rfl, ((Fr.refl [] _).alloc _).alloc _⟩
  have d5 : decide (a < 0) = false := by simp; omega
  by_cases h6 : (n : Int) ≤ a
  · have d6 : decide (a ≥ (n : Int)) = true := by simp; omega
    have e : err n who ⟨k, a, ov, os, nv, ns⟩ = 31 := by unfold err; rw [if_neg (by omega), if_neg (by dsimp only; omega), if_pos (.inr h6)]
    rw [e]; clear e
    go_enter Try.func23, Try.ntmps23
    go_wp2_with fail
    go_ret
    exact ⟨rfl, ((Fr.refl [] _).alloc _).alloc _⟩
  have d6 : decide (a ≥ (n : Int)) = false := by simp; omega
  have e : err n who ⟨k, a, ov, os, nv, ns⟩ = 0 := by unfold err; rw [if_neg (by omega), if_neg (by dsimp only; omega), if_neg (by dsimp only; omega)]
  rw [e]; clear e
  go_enter Try.func23, Try.ntmps23
  go_wp2_with fail
  go_ret
  exact ⟨rfl, ((Fr.refl [] _).alloc _).alloc _⟩

set_option maxHeartbeats 1000000 in
theorem becomes_any (w : World) (c : Int × Int) (op : Op6) :
    Calls Try.prog 24 #[.agg #[.int .u64 c.1, .int .u64 c.2], opV op] w fun e w' => e = .returned (.agg #[.int .u64 (becomes c op).1, .int .u64 (becomes c op).2]) ∧ Fr [] w w' := by
  obtain ⟨k, a, ov, os, nv, ns⟩ := op
  obtain ⟨c1, c2⟩ := c
  unfold opV
  dsimp only
  by_cases h1 : k = 1
  · subst h1
    have e : becomes (c1, c2) ⟨1, a, ov, os, nv, ns⟩ = (nv, ns) := by simp [becomes]
    rw [e]; clear e
    go_enter Try.func24, Try.ntmps24
    go_wp2_with fail
    exact bodyPost_ret (v := .agg #[.int .u64 nv, .int .u64 ns]) (by simp [results, Try.results24, go_sem]) rfl ⟨rfl, (((Fr.refl [] _).alloc _).alloc _).alloc _⟩
  have d1 : (k == 1) = false := by simpa using h1
  by_cases h2 : k = 2
  · subst h2
    by_cases g1 : c1 = ov
    · by_cases g2 : c2 = os
      · have e : becomes (c1, c2) ⟨2, a, ov, os, nv, ns⟩ = (nv, ns) := by simp [becomes, g1, g2]
        have b1 : (c1 == ov) = true := by simpa using g1
        have b2 : (c2 == os) = true := by simpa using g2
        clear g1 g2 h1
        rw [e]; clear e
        go_enter Try.func24, Try.ntmps24
        go_wp2_with fail
        exact bodyPost_ret (v := .agg #[.int .u64 nv, .int .u64 ns]) (by simp [results, Try.results24, go_sem]) rfl ⟨rfl, (((Fr.refl [] _).alloc _).alloc _).alloc _⟩
      · have e : becomes (c1, c2) ⟨2, a, ov, os, nv, ns⟩ = (c1, c2) := by simp [becomes, g1, g2]
        have b1 : (c1 == ov) = true := by simpa using g1
        have b2 : (c2 == os) = false := by simpa using g2
        clear g1 g2 h1
        rw [e]; clear e
        go_enter Try.func24, Try.ntmps24
        go_wp2_with fail
        exact bodyPost_ret (v := .agg #[.int .u64 c1, .int .u64 c2]) (by simp [results, Try.results24, go_sem]) rfl ⟨rfl, (((Fr.refl [] _).alloc _).alloc _).alloc _⟩
    · have e : becomes (c1, c2) ⟨2, a, ov, os, nv, ns⟩ = (c1, c2) := by simp [becomes, g1]
      have b1 : (c1 == ov) = false := by simpa using g1
      clear g1 h1
      rw [e]; clear e
      go_enter Try.func24, Try.ntmps24
      go_wp2_with fail
      exact bodyPost_ret (v := .agg #[.int .u64 c1, .int .u64 c2]) (by simp [results, Try.results24, go_sem]) rfl ⟨rfl, (((Fr.refl [] _).alloc _).alloc _).alloc _⟩
  have d2 : (k == 2) = false := by simpa using h2
  by_cases h3 : k = 3
  · subst h3
    have e : becomes (c1, c2) ⟨3, a, ov, os, nv, ns⟩ = (IntKind.u64.wrap (c1 + nv), c2) := by simp [becomes]
    clear h1 h2
    rw [e]; clear e
    go_enter Try.func24, Try.ntmps24
    go_wp2_with fail
    exact bodyPost_ret (v := .agg #[.int .u64 (IntKind.u64.wrap (c1 + nv)), .int .u64 c2]) (by simp [results, Try.results24, go_sem]) rfl ⟨rfl, (((Fr.refl [] _).alloc _).alloc _).alloc _⟩
  have d3 : (k == 3) = false := by simpa using h3
  have e : becomes (c1, c2) ⟨k, a, ov, os, nv, ns⟩ = (c1, c2) := by simp [becomes, h1, h2, h3]
  clear h1 h2 h3
  rw [e]; clear e
  go_enter Try.func24, Try.ntmps24
  go_wp2_with fail
  exact bodyPost_ret (v := .agg #[.int .u64 c1, .int .u64 c2]) (by simp [results, Try.results24, go_sem]) rfl ⟨rfl, (((Fr.refl [] _).alloc _).alloc _).alloc _⟩

theorem countBy_succ (tr : List Ev) (who : Int) {k : Nat} (hk : k < tr.length) : countBy (tr.take (k + 1)) who = countBy (tr.take k) who + if tr[k].who = who then 1 else 0 := by
  unfold countBy
  rw [List.take_succ_eq_append_getElem hk, List.countP_append, List.countP_singleton]
  simp
set_option maxHeartbeats 1000000 in
theorem rsteps_any (w : World) (la : Option Addr) (n lc : Nat) (vt : Value) (tr : List Ev) (who : Int) (ht : tr.length ≤ 100000) (hr : w.ownsRow 0 57 10 vt tr.length (flat enEv tr)) :
    Calls Try.prog 25 #[.agg #[.slice la n lc, vt], .int .i64 who] w fun e w' => e = .returned (.int .i64 (countBy tr who)) ∧ Fr [] w w' := by
  obtain ⟨ta, tc, rfl⟩ := ownsRow_any hr
  have hti : (tr.length : Int) ≤ 100000 := by omega
  have HR := Lib.hid hr; clear hr
  go_enter Try.func25, Try.ntmps25
  go_wp2_with fail
  go_loopg [5, 6] tr.length (fun g vn vi wr => wr = w.alloc (.cells #[.slice la n lc, .slice ta tr.length tc] 31) ∧ ∃ k, g + k = tr.length ∧ vi = .int .i64 (k : Int) ∧ vn = .int .i64 (countBy (tr.take k) who : Int))
  case atStart => exact ⟨rfl, 0, by omega, rfl, rfl⟩
  case round =>
    obtain ⟨rfl, k, hg, rfl, rfl⟩ := hrel
    by_cases hk : k < tr.length
    · have hki : (k : Int) < (tr.length : Int) := by omega
      obtain ⟨g, c, e, hgl⟩ : ∃ g c, Value.slice ta tr.length tc = .slice (some ⟨g, 0, none⟩) tr.length c ∧ g < w.heap.size := by
        rcases ownsRow_form HR.out with ⟨_, h0⟩ | ⟨g, c, e, h1, _⟩
        · omega
        · exact ⟨g, c, e, h1⟩
      simp only [Value.slice.injEq, true_and] at e
      obtain ⟨rfl, rfl⟩ := e
      have c0 := ev_cells HR.out hk 0 (by decide) _ rfl
      rw [Nat.add_zero] at c0
      have hcs := countBy_succ tr who hk
      have hcb : countBy (tr.take k) who ≤ k := Nat.le_trans List.countP_le_length (by rw [List.length_take]; omega)
      have hew : tr[k].who = tr[k].who := rfl
      by_cases hw : tr[k].who = who
      · rw [if_pos hw] at hcs
        have hb : (tr[k].who == who) = true := by simpa using hw
        have HC := Lib.hid hcs
        clear hcs hw hew
        generalize tr[k] = x at *
        obtain ⟨x0, x1, x2⟩ := x
        dsimp only [enEv] at c0 hb
        generalize countBy (tr.take k) who = q at *
        go_wp2_with fail
        go_roundg (tr.length - (k + 1))
        case measure => omega
        case rel => exact ⟨rfl, k + 1, by omega, by go_num, by rw [HC.out]; go_num⟩
      · rw [if_neg hw] at hcs
        have hb : (tr[k].who == who) = false := by simpa using hw
        have HC := Lib.hid hcs
        clear hcs hw hew
        generalize tr[k] = x at *
        obtain ⟨x0, x1, x2⟩ := x
        dsimp only [enEv] at c0 hb
        generalize countBy (tr.take k) who = q at *
        go_wp2_with fail
        go_roundg (tr.length - (k + 1))
        case measure => omega
        case rel => exact ⟨rfl, k + 1, by omega, by go_num, by rw [HC.out]; rfl⟩
    · obtain rfl : k = tr.length := by omega
      rw [List.take_of_length_le (Nat.le_refl _)]
      go_wp2_with fail
      go_ret
      exact ⟨rfl, (Fr.refl [] _).alloc _⟩
end Go.Proofs.Ytbgmcekbldponaa
