/- Several texts in one: Pr1, Pr2, Pr3, Pr4. -/
import Derived.Test.YtccioehckfdjdaaPex
import Derived.Test.YtccioehckfdjdaaYrat
import Derived.Test.YtccioehckfdjdaaRput
import Derived.Test.YtccioehckfdjdaaSep
/- Small walks of the document's chapter 10: held, Top. -/
section
set_option linter.unusedSimpArgs false
set_option linter.unusedVariables false
namespace Go.Proofs.Ytccioehckfdjdaa
open Go.RowKit Go.Tum Go.Tum.Y
theorem held10_any (w : World) (n most : Int) (hn : 0 ≤ n ∧ n ≤ 18446744073709551615) (hm : 0 ≤ most ∧ most ≤ 1000) :
    Calls Try.prog 104 #[.int .u64 n, .int .i64 most] w fun e w' => e = .returned (.int .i64 (min n most)) ∧ w = w' := by
  have hwm : IntKind.u64.wrap most = most := by rw [IntKind.wrap_u64]; omega
  by_cases h : n > most
  · have d1 : decide (n > most) = true := by simpa using h
    have e1 : min n most = most := by omega
    rw [e1]
    clear e1 h
    go_enter Try.func104, Try.ntmps104
    go_wp2_with fail
    go_ret
    exact ⟨rfl, rfl⟩
  · have d1 : decide (n > most) = false := by simpa using h
    have e1 : min n most = n := by omega
    have hwn : IntKind.i64.wrap n = n := wrap_i64_id _ (by omega) (by omega)
    rw [e1]
    clear e1 h
    go_enter Try.func104, Try.ntmps104
    go_wp2_with fail
    go_ret
    exact ⟨rfl, rfl⟩
/-- The document's pool, as cells. -/
def rpL (c : Cfg) (vn vl : Value) (wt wl top lim : Int) : List Value := [.int .i64 c.t, .int .i64 c.b, .int .i64 c.w, .int .i64 c.f, .int .u64 c.fi, .int .u64 c.la] ++ [vn, vl, .int .i64 wt, .int .i64 wl, .int .i64 top, .int .i64 lim]
def rtopP (c : Cfg) (top : Int) : Int × Bool := if top = 0 then (-1, false) else (at_ c 13 (top - 1) 0, true)
theorem rtop10_any (w : World) (c : Cfg) (hok : Y.Ok c) (vn vl : Value) (wt wl top lim : Int) (ht : 0 ≤ top ∧ top ≤ 1000) :
    Calls Try.prog 53 #[.agg (rpL c vn vl wt wl top lim).toArray] w fun e w' => e = .returned (.tuple #[.int .i64 (rtopP c top).1, .bool (rtopP c top).2]) ∧ Fr [] w w' := by
  have HA := Lib.hid (fun w => rat_any w c hok 13 (top - 1) 0)
  have hS := (Sep.nil (Fr.refl [] w)).new 65 (rpL c vn vl wt wl top lim)
  have k10 := (hS.blk 0 rfl).cell 10
  have kl := (hS.blk 0 rfl).lt
  have HB := Lib.hid (hS.blk 0 rfl)
  have HS := Lib.hid hS; clear hS
  have hws : IntKind.i64.wrap (top - 1) = top - 1 := wrap_i64_id _ (by omega) (by omega)
  unfold rtopP
  unfold rpL cfgV at *
  simp only [List.cons_append, List.nil_append, List.getElem?_cons_zero, List.getElem?_cons_succ] at k10
  by_cases h0 : top = 0
  · rw [if_pos h0]
    have d1 : (top == 0) = true := by simpa using h0
    clear h0
    go_enter Try.func53, Try.ntmps53
    go_wp2_with fail
    go_ret2
    exact ⟨rfl, HS.out.fr⟩
  · rw [if_neg h0]
    have d1 : (top == 0) = false := by simpa using h0
    clear h0
    go_enter Try.func53, Try.ntmps53
    go_wp2_with (refine wpList_load_any 24 _ rfl rfl _ 0 rfl [.int .i64 c.t, .int .i64 c.b, .int .i64 c.w, .int .i64 c.f, .int .u64 c.fi, .int .u64 c.la] _ (Blk.pre HB.out) Try.underlying24 rfl (by kernel_rfl) ?_)
    refine (HA.out _).mono ?_
    rintro e w2 ⟨rfl, hf⟩
    go_wp2_with fail
    go_ret2
    exact ⟨rfl, HS.out.fr.trans hf⟩
end Go.Proofs.Ytccioehckfdjdaa
end

/- The document's names. -/
section
set_option linter.unusedSimpArgs false
set_option linter.unusedVariables false
namespace Go.Proofs.Ytccioehckfdjdaa
open Go.RowKit Go.Tum Go.Tum.Y
set_option maxRecDepth 100000 in
set_option maxHeartbeats 4000000 in
theorem names10_any (w : World) (c : Cfg) (vn vl : Value) (wt wl top lim : Int) (ns : List Int) (hn : ns.length ≤ 1000) (hN : ArgE enU 1 w vn ns) (b : Int) (hb : 0 ≤ b ∧ b ≤ 1000) :
    Calls Try.prog 110 #[.agg (rpL c vn vl wt wl top lim).toArray, .int .u64 b] w fun e w' => e = .returned (.bool (decide (b + 1 ∈ ns))) ∧ Fr [] w w' := by
  obtain ⟨a, lc, rfl⟩ := hN.len
  have HN := Lib.hid hN; clear hN
  have HS := Lib.hid ((Sep.nil (Fr.refl [] w)).new 65 (rpL c (.slice a ns.length lc) vl wt wl top lim))
  have hwb : IntKind.u64.wrap (b + 1) = b + 1 := by rw [IntKind.wrap_u64]; omega
  have HK := Lib.hid (fun (w' : World) (hB : Blk w' w.heap.size 65 (rpL c (.slice a ns.length lc) vl wt wl top lim)) => (hB.cell 6).trans (show (rpL c (.slice a ns.length lc) vl wt wl top lim)[6]? = some (.slice a ns.length lc) from rfl))
  obtain ⟨RP, hRP⟩ : ∃ RP, rpL c (.slice a ns.length lc) vl wt wl top lim = RP := ⟨_, rfl⟩
  simp only [hRP] at HS HK ⊢
  clear hRP
  obtain ⟨rr, hrr⟩ : ∃ rr, decide (b + 1 ∈ ns) = rr := ⟨_, rfl⟩
  rw [hrr]
  have HRR := Lib.hid hrr; clear hrr
  go_enter Try.func110, Try.ntmps110
  go_wp2_with fail
  go_loopg [5] ns.length (fun g vi wr => ∃ j, g + j = ns.length ∧ vi = .int .i64 (j : Int) ∧ (∀ x ∈ ns.take j, x ≠ b + 1) ∧ Sep w wr [blkT w.heap.size 65 RP])
  case atStart => exact ⟨0, by omega, rfl, by simp, HS.out⟩
  case round =>
    clear HS
    obtain ⟨j, hgj, rfl, hno, hS⟩ := hrel
    have HNO := Lib.hid hno; clear hno
    have k6 := HK.out _ (hS.blk 0 rfl)
    have kl := (hS.blk 0 rfl).lt
    by_cases hj : j < ns.length
    · have hji : (j : Int) < (ns.length : Int) := by omega
      obtain ⟨x, rfl, hx, c0, c1⟩ := (HN.out.fr hS.fr).at hj
      have HT := Lib.hid (List.take_succ_eq_append_getElem hj)
      have HM := Lib.hid (List.getElem_mem hj)
      generalize ns[j] = z1 at *
      have d0 := c0 _ rfl
      rw [Nat.mul_one] at d0
      clear c0 c1
      have HS := Lib.hid hS; clear hS
      by_cases hz : z1 = b + 1
      · have d1 : (z1 == b + 1) = true := by simpa using hz
        obtain rfl : rr = true := by rw [← HRR.out, ← hz]; simpa using HM.out
        clear hz HT HM
        go_wp2_with fail
        go_ret
        exact ⟨rfl, HS.out.fr⟩
      · have d1 : (z1 == b + 1) = false := by simpa using hz
        have HZ := Lib.hid hz
        clear hz
        go_wp2_with fail
        go_roundg (ns.length - (j + 1))
        case measure => omega
        case rel => exact ⟨j + 1, by omega, by go_num, by
          rw [HT.out]; intro y hy
          rcases List.mem_append.1 hy with h1 | h1
          · exact HNO.out y h1
          · obtain rfl : y = z1 := by simpa using h1
            exact HZ.out, HS.out⟩
    · obtain rfl : j = ns.length := by omega
      obtain rfl : rr = false := by
        have := HNO.out
        rw [List.take_of_length_le (Nat.le_refl _)] at this
        rw [← HRR.out]
        simpa using fun h => this _ h rfl
      go_wp2_with fail
      go_ret
      exact ⟨rfl, hS.fr⟩
end Go.Proofs.Ytccioehckfdjdaa
end

/- The document's put of chapter 10. -/
section
set_option linter.unusedSimpArgs false
set_option linter.unusedVariables false
namespace Go.Proofs.Ytccioehckfdjdaa
open Go.RowKit Go.Tum Go.Tum.W
set_option maxRecDepth 100000 in
set_option maxHeartbeats 4000000 in
theorem rput10_any (R : Nat) (sv : Value) (p : List (Int × Int)) (a v : Int) (w : World) (h : Row w 0 sv p) (hp : p.length ≤ 1000000) (hR : R ≤ 65536) :
    Calls Try.prog 111 #[.agg #[.int .i64 R, sv], .int .i64 a, .int .u64 v] w fun e w' => ∃ sv', e = .returned (.agg [Value.int .i64 R, sv'].toArray) ∧ Fr [] w w' ∧ Row w' 0 sv' (rput R p a v).1 ∧ ∀ k, sv'.ownBlock = some k → sv.ownBlock = some k ∨ w.heap.size ≤ k := by
  have hS := ((Sep.nil (Fr.refl [] w)).new 95 [.int .i64 R, sv]).new 95 [.int .i64 0, .slice none 0 0]
  simp only [World.size_alloc] at hS
  have hrow := ownsRow_fr h hS.fr (by simp)
  have HP := Lib.hid (rput_any 0 R sv p a v _ hrow hp (Nat.zero_le _) hR)
  have HLT := Lib.hid (fun (k : Nat) (e : sv.ownBlock = some k) => (show k < w.heap.size from by
    rcases ownsRow_form h with ⟨e0, _⟩ | ⟨g, c', e0, hg, _⟩
    · rw [e0] at e; simp [Value.ownBlock] at e
    · rw [e0] at e; simp [Value.ownBlock] at e; omega))
  have HS := Lib.hid hS; clear hS hrow h
  unfold RPutPost at HP
  go_enter Try.func111, Try.ntmps111
  go_wp2_with fail
  refine HP.out.mono ?_
  rintro e w1 ⟨sv', rfl, hf, hrow, hown⟩
  have hone : ∀ u ∈ [Value.int .i64 R, sv'], u.oneCell' = true := by
    rcases ownsRow_form hrow with ⟨e0, _⟩ | ⟨g, c', e0, _⟩ <;> (rw [e0]; simp [Value.oneCell'])
  have HROW := Lib.hid hrow
  have HOWN : Hid (∀ k, sv'.ownBlock = some k → sv.ownBlock = some k ∨ w.heap.size + 2 ≤ k) := Lib.hid (fun k e => by
    have := hown k e
    simp only [World.size_alloc] at this
    exact this)
  have H1 := Lib.hid (HS.out.fr0 hf); clear hrow hown hf
  go_wp2_with (first | (refine wpList_store_sep H1.out 1 rfl [.int .i64 R, sv'] 95 _ _ rfl rfl rfl rfl rfl (by kernel_rfl) hone (fun wA hA fA => ?_); have HA := Lib.hid hA; have FA := Lib.hid fA; clear hA fA) | (refine wpList_load_any 95 _ rfl rfl _ 0 rfl [.int .i64 R, sv'] _ (HA.out.blk 1 rfl).range Try.underlying95 rfl (by kernel_rfl) ?_) | (refine wpList_store_sep HA.out 0 rfl [.int .i64 R, sv'] 95 _ _ rfl rfl rfl rfl rfl (by kernel_rfl) hone (fun wB hB fB => ?_); have HB := Lib.hid hB; have FB := Lib.hid fB; clear hB fB))
  have hfin : ∀ k, sv'.ownBlock = some k → ¬ k = w.heap.size ∧ ¬ k = w.heap.size + 1 := fun k e => by
    rcases HOWN.out k e with h1 | h1
    · have := HLT.out k h1; omega
    · omega
  have hr1 := ownsRow_fr HROW.out FA.out (fun k e => by have := hfin k e; simp; omega)
  have hr2 := ownsRow_fr hr1 FB.out (fun k e => by have := hfin k e; simp; omega)
  exact bodyPost_ret (v := .agg [Value.int .i64 R, sv'].toArray) (res_cell Try.results111 rfl (HB.out.blk 0 rfl).range Try.underlying95 rfl (by kernel_rfl)) rfl ⟨sv', rfl, HB.out.fr, hr2, fun k e => (HOWN.out k e).imp id (fun h => by omega)⟩
end Go.Proofs.Ytccioehckfdjdaa
end

/- The document's set of chapter 10 as a thing; put over it. -/
section
set_option linter.unusedSimpArgs false
set_option linter.unusedVariables false
namespace Go.Proofs.Ytccioehckfdjdaa
open Go.RowKit Go.Tum Go.Tum.W
/-- What the document's set holds: the row of its puts. -/
abbrev refT (sv : Value) (p : List (Int × Int)) : Thing := rowT 0 177 2 sv p.length (ents p)
theorem rput10_sep {w0 w : World} {Rs : List Thing} (R : Nat) (sv : Value) (p : List (Int × Int)) (a v : Int) (hp : p.length ≤ 1000000) (hR : R ≤ 65536) (h : Sep w0 w (refT sv p :: Rs)) :
    Calls Try.prog 111 #[.agg #[.int .i64 R, sv], .int .i64 a, .int .u64 v] w fun e w' => ∃ sv', e = .returned (.agg [Value.int .i64 R, sv'].toArray) ∧ Sep w0 w' (refT sv' (rput R p a v).1 :: Rs) := by
  obtain ⟨fp, hP, _, hk⟩ := h.get 0 rfl
  refine (rput10_any R sv p a v w hP.2 hp hR).mono ?_
  rintro e w' ⟨sv', rfl, hf, hrow, hown⟩
  refine ⟨sv', rfl, ?_⟩
  exact hk (refT sv' (rput R p a v).1) w' sv'.ownBlock.toList ⟨rfl, hrow⟩ (hf.mono (by simp)) (fun q hq => by
    rw [hP.1]
    rcases hown q (by simpa using hq) with h1 | h1
    · exact .inl (by simp [h1])
    · exact .inr h1)
end Go.Proofs.Ytccioehckfdjdaa
end
