/- The walk of pool's Settle. -/
import Derived.Test.YtccioehckfdjdaaMPac
set_option linter.unusedSimpArgs false
set_option linter.unusedVariables false
namespace Go.Proofs.Ytccioehckfdjdaa
open Go.RowKit Go.Tum Go.Tum.Y
theorem release_form (c : Cfg) (pn : Int) (pf : Int → Int) (pwt pwl x nl : Int) (lim : List Int) (ps : Int) (s : W.S) (y : Int) (hx : 0 ≤ x ∧ x ≤ c.b) :
    ∃ x' s', P.release c (⟨pn, pf, pwt, pwl, x, nl, lim, ps⟩, s) y = (⟨pn, pf, pwt, pwl, x', nl, lim, ps⟩, s') ∧ (0 ≤ x' ∧ x' ≤ c.b) ∧ s'.done.length ≤ s.done.length + 2 := by
  have h1 := putS_done s (at_ c 11 y 0) 0
  have h2 := putS_done (P.putS s (at_ c 11 y 0) 0) (at_ c 13 x 0) y
  unfold P.release
  dsimp only
  split
  · exact ⟨x + 1, _, rfl, by omega, by omega⟩
  · exact ⟨x, _, rfl, hx, by omega⟩
theorem settle_close {w0 w : World} {R : List Thing} {c : Cfg} {seq : Int} {b k mb : Nat} {p : P.St} {s : W.S} {z : P.St × W.S × Int} {T : Thing} (hz : P.settleG c p.lim 0 0 (p, s) = z) (hn : z.1.next = p.next)
    (hf : z.1.f = p.f) (hS : Sep w0 w (setT k z.2.1 :: blkT b 162 (P.poolL (mapCells c) seq (.map (some mb)) (.slice none 0 0) { z.1 with nl := z.2.2, lim := [] }) :: mapT Try.prog 22 3 .u64 .i64 mb p.next.toNat p.f :: T :: R)) :
    Sep w0 w (setT k (P.settle c p s).2 :: poolT c seq b (P.settle c p s).1 :: R) := by
  have h1 := ((hS.pull 3 rfl).tail).nilRow8 0 22 1
  have h2 := (h1.pull 3 rfl).pull 3 rfl
  unfold P.settle
  rw [hz]
  exact (poolT_to (c := c) (seq := seq) (b := b) (mb := mb) (n := p.next.toNat) (k := 0) (v := .slice none 0 0) (p := { z.1 with nl := z.2.2, lim := [] }) (by dsimp only; rw [hn]; exact Nat.le_refl _) rfl (by dsimp only; rw [hf]; exact h2)).pull 1 rfl
theorem zeroIntP3 (w : World) : (zeroValue 3).run Try.prog w = .ok (.int .i64 0) w := by kernel_rfl
set_option maxRecDepth 100000 in
set_option maxHeartbeats 8000000 in
theorem psettle_of {w0 w : World} {R : List Thing} (b k : Nat) (c : Cfg) (hok : Y.Ok c) (seq : Int) (p : P.St) (s : W.S) (hp : P.Ok c p) (hd : s.done.length ≤ 100000) (hS : Sep w0 w (setT k s :: poolT c seq b p :: R)) :
    Calls Try.prog 35 #[.pointer (some ⟨b, 0, none⟩), .pointer (some ⟨k, 0, none⟩)] w fun e w' => e = .returned (.tuple #[]) ∧ Sep w0 w' (setT k (P.settle c p s).2 :: poolT c seq b (P.settle c p s).1 :: R) := by
  obtain ⟨mb, la, lc, h2⟩ := poolT_of (hS.pull 1 rfl)
  have h3 := h2.pull 3 rfl
  clear h2 hS
  obtain ⟨FIN, hFIN⟩ : ∃ FIN, P.settleG c p.lim 0 0 (p, s) = FIN := ⟨_, rfl⟩
  have HTO := Lib.hid (fun (w' : World) (T : Thing) hn hf hS => settle_close (w0 := w0) (w := w') (R := R) (c := c) (seq := seq) (b := b) (k := k) (mb := mb) (p := p) (s := s) (z := FIN) (T := T) hFIN hn hf hS)
  generalize setT k (P.settle c p s).2 :: poolT c seq b (P.settle c p s).1 :: R = TL at *
  have hlm := limit_pos hok
  have hnt := hp.nt
  have hlb := hp.lim
  have hll := hp.len
  have hwl := hp.wl
  have hfb := hp.f
  have hnx := hp.next
  clear hp
  have hsz : (mapCells c).length = 24 := rfl
  have HA := Lib.hid (fun w kind i k => at_any w c hok kind i k)
  have HC := Lib.hid (fun w => pcfg_any w c)
  have HFD := Lib.hid (fun w => cfgV_field2 c w)
  have HP := Lib.hid (fun (w' : World) (s : W.S) (R : List Thing) (hd : s.done.length ≤ 1000000) (hS : Sep w0 w' (setT k s :: R)) a v => put_sep (w0 := w0) (w := w') (R := R) (b := k) (s := s) hS hd a v)
  have HR := Lib.hid (fun (w' : World) (R : List Thing) (mv v : Value) (p : P.St) (s : W.S) (bb : Int) (hbb : 0 ≤ bb ∧ bb ≤ 1000) (hnt : 0 ≤ p.nt ∧ p.nt ≤ c.b) (hd : s.done.length ≤ 900000) (hS : Sep w0 w' (setT k s :: blkT b 162 (P.poolL (mapCells c) seq mv v p) :: R)) => prelease_of b k c hok seq mv v p s bb hbb hnt hd hS)
  have ht8 := hok.t8
  have ht1 := hok.t1
  have hb1 := hok.b1
  have hb64 := hok.b64
  unfold sp mapV at *
  generalize hcf : cfgV c = cf at *
  clear hcf
  generalize mapCells c = cs at *
  obtain ⟨pn, pf, pwt, pwl, nt, nl, lim, ps⟩ := p
  dsimp only at *
  obtain ⟨ln, hln⟩ : ∃ ln : Nat, lim.length = ln := ⟨_, rfl⟩
  rw [hln] at h3 hll
  have HS := Lib.hid h3; clear h3
  have hlb2 : ln ≤ 520 := by omega
  have hrow := HS.out.row 3 rfl
  have HFORM : Hid (0 < ln → ∃ g, la = some ⟨g, 0, none⟩) := Lib.hid (by
    intro h0
    rcases ownsRow_form hrow with ⟨e0, e1⟩ | ⟨g, c', e0, _⟩
    · omega
    · simp only [Value.slice.injEq] at e0; exact ⟨g, e0.1⟩)
  clear hrow
  have hfb1 := fun w => (HFD.out w).2
  have hwb : IntKind.u64.wrap c.b = c.b := by rw [IntKind.wrap_u64]; omega
  have hB1 := HS.out.blk 1 rfl
  have kf := P.pf hsz seq (.map (some mb)) (.slice la ln lc) ⟨pn, pf, pwt, pwl, nt, nl, lim, ps⟩
  have k26 := (hB1.cell 26).trans kf.mp
  have k30 := (hB1.cell 30).trans kf.nl
  have k31 := (hB1.cell 31).trans kf.lim
  have f30 := hB1.froz 30
  have f31 := hB1.froz 31
  have kl := hB1.lt
  unfold P.poolL at hB1
  clear kf
  go_enter Try.func35, Try.ntmps35
  go_wp2_with fail
  go_loopg [4, 12] ln (fun g vk vi wr => ∃ (j kept : Nat) (x : Int) (sj : W.S), g + j = ln ∧ vi = .int .i64 (j : Int) ∧ vk = .int .i64 (kept : Int) ∧ (kept ≤ j ∧ (0 ≤ x ∧ x ≤ c.b) ∧ sj.done.length ≤ s.done.length + 2 * j) ∧ P.settleG c (lim.drop j) j kept (⟨pn, pf, pwt, pwl, x, nl, lim, ps⟩, sj) = FIN ∧ Sep w0 wr (setT k sj :: blkT b 162 (P.poolL cs seq (.map (some mb)) (.slice la ln lc) ⟨pn, pf, pwt, pwl, x, nl, lim, ps⟩) :: mapT Try.prog 22 3 .u64 .i64 mb pn.toNat pf :: rowT 0 22 1 (.slice la ln lc) ln (lim.map (Value.int .u64)) :: R))
  case atStart => exact ⟨0, 0, nt, s, by omega, rfl, rfl, ⟨Nat.le_refl _, hnt, by omega⟩, hFIN, HS.out⟩
  case round =>
    clear hB1 k26 k30 k31 f30 f31 kl
    clear HS hnt
    obtain ⟨j, kept, x, sj, hgj, rfl, rfl, ⟨hkj, hx, hdj⟩, hG, hS⟩ := hrel
    have HS := Lib.hid hS; clear hS
    have hB1 := HS.out.blk 1 rfl
    have kf := P.pf hsz seq (.map (some mb)) (.slice la ln lc) ⟨pn, pf, pwt, pwl, x, nl, lim, ps⟩
    have k26 := (hB1.cell 26).trans kf.mp
    have k30 := (hB1.cell 30).trans kf.nl
    have k31 := (hB1.cell 31).trans kf.lim
    have f30 := hB1.froz 30
    have f31 := hB1.froz 31
    have kl := hB1.lt
    unfold P.poolL at hB1
    clear kf
    by_cases hj : j < ln
    · have hji : (j : Int) < (ln : Int) := by omega
      obtain ⟨g, rfl⟩ := HFORM.out (by omega)
      have hjl : j < lim.length := by omega
      have hy := hlb lim[j] (List.getElem_mem hjl)
      have hcy := ownsRow_cell (HS.out.row 3 rfl) j _ (by rw [List.getElem?_map, List.getElem?_eq_getElem hjl]; rfl)
      rw [List.drop_eq_getElem_cons hjl] at hG
      generalize lim[j] = y at *
      unfold P.settleG at hG
      dsimp only at hG
      go_wp2_with (refine wpList_load_any 31 _ rfl rfl _ 0 rfl cs _ (Blk.pre hB1) Try.underlying31 rfl (by rw [hsz]; kernel_rfl) ?_)
      refine (HC.out _).mono ?_
      rintro e w2 ⟨rfl, hf⟩
      clear hB1 k26 k30 k31 f30 f31 kl
      clear hcy
      have HS := Lib.hid (HS.out.fr0 hf); clear hf
      have hB1 := HS.out.blk 1 rfl
      have kf := P.pf hsz seq (.map (some mb)) (.slice (some ⟨g, 0, none⟩) ln lc) ⟨pn, pf, pwt, pwl, x, nl, lim, ps⟩
      have k26 := (hB1.cell 26).trans kf.mp
      have k30 := (hB1.cell 30).trans kf.nl
      have k31 := (hB1.cell 31).trans kf.lim
      have f30 := hB1.froz 30
      have f31 := hB1.froz 31
      have kl := hB1.lt
      unfold P.poolL at hB1
      clear kf
      by_cases h1 : c.b ≤ y
      · rw [if_pos h1] at hG
        have d1 : decide (y ≥ c.b) = true := by simpa using h1
        clear h1
        go_wp2_with fail
        go_roundg (ln - (j + 1))
        case measure => omega
        case rel => exact ⟨j + 1, kept, x, sj, by omega, by go_num, by go_num, ⟨by omega, hx, by omega⟩, hG, HS.out⟩
      rw [if_neg h1] at hG
      have d1 : decide (y ≥ c.b) = false := by simpa using h1
      have hyb : y < c.b := by omega
      clear h1
      have hwy : IntKind.u64.wrap (y + 1) = y + 1 := by rw [IntKind.wrap_u64]; omega
      have hwi : IntKind.i64.wrap y = y := wrap_i64_id _ (by omega) (by omega)
      have hwf : (Lit.int .u64 (y + 1)).wf = true := by
        have e0 : IntKind.u64.min = 0 := by decide
        have e1 : IntKind.u64.max = 18446744073709551615 := by decide
        simp only [Lit.wf, Bool.and_eq_true, decide_eq_true_eq]; omega
      by_cases h2 : pf (y + 1) = 0
      · rw [if_pos h2] at hG
        have d2 : (pf (y + 1) == 0) = true := by simpa using h2
        clear h2
        obtain ⟨x', s', e1, hx', hd'⟩ := release_form c pn pf pwt pwl x nl lim ps sj y hx
        rw [e1] at hG
        have HE1 := Lib.hid e1; clear e1
        have hdj2 : sj.done.length ≤ 900000 := by omega
        have hy2 : 0 ≤ y ∧ y ≤ 1000 := by omega
        go_wp2_with (at_lookup; go_must (refine wpList_lookup_sep HS.out 2 rfl (by rfl) _ _ 160 rfl Try.underlying22 Try.underlying160 Try.underlying3 zeroIntP3 rfl (y + 1) rfl hwf ?_))
        refine (HR.out _ _ _ _ _ _ _ hy2 hx hdj2 HS.out).mono ?_
        rintro e w3 ⟨rfl, h3⟩
        rw [HE1.out] at h3
        clear hB1 k26 k30 k31 f30 f31 kl
        have HS := Lib.hid h3; clear h3 HE1
        go_wp2_with fail
        go_roundg (ln - (j + 1))
        case measure => omega
        case rel => exact ⟨j + 1, kept, x', s', by omega, by go_num, by go_num, ⟨by omega, hx', by omega⟩, hG, HS.out⟩
      rw [if_neg h2] at hG
      have d2 : (pf (y + 1) == 0) = false := by simpa using h2
      clear h2
      by_cases h3 : (kept : Int) ≠ (j : Int)
      · rw [if_pos h3] at hG
        have d3 : ((kept : Int) != (j : Int)) = true := by simpa using h3
        clear h3
        have hdj2 : sj.done.length ≤ 1000000 := by omega
        have hdj3 := putS_done sj (at_ c 15 (kept : Int) 0) y
        unfold P.putS at hdj3 hG
        have hwk : IntKind.i64.wrap ((kept : Int) + 1) = (kept : Int) + 1 := wrap_i64_id _ (by omega) (by omega)
        go_wp2_with (first | (at_lookup; go_must (refine wpList_lookup_sep HS.out 2 rfl (by rfl) _ _ 160 rfl Try.underlying22 Try.underlying160 Try.underlying3 zeroIntP3 rfl (y + 1) rfl hwf ?_)) | (refine wpList_load_any 31 _ rfl rfl _ 0 rfl cs _ (Blk.pre hB1) Try.underlying31 rfl (by rw [hsz]; kernel_rfl) ?_))
        refine (HA.out _ _ _ _).mono ?_
        rintro e w3 ⟨rfl, hf⟩
        clear hB1 k26 k30 k31 f30 f31 kl
        have HS := Lib.hid (HS.out.fr0 hf); clear hf
        go_wp2_with fail
        refine (HP.out _ _ _ hdj2 HS.out _ _).mono ?_
        rintro e w4 ⟨rfl, h4⟩
        have HS := Lib.hid h4; clear h4
        go_wp2_with fail
        go_roundg (ln - (j + 1))
        case measure => omega
        case rel => exact ⟨j + 1, kept + 1, x, _, by omega, by go_num, by go_num, ⟨by omega, hx, by omega⟩, hG, HS.out⟩
      · rw [if_neg h3] at hG
        have d3 : ((kept : Int) != (j : Int)) = false := by simpa using h3
        have hwk : IntKind.i64.wrap ((kept : Int) + 1) = (kept : Int) + 1 := wrap_i64_id _ (by omega) (by omega)
        clear h3
        go_wp2_with (at_lookup; go_must (refine wpList_lookup_sep HS.out 2 rfl (by rfl) _ _ 160 rfl Try.underlying22 Try.underlying160 Try.underlying3 zeroIntP3 rfl (y + 1) rfl hwf ?_))
        go_roundg (ln - (j + 1))
        case measure => omega
        case rel => exact ⟨j + 1, kept + 1, x, sj, by omega, by go_num, by go_num, ⟨by omega, hx, by omega⟩, hG, HS.out⟩
    · obtain rfl : j = ln := by omega
      go_wp2_with fail
      go_end0
      have hS2 := (HS.out.set 1 rfl 30 (.int .i64 kept)).set 1 rfl 31 (.slice none 0 0)
      simp only [List.set_cons_zero, List.set_cons_succ, P.poolL_nl hsz, P.poolL_lim hsz] at hS2
      rw [List.drop_of_length_le (by omega)] at hG
      unfold P.settleG at hG
      subst hG
      exact ⟨rfl, HTO.out _ _ rfl rfl hS2⟩
end Go.Proofs.Ytccioehckfdjdaa
