/- The law HelpPlays, walked. -/
import Derived.Test.YtccioehckfdjdaaHhelp
import Derived.Test.YtccioehckfdjdaaHthing
import Derived.Test.YtccioehckfdjdaaHalive
import Derived.Test.YtccioehckfdjdaaArgH
set_option linter.unusedSimpArgs false
set_option linter.unusedVariables false
namespace Go.Tum
theorem tape_ask8 {w : World} {b : Nat} {T : TypeId} {v : Value} {t : Tp} (h : Blk w b T (tapeL v t)) : w.rangeAt b 2 (enP t.ask) := by
  intro j u hj
  rw [h.cell]
  have hl : j < 6 := (List.getElem?_eq_some_iff.1 hj).1
  rcases (show j = 0 ∨ j = 1 ∨ j = 2 ∨ j = 3 ∨ j = 4 ∨ j = 5 by omega) with rfl | rfl | rfl | rfl | rfl | rfl <;> exact hj
end Go.Tum
namespace Go.Proofs.Ytccioehckfdjdaa
open Go.RowKit Go.Tum Go.Tum.Y Go.Tum.Sc
set_option maxRecDepth 100000 in
set_option maxHeartbeats 4000000 in
theorem hplays_s0 (w : World) (c : Cfg) (who owner seq : Int) (a oa : Option Addr) (m lc n oc : Nat) (own : Bool) (hrc : right c = false) : Calls Try.prog 9 #[cfgV c, .int .i64 who, .int .i64 owner, .int .u64 seq, .slice a m lc, .slice oa n oc, .bool own] w fun e w' => e = .returned (.bool true) ∧ Fr [] w w' := by
  have HS := Lib.hid ((Sep.nil (Fr.refl [] w)).new 24 (cfgL c))
  have HR := Lib.hid (fun w => rright12_any w c)
  have hsz6 : (cfgL c).length = 6 := rfl
  have g0 : (cfgL c)[0]? = some (.int .i64 c.t) := rfl
  rw [show cfgV c = .agg (cfgL c).toArray from rfl]
  generalize cfgL c = cl at *
  go_enter Try.func9, Try.ntmps9
  go_wp2_with fail
  refine (alive12_any _).mono ?_
  rintro e w1 ⟨rfl, hf⟩
  have HS := Lib.hid (HS.out.fr0 hf)
  clear hf
  go_wp2_with (first | (refine wpList_load_any 24 _ rfl rfl _ 0 rfl cl _ (HS.out.blk 0 rfl).range Try.underlying24 rfl (by rw [hsz6]; kernel_rfl) ?_))
  refine (HR.out _).mono ?_
  rintro e w1 ⟨rfl, hf⟩
  have HS := Lib.hid (HS.out.fr0 hf)
  clear hf
  rw [hrc]
  go_wp2_with fail
  go_ret
  exact ⟨rfl, HS.out.fr⟩
set_option maxRecDepth 100000 in
set_option maxHeartbeats 4000000 in
theorem hplays_s1 (w : World) (c : Cfg) (who owner seq : Int) (a oa : Option Addr) (m lc n oc : Nat) (own : Bool) (hrc : right c = true) (d1 : decide ((n : Int) > 60) = true) : Calls Try.prog 9 #[cfgV c, .int .i64 who, .int .i64 owner, .int .u64 seq, .slice a m lc, .slice oa n oc, .bool own] w fun e w' => e = .returned (.bool true) ∧ Fr [] w w' := by
  have HS := Lib.hid ((Sep.nil (Fr.refl [] w)).new 24 (cfgL c))
  have HR := Lib.hid (fun w => rright12_any w c)
  have hsz6 : (cfgL c).length = 6 := rfl
  have g0 : (cfgL c)[0]? = some (.int .i64 c.t) := rfl
  rw [show cfgV c = .agg (cfgL c).toArray from rfl]
  generalize cfgL c = cl at *
  go_enter Try.func9, Try.ntmps9
  go_wp2_with fail
  refine (alive12_any _).mono ?_
  rintro e w1 ⟨rfl, hf⟩
  have HS := Lib.hid (HS.out.fr0 hf)
  clear hf
  go_wp2_with (first | (refine wpList_load_any 24 _ rfl rfl _ 0 rfl cl _ (HS.out.blk 0 rfl).range Try.underlying24 rfl (by rw [hsz6]; kernel_rfl) ?_))
  refine (HR.out _).mono ?_
  rintro e w1 ⟨rfl, hf⟩
  have HS := Lib.hid (HS.out.fr0 hf)
  clear hf
  rw [hrc]
  go_wp2_with fail
  go_ret
  exact ⟨rfl, HS.out.fr⟩
set_option maxRecDepth 100000 in
set_option maxHeartbeats 4000000 in
theorem hplays_s2 (w : World) (c : Cfg) (who owner seq : Int) (a oa : Option Addr) (m lc n oc : Nat) (own : Bool) (hrc : right c = true) (d1 : decide ((n : Int) > 60) = false) (d2 : decide ((m : Int) > 30) = true) : Calls Try.prog 9 #[cfgV c, .int .i64 who, .int .i64 owner, .int .u64 seq, .slice a m lc, .slice oa n oc, .bool own] w fun e w' => e = .returned (.bool true) ∧ Fr [] w w' := by
  have HS := Lib.hid ((Sep.nil (Fr.refl [] w)).new 24 (cfgL c))
  have HR := Lib.hid (fun w => rright12_any w c)
  have hsz6 : (cfgL c).length = 6 := rfl
  have g0 : (cfgL c)[0]? = some (.int .i64 c.t) := rfl
  rw [show cfgV c = .agg (cfgL c).toArray from rfl]
  generalize cfgL c = cl at *
  go_enter Try.func9, Try.ntmps9
  go_wp2_with fail
  refine (alive12_any _).mono ?_
  rintro e w1 ⟨rfl, hf⟩
  have HS := Lib.hid (HS.out.fr0 hf)
  clear hf
  go_wp2_with (first | (refine wpList_load_any 24 _ rfl rfl _ 0 rfl cl _ (HS.out.blk 0 rfl).range Try.underlying24 rfl (by rw [hsz6]; kernel_rfl) ?_))
  refine (HR.out _).mono ?_
  rintro e w1 ⟨rfl, hf⟩
  have HS := Lib.hid (HS.out.fr0 hf)
  clear hf
  rw [hrc]
  go_wp2_with fail
  go_ret
  exact ⟨rfl, HS.out.fr⟩
set_option maxRecDepth 100000 in
set_option maxHeartbeats 40000000 in
theorem hplays_f (w : World) (c : Cfg) (h : Ok c) (who owner seq : Int) (a oa : Option Addr) (m lc n oc : Nat) (L : List (Int × Int)) (O : List O3) (hLm : m = L.length) (hL : ArgE enE 2 w (.slice a m lc) L) (hnil : NilA a m lc) (hm : m ≤ 30) (hO : ArgE enO 3 w (.slice oa n oc) O) (hG : ∀ x ∈ O, goodO x) (hOn : O.length = n) (hn : n ≤ 60) (hrc : right c = true) :
    Calls Try.prog 9 #[cfgV c, .int .i64 who, .int .i64 owner, .int .u64 seq, .slice a m lc, .slice oa n oc, .bool false] w fun e w' => e = .returned (.bool true) ∧ Fr [] w w' := by
  have HIN := Lib.hid (H.inv_new c)
  have HANS0 : Hid (∀ r1 r2, ∀ Lk, H.OnH c seq H.hNew Lk → (∀ o ∈ Lk, 0 ≤ o.v) → H.AnsT c r1 r2 seq (H.runH c seq H.hNew Lk) (H.helpG c r1 r2 seq Lk (H.tj 0))) := fun r1 r2 Lk h1 h2 => H.ans_help h Lk h2 h1
  have HREF0 : Hid (∀ r1 r2 w' (k : Nat), k ≤ n → Fr [] w w' → Calls Try.prog 64 #[.agg (cfgL c).toArray, .int .i64 r1, .int .i64 r2, .int .u64 seq, .agg (tapeL (.slice oa k oc) (H.tj 0)).toArray] w' fun e w'' => e = .returned (.agg (tapeL (.slice oa k oc) (H.helpG c r1 r2 seq (O.take k) (H.tj 0))).toArray) ∧ Fr [] w' w'') := fun r1 r2 w' k hk f => rhelp_any w' c h r1 r2 seq oa k oc (H.tj 0) (by omega) (by simp [H.tj]) (O.take k) (by rw [List.length_take]; omega) ((hO.take k (by omega)).fr f) (fun x hx => hG x (List.mem_of_mem_take hx)) _ rfl
  have d1 : decide ((n : Int) > 60) = false := by simp; omega
  have d2 : decide ((m : Int) > 30) = false := by simp; omega
  have ht1 := h.t1
  have ht8 := h.t8
  obtain ⟨b1, hb1, hbe1⟩ := and_i64_low who 8 (by decide)
  obtain ⟨q1, hq1⟩ : ∃ q : Int, q = (b1 : Int) := ⟨_, rfl⟩
  have hbe1' : bits .and .i64 who 255 = q1 := by rw [hq1]; exact hbe1
  have hq10 : 0 ≤ q1 ∧ q1 ≤ 255 := by rw [hq1]; omega
  obtain ⟨r1, hr1⟩ : ∃ r, Int.tmod q1 c.t = r := ⟨_, rfl⟩
  have hr10 := tmod_in hr1 hq10.1 ht1
  obtain ⟨b2, hb2, hbe2⟩ := and_i64_low owner 8 (by decide)
  obtain ⟨q2, hq2⟩ : ∃ q : Int, q = (b2 : Int) := ⟨_, rfl⟩
  have hbe2' : bits .and .i64 owner 255 = q2 := by rw [hq2]; exact hbe2
  have hq20 : 0 ≤ q2 ∧ q2 ≤ 255 := by rw [hq2]; omega
  obtain ⟨r2, hr2⟩ : ∃ r, Int.tmod q2 c.t = r := ⟨_, rfl⟩
  have hr20 := tmod_in hr2 hq20.1 ht1
  clear hbe1 hbe2 hb1 hb2 hq1 hq2
  have HOF : Hid (∀ w, Calls Try.prog 25 #[.agg (cfgL c).toArray] w fun e w' => e = .returned (.tuple #[mapV c, .int .i64 0]) ∧ Fr [] w w') := fun w => of_good w c h
  have HNW := Lib.hid (fun w => hnew_of w c r1 r2 seq)
  have HAK := Lib.hid (fun (w0 w : World) (R : List Thing) (b : Nat) (hh : H.H) (hg : H.Good c hh) (hS : Sep w0 w (helpT c r1 r2 seq b hh :: R)) => hask_of b c h r1 r2 seq hh hg hS)
  have HTL := Lib.hid (fun (w0 w : World) (R : List Thing) (b : Nat) (hh : H.H) (x s : Int) (ok : Bool) hx hs hg hr (hS : Sep w0 w (helpT c r1 r2 seq b hh :: R)) => htell_any b c h r1 r2 seq hh x s ok hx hs hg hr hS)
  have HDN := Lib.hid (fun (w0 w : World) (R : List Thing) (b : Nat) (hh : H.H) (hS : Sep w0 w (helpT c r1 r2 seq b hh :: R)) => hdone_of b c r1 r2 seq hh hS)
  have HAD := Lib.hid (fun (hh : H.H) (hi : H.Inv c hh) => H.ask_done (c := c) (who := r1) (owner := r2) (seq := seq) hi.rng)
  have hsz : (mapCells c).length = 24 := rfl
  have hone : ∀ v ∈ mapCells c, v.oneCell' = true := by simp [mapCells, Value.oneCell']
  unfold mapV at *
  generalize mapCells c = cs at *
  have HS := Lib.hid ((Sep.nil (Fr.refl [] w)).new 24 (cfgL c))
  have HR := Lib.hid (fun w => rright12_any w c)
  have hsz6 : (cfgL c).length = 6 := rfl
  have g0 : (cfgL c)[0]? = some (.int .i64 c.t) := rfl
  rw [show cfgV c = .agg (cfgL c).toArray from rfl]
  generalize cfgL c = cl at *
  go_enter Try.func9, Try.ntmps9
  go_wp2_with fail
  refine (alive12_any _).mono ?_
  rintro e w1 ⟨rfl, hf⟩
  have HS := Lib.hid (HS.out.fr0 hf)
  clear hf
  go_wp2_with (first | (refine wpList_load_any 24 _ rfl rfl _ 0 rfl cl _ (HS.out.blk 0 rfl).range Try.underlying24 rfl (by rw [hsz6]; kernel_rfl) ?_))
  refine (HR.out _).mono ?_
  rintro e w1 ⟨rfl, hf⟩
  have HS := Lib.hid (HS.out.fr0 hf)
  clear hf
  rw [hrc]
  go_wp2_with (first | (refine wpList_load_any 24 _ rfl rfl _ 0 rfl cl _ (HS.out.blk 0 rfl).range Try.underlying24 rfl (by rw [hsz6]; kernel_rfl) ?_))
  refine (HOF.out _).mono ?_
  rintro e w2 ⟨rfl, hf⟩
  have HS := Lib.hid ((HS.out.fr0 hf).new 31 cs); clear hf
  have c0 := ((HS.out.blk 1 rfl).cell 0).trans g0
  have cl0 := (HS.out.blk 1 rfl).lt
  go_wp2_with (first | (refine wpList_store_new 31 _ (cs).toArray rfl _ _ rfl rfl rfl (by rw [List.size_toArray, hsz]; kernel_rfl) (by simp [hsz]) (all_oneCell_toArray hone) ?_))
  refine wp_region_fr [(1, [0, 1, 2, 3, 4, 5, 6, 7, 8, 9, 10, 11])] [] (by kernel_rfl) (by kernel_rfl) ?_
  simp only [theOps, nthOp, List.map_cons, List.map_nil, Array.getD_eq_getD_getElem?, List.getElem?_toArray, List.getElem?_cons_succ, List.getElem?_cons_zero, Option.getD_some]
  repeat ((first | refine wpSegs_soft ?_ | refine wpSegs_pure ?_ | refine wpSegs_here ?_); (repeat (first | go_big_quiet_step (fail) | quiet_step (fail))); refine wpQuiet_nil ?_)
  refine wpSegs_done ?_
  have HS := Lib.hid HS.out.drew
  go_wp2_with (refine wpList_load_any 31 _ rfl rfl _ 0 rfl cs _ (HS.out.blk 0 rfl).range Try.underlying31 rfl (by rw [hsz]; kernel_rfl) ?_)
  refine (HNW.out _).mono ?_
  rintro e w3 ⟨b, rfl, hN⟩
  have hS := HS.out.append hN
  simp only [List.cons_append, List.nil_append] at hS
  have HS := Lib.hid hS; clear hS hN
  clear c0 cl0 hr1 hr2 hbe1' hbe2' hq10 hq20 g0
  obtain ⟨TKf, hTKf⟩ : ∃ TKf : List O3 → Tp, TKf = fun Lk => H.helpG c r1 r2 seq Lk (H.tj 0) := ⟨_, rfl⟩
  have HANS : Hid (∀ Lk, H.OnH c seq H.hNew Lk → (∀ o ∈ Lk, 0 ≤ o.v) → H.AnsT c r1 r2 seq (H.runH c seq H.hNew Lk) (TKf Lk)) := by rw [hTKf]; exact HANS0.out r1 r2
  have HREF : Hid (∀ w' (k : Nat), k ≤ n → Fr [] w w' → Calls Try.prog 64 #[.agg cl.toArray, .int .i64 r1, .int .i64 r2, .int .u64 seq, .agg (tapeL (.slice oa k oc) (H.tj 0)).toArray] w' fun e w'' => e = .returned (.agg (tapeL (.slice oa k oc) (TKf (O.take k))).toArray) ∧ Fr [] w' w'') := by rw [hTKf]; exact HREF0.out r1 r2
  clear hTKf HANS0 HREF0
  generalize H.hNew = h0 at *
  have hnn : (n : Int) ≤ 60 := by omega
  go_wp2_with fail
  go_loopg [67] (n + 1) (fun gg vi wr => ∃ (k : Nat) (hh : H.H), gg + k = n + 1 ∧ vi = .int .i64 (k : Int) ∧ (hh = H.runH c seq h0 (O.take k) ∧ H.OnH c seq h0 (O.take k) ∧ H.Inv c hh) ∧ Sep w wr [helpT c r1 r2 seq b hh, blkT w2.heap.size 31 cs, blkT w.heap.size 24 cl])
  case atStart => exact ⟨0, h0, by omega, rfl, ⟨rfl, trivial, HIN.out⟩, HS.out⟩
  case round =>
    clear HS
    obtain ⟨k, hh, hgk, rfl, hk0, hS⟩ := hrel
    have HK := Lib.hid hk0; clear hk0
    by_cases hk : k < n + 1
    · have hki : (k : Int) < (n : Int) + 1 := by omega
      have hkn : (k : Int) ≤ (oc : Int) := by
        obtain ⟨_, cap', e, hh, _⟩ := hO
        simp only [Value.slice.injEq] at e
        omega
      have hk0 : (0 : Int) ≤ (k : Int) := by omega
      have hans := HANS.out (O.take k) HK.out.2.1 (fun o ho => (hG o (List.mem_of_mem_take ho)).1)
      rw [← HK.out.1] at hans
      have HRF := Lib.hid (fun w' f => HREF.out w' k (by omega) f)
      obtain ⟨TK, hTK⟩ : ∃ TK, TK = TKf (O.take k) := ⟨_, rfl⟩
      rw [← hTK] at hans HRF
      clear hTK
      obtain ⟨ha1, ha2⟩ := hans
      rw [HAD.out hh HK.out.2.2] at ha1
      obtain ⟨tat, op, nd⟩ := TK
      dsimp only at ha1 ha2
      have HA2 := Lib.hid ha2.symm
      have HA1 := Lib.hid ha1
      clear ha1 ha2
      have HS := Lib.hid (hS.new 47 (tapeL (.slice oa k oc) (H.tj 0))); clear hS
      have hone0 := tapeL_one oa k oc (H.tj 0)
      have hone1 := tapeL_one oa k oc ⟨tat, op, nd⟩
      go_wp2_with (first
        | (refine wpList_store_new 47 _ (tapeL (.slice oa k oc) (H.tj 0)).toArray rfl _ _ rfl rfl rfl (by kernel_rfl) (by simp [tapeL]) (all_oneCell_toArray hone0) ?_)
        | (refine wpList_load_any 24 _ rfl rfl _ 0 rfl cl _ (HS.out.blk 3 rfl).range Try.underlying24 rfl (by rw [hsz6]; kernel_rfl) ?_)
        | (refine wpList_load_any 47 _ rfl rfl _ 0 rfl (tapeL (.slice oa k oc) (H.tj 0)) _ (HS.out.blk 0 rfl).range Try.underlying47 rfl (by kernel_rfl) ?_))
      refine (HRF.out _ HS.out.fr).mono ?_
      rintro e w5 ⟨rfl, hf⟩
      have HS := Lib.hid (HS.out.fr0 hf); clear hf HRF
      go_wp2_with (refine wpList_store_sep HS.out 0 rfl (tapeL (.slice oa k oc) ⟨tat, op, nd⟩) 47 _ _ rfl rfl rfl rfl rfl (by kernel_rfl) hone1 (fun wA hA _ => ?_); have HA := Lib.hid hA; clear hA)
      have HS : Hid (Sep w wA [blkT _ 47 (tapeL (.slice oa k oc) ⟨tat, op, nd⟩), helpT c r1 r2 seq b hh, blkT w2.heap.size 31 cs, blkT w.heap.size 24 cl]) := HA
      clear HA
      refine (HAK.out _ _ _ b hh HK.out.2.2.good (HS.out.pull 1 rfl)).mono ?_
      rintro e w6 ⟨rfl, hf⟩
      rw [HAD.out hh HK.out.2.2, HA2.out]
      have HS := Lib.hid ((HS.out.fr0 hf).new 43 (enP op)); clear hf
      have HNE := fun w => neq_op_self w op
      have b8 := (HS.out.blk 1 rfl).cell 8
      have b8l := (HS.out.blk 1 rfl).lt
      have b8m := (HS.out.blk 0 rfl).lt
      simp only [tapeL, List.getElem?_cons_zero, List.getElem?_cons_succ] at b8
      have honeP := enP_one op
      by_cases h8 : hh.next = 8
      · have ha1 : nd = false := by have := HA1.out; rw [decide_eq_true h8] at this; exact this
        rw [decide_eq_true h8]
        have HH8 := Lib.hid h8; clear h8
        subst ha1
        go_wp2_with (first | (refine wpList_store_new 43 _ (enP op).toArray rfl _ _ rfl rfl rfl (by kernel_rfl) (by simp [enP]) (all_oneCell_toArray honeP) ?_) | (refine wpList_load_any 43 _ rfl rfl _ 0 rfl (enP op) _ (HS.out.blk 0 rfl).range Try.underlying43 rfl (by kernel_rfl) ?_) | (refine wpList_load_any 43 _ rfl rfl _ 2 rfl (enP op) _ (tape_ask8 (HS.out.blk 1 rfl)) Try.underlying43 rfl (by kernel_rfl) ?_))
        refine (HDN.out _ _ _ b hh (HS.out.pull 2 rfl)).mono ?_
        rintro e w7 ⟨rfl, hf⟩
        rw [decide_eq_true HH8.out]
        have HS := Lib.hid (HS.out.fr0 hf); clear hf b8 b8l b8m
        go_wp2_with fail
        go_ret
        exact ⟨rfl, HS.out.fr⟩
      · have ha1 : nd = true := by have := HA1.out; rw [decide_eq_false h8] at this; exact this
        rw [decide_eq_false h8]
        have HH8 := Lib.hid h8; clear h8
        subst ha1
        go_wp2_with (first | (refine wpList_store_new 43 _ (enP op).toArray rfl _ _ rfl rfl rfl (by kernel_rfl) (by simp [enP]) (all_oneCell_toArray honeP) ?_) | (refine wpList_load_any 43 _ rfl rfl _ 0 rfl (enP op) _ (HS.out.blk 0 rfl).range Try.underlying43 rfl (by kernel_rfl) ?_) | (refine wpList_load_any 43 _ rfl rfl _ 2 rfl (enP op) _ (tape_ask8 (HS.out.blk 1 rfl)) Try.underlying43 rfl (by kernel_rfl) ?_))
        refine (HDN.out _ _ _ b hh (HS.out.pull 2 rfl)).mono ?_
        rintro e w7 ⟨rfl, hf⟩
        rw [decide_eq_false HH8.out]
        have HS := Lib.hid (HS.out.fr0 hf); clear hf b8 b8l b8m
        by_cases hkn2 : k = n
        · have hkq : ((k : Int) == (n : Int)) = true := by simp [hkn2]
          go_wp2_with fail
          go_ret
          exact ⟨rfl, HS.out.fr⟩
        · have hkq : ((k : Int) == (n : Int)) = false := by simp; omega
          have hkl : (k : Int) < (n : Int) := by omega
          obtain ⟨x, rfl, hxw, hc0, hc1⟩ := hO.at (i := k) (by omega)
          have hgo := hG _ (List.getElem_mem (show k < O.length by omega))
          have HNX : Hid (∀ o, O[k]'(by omega) = o → H.tell c seq o.v o.s hh = H.runH c seq h0 (O.take (k + 1)) ∧ H.OnH c seq h0 (O.take (k + 1)) ∧ H.Inv c (H.tell c seq o.v o.s hh)) := fun o ho => by
            have hon := H.OnH.snoc (o := o) HK.out.2.1 (by rw [← HK.out.1]; exact HH8.out)
            rw [List.take_succ_eq_append_getElem (show k < O.length by omega), ho]
            refine ⟨?_, hon, H.tell_inv h HK.out.2.2 _ _ (by rw [← ho]; exact hgo.1)⟩
            rw [H.runH_snoc, ← HK.out.1]
          obtain ⟨o, ho⟩ : ∃ o, O[k]'(by omega) = o := ⟨_, rfl⟩
          have HNX2 := Lib.hid (HNX.out o ho)
          rw [ho] at hc0 hc1 hgo
          clear ho HNX
          obtain ⟨ov, os, ook⟩ := o
          obtain ⟨g1, g2, g3, g4⟩ := hgo
          dsimp only at g1 g2 g3 g4 HNX2
          have y0 := HS.out.fr.cell (hc0 _ rfl) (by simp)
          have y1 := HS.out.fr.cell (hc1 0 _ rfl) (by simp)
          have y2 := HS.out.fr.cell (hc1 1 _ rfl) (by simp)
          simp only [Nat.zero_add, Nat.reduceAdd] at y1 y2
          clear hc0 hc1
          go_wp2_with fail
          refine (HTL.out _ _ _ b hh ov os ook ⟨g1, g2⟩ g3 HK.out.2.2.good HK.out.2.2.rng (HS.out.pull 2 rfl)).mono ?_
          rintro e w10 ⟨rfl, hS⟩
          have HS := Lib.hid hS; clear hS y0 y1 y2
          go_wp2_with fail
          go_roundg (n + 1 - (k + 1))
          case measure => omega
          case rel => exact ⟨k + 1, _, by omega, by go_num, HNX2.out, HS.out.sub [0, 3, 4] rfl (by decide)⟩
    · obtain rfl : k = n + 1 := by omega
      have HS := Lib.hid hS; clear hS
      go_wp2_with fail
      go_ret
      exact ⟨rfl, HS.out.fr⟩
set_option maxRecDepth 100000 in
set_option maxHeartbeats 40000000 in
theorem hplays_t (w : World) (c : Cfg) (h : Ok c) (who owner seq : Int) (a oa : Option Addr) (m lc n oc : Nat) (L : List (Int × Int)) (O : List O3) (hLm : m = L.length) (hL : ArgE enE 2 w (.slice a m lc) L) (hnil : NilA a m lc) (hm : m ≤ 30) (hO : ArgE enO 3 w (.slice oa n oc) O) (hG : ∀ x ∈ O, goodO x) (hOn : O.length = n) (hn : n ≤ 60) (hrc : right c = true) :
    Calls Try.prog 9 #[cfgV c, .int .i64 who, .int .i64 owner, .int .u64 seq, .slice a m lc, .slice oa n oc, .bool true] w fun e w' => e = .returned (.bool true) ∧ Fr [] w w' := by
  have HIN := Lib.hid (H.inv_own c L (by omega))
  unfold H.hOwn at HIN
  have HOW := Lib.hid (fun w r1 hA => hown_any w c h r1 seq a m lc L hLm hA hnil (by omega))
  have HANS0 : Hid (∀ r1, ∀ Lk, H.OnH c seq (H.entry c ⟨L, 0, 0, -1, 0, 0, 0⟩ 0) Lk → (∀ o ∈ Lk, 0 ≤ o.v) → H.AnsT c r1 r1 seq (H.runH c seq (H.entry c ⟨L, 0, 0, -1, 0, 0, 0⟩ 0) Lk) (H.applyG c r1 r1 seq Lk L (-1) (H.tj 0))) := fun r1 Lk h1 _ => H.ans_own h L ⟨L, 0, 0, -1, 0, 0, 0⟩ rfl rfl Lk h1
  have HREF0 : Hid (∀ r1 w' (k : Nat) (ga : Option Addr) (ca : Nat), k ≤ n → ArgE enE 2 w' (.slice ga L.length ca) L → Fr [] w w' → Calls Try.prog 62 #[.agg (cfgL c).toArray, .int .i64 r1, .int .i64 r1, .int .u64 seq, .slice ga L.length ca, .agg (tapeL (.slice oa k oc) (H.tj 0)).toArray] w' fun e w'' => e = .returned (.agg (tapeL (.slice oa k oc) (H.applyG c r1 r1 seq (O.take k) L (-1) (H.tj 0))).toArray) ∧ Fr [] w' w'') := fun r1 w' k ga ca hk hA f => rapply_any w' c h r1 r1 seq ga L.length ca L rfl (by omega) hA oa k oc (H.tj 0) (by omega) (by simp [H.tj]) (O.take k) (by rw [List.length_take]; omega) ((hO.take k (by omega)).fr f) _ rfl
  have HLM := Lib.hid hLm
  clear hLm
  have d1 : decide ((n : Int) > 60) = false := by simp; omega
  have d2 : decide ((m : Int) > 30) = false := by simp; omega
  have ht1 := h.t1
  have ht8 := h.t8
  obtain ⟨b1, hb1, hbe1⟩ := and_i64_low who 8 (by decide)
  obtain ⟨q1, hq1⟩ : ∃ q : Int, q = (b1 : Int) := ⟨_, rfl⟩
  have hbe1' : bits .and .i64 who 255 = q1 := by rw [hq1]; exact hbe1
  have hq10 : 0 ≤ q1 ∧ q1 ≤ 255 := by rw [hq1]; omega
  obtain ⟨r1, hr1⟩ : ∃ r, Int.tmod q1 c.t = r := ⟨_, rfl⟩
  have hr10 := tmod_in hr1 hq10.1 ht1
  obtain ⟨b2, hb2, hbe2⟩ := and_i64_low owner 8 (by decide)
  obtain ⟨q2, hq2⟩ : ∃ q : Int, q = (b2 : Int) := ⟨_, rfl⟩
  have hbe2' : bits .and .i64 owner 255 = q2 := by rw [hq2]; exact hbe2
  have hq20 : 0 ≤ q2 ∧ q2 ≤ 255 := by rw [hq2]; omega
  obtain ⟨r2, hr2⟩ : ∃ r, Int.tmod q2 c.t = r := ⟨_, rfl⟩
  have hr20 := tmod_in hr2 hq20.1 ht1
  clear hbe1 hbe2 hb1 hb2 hq1 hq2
  have HOF : Hid (∀ w, Calls Try.prog 25 #[.agg (cfgL c).toArray] w fun e w' => e = .returned (.tuple #[mapV c, .int .i64 0]) ∧ Fr [] w w') := fun w => of_good w c h
  have HNW := Lib.hid (fun w => hnew_of w c r1 r2 seq)
  have HAK := Lib.hid (fun (w0 w : World) (R : List Thing) (b : Nat) (hh : H.H) (hg : H.Good c hh) (hS : Sep w0 w (helpT c r1 r1 seq b hh :: R)) => hask_of b c h r1 r1 seq hh hg hS)
  have HTL := Lib.hid (fun (w0 w : World) (R : List Thing) (b : Nat) (hh : H.H) (x s : Int) (ok : Bool) hx hs hg hr (hS : Sep w0 w (helpT c r1 r1 seq b hh :: R)) => htell_any b c h r1 r1 seq hh x s ok hx hs hg hr hS)
  have HDN := Lib.hid (fun (w0 w : World) (R : List Thing) (b : Nat) (hh : H.H) (hS : Sep w0 w (helpT c r1 r1 seq b hh :: R)) => hdone_of b c r1 r1 seq hh hS)
  have HAD := Lib.hid (fun (hh : H.H) (hi : H.Inv c hh) => H.ask_done (c := c) (who := r1) (owner := r1) (seq := seq) hi.rng)
  have hsz : (mapCells c).length = 24 := rfl
  have hone : ∀ v ∈ mapCells c, v.oneCell' = true := by simp [mapCells, Value.oneCell']
  unfold mapV at *
  generalize mapCells c = cs at *
  have HS := Lib.hid ((Sep.nil (Fr.refl [] w)).new 24 (cfgL c))
  have HR := Lib.hid (fun w => rright12_any w c)
  have hsz6 : (cfgL c).length = 6 := rfl
  have g0 : (cfgL c)[0]? = some (.int .i64 c.t) := rfl
  rw [show cfgV c = .agg (cfgL c).toArray from rfl]
  generalize cfgL c = cl at *
  go_enter Try.func9, Try.ntmps9
  go_wp2_with fail
  refine (alive12_any _).mono ?_
  rintro e w1 ⟨rfl, hf⟩
  have HS := Lib.hid (HS.out.fr0 hf)
  clear hf
  go_wp2_with (first | (refine wpList_load_any 24 _ rfl rfl _ 0 rfl cl _ (HS.out.blk 0 rfl).range Try.underlying24 rfl (by rw [hsz6]; kernel_rfl) ?_))
  refine (HR.out _).mono ?_
  rintro e w1 ⟨rfl, hf⟩
  have HS := Lib.hid (HS.out.fr0 hf)
  clear hf
  rw [hrc]
  go_wp2_with (first | (refine wpList_load_any 24 _ rfl rfl _ 0 rfl cl _ (HS.out.blk 0 rfl).range Try.underlying24 rfl (by rw [hsz6]; kernel_rfl) ?_))
  refine (HOF.out _).mono ?_
  rintro e w2 ⟨rfl, hf⟩
  have HS := Lib.hid ((HS.out.fr0 hf).new 31 cs); clear hf
  have c0 := ((HS.out.blk 1 rfl).cell 0).trans g0
  have cl0 := (HS.out.blk 1 rfl).lt
  go_wp2_with (first | (refine wpList_store_new 31 _ (cs).toArray rfl _ _ rfl rfl rfl (by rw [List.size_toArray, hsz]; kernel_rfl) (by simp [hsz]) (all_oneCell_toArray hone) ?_))
  refine wp_region_fr [(1, [0, 1, 2, 3, 4, 5, 6, 7, 8, 9, 10, 11])] [] (by kernel_rfl) (by kernel_rfl) ?_
  simp only [theOps, nthOp, List.map_cons, List.map_nil, Array.getD_eq_getD_getElem?, List.getElem?_toArray, List.getElem?_cons_succ, List.getElem?_cons_zero, Option.getD_some]
  repeat ((first | refine wpSegs_soft ?_ | refine wpSegs_pure ?_ | refine wpSegs_here ?_); (repeat (first | go_big_quiet_step (fail) | quiet_step (fail))); refine wpQuiet_nil ?_)
  refine wpSegs_done ?_
  have HS := Lib.hid HS.out.drew
  go_wp2_with (refine wpList_load_any 31 _ rfl rfl _ 0 rfl cs _ (HS.out.blk 0 rfl).range Try.underlying31 rfl (by rw [hsz]; kernel_rfl) ?_)
  refine (HNW.out _).mono ?_
  rintro e w3 ⟨b, rfl, hN⟩
  have hS := HS.out.append hN
  simp only [List.cons_append, List.nil_append] at hS
  have HS := Lib.hid hS; clear hS hN
  clear c0 cl0 hr1 hr2 hbe1' hbe2' hq10 hq20 g0
  obtain ⟨TKf, hTKf⟩ : ∃ TKf : List O3 → Tp, TKf = fun Lk => H.applyG c r1 r1 seq Lk L (-1) (H.tj 0) := ⟨_, rfl⟩
  have HANS : Hid (∀ Lk, H.OnH c seq (H.entry c ⟨L, 0, 0, -1, 0, 0, 0⟩ 0) Lk → (∀ o ∈ Lk, 0 ≤ o.v) → H.AnsT c r1 r1 seq (H.runH c seq (H.entry c ⟨L, 0, 0, -1, 0, 0, 0⟩ 0) Lk) (TKf Lk)) := by rw [hTKf]; exact HANS0.out r1
  have HREF : Hid (∀ w' (k : Nat), k ≤ n → Fr [] w w' → ∀ (ga : Option Addr) (ca : Nat) , ArgE enE 2 w' (.slice ga L.length ca) L → Calls Try.prog 62 #[.agg cl.toArray, .int .i64 r1, .int .i64 r1, .int .u64 seq, .slice ga L.length ca, .agg (tapeL (.slice oa k oc) (H.tj 0)).toArray] w' fun e w'' => e = .returned (.agg (tapeL (.slice oa k oc) (TKf (O.take k))).toArray) ∧ Fr [] w' w'') := by rw [hTKf]; exact fun w' k hk f ga ca hA => HREF0.out r1 w' k ga ca hk hA f
  clear hTKf HANS0 HREF0
  have hnn : (n : Int) ≤ 60 := by omega
  go_wp2_with (refine wpList_load_any 31 _ rfl rfl _ 0 rfl cs _ (HS.out.blk 1 rfl).range Try.underlying31 rfl (by rw [hsz]; kernel_rfl) ?_)
  refine (HOW.out _ r1 (hL.fr HS.out.fr)).mono ?_
  rintro e w4 ⟨b, rfl, hN⟩
  have hS := HS.out.append hN
  simp only [List.cons_append, List.nil_append] at hS
  have HS := Lib.hid (hS.sub (Ts' := [_, _, _]) [0, 2, 3] rfl (by decide)); clear hS hN HOW
  generalize H.entry c ⟨L, 0, 0, -1, 0, 0, 0⟩ 0 = h0 at *
  have HL := Lib.hid hL; clear hL
  go_wp2_with fail
  go_loopg [67] (n + 1) (fun gg vi wr => ∃ (k : Nat) (hh : H.H), gg + k = n + 1 ∧ vi = .int .i64 (k : Int) ∧ (hh = H.runH c seq h0 (O.take k) ∧ H.OnH c seq h0 (O.take k) ∧ H.Inv c hh) ∧ Sep w wr [helpT c r1 r1 seq b hh, blkT w2.heap.size 31 cs, blkT w.heap.size 24 cl])
  case atStart => exact ⟨0, h0, by omega, rfl, ⟨rfl, trivial, HIN.out⟩, HS.out⟩
  case round =>
    clear HS
    obtain ⟨k, hh, hgk, rfl, hk0, hS⟩ := hrel
    have HK := Lib.hid hk0; clear hk0
    by_cases hk : k < n + 1
    · have hki : (k : Int) < (n : Int) + 1 := by omega
      have hkn : (k : Int) ≤ (oc : Int) := by
        obtain ⟨_, cap', e, hh, _⟩ := hO
        simp only [Value.slice.injEq] at e
        omega
      have hk0 : (0 : Int) ≤ (k : Int) := by omega
      have hans := HANS.out (O.take k) HK.out.2.1 (fun o ho => (hG o (List.mem_of_mem_take ho)).1)
      rw [← HK.out.1] at hans
      have HRF := Lib.hid (fun w' f => HREF.out w' k (by omega) f)
      obtain ⟨TK, hTK⟩ : ∃ TK, TK = TKf (O.take k) := ⟨_, rfl⟩
      rw [← hTK] at hans HRF
      clear hTK
      obtain ⟨ha1, ha2⟩ := hans
      rw [HAD.out hh HK.out.2.2] at ha1
      obtain ⟨tat, op, nd⟩ := TK
      dsimp only at ha1 ha2
      have HA2 := Lib.hid ha2.symm
      have HA1 := Lib.hid ha1
      clear ha1 ha2
      have HS := Lib.hid (hS.new 47 (tapeL (.slice oa k oc) (H.tj 0))); clear hS
      have hone0 := tapeL_one oa k oc (H.tj 0)
      have hone1 := tapeL_one oa k oc ⟨tat, op, nd⟩
      have HASC := Lib.hid (fun w' (f : Fr [] w w') => as12_any w' (.slice a m lc) L (HL.out.fr f) (by have := HLM.out; omega))
      go_wp2_with (refine wpList_store_new 47 _ (tapeL (.slice oa k oc) (H.tj 0)).toArray rfl _ _ rfl rfl rfl (by kernel_rfl) (by simp [tapeL]) (all_oneCell_toArray hone0) ?_)
      have hmc := (HS.out.blk 3 rfl).drew
      have hmt := (HS.out.blk 0 rfl).drew
      have HS := Lib.hid HS.out.drew
      refine wp_region_fr [(1, [0, 1, 2, 3, 4, 6]), (2, [5]), (3, [7]), (3, [8])] [] (by kernel_rfl) (by kernel_rfl) ?_
      simp only [theOps, nthOp, List.map_cons, List.map_nil, Array.getD_eq_getD_getElem?, List.getElem?_toArray, List.getElem?_cons_succ, List.getElem?_cons_zero, Option.getD_some]
      refine wpSegs_soft ?_
      refine wpQuiet_load_mid 24 _ w.heap.size 0 cl _ rfl rfl rfl (rangeAt_after hmc (by simp)) Try.underlying24 rfl (by rw [hsz6]; kernel_rfl) ?_
      simp only [Act.put, List.setIfInBounds_toArray, List.set_cons_zero, List.set_cons_succ]
      iterate 4 (first | go_big_quiet_step (fail) | quiet_step (fail))
      refine wpQuiet_load_mid 47 _ wr.heap.size 0 (tapeL (.slice oa k oc) (H.tj 0)) _ rfl rfl rfl (rangeAt_after hmt (by simp)) Try.underlying47 rfl (by kernel_rfl) ?_
      simp only [Act.put, List.setIfInBounds_toArray, List.set_cons_zero, List.set_cons_succ]
      refine wpQuiet_nil ?_
      refine wpSegs_keep ?_
      go_wp2_with fail
      refine (HASC.out _ HS.out.fr).mono ?_
      rintro e w5 ⟨va, rfl, hN⟩
      obtain ⟨ga, ca, rfl⟩ := hN.form
      have HF := Lib.hid hN.fr
      have HS := Lib.hid (HS.out.fresh hN); clear hN HASC
      go_wp2_with fail
      refine ⟨⟨⟨_, (by exact HF.out)⟩, rfl⟩, ?_⟩
      refine wpSegs_hard ?_
      go_wp2_with fail
      refine (HRF.out _ HS.out.fr ga ca (ArgE.of_row enE_len (HS.out.row 0 rfl))).mono ?_
      rintro e w6 ⟨rfl, hf⟩
      have HS := Lib.hid (HS.out.fr0 hf); clear hf HRF HF hmc hmt
      go_wp2_with fail
      refine wpSegs_hard ?_
      refine wpList_store_sep HS.out 1 rfl (tapeL (.slice oa k oc) ⟨tat, op, nd⟩) 47 _ _ rfl rfl rfl rfl rfl (by kernel_rfl) hone1 (fun wA hA _ => ?_)
      have HS := Lib.hid hA.tail; clear hA
      go_wp2_with fail
      refine wpSegs_done ?_
      go_wp2_with fail
      refine (HAK.out _ _ _ b hh HK.out.2.2.good (HS.out.pull 1 rfl)).mono ?_
      rintro e w6 ⟨rfl, hf⟩
      rw [HAD.out hh HK.out.2.2, HA2.out]
      have HS := Lib.hid ((HS.out.fr0 hf).new 43 (enP op)); clear hf
      have HNE := fun w => neq_op_self w op
      have b8 := (HS.out.blk 1 rfl).cell 8
      have b8l := (HS.out.blk 1 rfl).lt
      have b8m := (HS.out.blk 0 rfl).lt
      simp only [tapeL, List.getElem?_cons_zero, List.getElem?_cons_succ] at b8
      have honeP := enP_one op
      by_cases h8 : hh.next = 8
      · have ha1 : nd = false := by have := HA1.out; rw [decide_eq_true h8] at this; exact this
        rw [decide_eq_true h8]
        have HH8 := Lib.hid h8; clear h8
        subst ha1
        go_wp2_with (first | (refine wpList_store_new 43 _ (enP op).toArray rfl _ _ rfl rfl rfl (by kernel_rfl) (by simp [enP]) (all_oneCell_toArray honeP) ?_) | (refine wpList_load_any 43 _ rfl rfl _ 0 rfl (enP op) _ (HS.out.blk 0 rfl).range Try.underlying43 rfl (by kernel_rfl) ?_) | (refine wpList_load_any 43 _ rfl rfl _ 2 rfl (enP op) _ (tape_ask8 (HS.out.blk 1 rfl)) Try.underlying43 rfl (by kernel_rfl) ?_))
        refine (HDN.out _ _ _ b hh (HS.out.pull 2 rfl)).mono ?_
        rintro e w7 ⟨rfl, hf⟩
        rw [decide_eq_true HH8.out]
        have HS := Lib.hid (HS.out.fr0 hf); clear hf b8 b8l b8m
        go_wp2_with fail
        go_ret
        exact ⟨rfl, HS.out.fr⟩
      · have ha1 : nd = true := by have := HA1.out; rw [decide_eq_false h8] at this; exact this
        rw [decide_eq_false h8]
        have HH8 := Lib.hid h8; clear h8
        subst ha1
        go_wp2_with (first | (refine wpList_store_new 43 _ (enP op).toArray rfl _ _ rfl rfl rfl (by kernel_rfl) (by simp [enP]) (all_oneCell_toArray honeP) ?_) | (refine wpList_load_any 43 _ rfl rfl _ 0 rfl (enP op) _ (HS.out.blk 0 rfl).range Try.underlying43 rfl (by kernel_rfl) ?_) | (refine wpList_load_any 43 _ rfl rfl _ 2 rfl (enP op) _ (tape_ask8 (HS.out.blk 1 rfl)) Try.underlying43 rfl (by kernel_rfl) ?_))
        refine (HDN.out _ _ _ b hh (HS.out.pull 2 rfl)).mono ?_
        rintro e w7 ⟨rfl, hf⟩
        rw [decide_eq_false HH8.out]
        have HS := Lib.hid (HS.out.fr0 hf); clear hf b8 b8l b8m
        by_cases hkn2 : k = n
        · have hkq : ((k : Int) == (n : Int)) = true := by simp [hkn2]
          go_wp2_with fail
          go_ret
          exact ⟨rfl, HS.out.fr⟩
        · have hkq : ((k : Int) == (n : Int)) = false := by simp; omega
          have hkl : (k : Int) < (n : Int) := by omega
          obtain ⟨x, rfl, hxw, hc0, hc1⟩ := hO.at (i := k) (by omega)
          have hgo := hG _ (List.getElem_mem (show k < O.length by omega))
          have HNX : Hid (∀ o, O[k]'(by omega) = o → H.tell c seq o.v o.s hh = H.runH c seq h0 (O.take (k + 1)) ∧ H.OnH c seq h0 (O.take (k + 1)) ∧ H.Inv c (H.tell c seq o.v o.s hh)) := fun o ho => by
            have hon := H.OnH.snoc (o := o) HK.out.2.1 (by rw [← HK.out.1]; exact HH8.out)
            rw [List.take_succ_eq_append_getElem (show k < O.length by omega), ho]
            refine ⟨?_, hon, H.tell_inv h HK.out.2.2 _ _ (by rw [← ho]; exact hgo.1)⟩
            rw [H.runH_snoc, ← HK.out.1]
          obtain ⟨o, ho⟩ : ∃ o, O[k]'(by omega) = o := ⟨_, rfl⟩
          have HNX2 := Lib.hid (HNX.out o ho)
          rw [ho] at hc0 hc1 hgo
          clear ho HNX
          obtain ⟨ov, os, ook⟩ := o
          obtain ⟨g1, g2, g3, g4⟩ := hgo
          dsimp only at g1 g2 g3 g4 HNX2
          have y0 := HS.out.fr.cell (hc0 _ rfl) (by simp)
          have y1 := HS.out.fr.cell (hc1 0 _ rfl) (by simp)
          have y2 := HS.out.fr.cell (hc1 1 _ rfl) (by simp)
          simp only [Nat.zero_add, Nat.reduceAdd] at y1 y2
          clear hc0 hc1
          go_wp2_with fail
          refine (HTL.out _ _ _ b hh ov os ook ⟨g1, g2⟩ g3 HK.out.2.2.good HK.out.2.2.rng (HS.out.pull 2 rfl)).mono ?_
          rintro e w10 ⟨rfl, hS⟩
          have HS := Lib.hid hS; clear hS y0 y1 y2
          go_wp2_with fail
          go_roundg (n + 1 - (k + 1))
          case measure => omega
          case rel => exact ⟨k + 1, _, by omega, by go_num, HNX2.out, HS.out.sub [0, 3, 4] rfl (by decide)⟩
    · obtain rfl : k = n + 1 := by omega
      have HS := Lib.hid hS; clear hS
      go_wp2_with fail
      go_ret
      exact ⟨rfl, HS.out.fr⟩
theorem hplays_any (w : World) (c : Cfg) (who owner seq : Int) (a oa : Option Addr) (m lc n oc : Nat) (own : Bool) (L : List (Int × Int)) (O : List O3) (hL : ArgE enE 2 w (.slice a m lc) L) (hnil : NilA a m lc) (hO : ArgE enO 3 w (.slice oa n oc) O) (hG : ∀ x ∈ O, goodO x) (hLm : m = L.length) (hOn : n = O.length) :
    Calls Try.prog 9 #[cfgV c, .int .i64 who, .int .i64 owner, .int .u64 seq, .slice a m lc, .slice oa n oc, .bool own] w fun e w' => e = .returned (.bool true) ∧ Fr [] w w' := by
  by_cases h0 : right c = true
  · by_cases h1 : n > 60
    · exact hplays_s1 w c who owner seq a oa m lc n oc own h0 (by simp; omega)
    · by_cases h2 : m > 30
      · exact hplays_s2 w c who owner seq a oa m lc n oc own h0 (by simp; omega) (by simp; omega)
      · have hok : Ok c := by unfold right at h0; simpa using h0
        cases own
        · exact hplays_f w c hok who owner seq a oa m lc n oc L O hLm hL hnil (by omega) hO hG hOn.symm (by omega) h0
        · exact hplays_t w c hok who owner seq a oa m lc n oc L O hLm hL hnil (by omega) hO hG hOn.symm (by omega) h0
  · exact hplays_s0 w c who owner seq a oa m lc n oc own (by simpa using h0)
theorem hplays_row (a b d f g l who owner seq : Int) (v v' : Value) (own : Bool) (L : List (Int × Int)) (O : List O3) (w : World) (hL : ArgH w v L) (hO : ArgG goodO enO 3 w v' O) (_ : L.length ≤ maxLen) (_ : O.length ≤ maxLen) :
    Calls Try.prog 9 #[.agg #[.int .i64 a, .int .i64 b, .int .i64 d, .int .i64 f, .int .u64 g, .int .u64 l], .int .i64 who, .int .i64 owner, .int .u64 seq, v, v', .bool own] w fun e w' => e = .returned (.bool true) ∧ Fr [] w w' := by
  obtain ⟨a1, c1, rfl, _⟩ := id hL.1.1
  obtain ⟨a2, c2, rfl, _⟩ := id hO.1
  exact hplays_any w ⟨a, b, d, f, g, l⟩ who owner seq a1 a2 _ c1 _ c2 own L O hL.1.1 (hL.2 _ _ _ rfl) hO.1 hO.2 rfl rfl
end Go.Proofs.Ytccioehckfdjdaa
