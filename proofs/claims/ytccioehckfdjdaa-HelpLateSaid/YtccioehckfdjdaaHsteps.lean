/- The law HelpSteps, walked. -/
import Derived.Test.YtccioehckfdjdaaHalive
import Derived.Test.YtccioehckfdjdaaHslots
import Derived.Test.YtccioehckfdjdaaArgO
set_option linter.unusedSimpArgs false
set_option linter.unusedVariables false
namespace Go.Tum.H
open Go.Tum.Y Go.Tum.Sc
/-- What a step that is asked for may be. -/
theorem ask_cases {c : Cfg} (hok : Ok c) {who owner seq : Int} {h : H} (hw : 0 ≤ who ∧ who < c.t) (ho : 0 ≤ owner ∧ owner < c.t) (hi : Inv c h) (hn : h.n ≤ cap c) (h8 : h.next ≠ 8) {o : P6} (hoo : (ask c who owner seq h).1 = o) :
    (o.k = 0 ∧ (whA c o.a).1 ≠ -1) ∨ (o.k = 1 ∧ (whA c o.a).1 = 3 ∧ (whA c o.a).2.1 = who) ∨ (o.k = 2 ∧ (whA c o.a).1 = 4 ∧ (whA c o.a).2.1 = owner) ∨ (o.k = 2 ∧ 7 ≤ (whA c o.a).1) := by
  have ha := asks (seq := seq) hok hw ho hi hn h8
  rw [hoo] at ha
  cases ha with
  | own kd i k hk hs hnx =>
    have e := what_is hok hs
    dsimp only
    rw [e]
    dsimp only
    omega
  | slot hnx hs =>
    have e := what_is hok hs
    dsimp only
    rw [e]
    dsimp only
    omega
  | load hnx hk => dsimp only; omega
  | swap hnx hk => dsimp only; omega
  | shut hnx hs =>
    have e := what_is hok hs
    dsimp only
    rw [e]
    dsimp only
    omega
/-- Behind k replies told: the state, and the number of entries that the law noted. -/
def At (c : Cfg) (k : Nat) (h : H) (n : Int) : Prop :=
  Inv c h ∧ ((k = 0 ∧ n = 0 ∧ h.next = 0 ∧ h.n = 0) ∨ (1 ≤ k ∧ n = h.n ∧ h.n ≤ cap c ∧ (h.list.length : Int) ≤ h.n ∧ h.next ≠ 0 ∧ left h + k ≤ 5 * h.n + 3))
theorem at_new (c : Cfg) : At c 0 Go.Proofs.Ytccioehckfdjdaa.H.hNew 0 := ⟨Go.Proofs.Ytccioehckfdjdaa.H.inv_new c, .inl ⟨rfl, rfl, rfl, rfl⟩⟩
theorem at_tell {c : Cfg} (hok : Ok c) {k : Nat} {h : H} {n seq : Int} (ha : At c k h n) (h8 : h.next ≠ 8) (v s : Int) (hv : 0 ≤ v) : At c (k + 1) (tell c seq v s h) (if k = 0 then min v (cap c) else n) := by
  obtain ⟨hi, hk | ⟨h1, h2, h3, h4, h5, h6⟩⟩ := ha
  · obtain ⟨rfl, rfl, h0, hn⟩ := hk
    refine ⟨tell_inv hok hi v s hv, .inr ?_⟩
    have hl := hi.nil h0
    have hc := cap_bd hok
    unfold tell
    rw [if_pos h0, if_pos rfl]
    unfold read left
    rw [hl]
    dsimp only
    refine ⟨by omega, rfl, by omega, by simp; omega, ?_, ?_⟩
    · split <;> decide
    · split <;> (simp; omega)
  · obtain ⟨e1, e2, e3, e4⟩ := tell_left hok (seq := seq) hi h4 v s h5 h8
    refine ⟨tell_inv hok hi v s hv, .inr ⟨by omega, by rw [if_neg (by omega), e3]; exact h2, by rw [e3]; exact h3, e2, e4, ?_⟩⟩
    rw [e3]
    have : ((k + 1 : Nat) : Int) = k + 1 := by omega
    omega
/-- No more steps than the law allows. -/
theorem at_few {c : Cfg} (hok : Ok c) {k : Nat} {h : H} {n : Int} (ha : At c k h n) (h8 : h.next ≠ 8) (v : Int) (hv : 0 ≤ v) :
    (k : Int) < 5 * (if k = 0 then min v (cap c) else n) + 3 ∧ 0 ≤ (if k = 0 then min v (cap c) else n) ∧ (if k = 0 then min v (cap c) else n) ≤ cap c ∧ h.n ≤ cap c := by
  have hc := cap_bd hok
  obtain ⟨hi, ⟨h1, h2, h3, h4⟩ | ⟨h1, h2, h3, h4, h5, h6⟩⟩ := ha
  · rw [if_pos h1]; omega
  · have := left_pos hi h4 h8 h5
    have h0 := hi.good.1
    rw [if_neg (by omega)]
    omega
end Go.Tum.H
namespace Go.Proofs.Ytccioehckfdjdaa
open Go.RowKit Go.Tum Go.Tum.Y Go.Tum.Sc
theorem rright12_any (w : World) (c : Cfg) : Calls Try.prog 16 #[.agg (cfgL c).toArray] w fun e w' => e = .returned (.bool (right c)) ∧ Fr [] w w' := rright_any w c
theorem tmod_in {q t r : Int} (h : Int.tmod q t = r) (h0 : 0 ≤ q) (ht : 1 ≤ t) : 0 ≤ r ∧ r < t := by
  rw [Int.tmod_eq_emod_of_nonneg h0] at h
  subst h
  exact ⟨Int.emod_nonneg _ (by omega), Int.emod_lt_of_pos _ (by omega)⟩
set_option maxRecDepth 100000 in
set_option maxHeartbeats 4000000 in
theorem hsteps_s0 (w : World) (c : Cfg) (who owner seq : Int) (oa : Option Addr) (n oc : Nat) (hrc : right c = false) : Calls Try.prog 11 #[cfgV c, .int .i64 who, .int .i64 owner, .int .u64 seq, .slice oa n oc] w fun e w' => e = .returned (.bool true) ∧ Fr [] w w' := by
  have HS := Lib.hid ((Sep.nil (Fr.refl [] w)).new 24 (cfgL c))
  have HR := Lib.hid (fun w => rright12_any w c)
  have hsz6 : (cfgL c).length = 6 := rfl
  have g0 : (cfgL c)[0]? = some (.int .i64 c.t) := rfl
  rw [show cfgV c = .agg (cfgL c).toArray from rfl]
  generalize cfgL c = cl at *
  go_enter Try.func11, Try.ntmps11
  go_wp2_with fail
  refine (alive12_any _).mono ?_
  rintro e w1 ⟨rfl, hf⟩
  have HS := Lib.hid (HS.out.fr0 hf)
  clear hf
  go_wp2_with (first | (refine wpList_load_any 24 _ rfl rfl _ 0 rfl cl _ (HS.out.blk 0 rfl).range Try.underlying24 rfl (by rw [hsz6]; kernel_rfl) ?_))
  refine (HR.out _).mono ?_
  rintro e w1 ⟨rfl, hf⟩
  have HS := Lib.hid (HS.out.fr0 hf)
  clear hf
  rw [hrc]
  go_wp2_with fail
  go_ret
  exact ⟨rfl, HS.out.fr⟩
set_option maxRecDepth 100000 in
set_option maxHeartbeats 4000000 in
theorem hsteps_s1 (w : World) (c : Cfg) (who owner seq : Int) (oa : Option Addr) (n oc : Nat) (hrc : right c = true) (d1 : decide ((n : Int) > 60) = true) : Calls Try.prog 11 #[cfgV c, .int .i64 who, .int .i64 owner, .int .u64 seq, .slice oa n oc] w fun e w' => e = .returned (.bool true) ∧ Fr [] w w' := by
  have HS := Lib.hid ((Sep.nil (Fr.refl [] w)).new 24 (cfgL c))
  have HR := Lib.hid (fun w => rright12_any w c)
  have hsz6 : (cfgL c).length = 6 := rfl
  have g0 : (cfgL c)[0]? = some (.int .i64 c.t) := rfl
  rw [show cfgV c = .agg (cfgL c).toArray from rfl]
  generalize cfgL c = cl at *
  go_enter Try.func11, Try.ntmps11
  go_wp2_with fail
  refine (alive12_any _).mono ?_
  rintro e w1 ⟨rfl, hf⟩
  have HS := Lib.hid (HS.out.fr0 hf)
  clear hf
  go_wp2_with (first | (refine wpList_load_any 24 _ rfl rfl _ 0 rfl cl _ (HS.out.blk 0 rfl).range Try.underlying24 rfl (by rw [hsz6]; kernel_rfl) ?_))
  refine (HR.out _).mono ?_
  rintro e w1 ⟨rfl, hf⟩
  have HS := Lib.hid (HS.out.fr0 hf)
  clear hf
  rw [hrc]
  go_wp2_with fail
  go_ret
  exact ⟨rfl, HS.out.fr⟩
set_option maxRecDepth 100000 in
set_option maxHeartbeats 40000000 in
theorem hsteps_good (w : World) (c : Cfg) (h : Ok c) (who owner seq : Int) (oa : Option Addr) (n oc : Nat) (O : List O3) (hO : ArgE enO 3 w (.slice oa n oc) O) (hG : ∀ x ∈ O, goodO x) (hOn : O.length = n) (hn : n ≤ 60) (hrc : right c = true) :
    Calls Try.prog 11 #[cfgV c, .int .i64 who, .int .i64 owner, .int .u64 seq, .slice oa n oc] w fun e w' => e = .returned (.bool true) ∧ Fr [] w w' := by
  have d1 : decide ((n : Int) > 60) = false := by simp; omega
  have ht1 := h.t1
  have ht8 := h.t8
  obtain ⟨b1, hb1, hbe1⟩ := and_i64_low who 8 (by decide)
  obtain ⟨q1, hq1⟩ : ∃ q : Int, q = (b1 : Int) := ⟨_, rfl⟩
  have hbe1' : bits .and .i64 who 255 = q1 := by rw [hq1]; exact hbe1
  have hq10 : 0 ≤ q1 ∧ q1 ≤ 255 := by rw [hq1]; omega
  obtain ⟨r1, hr1⟩ : ∃ r, Int.tmod q1 c.t = r := ⟨_, rfl⟩
  have hr10 := tmod_in hr1 hq10.1 ht1
  obtain ⟨b2, hb2, hbe2⟩ := and_i64_low owner 8 (by decide)
  obtain ⟨q2, hq2⟩ : ∃ q : Int, q = (b2 : Int) := ⟨_, rfl⟩
  have hbe2' : bits .and .i64 owner 255 = q2 := by rw [hq2]; exact hbe2
  have hq20 : 0 ≤ q2 ∧ q2 ≤ 255 := by rw [hq2]; omega
  obtain ⟨r2, hr2⟩ : ∃ r, Int.tmod q2 c.t = r := ⟨_, rfl⟩
  have hr20 := tmod_in hr2 hq20.1 ht1
  clear hbe1 hbe2 hb1 hb2 hq1 hq2
  have HOF : Hid (∀ w, Calls Try.prog 25 #[.agg (cfgL c).toArray] w fun e w' => e = .returned (.tuple #[mapV c, .int .i64 0]) ∧ Fr [] w w') := fun w => of_good w c h
  have HNW := Lib.hid (fun w => hnew_of w c r1 r2 seq)
  have HCP := Lib.hid (fun w => cap_any w c h)
  have HWH := Lib.hid (fun p => what_all h p)
  unfold Tells at HWH
  have HAK := Lib.hid (fun (w0 w : World) (R : List Thing) (b : Nat) (hh : H.H) (hg : H.Good c hh) (hS : Sep w0 w (helpT c r1 r2 seq b hh :: R)) => hask_of b c h r1 r2 seq hh hg hS)
  have HTL := Lib.hid (fun (w0 w : World) (R : List Thing) (b : Nat) (hh : H.H) (x s : Int) (ok : Bool) hx hs hg hr (hS : Sep w0 w (helpT c r1 r2 seq b hh :: R)) => htell_any b c h r1 r2 seq hh x s ok hx hs hg hr hS)
  have HDN := Lib.hid (fun (w0 w : World) (R : List Thing) (b : Nat) (hh : H.H) (hS : Sep w0 w (helpT c r1 r2 seq b hh :: R)) => hdone_of b c r1 r2 seq hh hS)
  have hcb := cap_bd h
  have HFEW := Lib.hid (fun (k : Nat) (hh : H.H) (n : Int) (ha : H.At c k hh n) (h8 : hh.next ≠ 8) (v : Int) (hv : 0 ≤ v) => H.at_few h ha h8 v hv)
  have HATT := Lib.hid (fun (k : Nat) (hh : H.H) (n : Int) (ha : H.At c k hh n) (h8 : hh.next ≠ 8) (v s : Int) (hv : 0 ≤ v) => H.at_tell (seq := seq) h ha h8 v s hv)
  have HAC := Lib.hid (fun (hh : H.H) (hi : H.Inv c hh) (hn : hh.n ≤ cap c) (h8 : hh.next ≠ 8) (o : P6) (hoo : (H.ask c r1 r2 seq hh).1 = o) => H.ask_cases h hr10 hr20 hi hn h8 hoo)
  have HAD := Lib.hid (fun (hh : H.H) (hi : H.Inv c hh) => H.ask_done (c := c) (who := r1) (owner := r2) (seq := seq) hi.rng)
  have hsz : (mapCells c).length = 24 := rfl
  have hone : ∀ v ∈ mapCells c, v.oneCell' = true := by simp [mapCells, Value.oneCell']
  unfold mapV at *
  generalize mapCells c = cs at *
  generalize cap c = cp at *
  have HS := Lib.hid ((Sep.nil (Fr.refl [] w)).new 24 (cfgL c))
  have HR := Lib.hid (fun w => rright12_any w c)
  have hsz6 : (cfgL c).length = 6 := rfl
  have g0 : (cfgL c)[0]? = some (.int .i64 c.t) := rfl
  rw [show cfgV c = .agg (cfgL c).toArray from rfl]
  generalize cfgL c = cl at *
  go_enter Try.func11, Try.ntmps11
  go_wp2_with fail
  refine (alive12_any _).mono ?_
  rintro e w1 ⟨rfl, hf⟩
  have HS := Lib.hid (HS.out.fr0 hf)
  clear hf
  go_wp2_with (first | (refine wpList_load_any 24 _ rfl rfl _ 0 rfl cl _ (HS.out.blk 0 rfl).range Try.underlying24 rfl (by rw [hsz6]; kernel_rfl) ?_))
  refine (HR.out _).mono ?_
  rintro e w1 ⟨rfl, hf⟩
  have HS := Lib.hid (HS.out.fr0 hf)
  clear hf
  rw [hrc]
  go_wp2_with (first | (refine wpList_load_any 24 _ rfl rfl _ 0 rfl cl _ (HS.out.blk 0 rfl).range Try.underlying24 rfl (by rw [hsz6]; kernel_rfl) ?_))
  refine (HOF.out _).mono ?_
  rintro e w2 ⟨rfl, hf⟩
  have HS := Lib.hid ((HS.out.fr0 hf).new 31 cs); clear hf
  have c0 := ((HS.out.blk 1 rfl).cell 0).trans g0
  have cl0 := (HS.out.blk 1 rfl).lt
  go_wp2_with (first | (refine wpList_store_new 31 _ (cs).toArray rfl _ _ rfl rfl rfl (by rw [List.size_toArray, hsz]; kernel_rfl) (by simp [hsz]) (all_oneCell_toArray hone) ?_))
  refine wp_region_fr [(1, [0, 1, 2, 3, 4, 5, 6, 7, 8, 9, 10, 11])] [] (by kernel_rfl) (by kernel_rfl) ?_
  simp only [theOps, nthOp, List.map_cons, List.map_nil, Array.getD_eq_getD_getElem?, List.getElem?_toArray, List.getElem?_cons_succ, List.getElem?_cons_zero, Option.getD_some]
  repeat ((first | refine wpSegs_soft ?_ | refine wpSegs_pure ?_ | refine wpSegs_here ?_); (repeat (first | go_big_quiet_step (fail) | quiet_step (fail))); refine wpQuiet_nil ?_)
  refine wpSegs_done ?_
  have HS := Lib.hid HS.out.drew
  go_wp2_with (refine wpList_load_any 31 _ rfl rfl _ 0 rfl cs _ (HS.out.blk 0 rfl).range Try.underlying31 rfl (by rw [hsz]; kernel_rfl) ?_)
  refine (HNW.out _).mono ?_
  rintro e w3 ⟨b, rfl, hN⟩
  have hS := HS.out.append hN
  simp only [List.cons_append, List.nil_append] at hS
  have HS := Lib.hid hS; clear hS hN
  clear c0 cl0 hr1 hr2 hbe1' hbe2' hq10 hq20 g0
  have hnn : (n : Int) ≤ 60 := by omega
  go_wp2_with fail
  go_loopg [14, 54] n (fun g vn vi wr => ∃ (k : Nat) (hh : H.H) (nn : Int), g + k = n ∧ vn = .int .u64 nn ∧ vi = .int .i64 (k : Int) ∧ H.At c k hh nn ∧ Sep w wr [helpT c r1 r2 seq b hh, blkT w2.heap.size 31 cs, blkT w.heap.size 24 cl])
  case atStart => exact ⟨0, _, 0, by omega, rfl, rfl, H.at_new c, HS.out⟩
  case round =>
    clear HS
    obtain ⟨k, hh, nn, hg, rfl, rfl, hAt, hS⟩ := hrel
    by_cases hk : k < n
    · have hki : (k : Int) < (n : Int) := by omega
      have hkO : k < O.length := by omega
      obtain ⟨x, rfl, hx, e0, e1⟩ := (hO.fr hS.fr).at hkO
      have hgo := hG _ (List.getElem_mem hkO)
      generalize O[k] = oo at *
      obtain ⟨ov, os, ook⟩ := oo
      obtain ⟨hv0, hv1, hs0, hs1⟩ := hgo
      dsimp only at hv0 hv1 hs0 hs1
      have y0 := e0 _ rfl
      have y1 := e1 0 _ rfl
      have y2 := e1 1 _ rfl
      clear e0 e1
      have HS := Lib.hid (hS.new 55 [.int .u64 ov, .int .u64 os, .bool ook]); clear hS
      have HAT2 := Lib.hid hAt
      go_wp2_with fail
      refine (HAK.out _ _ _ b hh hAt.1.good (HS.out.pull 1 rfl)).mono ?_
      rintro e w4 ⟨rfl, hf⟩
      rw [HAD.out hh hAt.1]
      generalize hoo : (H.ask c r1 r2 seq hh).1 = o
      have hS := (HS.out.fr0 hf).new 43 (enP o)
      have HS := Lib.hid hS; clear hS hf hAt
      have HOO := Lib.hid hoo; clear hoo
      have honeO := enP_one o
      clear y0 y1 y2
      by_cases h8 : hh.next = 8
      · rw [decide_eq_true h8]
        have HH8 := Lib.hid h8; clear h8
        go_wp2_with (refine wpList_store_new 43 _ (enP o).toArray rfl _ _ rfl rfl rfl (by kernel_rfl) (by simp [enP]) (all_oneCell_toArray honeO) ?_)
        refine (HDN.out _ _ _ b hh (HS.out.pull 2 rfl)).mono ?_
        rintro e w5 ⟨rfl, hf⟩
        rw [decide_eq_true HH8.out]
        go_wp2_with fail
        go_ret
        exact ⟨rfl, (HS.out.fr0 hf).fr⟩
      · rw [decide_eq_false h8]
        have HH8 := Lib.hid h8; clear h8
        by_cases hk0 : k = 0
        · obtain ⟨hfew, hm0, hm1, hcn⟩ := HFEW.out k hh nn HAT2.out HH8.out ov hv0
          rw [if_pos hk0] at hfew hm0 hm1
          have dk : ((k : Int) == 0) = true := by simpa using hk0
          have HK0 := Lib.hid hk0; clear hk0
          have hcw : IntKind.u64.wrap cp = cp := by rw [IntKind.wrap_u64]; omega
          have hmin : (if cp < ov then cp else ov) = min ov cp := by split <;> omega
          have p0 := (HS.out.blk 1 rfl).cell 0
          have pl := (HS.out.blk 1 rfl).lt
          simp only [List.getElem?_cons_zero] at p0
          have hmd := (HS.out.blk 3 rfl).drew
          generalize hmn : min ov cp = mn at *
          have HMN := Lib.hid hmn; clear hmn
          go_wp2_with (refine wpList_store_new 43 _ (enP o).toArray rfl _ _ rfl rfl rfl (by kernel_rfl) (by simp [enP]) (all_oneCell_toArray honeO) ?_)
          refine wp_region_fr [(1, [0, 1, 2, 3]), (2, [4]), (0, [5, 6, 7])] [] (by kernel_rfl) (by kernel_rfl) ?_
          simp only [theOps, nthOp, List.map_cons, List.map_nil, Array.getD_eq_getD_getElem?, List.getElem?_toArray, List.getElem?_cons_succ, List.getElem?_cons_zero, Option.getD_some]
          refine wpSegs_soft ?_
          iterate 3 (first | go_big_quiet_step (fail) | quiet_step (fail))
          refine wpQuiet_load_mid 31 _ w2.heap.size 0 cs _ rfl rfl rfl (rangeAt_after hmd (by simp)) Try.underlying31 rfl (by rw [hsz]; kernel_rfl) ?_
          simp only [Act.put, List.setIfInBounds_toArray, List.set_cons_zero, List.set_cons_succ]
          repeat (first | go_big_quiet_step (fail) | quiet_step (fail))
          refine wpQuiet_nil ?_
          refine wpSegs_keep ?_
          go_wp2_with fail
          refine (HCP.out _).mono ?_
          rintro e w5 ⟨rfl, hf⟩
          have HF := Lib.hid hf
          have HS := Lib.hid (HS.out.drew.fr0 hf)
          clear hf p0 pl hmd
          go_wp2_with fail
          refine ⟨⟨⟨_, (by exact HF.out)⟩, rfl⟩, ?_⟩
          repeat ((first | refine wpSegs_soft ?_ | refine wpSegs_pure ?_ | refine wpSegs_here ?_); (repeat (first | go_big_quiet_step (fail) | quiet_step (fail))); refine wpQuiet_nil ?_)
          refine wpSegs_done ?_
          have HAT3 := Lib.hid (HATT.out k hh nn HAT2.out HH8.out ov os hv0)
          rw [if_pos HK0.out, HMN.out] at HAT3
          have hkw : IntKind.u64.wrap (k : Int) = (k : Int) := by rw [IntKind.wrap_u64]; omega
          have h5w : IntKind.u64.wrap (5 * mn) = 5 * mn := by rw [IntKind.wrap_u64]; omega
          have h53w : IntKind.u64.wrap (5 * mn + 3) = 5 * mn + 3 := by rw [IntKind.wrap_u64]; omega
          have dge : decide ((k : Int) ≥ 5 * mn + 3) = false := by simp; omega
          have hac := HAC.out hh HAT2.out.1 hcn HH8.out o HOO.out
          have HW := Lib.hid (HWH.out o.a)
          obtain ⟨o0, o1, o2, o3, o4, o5⟩ := o
          dsimp only at hac HW
          generalize whA c o1 = wa at hac HW
          obtain ⟨wa1, wa2, wa3⟩ := wa
          dsimp only at hac HW
          have q1 := (HS.out.blk 0 rfl).cell 1
          rw [show (enP ⟨o0, o1, o2, o3, o4, o5⟩)[1]? = some (.int .i64 o1) from rfl] at q1
          have ql := (HS.out.blk 0 rfl).lt
          go_wp2_with (first | (refine wpList_store_new 43 _ (enP ⟨o0, o1, o2, o3, o4, o5⟩).toArray rfl _ _ rfl rfl rfl (by kernel_rfl) (by simp [enP]) (all_oneCell_toArray honeO) ?_) | (refine wpList_load_any 31 _ rfl rfl _ 0 rfl cs _ (HS.out.blk 3 rfl).range Try.underlying31 rfl (by rw [hsz]; kernel_rfl) ?_))
          refine (HW.out _).mono ?_
          rintro e w6 ⟨rfl, hf⟩
          have HS := Lib.hid (HS.out.fr0 hf); clear hf q1 ql
          have q0 := (HS.out.blk 0 rfl).cell 0
          rw [show (enP ⟨o0, o1, o2, o3, o4, o5⟩)[0]? = some (.int .i64 o0) from rfl] at q0
          have ql := (HS.out.blk 0 rfl).lt
          rcases hac with ⟨rfl, hw⟩ | ⟨rfl, rfl, rfl⟩ | ⟨rfl, rfl, rfl⟩ | ⟨rfl, hw⟩
          · have dw : (wa1 == -1) = false := by simpa using hw
            clear hw
            go_wp2_with (refine wpList_load_any 55 _ rfl rfl _ 0 rfl [.int .u64 ov, .int .u64 os, .bool ook] _ (HS.out.blk 1 rfl).range Try.underlying55 rfl (by kernel_rfl) ?_)
            refine (HTL.out _ _ _ b hh ov os ook ⟨hv0, hv1⟩ hs0 HAT2.out.1.good HAT2.out.1.rng (HS.out.pull 2 rfl)).mono ?_
            rintro e w9 ⟨rfl, hS⟩
            have HS := Lib.hid hS; clear hS
            go_wp2_with fail
            go_roundg (n - (k + 1))
            case measure => omega
            case rel => exact ⟨k + 1, _, mn, by omega, rfl, by go_num, HAT3.out, HS.out.sub [0, 3, 4] rfl (by decide)⟩
          · go_wp2_with (refine wpList_load_any 55 _ rfl rfl _ 0 rfl [.int .u64 ov, .int .u64 os, .bool ook] _ (HS.out.blk 1 rfl).range Try.underlying55 rfl (by kernel_rfl) ?_)
            refine (HTL.out _ _ _ b hh ov os ook ⟨hv0, hv1⟩ hs0 HAT2.out.1.good HAT2.out.1.rng (HS.out.pull 2 rfl)).mono ?_
            rintro e w9 ⟨rfl, hS⟩
            have HS := Lib.hid hS; clear hS
            go_wp2_with fail
            go_roundg (n - (k + 1))
            case measure => omega
            case rel => exact ⟨k + 1, _, mn, by omega, rfl, by go_num, HAT3.out, HS.out.sub [0, 3, 4] rfl (by decide)⟩
          · go_wp2_with (refine wpList_load_any 55 _ rfl rfl _ 0 rfl [.int .u64 ov, .int .u64 os, .bool ook] _ (HS.out.blk 1 rfl).range Try.underlying55 rfl (by kernel_rfl) ?_)
            refine (HTL.out _ _ _ b hh ov os ook ⟨hv0, hv1⟩ hs0 HAT2.out.1.good HAT2.out.1.rng (HS.out.pull 2 rfl)).mono ?_
            rintro e w9 ⟨rfl, hS⟩
            have HS := Lib.hid hS; clear hS
            go_wp2_with fail
            go_roundg (n - (k + 1))
            case measure => omega
            case rel => exact ⟨k + 1, _, mn, by omega, rfl, by go_num, HAT3.out, HS.out.sub [0, 3, 4] rfl (by decide)⟩
          · have dw : (wa1 == -1) = false := by simp; omega
            have dw7 : decide (wa1 < 7) = false := by simp; omega
            clear hw
            go_wp2_with (refine wpList_load_any 55 _ rfl rfl _ 0 rfl [.int .u64 ov, .int .u64 os, .bool ook] _ (HS.out.blk 1 rfl).range Try.underlying55 rfl (by kernel_rfl) ?_)
            refine (HTL.out _ _ _ b hh ov os ook ⟨hv0, hv1⟩ hs0 HAT2.out.1.good HAT2.out.1.rng (HS.out.pull 2 rfl)).mono ?_
            rintro e w9 ⟨rfl, hS⟩
            have HS := Lib.hid hS; clear hS
            go_wp2_with fail
            go_roundg (n - (k + 1))
            case measure => omega
            case rel => exact ⟨k + 1, _, mn, by omega, rfl, by go_num, HAT3.out, HS.out.sub [0, 3, 4] rfl (by decide)⟩
        · obtain ⟨hfew, hm0, hm1, hcn⟩ := HFEW.out k hh nn HAT2.out HH8.out ov hv0
          rw [if_neg hk0] at hfew hm0 hm1
          have dk : ((k : Int) == 0) = false := by simpa using hk0
          have HK0 := Lib.hid hk0; clear hk0
          have HAT3 := Lib.hid (HATT.out k hh nn HAT2.out HH8.out ov os hv0)
          rw [if_neg HK0.out] at HAT3
          have hkw : IntKind.u64.wrap (k : Int) = (k : Int) := by rw [IntKind.wrap_u64]; omega
          have h5w : IntKind.u64.wrap (5 * nn) = 5 * nn := by rw [IntKind.wrap_u64]; omega
          have h53w : IntKind.u64.wrap (5 * nn + 3) = 5 * nn + 3 := by rw [IntKind.wrap_u64]; omega
          have dge : decide ((k : Int) ≥ 5 * nn + 3) = false := by simp; omega
          have hac := HAC.out hh HAT2.out.1 hcn HH8.out o HOO.out
          have HW := Lib.hid (HWH.out o.a)
          obtain ⟨o0, o1, o2, o3, o4, o5⟩ := o
          dsimp only at hac HW
          generalize whA c o1 = wa at hac HW
          obtain ⟨wa1, wa2, wa3⟩ := wa
          dsimp only at hac HW
          have q1 := (HS.out.blk 0 rfl).cell 1
          rw [show (enP ⟨o0, o1, o2, o3, o4, o5⟩)[1]? = some (.int .i64 o1) from rfl] at q1
          have ql := (HS.out.blk 0 rfl).lt
          go_wp2_with (first | (refine wpList_store_new 43 _ (enP ⟨o0, o1, o2, o3, o4, o5⟩).toArray rfl _ _ rfl rfl rfl (by kernel_rfl) (by simp [enP]) (all_oneCell_toArray honeO) ?_) | (refine wpList_load_any 31 _ rfl rfl _ 0 rfl cs _ (HS.out.blk 3 rfl).range Try.underlying31 rfl (by rw [hsz]; kernel_rfl) ?_))
          refine (HW.out _).mono ?_
          rintro e w6 ⟨rfl, hf⟩
          have HS := Lib.hid (HS.out.fr0 hf); clear hf q1 ql
          have q0 := (HS.out.blk 0 rfl).cell 0
          rw [show (enP ⟨o0, o1, o2, o3, o4, o5⟩)[0]? = some (.int .i64 o0) from rfl] at q0
          have ql := (HS.out.blk 0 rfl).lt
          rcases hac with ⟨rfl, hw⟩ | ⟨rfl, rfl, rfl⟩ | ⟨rfl, rfl, rfl⟩ | ⟨rfl, hw⟩
          · have dw : (wa1 == -1) = false := by simpa using hw
            clear hw
            go_wp2_with (refine wpList_load_any 55 _ rfl rfl _ 0 rfl [.int .u64 ov, .int .u64 os, .bool ook] _ (HS.out.blk 1 rfl).range Try.underlying55 rfl (by kernel_rfl) ?_)
            refine (HTL.out _ _ _ b hh ov os ook ⟨hv0, hv1⟩ hs0 HAT2.out.1.good HAT2.out.1.rng (HS.out.pull 2 rfl)).mono ?_
            rintro e w9 ⟨rfl, hS⟩
            have HS := Lib.hid hS; clear hS
            go_wp2_with fail
            go_roundg (n - (k + 1))
            case measure => omega
            case rel => exact ⟨k + 1, _, nn, by omega, rfl, by go_num, HAT3.out, HS.out.sub [0, 3, 4] rfl (by decide)⟩
          · go_wp2_with (refine wpList_load_any 55 _ rfl rfl _ 0 rfl [.int .u64 ov, .int .u64 os, .bool ook] _ (HS.out.blk 1 rfl).range Try.underlying55 rfl (by kernel_rfl) ?_)
            refine (HTL.out _ _ _ b hh ov os ook ⟨hv0, hv1⟩ hs0 HAT2.out.1.good HAT2.out.1.rng (HS.out.pull 2 rfl)).mono ?_
            rintro e w9 ⟨rfl, hS⟩
            have HS := Lib.hid hS; clear hS
            go_wp2_with fail
            go_roundg (n - (k + 1))
            case measure => omega
            case rel => exact ⟨k + 1, _, nn, by omega, rfl, by go_num, HAT3.out, HS.out.sub [0, 3, 4] rfl (by decide)⟩
          · go_wp2_with (refine wpList_load_any 55 _ rfl rfl _ 0 rfl [.int .u64 ov, .int .u64 os, .bool ook] _ (HS.out.blk 1 rfl).range Try.underlying55 rfl (by kernel_rfl) ?_)
            refine (HTL.out _ _ _ b hh ov os ook ⟨hv0, hv1⟩ hs0 HAT2.out.1.good HAT2.out.1.rng (HS.out.pull 2 rfl)).mono ?_
            rintro e w9 ⟨rfl, hS⟩
            have HS := Lib.hid hS; clear hS
            go_wp2_with fail
            go_roundg (n - (k + 1))
            case measure => omega
            case rel => exact ⟨k + 1, _, nn, by omega, rfl, by go_num, HAT3.out, HS.out.sub [0, 3, 4] rfl (by decide)⟩
          · have dw : (wa1 == -1) = false := by simp; omega
            have dw7 : decide (wa1 < 7) = false := by simp; omega
            clear hw
            go_wp2_with (refine wpList_load_any 55 _ rfl rfl _ 0 rfl [.int .u64 ov, .int .u64 os, .bool ook] _ (HS.out.blk 1 rfl).range Try.underlying55 rfl (by kernel_rfl) ?_)
            refine (HTL.out _ _ _ b hh ov os ook ⟨hv0, hv1⟩ hs0 HAT2.out.1.good HAT2.out.1.rng (HS.out.pull 2 rfl)).mono ?_
            rintro e w9 ⟨rfl, hS⟩
            have HS := Lib.hid hS; clear hS
            go_wp2_with fail
            go_roundg (n - (k + 1))
            case measure => omega
            case rel => exact ⟨k + 1, _, nn, by omega, rfl, by go_num, HAT3.out, HS.out.sub [0, 3, 4] rfl (by decide)⟩
    · obtain rfl : k = n := by omega
      have HS := Lib.hid hS; clear hS
      go_wp2_with fail
      go_ret
      exact ⟨rfl, HS.out.fr⟩
theorem hsteps_any (w : World) (c : Cfg) (who owner seq : Int) (oa : Option Addr) (n oc : Nat) (O : List O3) (hO : ArgE enO 3 w (.slice oa n oc) O) (hG : ∀ x ∈ O, goodO x) (hOn : n = O.length) :
    Calls Try.prog 11 #[cfgV c, .int .i64 who, .int .i64 owner, .int .u64 seq, .slice oa n oc] w fun e w' => e = .returned (.bool true) ∧ Fr [] w w' := by
  by_cases h0 : right c = true
  · by_cases h2 : n > 60
    · exact hsteps_s1 w c who owner seq oa n oc h0 (by simp; omega)
    · exact hsteps_good w c (by unfold right at h0; simpa using h0) who owner seq oa n oc O hO hG hOn.symm (by omega) h0
  · exact hsteps_s0 w c who owner seq oa n oc (by simpa using h0)
theorem hsteps_row (a b d f g l who owner seq : Int) (v' : Value) (O : List O3) (w : World) (hO : ArgG goodO enO 3 w v' O) (_ : O.length ≤ maxLen) :
    Calls Try.prog 11 #[.agg #[.int .i64 a, .int .i64 b, .int .i64 d, .int .i64 f, .int .u64 g, .int .u64 l], .int .i64 who, .int .i64 owner, .int .u64 seq, v'] w fun e w' => e = .returned (.bool true) ∧ Fr [] w w' := by
  obtain ⟨a2, c2, rfl, _⟩ := id hO.1
  exact hsteps_any w ⟨a, b, d, f, g, l⟩ who owner seq a2 _ c2 O hO.1 hO.2 rfl
end Go.Proofs.Ytccioehckfdjdaa
