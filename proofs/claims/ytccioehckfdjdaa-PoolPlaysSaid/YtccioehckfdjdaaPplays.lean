/- The law PoolPlays, walked. -/
import Derived.Test.YtccioehckfdjdaaPreads
import Derived.Test.YtccioehckfdjdaaPpl
import Derived.Test.YtccioehckfdjdaaPall
set_option linter.unusedSimpArgs false
set_option linter.unusedVariables false
namespace Go.Proofs.Ytccioehckfdjdaa
open Go.RowKit Go.Tum Go.Tum.Y
theorem joinG {A : Prop} {G S : Value → Value → World → Prop} (h : (∀ v v2 wF, S v v2 wF → G v v2 wF) → A) (x : ∀ v v2 wF, S v v2 wF → G v v2 wF) : A := h x
theorem joinE {A : Prop} {G S : Nat → Nat → Value → Value → World → Prop} (h : (∀ X Y vn vl wF, S X Y vn vl wF → G X Y vn vl wF) → A) (x : ∀ X Y vn vl wF, S X Y vn vl wF → G X Y vn vl wF) : A := h x
theorem rback_sep {w0 w : World} {Rs : List Thing} (R : Nat) (sv : Value) (p : List (Int × Int)) (m : Int) (hp : p.length ≤ 1000000) (h : Sep w0 w (refT sv p :: Rs)) :
    Calls Try.prog 51 #[.agg #[.int .i64 R, sv], .int .i64 m] w fun e w' => ∃ sv', e = .returned (.tuple #[.agg [Value.int .i64 R, sv'].toArray, .bool (W.rback p m).2]) ∧ Sep w0 w' (refT sv' (W.rback p m).1 :: Rs) := by
  obtain ⟨fp, hP, _, hk⟩ := h.get 0 rfl
  refine (rback_any 0 R sv p m w hP.2 hp).mono ?_
  rintro e w' ⟨sv', rfl, hf, hrow, hown⟩
  refine ⟨sv', rfl, ?_⟩
  exact hk (refT sv' (W.rback p m).1) w' sv'.ownBlock.toList ⟨rfl, hrow⟩ (hf.mono (by simp)) (fun q hq => by rw [hP.1, ← hown]; exact .inl hq)
theorem rendP_len (c : Cfg) (wt wl top lim : Int) (R : Nat) (p : List (Int × Int)) : (rendP c wt wl top lim R p).length ≤ p.length + 2 := by
  unfold rendP
  dsimp only
  have h1 := P.rp1_len R p (at_ c 12 0 0) top
  have h2 := P.rp1_len R p (at_ c 14 0 0) lim
  have h3 := P.rp1_len R (P.rp1 R p (at_ c 12 0 0) top) (at_ c 14 0 0) lim
  unfold P.rp1 at h1 h2 h3
  split <;> split <;> omega
set_option maxRecDepth 100000 in
set_option maxHeartbeats 4000000 in
theorem pplays_s0 (w : World) (c : Cfg) (seq room : Int) (oa aa : Option Addr) (n oc m ac : Nat) (hrc : right c = false) : Calls Try.prog 7 #[.agg (cfgL c).toArray, .int .u64 seq, .slice oa n oc, .slice aa m ac, .int .i64 room] w fun e w' => e = .returned (.bool true) ∧ Fr [] w w' := by
  have HS := Lib.hid ((Sep.nil (Fr.refl [] w)).new 24 (cfgL c))
  have HR := Lib.hid (fun w => rright10_any w c)
  have hsz6 : (cfgL c).length = 6 := rfl
  generalize cfgL c = cl at *
  go_enter Try.func7, Try.ntmps7
  go_wp2_with fail
  refine (alive10_any _).mono ?_
  rintro e w1 ⟨rfl, hf⟩
  have HS := Lib.hid (HS.out.fr0 hf)
  clear hf
  go_wp2_with (first | (refine wpList_load_any 24 _ rfl rfl _ 0 rfl cl _ (HS.out.blk 0 rfl).range Try.underlying24 rfl (by rw [hsz6]; kernel_rfl) ?_))
  refine (HR.out _).mono ?_
  rintro e w1 ⟨rfl, hf⟩
  have HS := Lib.hid (HS.out.fr0 hf)
  clear hf
  rw [hrc]
  go_wp2_with fail
  go_ret
  exact ⟨rfl, HS.out.fr⟩
set_option maxRecDepth 100000 in
set_option maxHeartbeats 4000000 in
theorem pplays_s1 (w : World) (c : Cfg) (seq room : Int) (oa aa : Option Addr) (n oc m ac : Nat) (hrc : right c = true) (d1 : decide ((n : Int) > 60) = true) : Calls Try.prog 7 #[.agg (cfgL c).toArray, .int .u64 seq, .slice oa n oc, .slice aa m ac, .int .i64 room] w fun e w' => e = .returned (.bool true) ∧ Fr [] w w' := by
  have HS := Lib.hid ((Sep.nil (Fr.refl [] w)).new 24 (cfgL c))
  have HR := Lib.hid (fun w => rright10_any w c)
  have hsz6 : (cfgL c).length = 6 := rfl
  generalize cfgL c = cl at *
  go_enter Try.func7, Try.ntmps7
  go_wp2_with fail
  refine (alive10_any _).mono ?_
  rintro e w1 ⟨rfl, hf⟩
  have HS := Lib.hid (HS.out.fr0 hf)
  clear hf
  go_wp2_with (first | (refine wpList_load_any 24 _ rfl rfl _ 0 rfl cl _ (HS.out.blk 0 rfl).range Try.underlying24 rfl (by rw [hsz6]; kernel_rfl) ?_))
  refine (HR.out _).mono ?_
  rintro e w1 ⟨rfl, hf⟩
  have HS := Lib.hid (HS.out.fr0 hf)
  clear hf
  rw [hrc]
  go_wp2_with fail
  go_ret
  exact ⟨rfl, HS.out.fr⟩
set_option maxRecDepth 100000 in
set_option maxHeartbeats 4000000 in
theorem pplays_s2 (w : World) (c : Cfg) (seq room : Int) (oa aa : Option Addr) (n oc m ac : Nat) (hrc : right c = true) (d1 : decide ((n : Int) > 60) = false) (d2 : decide ((m : Int) > 30) = true) : Calls Try.prog 7 #[.agg (cfgL c).toArray, .int .u64 seq, .slice oa n oc, .slice aa m ac, .int .i64 room] w fun e w' => e = .returned (.bool true) ∧ Fr [] w w' := by
  have HS := Lib.hid ((Sep.nil (Fr.refl [] w)).new 24 (cfgL c))
  have HR := Lib.hid (fun w => rright10_any w c)
  have hsz6 : (cfgL c).length = 6 := rfl
  generalize cfgL c = cl at *
  go_enter Try.func7, Try.ntmps7
  go_wp2_with fail
  refine (alive10_any _).mono ?_
  rintro e w1 ⟨rfl, hf⟩
  have HS := Lib.hid (HS.out.fr0 hf)
  clear hf
  go_wp2_with (first | (refine wpList_load_any 24 _ rfl rfl _ 0 rfl cl _ (HS.out.blk 0 rfl).range Try.underlying24 rfl (by rw [hsz6]; kernel_rfl) ?_))
  refine (HR.out _).mono ?_
  rintro e w1 ⟨rfl, hf⟩
  have HS := Lib.hid (HS.out.fr0 hf)
  clear hf
  rw [hrc]
  go_wp2_with fail
  go_ret
  exact ⟨rfl, HS.out.fr⟩
set_option maxRecDepth 100000 in
set_option maxHeartbeats 16000000 in
theorem pplays_main (w : World) (c : Cfg) (hok : Y.Ok c) (seq room : Int) (oa aa : Option Addr) (n oc m ac : Nat) (O : List O3) (L : List (Int × Int)) (hl : O.length = n) (hn : n ≤ 60) (hO : ArgE enO 3 w (.slice oa n oc) O) (hG : ∀ x ∈ O, goodO x) (hm : m = L.length) (hm30 : m ≤ 30) (hA : ArgE enA2 2 w (.slice aa m ac) L) : Calls Try.prog 7 #[.agg (cfgL c).toArray, .int .u64 seq, .slice oa n oc, .slice aa m ac, .int .i64 room] w fun e w' => e = .returned (.bool true) ∧ Fr [] w w' := by
  have hrc : right c = true := decide_eq_true hok
  have d1 : decide ((n : Int) > 60) = false := by simp; omega
  have d2 : decide ((m : Int) > 30) = false := by simp; omega
  have hnn : (n : Int) ≤ 60 := by omega
  have hmi : (m : Int) ≤ 30 := by omega
  have HOF := Lib.hid (fun w => of10_any w c hok)
  have HPR := Lib.hid (fun (w' : World) (f : Fr [] w w') => pread_any w' c hok seq oa n oc O hl (by omega) (hO.fr f) (fun o ho => ⟨(hG o ho).1, (hG o ho).2.1⟩))
  obtain ⟨kn, hfd1, hfd2, hfd3, hgone⟩ := P.feed_told (c := c) (seq := seq) O 0 P.new0
  have hpok := P.feed_ok hok seq O 0 P.new0 (P.ok_new c hok) (fun o ho => ⟨(hG o ho).1, (hG o ho).2.1⟩)
  obtain ⟨⟨p0, cnt⟩, hfd⟩ : ∃ X, P.feed c seq O 0 P.new0 = X := ⟨_, rfl⟩
  rw [hfd] at hfd1 hfd3 hpok
  dsimp only at hfd1 hfd3 hpok
  obtain rfl : cnt = kn := by omega
  have HFD := Lib.hid hfd
  have hag := P.rread_told hok seq (O.take cnt) (fun o ho => (hG o (List.mem_of_mem_take ho)).1) hgone
  have HRD : Hid (∀ w', Fr [] w w' → Calls Try.prog 28 #[.agg (cfgL c).toArray, .int .u64 seq, .agg (tapeL (.slice oa cnt oc) P.tp0).toArray] w' fun e w'' => ∃ vn vl, e = .returned (.tuple #[.agg (rpL c vn vl (P.rread c seq (O.take cnt)).1.wt (P.rread c seq (O.take cnt)).1.wl (P.rread c seq (O.take cnt)).1.top (P.rread c seq (O.take cnt)).1.nl).toArray, .agg (tapeL (.slice oa cnt oc) (P.rread c seq (O.take cnt)).2.1).toArray, .int .i64 (P.rread c seq (O.take cnt)).2.2]) ∧ vn.oneCell' = true ∧ vl.oneCell' = true ∧ Sep w' w'' [rowT 0 22 1 vn (P.rread c seq (O.take cnt)).1.ns.length ((P.rread c seq (O.take cnt)).1.ns.map (Value.int .u64)), rowT 0 22 1 vl (P.rread c seq (O.take cnt)).1.lim.length ((P.rread c seq (O.take cnt)).1.lim.map (Value.int .u64))]) := fun w' f =>
    rread10_any w' c hok seq oa cnt oc (by omega) (O.take cnt) (by rw [List.length_take]; omega) ((hO.takeP cnt (by omega)).fr f) (fun x hx => hG x (List.mem_of_mem_take hx)) _ rfl
  have hnsl : (P.vals ((O.take cnt).take c.t.toNat)).length ≤ 1000 := by unfold P.vals; rw [List.length_map, List.length_take, List.length_take]; omega
  rw [← hfd3] at hag
  obtain ⟨ns, hns⟩ : ∃ ns, P.vals ((O.take cnt).take c.t.toNat) = ns := ⟨_, rfl⟩
  rw [hns] at hag hnsl
  clear hns
  obtain ⟨Z, hZ⟩ : ∃ Z, P.rread c seq (O.take cnt) = Z := ⟨_, rfl⟩
  rw [hZ] at hag HRD
  clear hZ hfd hfd1 hfd3 hgone
  obtain ⟨a, T, st⟩ := Z
  obtain ⟨hs, _, hgood⟩ := hag
  dsimp only at hs hgood HRD
  subst hs
  have HGD := Lib.hid hgood
  have HPO := Lib.hid hpok
  clear hgood hpok
  have hoc : n ≤ oc := by
    obtain ⟨_, cap', e, hh, _⟩ := hO
    simp only [Value.slice.injEq] at e
    omega
  have hcoc : cnt ≤ oc := by omega
  have hcoi : (cnt : Int) ≤ (oc : Int) := by omega
  have hone1 := tapeL_one oa cnt oc T
  have HRQ := Lib.hid (rqf c)
  have HOK := Lib.hid hok
  have HA := Lib.hid hA
  have HM := Lib.hid hm
  clear hO hG hA hm hl
  have hsz : (mapCells c).length = 24 := rfl
  have hone := oneMapP c
  have RPeq : rpL c = rpL c := rfl
  clear RPeq
  unfold mapV at *
  generalize mapCells c = cs at *
  obtain ⟨RQ, hRQ⟩ : ∃ RQ, rpL c = RQ := ⟨_, rfl⟩
  rw [hRQ] at HRQ HRD
  have HRQE := Lib.hid hRQ
  clear hRQ
  have HS := Lib.hid ((Sep.nil (Fr.refl [] w)).new 24 (cfgL c))
  have HR := Lib.hid (fun w => rright10_any w c)
  have hsz6 : (cfgL c).length = 6 := rfl
  generalize cfgL c = cl at *
  go_enter Try.func7, Try.ntmps7
  go_wp2_with fail
  refine (alive10_any _).mono ?_
  rintro e w1 ⟨rfl, hf⟩
  have HS := Lib.hid (HS.out.fr0 hf)
  clear hf
  go_wp2_with (first | (refine wpList_load_any 24 _ rfl rfl _ 0 rfl cl _ (HS.out.blk 0 rfl).range Try.underlying24 rfl (by rw [hsz6]; kernel_rfl) ?_))
  refine (HR.out _).mono ?_
  rintro e w1 ⟨rfl, hf⟩
  have HS := Lib.hid (HS.out.fr0 hf)
  clear hf
  rw [hrc]
  go_wp2_with (first | (refine wpList_load_any 24 _ rfl rfl _ 0 rfl cl _ (HS.out.blk 0 rfl).range Try.underlying24 rfl (by rw [hsz6]; kernel_rfl) ?_))
  refine (HOF.out _).mono ?_
  rintro e w2 ⟨rfl, hf⟩
  have HS := Lib.hid ((HS.out.fr0 hf).new 31 cs); clear hf
  go_wp2_with (first | (refine wpList_store_new 31 _ (cs).toArray rfl _ _ rfl rfl rfl (by rw [List.size_toArray, hsz]; kernel_rfl) (by simp [hsz]) (all_oneCell_toArray hone) ?_) | (refine wpList_load_any 31 _ rfl rfl _ 0 rfl cs _ (HS.out.blk 0 rfl).range Try.underlying31 rfl (by rw [hsz]; kernel_rfl) ?_))
  refine (HPR.out _ HS.out.fr).mono ?_
  rintro e w3 ⟨b, rfl, hN⟩
  rw [HFD.out] at hN ⊢
  have HS := Lib.hid (HS.out.fresh hN.toFresh); clear hN
  dsimp only at HS ⊢
  go_wp2_with fail
  have hmc := (HS.out.blk 2 rfl).drew
  have HRD2 := HRD
  refine step_start ([6, 11, 12], [13, 14]) [] (by kernel_rfl) ?_
  refine step_reads (N := 10) [0, 1, 2, 3, 4, 5] (by kernel_rfl) ⟨⟨_, Fr.refl _ _⟩, rfl⟩ ?_
  simp only [theOps, nthOp, List.map_cons, List.map_nil, Array.getD_eq_getD_getElem?, List.getElem?_toArray, List.getElem?_cons_succ, List.getElem?_cons_zero, Option.getD_some]
  refine wpQuiet_load_mid 24 _ w.heap.size 0 cl _ rfl rfl rfl (rangeAt_after hmc (by simp)) Try.underlying24 rfl (by rw [hsz6]; kernel_rfl) ?_
  simp only [Act.put, List.setIfInBounds_toArray, List.set_cons_zero, List.set_cons_succ]
  repeat (first | go_big_quiet_step (fail) | quiet_step (fail))
  refine wpQuiet_nil ?_
  have HS := Lib.hid HS.out.drew
  clear hmc
  generalize World.drew _ = wd at HS ⊢
  have HF := Lib.hid (Fr.refl [] wd)
  apply joinE (S := fun X2 Y2 vn vl wF => vn.oneCell' = true ∧ vl.oneCell' = true ∧ Sep w wF [blkT X2 65 (RQ vn vl a.wt a.wl a.top a.nl), rowT 0 22 1 vn a.ns.length (a.ns.map (Value.int .u64)), rowT 0 22 1 vl a.lim.length (a.lim.map (Value.int .u64)), poolT c seq b p0, blkT w2.heap.size 31 cs, blkT w.heap.size 24 cl])
  · intro HR
    refine step_three (N := 9) 6 11 12 (by kernel_rfl) rfl rfl rfl ?_ ?_ ?_
    · go_wp2_with fail
      refine (HRD2.out _ HS.out.fr).mono ?_
      rintro e w9 ⟨vn, vl, rfl, hv1, hv2, hN⟩
      have HF := Lib.hid (HF.out.trans hN.fr)
      have hS := HS.out.append hN
      simp only [List.cons_append, List.nil_append] at hS
      have HS := Lib.hid hS; clear hS hN
      go_wp2_with fail
      refine ⟨⟨⟨_, (by exact HF.out)⟩, rfl⟩, ?_⟩
      refine step_pures (N := 5) [7, 8, 9, 10] (by kernel_rfl) ?_
      simp only [theOps, nthOp, List.map_cons, List.map_nil, Array.getD_eq_getD_getElem?, List.getElem?_toArray, List.getElem?_cons_succ, List.getElem?_cons_zero, Option.getD_some]
      repeat (first | go_big_quiet_step (fail) | quiet_step (fail))
      refine wpQuiet_nil ?_
      refine step_two (N := 4) 11 12 (by kernel_rfl) rfl rfl ?_ ?_
      · go_wp2_with fail
        have hf := Fr.alloc HF.out (.cells ([.int .i64 0, .int .i64 0, .int .i64 0, .int .i64 0, .int .u64 0, .int .u64 0, .slice none 0 0, .slice none 0 0, .int .i64 0, .int .i64 0, .int .i64 0, .int .i64 0]).toArray 65)
        have hS := HS.out.new 65 ([.int .i64 0, .int .i64 0, .int .i64 0, .int .i64 0, .int .u64 0, .int .u64 0, .slice none 0 0, .slice none 0 0, .int .i64 0, .int .i64 0, .int .i64 0, .int .i64 0])
        have HF := Lib.hid hf; have HS := Lib.hid hS; clear hf hS
        refine ⟨⟨⟨_, (by exact HF.out)⟩, rfl⟩, ?_⟩
        generalize World.alloc _ _ = wn1 at HF HS ⊢
        generalize w9.heap.size = X2 at HS ⊢
        refine step_keep (N := 3) 12 (by kernel_rfl) rfl ?_
        go_wp2_with fail
        have hf := Fr.alloc HF.out (.cells ([.slice none 0 0, .int .i64 0, .int .i64 0, .int .i64 0, .int .u64 0, .int .u64 0, .int .u64 0, .int .u64 0, .bool false]).toArray 47)
        have hS := HS.out.new 47 ([.slice none 0 0, .int .i64 0, .int .i64 0, .int .i64 0, .int .u64 0, .int .u64 0, .int .u64 0, .int .u64 0, .bool false])
        have HF := Lib.hid hf; have HS := Lib.hid hS; clear hf hS
        refine ⟨⟨⟨_, (by exact HF.out)⟩, rfl⟩, ?_⟩
        generalize World.alloc _ _ = wn2 at HF HS ⊢
        generalize wn1.heap.size = Y2 at HS ⊢
        have HS := Lib.hid (HS.out.sub (Ts' := [_, _, _, _, _, _, _]) [0, 1, 2, 3, 4, 5, 6] rfl (by decide))
        refine step_hard (N := 2) 13 (by kernel_rfl) rfl ?_
        refine wpList_store_sep HS.out 1 rfl (RQ vn vl a.wt a.wl a.top a.nl) 65 _ _ rfl rfl rfl rfl (by rw [HRQ.out.len]; rfl) (by rw [HRQ.out.len]; kernel_rfl) (HRQ.out.one _ _ hv1 hv2 _ _ _ _) (fun wA hA _ => ?_)
        have HS := Lib.hid hA; clear hA
        simp only [List.set_cons_zero, List.set_cons_succ] at HS
        go_wp2_with fail
        refine step_hard (N := 1) 14 (by kernel_rfl) rfl ?_
        refine wpList_store_sep HS.out 0 rfl (tapeL (.slice oa cnt oc) T) 47 _ _ rfl rfl rfl rfl rfl (by kernel_rfl) hone1 (fun wA hA _ => ?_)
        have HS := Lib.hid hA; clear hA
        simp only [List.set_cons_zero, List.set_cons_succ] at HS
        go_wp2_with fail
        refine step_pures (N := 0) [15] (by kernel_rfl) ?_
        simp only [theOps, nthOp, List.map_cons, List.map_nil, Array.getD_eq_getD_getElem?, List.getElem?_toArray, List.getElem?_cons_succ, List.getElem?_cons_zero, Option.getD_some]
        repeat (first | go_big_quiet_step (fail) | quiet_step (fail))
        refine wpQuiet_nil ?_
        refine step_done (by kernel_rfl) ?_
        exact HR X2 Y2 vn vl _ ⟨hv1, hv2, HS.out.tail⟩
      · go_wp2_with fail
        have hf := Fr.alloc HF.out (.cells ([.slice none 0 0, .int .i64 0, .int .i64 0, .int .i64 0, .int .u64 0, .int .u64 0, .int .u64 0, .int .u64 0, .bool false]).toArray 47)
        have hS := HS.out.new 47 ([.slice none 0 0, .int .i64 0, .int .i64 0, .int .i64 0, .int .u64 0, .int .u64 0, .int .u64 0, .int .u64 0, .bool false])
        have HF := Lib.hid hf; have HS := Lib.hid hS; clear hf hS
        refine ⟨⟨⟨_, (by exact HF.out)⟩, rfl⟩, ?_⟩
        generalize World.alloc _ _ = wn3 at HF HS ⊢
        generalize w9.heap.size = Y2 at HS ⊢
        refine step_keep (N := 3) 11 (by kernel_rfl) rfl ?_
        go_wp2_with fail
        have hf := Fr.alloc HF.out (.cells ([.int .i64 0, .int .i64 0, .int .i64 0, .int .i64 0, .int .u64 0, .int .u64 0, .slice none 0 0, .slice none 0 0, .int .i64 0, .int .i64 0, .int .i64 0, .int .i64 0]).toArray 65)
        have hS := HS.out.new 65 ([.int .i64 0, .int .i64 0, .int .i64 0, .int .i64 0, .int .u64 0, .int .u64 0, .slice none 0 0, .slice none 0 0, .int .i64 0, .int .i64 0, .int .i64 0, .int .i64 0])
        have HF := Lib.hid hf; have HS := Lib.hid hS; clear hf hS
        refine ⟨⟨⟨_, (by exact HF.out)⟩, rfl⟩, ?_⟩
        generalize World.alloc _ _ = wn4 at HF HS ⊢
        generalize wn3.heap.size = X2 at HS ⊢
        have HS := Lib.hid (HS.out.sub (Ts' := [_, _, _, _, _, _, _]) [1, 0, 2, 3, 4, 5, 6] rfl (by decide))
        refine step_hard (N := 2) 13 (by kernel_rfl) rfl ?_
        refine wpList_store_sep HS.out 1 rfl (RQ vn vl a.wt a.wl a.top a.nl) 65 _ _ rfl rfl rfl rfl (by rw [HRQ.out.len]; rfl) (by rw [HRQ.out.len]; kernel_rfl) (HRQ.out.one _ _ hv1 hv2 _ _ _ _) (fun wA hA _ => ?_)
        have HS := Lib.hid hA; clear hA
        simp only [List.set_cons_zero, List.set_cons_succ] at HS
        go_wp2_with fail
        refine step_hard (N := 1) 14 (by kernel_rfl) rfl ?_
        refine wpList_store_sep HS.out 0 rfl (tapeL (.slice oa cnt oc) T) 47 _ _ rfl rfl rfl rfl rfl (by kernel_rfl) hone1 (fun wA hA _ => ?_)
        have HS := Lib.hid hA; clear hA
        simp only [List.set_cons_zero, List.set_cons_succ] at HS
        go_wp2_with fail
        refine step_pures (N := 0) [15] (by kernel_rfl) ?_
        simp only [theOps, nthOp, List.map_cons, List.map_nil, Array.getD_eq_getD_getElem?, List.getElem?_toArray, List.getElem?_cons_succ, List.getElem?_cons_zero, Option.getD_some]
        repeat (first | go_big_quiet_step (fail) | quiet_step (fail))
        refine wpQuiet_nil ?_
        refine step_done (by kernel_rfl) ?_
        exact HR X2 Y2 vn vl _ ⟨hv1, hv2, HS.out.tail⟩
    · go_wp2_with fail
      have hf := Fr.alloc HF.out (.cells ([.int .i64 0, .int .i64 0, .int .i64 0, .int .i64 0, .int .u64 0, .int .u64 0, .slice none 0 0, .slice none 0 0, .int .i64 0, .int .i64 0, .int .i64 0, .int .i64 0]).toArray 65)
      have hS := HS.out.new 65 ([.int .i64 0, .int .i64 0, .int .i64 0, .int .i64 0, .int .u64 0, .int .u64 0, .slice none 0 0, .slice none 0 0, .int .i64 0, .int .i64 0, .int .i64 0, .int .i64 0])
      have HF := Lib.hid hf; have HS := Lib.hid hS; clear hf hS
      refine ⟨⟨⟨_, (by exact HF.out)⟩, rfl⟩, ?_⟩
      generalize World.alloc _ _ = wn5 at HF HS ⊢
      generalize wd.heap.size = X2 at HS ⊢
      refine step_two (N := 8) 6 12 (by kernel_rfl) rfl rfl ?_ ?_
      · go_wp2_with fail
        refine (HRD2.out _ HS.out.fr).mono ?_
        rintro e w9 ⟨vn, vl, rfl, hv1, hv2, hN⟩
        have HF := Lib.hid (HF.out.trans hN.fr)
        have hS := HS.out.append hN
        simp only [List.cons_append, List.nil_append] at hS
        have HS := Lib.hid hS; clear hS hN
        go_wp2_with fail
        refine ⟨⟨⟨_, (by exact HF.out)⟩, rfl⟩, ?_⟩
        refine step_pures (N := 4) [7, 8, 9, 10] (by kernel_rfl) ?_
        simp only [theOps, nthOp, List.map_cons, List.map_nil, Array.getD_eq_getD_getElem?, List.getElem?_toArray, List.getElem?_cons_succ, List.getElem?_cons_zero, Option.getD_some]
        repeat (first | go_big_quiet_step (fail) | quiet_step (fail))
        refine wpQuiet_nil ?_
        refine step_keep (N := 3) 12 (by kernel_rfl) rfl ?_
        go_wp2_with fail
        have hf := Fr.alloc HF.out (.cells ([.slice none 0 0, .int .i64 0, .int .i64 0, .int .i64 0, .int .u64 0, .int .u64 0, .int .u64 0, .int .u64 0, .bool false]).toArray 47)
        have hS := HS.out.new 47 ([.slice none 0 0, .int .i64 0, .int .i64 0, .int .i64 0, .int .u64 0, .int .u64 0, .int .u64 0, .int .u64 0, .bool false])
        have HF := Lib.hid hf; have HS := Lib.hid hS; clear hf hS
        refine ⟨⟨⟨_, (by exact HF.out)⟩, rfl⟩, ?_⟩
        generalize World.alloc _ _ = wn6 at HF HS ⊢
        generalize w9.heap.size = Y2 at HS ⊢
        have HS := Lib.hid (HS.out.sub (Ts' := [_, _, _, _, _, _, _]) [0, 3, 1, 2, 4, 5, 6] rfl (by decide))
        refine step_hard (N := 2) 13 (by kernel_rfl) rfl ?_
        refine wpList_store_sep HS.out 1 rfl (RQ vn vl a.wt a.wl a.top a.nl) 65 _ _ rfl rfl rfl rfl (by rw [HRQ.out.len]; rfl) (by rw [HRQ.out.len]; kernel_rfl) (HRQ.out.one _ _ hv1 hv2 _ _ _ _) (fun wA hA _ => ?_)
        have HS := Lib.hid hA; clear hA
        simp only [List.set_cons_zero, List.set_cons_succ] at HS
        go_wp2_with fail
        refine step_hard (N := 1) 14 (by kernel_rfl) rfl ?_
        refine wpList_store_sep HS.out 0 rfl (tapeL (.slice oa cnt oc) T) 47 _ _ rfl rfl rfl rfl rfl (by kernel_rfl) hone1 (fun wA hA _ => ?_)
        have HS := Lib.hid hA; clear hA
        simp only [List.set_cons_zero, List.set_cons_succ] at HS
        go_wp2_with fail
        refine step_pures (N := 0) [15] (by kernel_rfl) ?_
        simp only [theOps, nthOp, List.map_cons, List.map_nil, Array.getD_eq_getD_getElem?, List.getElem?_toArray, List.getElem?_cons_succ, List.getElem?_cons_zero, Option.getD_some]
        repeat (first | go_big_quiet_step (fail) | quiet_step (fail))
        refine wpQuiet_nil ?_
        refine step_done (by kernel_rfl) ?_
        exact HR X2 Y2 vn vl _ ⟨hv1, hv2, HS.out.tail⟩
      · go_wp2_with fail
        have hf := Fr.alloc HF.out (.cells ([.slice none 0 0, .int .i64 0, .int .i64 0, .int .i64 0, .int .u64 0, .int .u64 0, .int .u64 0, .int .u64 0, .bool false]).toArray 47)
        have hS := HS.out.new 47 ([.slice none 0 0, .int .i64 0, .int .i64 0, .int .i64 0, .int .u64 0, .int .u64 0, .int .u64 0, .int .u64 0, .bool false])
        have HF := Lib.hid hf; have HS := Lib.hid hS; clear hf hS
        refine ⟨⟨⟨_, (by exact HF.out)⟩, rfl⟩, ?_⟩
        generalize World.alloc _ _ = wn7 at HF HS ⊢
        generalize wn5.heap.size = Y2 at HS ⊢
        refine step_keep (N := 7) 6 (by kernel_rfl) rfl ?_
        go_wp2_with fail
        refine (HRD2.out _ HS.out.fr).mono ?_
        rintro e w9 ⟨vn, vl, rfl, hv1, hv2, hN⟩
        have HF := Lib.hid (HF.out.trans hN.fr)
        have hS := HS.out.append hN
        simp only [List.cons_append, List.nil_append] at hS
        have HS := Lib.hid hS; clear hS hN
        go_wp2_with fail
        refine ⟨⟨⟨_, (by exact HF.out)⟩, rfl⟩, ?_⟩
        refine step_pures (N := 3) [7, 8, 9, 10] (by kernel_rfl) ?_
        simp only [theOps, nthOp, List.map_cons, List.map_nil, Array.getD_eq_getD_getElem?, List.getElem?_toArray, List.getElem?_cons_succ, List.getElem?_cons_zero, Option.getD_some]
        repeat (first | go_big_quiet_step (fail) | quiet_step (fail))
        refine wpQuiet_nil ?_
        have HS := Lib.hid (HS.out.sub (Ts' := [_, _, _, _, _, _, _]) [2, 3, 0, 1, 4, 5, 6] rfl (by decide))
        refine step_hard (N := 2) 13 (by kernel_rfl) rfl ?_
        refine wpList_store_sep HS.out 1 rfl (RQ vn vl a.wt a.wl a.top a.nl) 65 _ _ rfl rfl rfl rfl (by rw [HRQ.out.len]; rfl) (by rw [HRQ.out.len]; kernel_rfl) (HRQ.out.one _ _ hv1 hv2 _ _ _ _) (fun wA hA _ => ?_)
        have HS := Lib.hid hA; clear hA
        simp only [List.set_cons_zero, List.set_cons_succ] at HS
        go_wp2_with fail
        refine step_hard (N := 1) 14 (by kernel_rfl) rfl ?_
        refine wpList_store_sep HS.out 0 rfl (tapeL (.slice oa cnt oc) T) 47 _ _ rfl rfl rfl rfl rfl (by kernel_rfl) hone1 (fun wA hA _ => ?_)
        have HS := Lib.hid hA; clear hA
        simp only [List.set_cons_zero, List.set_cons_succ] at HS
        go_wp2_with fail
        refine step_pures (N := 0) [15] (by kernel_rfl) ?_
        simp only [theOps, nthOp, List.map_cons, List.map_nil, Array.getD_eq_getD_getElem?, List.getElem?_toArray, List.getElem?_cons_succ, List.getElem?_cons_zero, Option.getD_some]
        repeat (first | go_big_quiet_step (fail) | quiet_step (fail))
        refine wpQuiet_nil ?_
        refine step_done (by kernel_rfl) ?_
        exact HR X2 Y2 vn vl _ ⟨hv1, hv2, HS.out.tail⟩
    · go_wp2_with fail
      have hf := Fr.alloc HF.out (.cells ([.slice none 0 0, .int .i64 0, .int .i64 0, .int .i64 0, .int .u64 0, .int .u64 0, .int .u64 0, .int .u64 0, .bool false]).toArray 47)
      have hS := HS.out.new 47 ([.slice none 0 0, .int .i64 0, .int .i64 0, .int .i64 0, .int .u64 0, .int .u64 0, .int .u64 0, .int .u64 0, .bool false])
      have HF := Lib.hid hf; have HS := Lib.hid hS; clear hf hS
      refine ⟨⟨⟨_, (by exact HF.out)⟩, rfl⟩, ?_⟩
      generalize World.alloc _ _ = wn8 at HF HS ⊢
      generalize wd.heap.size = Y2 at HS ⊢
      refine step_two (N := 8) 6 11 (by kernel_rfl) rfl rfl ?_ ?_
      · go_wp2_with fail
        refine (HRD2.out _ HS.out.fr).mono ?_
        rintro e w9 ⟨vn, vl, rfl, hv1, hv2, hN⟩
        have HF := Lib.hid (HF.out.trans hN.fr)
        have hS := HS.out.append hN
        simp only [List.cons_append, List.nil_append] at hS
        have HS := Lib.hid hS; clear hS hN
        go_wp2_with fail
        refine ⟨⟨⟨_, (by exact HF.out)⟩, rfl⟩, ?_⟩
        refine step_pures (N := 4) [7, 8, 9, 10] (by kernel_rfl) ?_
        simp only [theOps, nthOp, List.map_cons, List.map_nil, Array.getD_eq_getD_getElem?, List.getElem?_toArray, List.getElem?_cons_succ, List.getElem?_cons_zero, Option.getD_some]
        repeat (first | go_big_quiet_step (fail) | quiet_step (fail))
        refine wpQuiet_nil ?_
        refine step_keep (N := 3) 11 (by kernel_rfl) rfl ?_
        go_wp2_with fail
        have hf := Fr.alloc HF.out (.cells ([.int .i64 0, .int .i64 0, .int .i64 0, .int .i64 0, .int .u64 0, .int .u64 0, .slice none 0 0, .slice none 0 0, .int .i64 0, .int .i64 0, .int .i64 0, .int .i64 0]).toArray 65)
        have hS := HS.out.new 65 ([.int .i64 0, .int .i64 0, .int .i64 0, .int .i64 0, .int .u64 0, .int .u64 0, .slice none 0 0, .slice none 0 0, .int .i64 0, .int .i64 0, .int .i64 0, .int .i64 0])
        have HF := Lib.hid hf; have HS := Lib.hid hS; clear hf hS
        refine ⟨⟨⟨_, (by exact HF.out)⟩, rfl⟩, ?_⟩
        generalize World.alloc _ _ = wn9 at HF HS ⊢
        generalize w9.heap.size = X2 at HS ⊢
        have HS := Lib.hid (HS.out.sub (Ts' := [_, _, _, _, _, _, _]) [3, 0, 1, 2, 4, 5, 6] rfl (by decide))
        refine step_hard (N := 2) 13 (by kernel_rfl) rfl ?_
        refine wpList_store_sep HS.out 1 rfl (RQ vn vl a.wt a.wl a.top a.nl) 65 _ _ rfl rfl rfl rfl (by rw [HRQ.out.len]; rfl) (by rw [HRQ.out.len]; kernel_rfl) (HRQ.out.one _ _ hv1 hv2 _ _ _ _) (fun wA hA _ => ?_)
        have HS := Lib.hid hA; clear hA
        simp only [List.set_cons_zero, List.set_cons_succ] at HS
        go_wp2_with fail
        refine step_hard (N := 1) 14 (by kernel_rfl) rfl ?_
        refine wpList_store_sep HS.out 0 rfl (tapeL (.slice oa cnt oc) T) 47 _ _ rfl rfl rfl rfl rfl (by kernel_rfl) hone1 (fun wA hA _ => ?_)
        have HS := Lib.hid hA; clear hA
        simp only [List.set_cons_zero, List.set_cons_succ] at HS
        go_wp2_with fail
        refine step_pures (N := 0) [15] (by kernel_rfl) ?_
        simp only [theOps, nthOp, List.map_cons, List.map_nil, Array.getD_eq_getD_getElem?, List.getElem?_toArray, List.getElem?_cons_succ, List.getElem?_cons_zero, Option.getD_some]
        repeat (first | go_big_quiet_step (fail) | quiet_step (fail))
        refine wpQuiet_nil ?_
        refine step_done (by kernel_rfl) ?_
        exact HR X2 Y2 vn vl _ ⟨hv1, hv2, HS.out.tail⟩
      · go_wp2_with fail
        have hf := Fr.alloc HF.out (.cells ([.int .i64 0, .int .i64 0, .int .i64 0, .int .i64 0, .int .u64 0, .int .u64 0, .slice none 0 0, .slice none 0 0, .int .i64 0, .int .i64 0, .int .i64 0, .int .i64 0]).toArray 65)
        have hS := HS.out.new 65 ([.int .i64 0, .int .i64 0, .int .i64 0, .int .i64 0, .int .u64 0, .int .u64 0, .slice none 0 0, .slice none 0 0, .int .i64 0, .int .i64 0, .int .i64 0, .int .i64 0])
        have HF := Lib.hid hf; have HS := Lib.hid hS; clear hf hS
        refine ⟨⟨⟨_, (by exact HF.out)⟩, rfl⟩, ?_⟩
        generalize World.alloc _ _ = wn10 at HF HS ⊢
        generalize wn8.heap.size = X2 at HS ⊢
        refine step_keep (N := 7) 6 (by kernel_rfl) rfl ?_
        go_wp2_with fail
        refine (HRD2.out _ HS.out.fr).mono ?_
        rintro e w9 ⟨vn, vl, rfl, hv1, hv2, hN⟩
        have HF := Lib.hid (HF.out.trans hN.fr)
        have hS := HS.out.append hN
        simp only [List.cons_append, List.nil_append] at hS
        have HS := Lib.hid hS; clear hS hN
        go_wp2_with fail
        refine ⟨⟨⟨_, (by exact HF.out)⟩, rfl⟩, ?_⟩
        refine step_pures (N := 3) [7, 8, 9, 10] (by kernel_rfl) ?_
        simp only [theOps, nthOp, List.map_cons, List.map_nil, Array.getD_eq_getD_getElem?, List.getElem?_toArray, List.getElem?_cons_succ, List.getElem?_cons_zero, Option.getD_some]
        repeat (first | go_big_quiet_step (fail) | quiet_step (fail))
        refine wpQuiet_nil ?_
        have HS := Lib.hid (HS.out.sub (Ts' := [_, _, _, _, _, _, _]) [3, 2, 0, 1, 4, 5, 6] rfl (by decide))
        refine step_hard (N := 2) 13 (by kernel_rfl) rfl ?_
        refine wpList_store_sep HS.out 1 rfl (RQ vn vl a.wt a.wl a.top a.nl) 65 _ _ rfl rfl rfl rfl (by rw [HRQ.out.len]; rfl) (by rw [HRQ.out.len]; kernel_rfl) (HRQ.out.one _ _ hv1 hv2 _ _ _ _) (fun wA hA _ => ?_)
        have HS := Lib.hid hA; clear hA
        simp only [List.set_cons_zero, List.set_cons_succ] at HS
        go_wp2_with fail
        refine step_hard (N := 1) 14 (by kernel_rfl) rfl ?_
        refine wpList_store_sep HS.out 0 rfl (tapeL (.slice oa cnt oc) T) 47 _ _ rfl rfl rfl rfl rfl (by kernel_rfl) hone1 (fun wA hA _ => ?_)
        have HS := Lib.hid hA; clear hA
        simp only [List.set_cons_zero, List.set_cons_succ] at HS
        go_wp2_with fail
        refine step_pures (N := 0) [15] (by kernel_rfl) ?_
        simp only [theOps, nthOp, List.map_cons, List.map_nil, Array.getD_eq_getD_getElem?, List.getElem?_toArray, List.getElem?_cons_succ, List.getElem?_cons_zero, Option.getD_some]
        repeat (first | go_big_quiet_step (fail) | quiet_step (fail))
        refine wpQuiet_nil ?_
        refine step_done (by kernel_rfl) ?_
        exact HR X2 Y2 vn vl _ ⟨hv1, hv2, HS.out.tail⟩
  · clear HS HF HRD2 HRD
    intro XB Y2 vn vl wF ⟨hv1, hv2, hS⟩
    have HS := Lib.hid hS; clear hS
    go_wp2_with fail
    refine (pstatus_of b c seq p0 (HS.out.pull 3 rfl)).mono ?_
    rintro e w7 ⟨rfl, hf⟩
    have HS := Lib.hid (HS.out.fr0 hf); clear hf
    by_cases hs1 : p0.s = 1
    · obtain ⟨ha, hpf⟩ := HGD.out hs1
      subst ha
      dsimp only at HS
      rw [hs1]
      have HPP := Lib.hid (fun R => P.PP.settle (R := R) HPO.out hpf)
      have hlim8 : p0.lim.length ≤ 1000 := by have := HPO.out.len; have := HPO.out.wl; have := limit_pos HOK.out; omega
      have HLG := Lib.hid (fun x (hx : x ∈ p0.lim) => HPO.out.lim x hx)
      have hnt0 := HPO.out.nt
      clear hpf hs1
      obtain ⟨rm, hrm⟩ : ∃ rm, bits .and .i64 room 127 = rm := ⟨_, rfl⟩
      have hrb : 0 ≤ rm ∧ rm ≤ 127 := by rw [← hrm]; exact and_i64_bd room 127 (by omega) (by omega)
      obtain ⟨R, rfl⟩ : ∃ R : Nat, rm = (R : Int) := ⟨rm.toNat, by omega⟩
      have hroom : roomOf (R : Int) = R := by unfold roomOf; omega
      go_wp2_with fail
      refine (wnew_sep _ _).mono ?_
      rintro e w8 ⟨k, rfl, hfr⟩
      rw [hroom] at hfr
      have HS := Lib.hid (HS.out.fresh hfr); clear hfr
      go_wp2_with fail
      refine (rnew_any _ _).mono ?_
      rintro e w9 ⟨rfl, hf⟩
      rw [hroom]
      have hS := ((HS.out.fr0 hf).new 95 [.int .i64 (R : Int), .slice none 0 0]).nilRow8 0 177 2
      have HS : Hid (Sep w _ [setT k ⟨R, [], []⟩, poolT c seq b p0, blkT w9.heap.size 95 [.int .i64 (R : Int), .slice none 0 0], refT (.slice none 0 0) [], blkT XB 65 (RQ vn vl p0.wt p0.wl p0.nt p0.nl), rowT 0 22 1 vn ns.length (ns.map (Value.int .u64)), rowT 0 22 1 vl p0.lim.length (p0.lim.map (Value.int .u64)), blkT w2.heap.size 31 cs, blkT w.heap.size 24 cl]) := Lib.hid (hS.sub [2, 6, 1, 0, 3, 4, 5, 7, 8] rfl (by decide))
      have hR127 : R ≤ 127 := by omega
      clear hS hf hrm hrb hroom
      have honeR : ∀ u ∈ [Value.int .i64 (R : Int), .slice none 0 0], u.oneCell' = true := by simp [Value.oneCell']
      go_wp2_with (refine wpList_store_new 95 _ #[.int .i64 (R : Int), .slice none 0 0] rfl _ _ rfl rfl rfl (by kernel_rfl) (by simp) (all_oneCell_toArray honeR) ?_)
      refine (psettle_of b k c HOK.out seq p0 ⟨R, [], []⟩ HPO.out (by simp) HS.out).mono ?_
      rintro e w10 ⟨rfl, h10⟩
      have hpp := HPP.out R
      clear HPP
      generalize P.settle c p0 ⟨R, [], []⟩ = z1 at *
      obtain ⟨p1, s1⟩ := z1
      have hS := h10.pull 3 rfl; clear h10
      have hfl := P.rsettleG_len c ns R p0.lim 0 p0.nt 0 []
      obtain ⟨FIN, hFIN⟩ : ∃ FIN, P.rsettleG c ns R p0.lim 0 p0.nt 0 [] = FIN := ⟨_, rfl⟩
      rw [hFIN] at hfl hpp
      have hst := rsettle10_any c HOK.out vn vl hv1 hv2 ns p0.lim (fun w' h => rowU_arg rfl (h.row 4 rfl)) (fun w' h => rowU_arg rfl (h.row 5 rfl)) hnsl hlim8 HLG.out p0.wt p0.wl p0.nt p0.nl hnt0 R (by omega) (.slice none 0 0) [] (by simp) hS FIN hFIN
      rw [HRQE.out] at hst
      have HST := Lib.hid hst
      have HS := Lib.hid hS
      clear hst hS hFIN HLG hnt0
      obtain ⟨t1, n1, q1⟩ := FIN
      generalize p0.wt = wt0 at *
      generalize p0.wl = wl0 at *
      have hlp : (RQ vn vl wt0 wl0 p0.nt p0.nl).length = 12 := HRQ.out.len _ _ _ _ _ _
      have hlp2 : (RQ vn (.slice none 0 0) wt0 wl0 t1 n1).length = 12 := HRQ.out.len _ _ _ _ _ _
      have hop2 : ∀ z9 ∈ RQ vn (.slice none 0 0) wt0 wl0 t1 n1, z9.oneCell' = true := HRQ.out.one _ _ hv1 rfl _ _ _ _
      go_wp2_with (first | (refine wpList_load_any 65 _ rfl rfl _ 0 rfl (RQ vn vl wt0 wl0 p0.nt p0.nl) _ (HS.out.blk 4 rfl).range Try.underlying65 rfl (by rw [hlp]; kernel_rfl) ?_) | (refine wpList_load_any 95 _ rfl rfl _ 0 rfl [.int .i64 (R : Int), .slice none 0 0] _ (HS.out.blk 3 rfl).range Try.underlying95 rfl (by kernel_rfl) ?_))
      refine HST.out.mono ?_
      rintro e w11 ⟨sv, rfl, h11⟩
      dsimp only at h11 ⊢
      have honeS := ref_one h11 0 rfl R
      have HS := Lib.hid h11; clear h11 HST
      go_wp2_with (first | (refine wpList_store_sep HS.out 4 rfl (RQ vn (.slice none 0 0) wt0 wl0 t1 n1) 65 _ _ rfl rfl rfl rfl (by rw [hlp2, hlp]) (by rw [hlp2]; kernel_rfl) hop2 (fun wA hA _ => ?_); simp only [List.set_cons_zero, List.set_cons_succ] at hA; have HA1 := Lib.hid hA; clear hA) | (refine wpList_store_sep HA1.out 3 rfl [.int .i64 (R : Int), sv] 95 _ _ rfl rfl rfl rfl rfl (by kernel_rfl) honeS (fun wA hA _ => ?_); simp only [List.set_cons_zero, List.set_cons_succ] at hA; have HA2 := Lib.hid hA; clear hA))
      obtain ⟨YB, hYB⟩ : ∃ YB, w9.heap.size = YB := ⟨_, rfl⟩
      have hS := HA2.out
      rw [hYB] at hS
      have HYB := Lib.hid hYB
      have HS : Hid (Sep w _ [setT k s1, poolT c seq b p1, blkT YB 95 [.int .i64 (R : Int), sv], refT sv q1, blkT XB 65 (RQ vn (.slice none 0 0) wt0 wl0 t1 n1), rowT 0 22 1 vn ns.length (ns.map (Value.int .u64)), blkT w2.heap.size 31 cs, blkT w.heap.size 24 cl]) := Lib.hid (hS.sub [1, 2, 3, 0, 4, 5, 7, 8] rfl (by decide))
      rw [hYB]
      clear hS HA1 HA2 hYB hlp
      have hHP := Lib.hid hpp
      obtain ⟨nsl, hnsl2⟩ : ∃ nsl, ns.length = nsl := ⟨_, rfl⟩
      rw [hnsl2] at HS
      clear hnsl2 hpp
      have hmp := (HS.out.blk 4 rfl).drew
      have hoM : ∀ z9 ∈ [Value.int .i64 p1.nt, .int .i64 p1.nl], z9.oneCell' = true := by simp [Value.oneCell']
      refine step_start ([1, 3, 5, 6, 7], [9]) [] (by kernel_rfl) ?_
      refine step_reads (N := 7) [0, 2, 4] (by kernel_rfl) ⟨⟨_, Fr.refl _ _⟩, rfl⟩ ?_
      simp only [theOps, nthOp, List.map_cons, List.map_nil, Array.getD_eq_getD_getElem?, List.getElem?_toArray, List.getElem?_cons_succ, List.getElem?_cons_zero, Option.getD_some]
      repeat (first | (refine wpQuiet_load_mid 65 _ XB 0 (RQ vn (.slice none 0 0) wt0 wl0 t1 n1) _ rfl rfl rfl (rangeAt_after hmp (by simp)) Try.underlying65 rfl (by rw [hlp2]; kernel_rfl) ?_; simp only [Act.put, List.setIfInBounds_toArray, List.set_cons_zero, List.set_cons_succ]) | go_big_quiet_step (fail) | quiet_step (fail))
      refine wpQuiet_nil ?_
      have HS := Lib.hid HS.out.drew
      clear hmp
      generalize World.drew _ = wd at HS ⊢
      have HF := Lib.hid (Fr.refl [] wd)
      obtain ⟨nwd, hnw⟩ : ∃ nwd, wd.heap.size = nwd := ⟨_, rfl⟩
      have HNW := Lib.hid hnw; clear hnw
      have HMK := Lib.hid (fun w' (f : Fr [] wd w') => pmark_of b c seq p1 ((HS.out.fr0 f).pull 1 rfl))
      have HWM := Lib.hid (fun w' (f : Fr [] wd w') => (mark_sep (HS.out.fr0 f)).mono fun e w'' ⟨h1, h2⟩ => (⟨h1, h2 ▸ Fr.refl [] w'⟩ : e = Ending.returned (.int .i64 s1.done.length) ∧ Fr [] w' w''))
      apply joinB (S := fun MB WB wF => Sep w wF [setT k (s1), poolT c seq b (p1), blkT YB 95 [.int .i64 (R : Int), sv], refT (sv) (q1), blkT XB 65 (RQ vn (.slice none 0 0) wt0 wl0 (t1) (n1)), blkT MB 83 [.int .i64 (p1.nt), .int .i64 (p1.nl)], blkT WB 65 (RQ vn (.slice none 0 0) wt0 wl0 (t1) (n1)), rowT 0 22 1 vn nsl (ns.map (Value.int .u64)), blkT w2.heap.size 31 cs, blkT w.heap.size 24 cl])
      · intro HR
        refine step_three (N := 6) 1 5 6 (by kernel_rfl) rfl rfl rfl ?_ ?_ ?_
        · go_wp2_with fail
          refine (HMK.out _ HF.out).mono ?_
          rintro e w9 ⟨rfl, hf⟩
          have HF := Lib.hid (HF.out.trans hf)
          have HS := Lib.hid (HS.out.fr0 hf); clear hf
          go_wp2_with fail
          refine ⟨⟨⟨_, (by exact HF.out)⟩, rfl⟩, ?_⟩
          refine step_three (N := 5) 3 5 6 (by kernel_rfl) rfl rfl rfl ?_ ?_ ?_
          · go_wp2_with fail
            refine (HWM.out _ HF.out).mono ?_
            rintro e w9 ⟨rfl, hf⟩
            have HF := Lib.hid (HF.out.trans hf)
            have HS := Lib.hid (HS.out.fr0 hf); clear hf
            go_wp2_with fail
            refine ⟨⟨⟨_, (by exact HF.out)⟩, rfl⟩, ?_⟩
            refine step_two (N := 4) 5 6 (by kernel_rfl) rfl rfl ?_ ?_
            · go_wp2_with fail
              have hg_X2 : nwd ≤ w9.heap.size := by rw [← HNW.out]; exact HF.out.size
              have hf := Fr.alloc HF.out (.cells ([.int .i64 0, .int .i64 0]).toArray 83)
              have hS := HS.out.new 83 ([.int .i64 0, .int .i64 0])
              have HF := Lib.hid hf; have HS := Lib.hid hS; clear hf hS
              refine ⟨⟨⟨_, (by exact HF.out)⟩, rfl⟩, ?_⟩
              generalize World.alloc _ _ = wn1 at HF HS ⊢
              generalize w9.heap.size = X2 at HS hg_X2 ⊢
              refine step_keep (N := 3) 6 (by kernel_rfl) rfl ?_
              go_wp2_with fail
              have hg_Y2 : nwd ≤ wn1.heap.size := by rw [← HNW.out]; exact HF.out.size
              have hf := Fr.alloc HF.out (.cells ([.int .i64 0, .int .i64 0, .int .i64 0, .int .i64 0, .int .u64 0, .int .u64 0, .slice none 0 0, .slice none 0 0, .int .i64 0, .int .i64 0, .int .i64 0, .int .i64 0]).toArray 65)
              have hS := HS.out.new 65 ([.int .i64 0, .int .i64 0, .int .i64 0, .int .i64 0, .int .u64 0, .int .u64 0, .slice none 0 0, .slice none 0 0, .int .i64 0, .int .i64 0, .int .i64 0, .int .i64 0])
              have HF := Lib.hid hf; have HS := Lib.hid hS; clear hf hS
              refine ⟨⟨⟨_, (by exact HF.out)⟩, rfl⟩, ?_⟩
              generalize World.alloc _ _ = wn2 at HF HS ⊢
              generalize wn1.heap.size = Y2 at HS hg_Y2 ⊢
              refine step_keep (N := 2) 7 (by kernel_rfl) rfl ?_
              refine wpList_store_sep HS.out 1 rfl [.int .i64 p1.nt, .int .i64 p1.nl] 83 _ _ rfl rfl rfl rfl rfl (by kernel_rfl) hoM (fun wA hA fA => ?_)
              simp only [List.set_cons_zero, List.set_cons_succ] at hA
              have HS := Lib.hid hA
              have HF := Lib.hid (HF.out.trans' fA (fun x hx => .inr (by simp at hx; rw [HNW.out, hx]; exact hg_X2)))
              clear hA fA
              go_wp2_with fail
              refine ⟨⟨⟨_, (by exact HF.out)⟩, rfl⟩, ?_⟩
              refine step_pures (N := 1) [8] (by kernel_rfl) ?_
              simp only [theOps, nthOp, List.map_cons, List.map_nil, Array.getD_eq_getD_getElem?, List.getElem?_toArray, List.getElem?_cons_succ, List.getElem?_cons_zero, Option.getD_some]
              repeat (first | go_big_quiet_step (fail) | quiet_step (fail))
              refine wpQuiet_nil ?_
              refine step_hard (N := 0) 9 (by kernel_rfl) rfl ?_
              refine wpList_store_sep HS.out 0 rfl (RQ vn (.slice none 0 0) wt0 wl0 t1 n1) 65 _ _ rfl rfl rfl rfl (by rw [hlp2]; rfl) (by rw [hlp2]; kernel_rfl) hop2 (fun wA hA _ => ?_)
              have HS := Lib.hid hA; clear hA
              simp only [List.set_cons_zero, List.set_cons_succ] at HS
              go_wp2_with fail
              refine step_done (by kernel_rfl) ?_
              exact HR X2 Y2 _ (HS.out.sub [2, 3, 4, 5, 6, 1, 0, 7, 8, 9] rfl (by decide))
            · go_wp2_with fail
              have hg_Y2 : nwd ≤ w9.heap.size := by rw [← HNW.out]; exact HF.out.size
              have hf := Fr.alloc HF.out (.cells ([.int .i64 0, .int .i64 0, .int .i64 0, .int .i64 0, .int .u64 0, .int .u64 0, .slice none 0 0, .slice none 0 0, .int .i64 0, .int .i64 0, .int .i64 0, .int .i64 0]).toArray 65)
              have hS := HS.out.new 65 ([.int .i64 0, .int .i64 0, .int .i64 0, .int .i64 0, .int .u64 0, .int .u64 0, .slice none 0 0, .slice none 0 0, .int .i64 0, .int .i64 0, .int .i64 0, .int .i64 0])
              have HF := Lib.hid hf; have HS := Lib.hid hS; clear hf hS
              refine ⟨⟨⟨_, (by exact HF.out)⟩, rfl⟩, ?_⟩
              generalize World.alloc _ _ = wn3 at HF HS ⊢
              generalize w9.heap.size = Y2 at HS hg_Y2 ⊢
              refine step_keep (N := 3) 5 (by kernel_rfl) rfl ?_
              go_wp2_with fail
              have hg_X2 : nwd ≤ wn3.heap.size := by rw [← HNW.out]; exact HF.out.size
              have hf := Fr.alloc HF.out (.cells ([.int .i64 0, .int .i64 0]).toArray 83)
              have hS := HS.out.new 83 ([.int .i64 0, .int .i64 0])
              have HF := Lib.hid hf; have HS := Lib.hid hS; clear hf hS
              refine ⟨⟨⟨_, (by exact HF.out)⟩, rfl⟩, ?_⟩
              generalize World.alloc _ _ = wn4 at HF HS ⊢
              generalize wn3.heap.size = X2 at HS hg_X2 ⊢
              have HS := Lib.hid (HS.out.sub (Ts' := [_, _, _, _, _, _, _, _, _, _]) [1, 0, 2, 3, 4, 5, 6, 7, 8, 9] rfl (by decide))
              refine step_keep (N := 2) 7 (by kernel_rfl) rfl ?_
              refine wpList_store_sep HS.out 1 rfl [.int .i64 p1.nt, .int .i64 p1.nl] 83 _ _ rfl rfl rfl rfl rfl (by kernel_rfl) hoM (fun wA hA fA => ?_)
              simp only [List.set_cons_zero, List.set_cons_succ] at hA
              have HS := Lib.hid hA
              have HF := Lib.hid (HF.out.trans' fA (fun x hx => .inr (by simp at hx; rw [HNW.out, hx]; exact hg_X2)))
              clear hA fA
              go_wp2_with fail
              refine ⟨⟨⟨_, (by exact HF.out)⟩, rfl⟩, ?_⟩
              refine step_pures (N := 1) [8] (by kernel_rfl) ?_
              simp only [theOps, nthOp, List.map_cons, List.map_nil, Array.getD_eq_getD_getElem?, List.getElem?_toArray, List.getElem?_cons_succ, List.getElem?_cons_zero, Option.getD_some]
              repeat (first | go_big_quiet_step (fail) | quiet_step (fail))
              refine wpQuiet_nil ?_
              refine step_hard (N := 0) 9 (by kernel_rfl) rfl ?_
              refine wpList_store_sep HS.out 0 rfl (RQ vn (.slice none 0 0) wt0 wl0 t1 n1) 65 _ _ rfl rfl rfl rfl (by rw [hlp2]; rfl) (by rw [hlp2]; kernel_rfl) hop2 (fun wA hA _ => ?_)
              have HS := Lib.hid hA; clear hA
              simp only [List.set_cons_zero, List.set_cons_succ] at HS
              go_wp2_with fail
              refine step_done (by kernel_rfl) ?_
              exact HR X2 Y2 _ (HS.out.sub [2, 3, 4, 5, 6, 1, 0, 7, 8, 9] rfl (by decide))
          · go_wp2_with fail
            have hg_X2 : nwd ≤ w9.heap.size := by rw [← HNW.out]; exact HF.out.size
            have hf := Fr.alloc HF.out (.cells ([.int .i64 0, .int .i64 0]).toArray 83)
            have hS := HS.out.new 83 ([.int .i64 0, .int .i64 0])
            have HF := Lib.hid hf; have HS := Lib.hid hS; clear hf hS
            refine ⟨⟨⟨_, (by exact HF.out)⟩, rfl⟩, ?_⟩
            generalize World.alloc _ _ = wn5 at HF HS ⊢
            generalize w9.heap.size = X2 at HS hg_X2 ⊢
            refine step_two (N := 4) 3 6 (by kernel_rfl) rfl rfl ?_ ?_
            · go_wp2_with fail
              refine (HWM.out _ HF.out).mono ?_
              rintro e w9 ⟨rfl, hf⟩
              have HF := Lib.hid (HF.out.trans hf)
              have HS := Lib.hid (HS.out.fr0 hf); clear hf
              go_wp2_with fail
              refine ⟨⟨⟨_, (by exact HF.out)⟩, rfl⟩, ?_⟩
              refine step_keep (N := 3) 6 (by kernel_rfl) rfl ?_
              go_wp2_with fail
              have hg_Y2 : nwd ≤ w9.heap.size := by rw [← HNW.out]; exact HF.out.size
              have hf := Fr.alloc HF.out (.cells ([.int .i64 0, .int .i64 0, .int .i64 0, .int .i64 0, .int .u64 0, .int .u64 0, .slice none 0 0, .slice none 0 0, .int .i64 0, .int .i64 0, .int .i64 0, .int .i64 0]).toArray 65)
              have hS := HS.out.new 65 ([.int .i64 0, .int .i64 0, .int .i64 0, .int .i64 0, .int .u64 0, .int .u64 0, .slice none 0 0, .slice none 0 0, .int .i64 0, .int .i64 0, .int .i64 0, .int .i64 0])
              have HF := Lib.hid hf; have HS := Lib.hid hS; clear hf hS
              refine ⟨⟨⟨_, (by exact HF.out)⟩, rfl⟩, ?_⟩
              generalize World.alloc _ _ = wn6 at HF HS ⊢
              generalize w9.heap.size = Y2 at HS hg_Y2 ⊢
              refine step_keep (N := 2) 7 (by kernel_rfl) rfl ?_
              refine wpList_store_sep HS.out 1 rfl [.int .i64 p1.nt, .int .i64 p1.nl] 83 _ _ rfl rfl rfl rfl rfl (by kernel_rfl) hoM (fun wA hA fA => ?_)
              simp only [List.set_cons_zero, List.set_cons_succ] at hA
              have HS := Lib.hid hA
              have HF := Lib.hid (HF.out.trans' fA (fun x hx => .inr (by simp at hx; rw [HNW.out, hx]; exact hg_X2)))
              clear hA fA
              go_wp2_with fail
              refine ⟨⟨⟨_, (by exact HF.out)⟩, rfl⟩, ?_⟩
              refine step_pures (N := 1) [8] (by kernel_rfl) ?_
              simp only [theOps, nthOp, List.map_cons, List.map_nil, Array.getD_eq_getD_getElem?, List.getElem?_toArray, List.getElem?_cons_succ, List.getElem?_cons_zero, Option.getD_some]
              repeat (first | go_big_quiet_step (fail) | quiet_step (fail))
              refine wpQuiet_nil ?_
              refine step_hard (N := 0) 9 (by kernel_rfl) rfl ?_
              refine wpList_store_sep HS.out 0 rfl (RQ vn (.slice none 0 0) wt0 wl0 t1 n1) 65 _ _ rfl rfl rfl rfl (by rw [hlp2]; rfl) (by rw [hlp2]; kernel_rfl) hop2 (fun wA hA _ => ?_)
              have HS := Lib.hid hA; clear hA
              simp only [List.set_cons_zero, List.set_cons_succ] at HS
              go_wp2_with fail
              refine step_done (by kernel_rfl) ?_
              exact HR X2 Y2 _ (HS.out.sub [2, 3, 4, 5, 6, 1, 0, 7, 8, 9] rfl (by decide))
            · go_wp2_with fail
              have hg_Y2 : nwd ≤ wn5.heap.size := by rw [← HNW.out]; exact HF.out.size
              have hf := Fr.alloc HF.out (.cells ([.int .i64 0, .int .i64 0, .int .i64 0, .int .i64 0, .int .u64 0, .int .u64 0, .slice none 0 0, .slice none 0 0, .int .i64 0, .int .i64 0, .int .i64 0, .int .i64 0]).toArray 65)
              have hS := HS.out.new 65 ([.int .i64 0, .int .i64 0, .int .i64 0, .int .i64 0, .int .u64 0, .int .u64 0, .slice none 0 0, .slice none 0 0, .int .i64 0, .int .i64 0, .int .i64 0, .int .i64 0])
              have HF := Lib.hid hf; have HS := Lib.hid hS; clear hf hS
              refine ⟨⟨⟨_, (by exact HF.out)⟩, rfl⟩, ?_⟩
              generalize World.alloc _ _ = wn7 at HF HS ⊢
              generalize wn5.heap.size = Y2 at HS hg_Y2 ⊢
              refine step_keep (N := 3) 3 (by kernel_rfl) rfl ?_
              go_wp2_with fail
              refine (HWM.out _ HF.out).mono ?_
              rintro e w9 ⟨rfl, hf⟩
              have HF := Lib.hid (HF.out.trans hf)
              have HS := Lib.hid (HS.out.fr0 hf); clear hf
              go_wp2_with fail
              refine ⟨⟨⟨_, (by exact HF.out)⟩, rfl⟩, ?_⟩
              refine step_keep (N := 2) 7 (by kernel_rfl) rfl ?_
              refine wpList_store_sep HS.out 1 rfl [.int .i64 p1.nt, .int .i64 p1.nl] 83 _ _ rfl rfl rfl rfl rfl (by kernel_rfl) hoM (fun wA hA fA => ?_)
              simp only [List.set_cons_zero, List.set_cons_succ] at hA
              have HS := Lib.hid hA
              have HF := Lib.hid (HF.out.trans' fA (fun x hx => .inr (by simp at hx; rw [HNW.out, hx]; exact hg_X2)))
              clear hA fA
              go_wp2_with fail
              refine ⟨⟨⟨_, (by exact HF.out)⟩, rfl⟩, ?_⟩
              refine step_pures (N := 1) [8] (by kernel_rfl) ?_
              simp only [theOps, nthOp, List.map_cons, List.map_nil, Array.getD_eq_getD_getElem?, List.getElem?_toArray, List.getElem?_cons_succ, List.getElem?_cons_zero, Option.getD_some]
              repeat (first | go_big_quiet_step (fail) | quiet_step (fail))
              refine wpQuiet_nil ?_
              refine step_hard (N := 0) 9 (by kernel_rfl) rfl ?_
              refine wpList_store_sep HS.out 0 rfl (RQ vn (.slice none 0 0) wt0 wl0 t1 n1) 65 _ _ rfl rfl rfl rfl (by rw [hlp2]; rfl) (by rw [hlp2]; kernel_rfl) hop2 (fun wA hA _ => ?_)
              have HS := Lib.hid hA; clear hA
              simp only [List.set_cons_zero, List.set_cons_succ] at HS
              go_wp2_with fail
              refine step_done (by kernel_rfl) ?_
              exact HR X2 Y2 _ (HS.out.sub [2, 3, 4, 5, 6, 1, 0, 7, 8, 9] rfl (by decide))
          · go_wp2_with fail
            have hg_Y2 : nwd ≤ w9.heap.size := by rw [← HNW.out]; exact HF.out.size
            have hf := Fr.alloc HF.out (.cells ([.int .i64 0, .int .i64 0, .int .i64 0, .int .i64 0, .int .u64 0, .int .u64 0, .slice none 0 0, .slice none 0 0, .int .i64 0, .int .i64 0, .int .i64 0, .int .i64 0]).toArray 65)
            have hS := HS.out.new 65 ([.int .i64 0, .int .i64 0, .int .i64 0, .int .i64 0, .int .u64 0, .int .u64 0, .slice none 0 0, .slice none 0 0, .int .i64 0, .int .i64 0, .int .i64 0, .int .i64 0])
            have HF := Lib.hid hf; have HS := Lib.hid hS; clear hf hS
            refine ⟨⟨⟨_, (by exact HF.out)⟩, rfl⟩, ?_⟩
            generalize World.alloc _ _ = wn8 at HF HS ⊢
            generalize w9.heap.size = Y2 at HS hg_Y2 ⊢
            refine step_two (N := 4) 3 5 (by kernel_rfl) rfl rfl ?_ ?_
            · go_wp2_with fail
              refine (HWM.out _ HF.out).mono ?_
              rintro e w9 ⟨rfl, hf⟩
              have HF := Lib.hid (HF.out.trans hf)
              have HS := Lib.hid (HS.out.fr0 hf); clear hf
              go_wp2_with fail
              refine ⟨⟨⟨_, (by exact HF.out)⟩, rfl⟩, ?_⟩
              refine step_keep (N := 3) 5 (by kernel_rfl) rfl ?_
              go_wp2_with fail
              have hg_X2 : nwd ≤ w9.heap.size := by rw [← HNW.out]; exact HF.out.size
              have hf := Fr.alloc HF.out (.cells ([.int .i64 0, .int .i64 0]).toArray 83)
              have hS := HS.out.new 83 ([.int .i64 0, .int .i64 0])
              have HF := Lib.hid hf; have HS := Lib.hid hS; clear hf hS
              refine ⟨⟨⟨_, (by exact HF.out)⟩, rfl⟩, ?_⟩
              generalize World.alloc _ _ = wn9 at HF HS ⊢
              generalize w9.heap.size = X2 at HS hg_X2 ⊢
              have HS := Lib.hid (HS.out.sub (Ts' := [_, _, _, _, _, _, _, _, _, _]) [1, 0, 2, 3, 4, 5, 6, 7, 8, 9] rfl (by decide))
              refine step_keep (N := 2) 7 (by kernel_rfl) rfl ?_
              refine wpList_store_sep HS.out 1 rfl [.int .i64 p1.nt, .int .i64 p1.nl] 83 _ _ rfl rfl rfl rfl rfl (by kernel_rfl) hoM (fun wA hA fA => ?_)
              simp only [List.set_cons_zero, List.set_cons_succ] at hA
              have HS := Lib.hid hA
              have HF := Lib.hid (HF.out.trans' fA (fun x hx => .inr (by simp at hx; rw [HNW.out, hx]; exact hg_X2)))
              clear hA fA
              go_wp2_with fail
              refine ⟨⟨⟨_, (by exact HF.out)⟩, rfl⟩, ?_⟩
              refine step_pures (N := 1) [8] (by kernel_rfl) ?_
              simp only [theOps, nthOp, List.map_cons, List.map_nil, Array.getD_eq_getD_getElem?, List.getElem?_toArray, List.getElem?_cons_succ, List.getElem?_cons_zero, Option.getD_some]
              repeat (first | go_big_quiet_step (fail) | quiet_step (fail))
              refine wpQuiet_nil ?_
              refine step_hard (N := 0) 9 (by kernel_rfl) rfl ?_
              refine wpList_store_sep HS.out 0 rfl (RQ vn (.slice none 0 0) wt0 wl0 t1 n1) 65 _ _ rfl rfl rfl rfl (by rw [hlp2]; rfl) (by rw [hlp2]; kernel_rfl) hop2 (fun wA hA _ => ?_)
              have HS := Lib.hid hA; clear hA
              simp only [List.set_cons_zero, List.set_cons_succ] at HS
              go_wp2_with fail
              refine step_done (by kernel_rfl) ?_
              exact HR X2 Y2 _ (HS.out.sub [2, 3, 4, 5, 6, 1, 0, 7, 8, 9] rfl (by decide))
            · go_wp2_with fail
              have hg_X2 : nwd ≤ wn8.heap.size := by rw [← HNW.out]; exact HF.out.size
              have hf := Fr.alloc HF.out (.cells ([.int .i64 0, .int .i64 0]).toArray 83)
              have hS := HS.out.new 83 ([.int .i64 0, .int .i64 0])
              have HF := Lib.hid hf; have HS := Lib.hid hS; clear hf hS
              refine ⟨⟨⟨_, (by exact HF.out)⟩, rfl⟩, ?_⟩
              generalize World.alloc _ _ = wn10 at HF HS ⊢
              generalize wn8.heap.size = X2 at HS hg_X2 ⊢
              refine step_keep (N := 3) 3 (by kernel_rfl) rfl ?_
              go_wp2_with fail
              refine (HWM.out _ HF.out).mono ?_
              rintro e w9 ⟨rfl, hf⟩
              have HF := Lib.hid (HF.out.trans hf)
              have HS := Lib.hid (HS.out.fr0 hf); clear hf
              go_wp2_with fail
              refine ⟨⟨⟨_, (by exact HF.out)⟩, rfl⟩, ?_⟩
              have HS := Lib.hid (HS.out.sub (Ts' := [_, _, _, _, _, _, _, _, _, _]) [1, 0, 2, 3, 4, 5, 6, 7, 8, 9] rfl (by decide))
              refine step_keep (N := 2) 7 (by kernel_rfl) rfl ?_
              refine wpList_store_sep HS.out 1 rfl [.int .i64 p1.nt, .int .i64 p1.nl] 83 _ _ rfl rfl rfl rfl rfl (by kernel_rfl) hoM (fun wA hA fA => ?_)
              simp only [List.set_cons_zero, List.set_cons_succ] at hA
              have HS := Lib.hid hA
              have HF := Lib.hid (HF.out.trans' fA (fun x hx => .inr (by simp at hx; rw [HNW.out, hx]; exact hg_X2)))
              clear hA fA
              go_wp2_with fail
              refine ⟨⟨⟨_, (by exact HF.out)⟩, rfl⟩, ?_⟩
              refine step_pures (N := 1) [8] (by kernel_rfl) ?_
              simp only [theOps, nthOp, List.map_cons, List.map_nil, Array.getD_eq_getD_getElem?, List.getElem?_toArray, List.getElem?_cons_succ, List.getElem?_cons_zero, Option.getD_some]
              repeat (first | go_big_quiet_step (fail) | quiet_step (fail))
              refine wpQuiet_nil ?_
              refine step_hard (N := 0) 9 (by kernel_rfl) rfl ?_
              refine wpList_store_sep HS.out 0 rfl (RQ vn (.slice none 0 0) wt0 wl0 t1 n1) 65 _ _ rfl rfl rfl rfl (by rw [hlp2]; rfl) (by rw [hlp2]; kernel_rfl) hop2 (fun wA hA _ => ?_)
              have HS := Lib.hid hA; clear hA
              simp only [List.set_cons_zero, List.set_cons_succ] at HS
              go_wp2_with fail
              refine step_done (by kernel_rfl) ?_
              exact HR X2 Y2 _ (HS.out.sub [2, 3, 4, 5, 6, 1, 0, 7, 8, 9] rfl (by decide))
        · go_wp2_with fail
          have hg_X2 : nwd ≤ wd.heap.size := by rw [← HNW.out]; exact HF.out.size
          have hf := Fr.alloc HF.out (.cells ([.int .i64 0, .int .i64 0]).toArray 83)
          have hS := HS.out.new 83 ([.int .i64 0, .int .i64 0])
          have HF := Lib.hid hf; have HS := Lib.hid hS; clear hf hS
          refine ⟨⟨⟨_, (by exact HF.out)⟩, rfl⟩, ?_⟩
          generalize World.alloc _ _ = wn11 at HF HS ⊢
          generalize wd.heap.size = X2 at HS hg_X2 ⊢
          refine step_two (N := 5) 1 6 (by kernel_rfl) rfl rfl ?_ ?_
          · go_wp2_with fail
            refine (HMK.out _ HF.out).mono ?_
            rintro e w9 ⟨rfl, hf⟩
            have HF := Lib.hid (HF.out.trans hf)
            have HS := Lib.hid (HS.out.fr0 hf); clear hf
            go_wp2_with fail
            refine ⟨⟨⟨_, (by exact HF.out)⟩, rfl⟩, ?_⟩
            refine step_two (N := 4) 3 6 (by kernel_rfl) rfl rfl ?_ ?_
            · go_wp2_with fail
              refine (HWM.out _ HF.out).mono ?_
              rintro e w9 ⟨rfl, hf⟩
              have HF := Lib.hid (HF.out.trans hf)
              have HS := Lib.hid (HS.out.fr0 hf); clear hf
              go_wp2_with fail
              refine ⟨⟨⟨_, (by exact HF.out)⟩, rfl⟩, ?_⟩
              refine step_keep (N := 3) 6 (by kernel_rfl) rfl ?_
              go_wp2_with fail
              have hg_Y2 : nwd ≤ w9.heap.size := by rw [← HNW.out]; exact HF.out.size
              have hf := Fr.alloc HF.out (.cells ([.int .i64 0, .int .i64 0, .int .i64 0, .int .i64 0, .int .u64 0, .int .u64 0, .slice none 0 0, .slice none 0 0, .int .i64 0, .int .i64 0, .int .i64 0, .int .i64 0]).toArray 65)
              have hS := HS.out.new 65 ([.int .i64 0, .int .i64 0, .int .i64 0, .int .i64 0, .int .u64 0, .int .u64 0, .slice none 0 0, .slice none 0 0, .int .i64 0, .int .i64 0, .int .i64 0, .int .i64 0])
              have HF := Lib.hid hf; have HS := Lib.hid hS; clear hf hS
              refine ⟨⟨⟨_, (by exact HF.out)⟩, rfl⟩, ?_⟩
              generalize World.alloc _ _ = wn12 at HF HS ⊢
              generalize w9.heap.size = Y2 at HS hg_Y2 ⊢
              refine step_keep (N := 2) 7 (by kernel_rfl) rfl ?_
              refine wpList_store_sep HS.out 1 rfl [.int .i64 p1.nt, .int .i64 p1.nl] 83 _ _ rfl rfl rfl rfl rfl (by kernel_rfl) hoM (fun wA hA fA => ?_)
              simp only [List.set_cons_zero, List.set_cons_succ] at hA
              have HS := Lib.hid hA
              have HF := Lib.hid (HF.out.trans' fA (fun x hx => .inr (by simp at hx; rw [HNW.out, hx]; exact hg_X2)))
              clear hA fA
              go_wp2_with fail
              refine ⟨⟨⟨_, (by exact HF.out)⟩, rfl⟩, ?_⟩
              refine step_pures (N := 1) [8] (by kernel_rfl) ?_
              simp only [theOps, nthOp, List.map_cons, List.map_nil, Array.getD_eq_getD_getElem?, List.getElem?_toArray, List.getElem?_cons_succ, List.getElem?_cons_zero, Option.getD_some]
              repeat (first | go_big_quiet_step (fail) | quiet_step (fail))
              refine wpQuiet_nil ?_
              refine step_hard (N := 0) 9 (by kernel_rfl) rfl ?_
              refine wpList_store_sep HS.out 0 rfl (RQ vn (.slice none 0 0) wt0 wl0 t1 n1) 65 _ _ rfl rfl rfl rfl (by rw [hlp2]; rfl) (by rw [hlp2]; kernel_rfl) hop2 (fun wA hA _ => ?_)
              have HS := Lib.hid hA; clear hA
              simp only [List.set_cons_zero, List.set_cons_succ] at HS
              go_wp2_with fail
              refine step_done (by kernel_rfl) ?_
              exact HR X2 Y2 _ (HS.out.sub [2, 3, 4, 5, 6, 1, 0, 7, 8, 9] rfl (by decide))
            · go_wp2_with fail
              have hg_Y2 : nwd ≤ w9.heap.size := by rw [← HNW.out]; exact HF.out.size
              have hf := Fr.alloc HF.out (.cells ([.int .i64 0, .int .i64 0, .int .i64 0, .int .i64 0, .int .u64 0, .int .u64 0, .slice none 0 0, .slice none 0 0, .int .i64 0, .int .i64 0, .int .i64 0, .int .i64 0]).toArray 65)
              have hS := HS.out.new 65 ([.int .i64 0, .int .i64 0, .int .i64 0, .int .i64 0, .int .u64 0, .int .u64 0, .slice none 0 0, .slice none 0 0, .int .i64 0, .int .i64 0, .int .i64 0, .int .i64 0])
              have HF := Lib.hid hf; have HS := Lib.hid hS; clear hf hS
              refine ⟨⟨⟨_, (by exact HF.out)⟩, rfl⟩, ?_⟩
              generalize World.alloc _ _ = wn13 at HF HS ⊢
              generalize w9.heap.size = Y2 at HS hg_Y2 ⊢
              refine step_keep (N := 3) 3 (by kernel_rfl) rfl ?_
              go_wp2_with fail
              refine (HWM.out _ HF.out).mono ?_
              rintro e w9 ⟨rfl, hf⟩
              have HF := Lib.hid (HF.out.trans hf)
              have HS := Lib.hid (HS.out.fr0 hf); clear hf
              go_wp2_with fail
              refine ⟨⟨⟨_, (by exact HF.out)⟩, rfl⟩, ?_⟩
              refine step_keep (N := 2) 7 (by kernel_rfl) rfl ?_
              refine wpList_store_sep HS.out 1 rfl [.int .i64 p1.nt, .int .i64 p1.nl] 83 _ _ rfl rfl rfl rfl rfl (by kernel_rfl) hoM (fun wA hA fA => ?_)
              simp only [List.set_cons_zero, List.set_cons_succ] at hA
              have HS := Lib.hid hA
              have HF := Lib.hid (HF.out.trans' fA (fun x hx => .inr (by simp at hx; rw [HNW.out, hx]; exact hg_X2)))
              clear hA fA
              go_wp2_with fail
              refine ⟨⟨⟨_, (by exact HF.out)⟩, rfl⟩, ?_⟩
              refine step_pures (N := 1) [8] (by kernel_rfl) ?_
              simp only [theOps, nthOp, List.map_cons, List.map_nil, Array.getD_eq_getD_getElem?, List.getElem?_toArray, List.getElem?_cons_succ, List.getElem?_cons_zero, Option.getD_some]
              repeat (first | go_big_quiet_step (fail) | quiet_step (fail))
              refine wpQuiet_nil ?_
              refine step_hard (N := 0) 9 (by kernel_rfl) rfl ?_
              refine wpList_store_sep HS.out 0 rfl (RQ vn (.slice none 0 0) wt0 wl0 t1 n1) 65 _ _ rfl rfl rfl rfl (by rw [hlp2]; rfl) (by rw [hlp2]; kernel_rfl) hop2 (fun wA hA _ => ?_)
              have HS := Lib.hid hA; clear hA
              simp only [List.set_cons_zero, List.set_cons_succ] at HS
              go_wp2_with fail
              refine step_done (by kernel_rfl) ?_
              exact HR X2 Y2 _ (HS.out.sub [2, 3, 4, 5, 6, 1, 0, 7, 8, 9] rfl (by decide))
          · go_wp2_with fail
            have hg_Y2 : nwd ≤ wn11.heap.size := by rw [← HNW.out]; exact HF.out.size
            have hf := Fr.alloc HF.out (.cells ([.int .i64 0, .int .i64 0, .int .i64 0, .int .i64 0, .int .u64 0, .int .u64 0, .slice none 0 0, .slice none 0 0, .int .i64 0, .int .i64 0, .int .i64 0, .int .i64 0]).toArray 65)
            have hS := HS.out.new 65 ([.int .i64 0, .int .i64 0, .int .i64 0, .int .i64 0, .int .u64 0, .int .u64 0, .slice none 0 0, .slice none 0 0, .int .i64 0, .int .i64 0, .int .i64 0, .int .i64 0])
            have HF := Lib.hid hf; have HS := Lib.hid hS; clear hf hS
            refine ⟨⟨⟨_, (by exact HF.out)⟩, rfl⟩, ?_⟩
            generalize World.alloc _ _ = wn14 at HF HS ⊢
            generalize wn11.heap.size = Y2 at HS hg_Y2 ⊢
            refine step_keep (N := 4) 1 (by kernel_rfl) rfl ?_
            go_wp2_with fail
            refine (HMK.out _ HF.out).mono ?_
            rintro e w9 ⟨rfl, hf⟩
            have HF := Lib.hid (HF.out.trans hf)
            have HS := Lib.hid (HS.out.fr0 hf); clear hf
            go_wp2_with fail
            refine ⟨⟨⟨_, (by exact HF.out)⟩, rfl⟩, ?_⟩
            refine step_keep (N := 3) 3 (by kernel_rfl) rfl ?_
            go_wp2_with fail
            refine (HWM.out _ HF.out).mono ?_
            rintro e w9 ⟨rfl, hf⟩
            have HF := Lib.hid (HF.out.trans hf)
            have HS := Lib.hid (HS.out.fr0 hf); clear hf
            go_wp2_with fail
            refine ⟨⟨⟨_, (by exact HF.out)⟩, rfl⟩, ?_⟩
            refine step_keep (N := 2) 7 (by kernel_rfl) rfl ?_
            refine wpList_store_sep HS.out 1 rfl [.int .i64 p1.nt, .int .i64 p1.nl] 83 _ _ rfl rfl rfl rfl rfl (by kernel_rfl) hoM (fun wA hA fA => ?_)
            simp only [List.set_cons_zero, List.set_cons_succ] at hA
            have HS := Lib.hid hA
            have HF := Lib.hid (HF.out.trans' fA (fun x hx => .inr (by simp at hx; rw [HNW.out, hx]; exact hg_X2)))
            clear hA fA
            go_wp2_with fail
            refine ⟨⟨⟨_, (by exact HF.out)⟩, rfl⟩, ?_⟩
            refine step_pures (N := 1) [8] (by kernel_rfl) ?_
            simp only [theOps, nthOp, List.map_cons, List.map_nil, Array.getD_eq_getD_getElem?, List.getElem?_toArray, List.getElem?_cons_succ, List.getElem?_cons_zero, Option.getD_some]
            repeat (first | go_big_quiet_step (fail) | quiet_step (fail))
            refine wpQuiet_nil ?_
            refine step_hard (N := 0) 9 (by kernel_rfl) rfl ?_
            refine wpList_store_sep HS.out 0 rfl (RQ vn (.slice none 0 0) wt0 wl0 t1 n1) 65 _ _ rfl rfl rfl rfl (by rw [hlp2]; rfl) (by rw [hlp2]; kernel_rfl) hop2 (fun wA hA _ => ?_)
            have HS := Lib.hid hA; clear hA
            simp only [List.set_cons_zero, List.set_cons_succ] at HS
            go_wp2_with fail
            refine step_done (by kernel_rfl) ?_
            exact HR X2 Y2 _ (HS.out.sub [2, 3, 4, 5, 6, 1, 0, 7, 8, 9] rfl (by decide))
        · go_wp2_with fail
          have hg_Y2 : nwd ≤ wd.heap.size := by rw [← HNW.out]; exact HF.out.size
          have hf := Fr.alloc HF.out (.cells ([.int .i64 0, .int .i64 0, .int .i64 0, .int .i64 0, .int .u64 0, .int .u64 0, .slice none 0 0, .slice none 0 0, .int .i64 0, .int .i64 0, .int .i64 0, .int .i64 0]).toArray 65)
          have hS := HS.out.new 65 ([.int .i64 0, .int .i64 0, .int .i64 0, .int .i64 0, .int .u64 0, .int .u64 0, .slice none 0 0, .slice none 0 0, .int .i64 0, .int .i64 0, .int .i64 0, .int .i64 0])
          have HF := Lib.hid hf; have HS := Lib.hid hS; clear hf hS
          refine ⟨⟨⟨_, (by exact HF.out)⟩, rfl⟩, ?_⟩
          generalize World.alloc _ _ = wn15 at HF HS ⊢
          generalize wd.heap.size = Y2 at HS hg_Y2 ⊢
          refine step_two (N := 5) 1 5 (by kernel_rfl) rfl rfl ?_ ?_
          · go_wp2_with fail
            refine (HMK.out _ HF.out).mono ?_
            rintro e w9 ⟨rfl, hf⟩
            have HF := Lib.hid (HF.out.trans hf)
            have HS := Lib.hid (HS.out.fr0 hf); clear hf
            go_wp2_with fail
            refine ⟨⟨⟨_, (by exact HF.out)⟩, rfl⟩, ?_⟩
            refine step_two (N := 4) 3 5 (by kernel_rfl) rfl rfl ?_ ?_
            · go_wp2_with fail
              refine (HWM.out _ HF.out).mono ?_
              rintro e w9 ⟨rfl, hf⟩
              have HF := Lib.hid (HF.out.trans hf)
              have HS := Lib.hid (HS.out.fr0 hf); clear hf
              go_wp2_with fail
              refine ⟨⟨⟨_, (by exact HF.out)⟩, rfl⟩, ?_⟩
              refine step_keep (N := 3) 5 (by kernel_rfl) rfl ?_
              go_wp2_with fail
              have hg_X2 : nwd ≤ w9.heap.size := by rw [← HNW.out]; exact HF.out.size
              have hf := Fr.alloc HF.out (.cells ([.int .i64 0, .int .i64 0]).toArray 83)
              have hS := HS.out.new 83 ([.int .i64 0, .int .i64 0])
              have HF := Lib.hid hf; have HS := Lib.hid hS; clear hf hS
              refine ⟨⟨⟨_, (by exact HF.out)⟩, rfl⟩, ?_⟩
              generalize World.alloc _ _ = wn16 at HF HS ⊢
              generalize w9.heap.size = X2 at HS hg_X2 ⊢
              have HS := Lib.hid (HS.out.sub (Ts' := [_, _, _, _, _, _, _, _, _, _]) [1, 0, 2, 3, 4, 5, 6, 7, 8, 9] rfl (by decide))
              refine step_keep (N := 2) 7 (by kernel_rfl) rfl ?_
              refine wpList_store_sep HS.out 1 rfl [.int .i64 p1.nt, .int .i64 p1.nl] 83 _ _ rfl rfl rfl rfl rfl (by kernel_rfl) hoM (fun wA hA fA => ?_)
              simp only [List.set_cons_zero, List.set_cons_succ] at hA
              have HS := Lib.hid hA
              have HF := Lib.hid (HF.out.trans' fA (fun x hx => .inr (by simp at hx; rw [HNW.out, hx]; exact hg_X2)))
              clear hA fA
              go_wp2_with fail
              refine ⟨⟨⟨_, (by exact HF.out)⟩, rfl⟩, ?_⟩
              refine step_pures (N := 1) [8] (by kernel_rfl) ?_
              simp only [theOps, nthOp, List.map_cons, List.map_nil, Array.getD_eq_getD_getElem?, List.getElem?_toArray, List.getElem?_cons_succ, List.getElem?_cons_zero, Option.getD_some]
              repeat (first | go_big_quiet_step (fail) | quiet_step (fail))
              refine wpQuiet_nil ?_
              refine step_hard (N := 0) 9 (by kernel_rfl) rfl ?_
              refine wpList_store_sep HS.out 0 rfl (RQ vn (.slice none 0 0) wt0 wl0 t1 n1) 65 _ _ rfl rfl rfl rfl (by rw [hlp2]; rfl) (by rw [hlp2]; kernel_rfl) hop2 (fun wA hA _ => ?_)
              have HS := Lib.hid hA; clear hA
              simp only [List.set_cons_zero, List.set_cons_succ] at HS
              go_wp2_with fail
              refine step_done (by kernel_rfl) ?_
              exact HR X2 Y2 _ (HS.out.sub [2, 3, 4, 5, 6, 1, 0, 7, 8, 9] rfl (by decide))
            · go_wp2_with fail
              have hg_X2 : nwd ≤ w9.heap.size := by rw [← HNW.out]; exact HF.out.size
              have hf := Fr.alloc HF.out (.cells ([.int .i64 0, .int .i64 0]).toArray 83)
              have hS := HS.out.new 83 ([.int .i64 0, .int .i64 0])
              have HF := Lib.hid hf; have HS := Lib.hid hS; clear hf hS
              refine ⟨⟨⟨_, (by exact HF.out)⟩, rfl⟩, ?_⟩
              generalize World.alloc _ _ = wn17 at HF HS ⊢
              generalize w9.heap.size = X2 at HS hg_X2 ⊢
              refine step_keep (N := 3) 3 (by kernel_rfl) rfl ?_
              go_wp2_with fail
              refine (HWM.out _ HF.out).mono ?_
              rintro e w9 ⟨rfl, hf⟩
              have HF := Lib.hid (HF.out.trans hf)
              have HS := Lib.hid (HS.out.fr0 hf); clear hf
              go_wp2_with fail
              refine ⟨⟨⟨_, (by exact HF.out)⟩, rfl⟩, ?_⟩
              have HS := Lib.hid (HS.out.sub (Ts' := [_, _, _, _, _, _, _, _, _, _]) [1, 0, 2, 3, 4, 5, 6, 7, 8, 9] rfl (by decide))
              refine step_keep (N := 2) 7 (by kernel_rfl) rfl ?_
              refine wpList_store_sep HS.out 1 rfl [.int .i64 p1.nt, .int .i64 p1.nl] 83 _ _ rfl rfl rfl rfl rfl (by kernel_rfl) hoM (fun wA hA fA => ?_)
              simp only [List.set_cons_zero, List.set_cons_succ] at hA
              have HS := Lib.hid hA
              have HF := Lib.hid (HF.out.trans' fA (fun x hx => .inr (by simp at hx; rw [HNW.out, hx]; exact hg_X2)))
              clear hA fA
              go_wp2_with fail
              refine ⟨⟨⟨_, (by exact HF.out)⟩, rfl⟩, ?_⟩
              refine step_pures (N := 1) [8] (by kernel_rfl) ?_
              simp only [theOps, nthOp, List.map_cons, List.map_nil, Array.getD_eq_getD_getElem?, List.getElem?_toArray, List.getElem?_cons_succ, List.getElem?_cons_zero, Option.getD_some]
              repeat (first | go_big_quiet_step (fail) | quiet_step (fail))
              refine wpQuiet_nil ?_
              refine step_hard (N := 0) 9 (by kernel_rfl) rfl ?_
              refine wpList_store_sep HS.out 0 rfl (RQ vn (.slice none 0 0) wt0 wl0 t1 n1) 65 _ _ rfl rfl rfl rfl (by rw [hlp2]; rfl) (by rw [hlp2]; kernel_rfl) hop2 (fun wA hA _ => ?_)
              have HS := Lib.hid hA; clear hA
              simp only [List.set_cons_zero, List.set_cons_succ] at HS
              go_wp2_with fail
              refine step_done (by kernel_rfl) ?_
              exact HR X2 Y2 _ (HS.out.sub [2, 3, 4, 5, 6, 1, 0, 7, 8, 9] rfl (by decide))
          · go_wp2_with fail
            have hg_X2 : nwd ≤ wn15.heap.size := by rw [← HNW.out]; exact HF.out.size
            have hf := Fr.alloc HF.out (.cells ([.int .i64 0, .int .i64 0]).toArray 83)
            have hS := HS.out.new 83 ([.int .i64 0, .int .i64 0])
            have HF := Lib.hid hf; have HS := Lib.hid hS; clear hf hS
            refine ⟨⟨⟨_, (by exact HF.out)⟩, rfl⟩, ?_⟩
            generalize World.alloc _ _ = wn18 at HF HS ⊢
            generalize wn15.heap.size = X2 at HS hg_X2 ⊢
            refine step_keep (N := 4) 1 (by kernel_rfl) rfl ?_
            go_wp2_with fail
            refine (HMK.out _ HF.out).mono ?_
            rintro e w9 ⟨rfl, hf⟩
            have HF := Lib.hid (HF.out.trans hf)
            have HS := Lib.hid (HS.out.fr0 hf); clear hf
            go_wp2_with fail
            refine ⟨⟨⟨_, (by exact HF.out)⟩, rfl⟩, ?_⟩
            refine step_keep (N := 3) 3 (by kernel_rfl) rfl ?_
            go_wp2_with fail
            refine (HWM.out _ HF.out).mono ?_
            rintro e w9 ⟨rfl, hf⟩
            have HF := Lib.hid (HF.out.trans hf)
            have HS := Lib.hid (HS.out.fr0 hf); clear hf
            go_wp2_with fail
            refine ⟨⟨⟨_, (by exact HF.out)⟩, rfl⟩, ?_⟩
            have HS := Lib.hid (HS.out.sub (Ts' := [_, _, _, _, _, _, _, _, _, _]) [1, 0, 2, 3, 4, 5, 6, 7, 8, 9] rfl (by decide))
            refine step_keep (N := 2) 7 (by kernel_rfl) rfl ?_
            refine wpList_store_sep HS.out 1 rfl [.int .i64 p1.nt, .int .i64 p1.nl] 83 _ _ rfl rfl rfl rfl rfl (by kernel_rfl) hoM (fun wA hA fA => ?_)
            simp only [List.set_cons_zero, List.set_cons_succ] at hA
            have HS := Lib.hid hA
            have HF := Lib.hid (HF.out.trans' fA (fun x hx => .inr (by simp at hx; rw [HNW.out, hx]; exact hg_X2)))
            clear hA fA
            go_wp2_with fail
            refine ⟨⟨⟨_, (by exact HF.out)⟩, rfl⟩, ?_⟩
            refine step_pures (N := 1) [8] (by kernel_rfl) ?_
            simp only [theOps, nthOp, List.map_cons, List.map_nil, Array.getD_eq_getD_getElem?, List.getElem?_toArray, List.getElem?_cons_succ, List.getElem?_cons_zero, Option.getD_some]
            repeat (first | go_big_quiet_step (fail) | quiet_step (fail))
            refine wpQuiet_nil ?_
            refine step_hard (N := 0) 9 (by kernel_rfl) rfl ?_
            refine wpList_store_sep HS.out 0 rfl (RQ vn (.slice none 0 0) wt0 wl0 t1 n1) 65 _ _ rfl rfl rfl rfl (by rw [hlp2]; rfl) (by rw [hlp2]; kernel_rfl) hop2 (fun wA hA _ => ?_)
            have HS := Lib.hid hA; clear hA
            simp only [List.set_cons_zero, List.set_cons_succ] at HS
            go_wp2_with fail
            refine step_done (by kernel_rfl) ?_
            exact HR X2 Y2 _ (HS.out.sub [2, 3, 4, 5, 6, 1, 0, 7, 8, 9] rfl (by decide))
      · clear HS HF HMK HWM
        intro MB WB wF hS
        rw [← (show t1 = p1.nt from hHP.out.like.top), ← (show n1 = p1.nl from hHP.out.like.nl)] at hS
        have HS := Lib.hid hS; clear hS
        clear hlp2 hop2 honeS hoM honeR
        have hql0 : q1.length ≤ 2200 := by simp at hfl; omega
        go_wp2_with fail
        go_loopg [21, 95] m (fun g va vi wr => ∃ (j al : Nat) (p : P.St) (s : W.S) (sj : Value) (qj : List (Int × Int)) (tj nj wt wn : Int), g + j = m ∧ vi = .int .i64 (j : Int) ∧ va = .int .i64 (al : Int) ∧ (P.PP c R wt0 wl0 p s tj nj qj ∧ (0 ≤ wt ∧ wt ≤ c.b) ∧ (0 ≤ wn ∧ wn ≤ limit c)) ∧ qj.length ≤ 2200 + 9 * j ∧ Sep w wr [setT k (s), poolT c seq b (p), blkT YB 95 [.int .i64 (R : Int), sj], refT (sj) (qj), blkT XB 65 (RQ vn (.slice none 0 0) wt0 wl0 (tj) (nj)), blkT MB 83 [.int .i64 (wt), .int .i64 (wn)], blkT WB 65 (RQ vn (.slice none 0 0) wt0 wl0 (wt) (wn)), rowT 0 22 1 vn nsl (ns.map (Value.int .u64)), blkT w2.heap.size 31 cs, blkT w.heap.size 24 cl])
        case atStart => exact ⟨0, s1.done.length, p1, s1, sv, q1, t1, n1, t1, n1, by omega, rfl, rfl, ⟨hHP.out, hHP.out.top, hHP.out.nl⟩, by omega, HS.out⟩
        case round =>
          clear HS hHP hfl hql0
          obtain ⟨j, al, p, s, sj, qj, tj, nj, wt, wn, hgj, rfl, rfl, ⟨hpp, hwt, hwn⟩, hql, hS⟩ := hrel
          have HPP := Lib.hid hpp; clear hpp
          have HS := Lib.hid hS; clear hS
          by_cases hj : j < m
          · have hji : (j : Int) < (m : Int) := by omega
            have hjl : j < L.length := by have := HM.out; omega
            obtain ⟨x, rfl, hx, c0, c1⟩ := (HA.out.fr HS.out.fr).at hjl
            generalize L[j] = act at *
            obtain ⟨ak, ab⟩ := act
            have d0 := c0 _ rfl
            have d2 := c1 0 _ rfl
            have HS := Lib.hid ((HS.out.new 88 [.int .i64 ak, .int .i64 ab])); clear c0 c1
            have hnt := HPP.out.top
            have hnl := HPP.out.nl
            have hlk := HPP.out.like
            have hdn : s.done.length ≤ 900000 := by rw [HPP.out.rep.done]; omega
            have hlpj : (RQ vn (.slice none 0 0) wt0 wl0 tj nj).length = 12 := HRQ.out.len _ _ _ _ _ _
            by_cases hk0 : ak = 0
            · subst hk0
              have hpp2 := HPP.out.take HOK.out ab
              have hql2 := P.rtakeP_len c ab R tj qj
              have hrt := fun w' (Rs : List Thing) h => rtake10_any (w0 := w) (w := w') (Rs := Rs) c HOK.out vn (.slice none 0 0) hv1 rfl wt0 wl0 tj nj ab ⟨hnt.1, by have := HOK.out.b64; omega⟩ R (by omega) sj qj (by omega) h
              have hpt := fun w' (Rs : List Thing) h => ptakeT (w0 := w) (w := w') (R := Rs) b k c HOK.out seq p s ab (by rw [← hlk.top]; exact hnt) hdn h
              rw [HRQE.out] at hrt
              generalize P.take c ab p s = z at *
              obtain ⟨p2, s2⟩ := z
              obtain ⟨y1, hy1⟩ : ∃ y1, (P.rtakeP c ab R tj qj).1 = y1 := ⟨_, rfl⟩
              obtain ⟨y2, hy2⟩ : ∃ y2, (P.rtakeP c ab R tj qj).2 = y2 := ⟨_, rfl⟩
              rw [hy1, hy2] at hpp2
              rw [hy2] at hql2
              rw [hy1, hy2] at hrt
              clear hy1 hy2
              have HRT := Lib.hid hrt
              have HPT := Lib.hid hpt
              clear hrt hpt
              dsimp only at hpp2
              have HPP2 := Lib.hid hpp2; clear hpp2
              go_wp2_with fail
              refine (HPT.out _ _ ((HS.out.pull 2 rfl).pull 2 rfl)).mono ?_
              rintro e w12 ⟨rfl, h12⟩
              have hS := h12.pull 4 rfl
              have HS : Hid (Sep w w12 [refT sj qj, setT k s2, poolT c seq b p2, blkT wr.heap.size 88 [.int .i64 0, .int .i64 ab], blkT YB 95 [.int .i64 (R : Int), sj], blkT XB 65 (RQ vn (.slice none 0 0) wt0 wl0 tj nj), blkT MB 83 [.int .i64 wt, .int .i64 wn], blkT WB 65 (RQ vn (.slice none 0 0) wt0 wl0 wt wn), rowT 0 22 1 vn nsl (ns.map (Value.int .u64)), blkT w2.heap.size 31 cs, blkT w.heap.size 24 cl]) := Lib.hid hS
              clear h12 hS d0 d2
              have d2 := (HS.out.blk 3 rfl).cell 1
              have dl := (HS.out.blk 3 rfl).lt
              simp only [List.getElem?_cons_zero, List.getElem?_cons_succ] at d2
              go_wp2_with (first | (refine wpList_load_any 65 _ rfl rfl _ 0 rfl (RQ vn (.slice none 0 0) wt0 wl0 tj nj) _ (HS.out.blk 5 rfl).range Try.underlying65 rfl (by rw [hlpj]; kernel_rfl) ?_) | (refine wpList_load_any 95 _ rfl rfl _ 0 rfl [.int .i64 (R : Int), sj] _ (HS.out.blk 4 rfl).range Try.underlying95 rfl (by kernel_rfl) ?_))
              refine (HRT.out _ _ HS.out).mono ?_
              rintro e w13 ⟨sv2, rfl, h13⟩
              have honeS := ref_one h13 0 rfl R
              have HS := Lib.hid h13; clear h13 d2 dl
              have hlp2 : (RQ vn (.slice none 0 0) wt0 wl0 y1 nj).length = 12 := HRQ.out.len _ _ _ _ _ _
              have hop2 : ∀ z9 ∈ RQ vn (.slice none 0 0) wt0 wl0 y1 nj, z9.oneCell' = true := HRQ.out.one _ _ hv1 rfl _ _ _ _
              go_wp2_with (first | (refine wpList_store_sep HS.out 5 rfl (RQ vn (.slice none 0 0) wt0 wl0 y1 nj) 65 _ _ rfl rfl rfl rfl (by rw [hlp2, hlpj]) (by rw [hlp2]; kernel_rfl) hop2 (fun wA hA _ => ?_); simp only [List.set_cons_zero, List.set_cons_succ] at hA; have HA1 := Lib.hid hA; clear hA) | (refine wpList_store_sep HA1.out 4 rfl [.int .i64 (R : Int), sv2] 95 _ _ rfl rfl rfl rfl rfl (by kernel_rfl) honeS (fun wA hA _ => ?_); simp only [List.set_cons_zero, List.set_cons_succ] at hA; have HA2 := Lib.hid hA; clear hA))
              have hS := HA2.out.sub (Ts' := [_, _, _, _, _, _, _, _, _, _]) [1, 2, 4, 0, 5, 6, 7, 8, 9, 10] rfl (by decide)
              have HS := Lib.hid hS
              clear hS HA1 HA2 hlp2 hop2 honeS HRT HPT
              have hpb := HPP2.out.top
              have hnb := HPP2.out.nl
              have hlk2 := HPP2.out.like
              have hcb := HOK.out.b64
              have hlp2 : (RQ vn (.slice none 0 0) wt0 wl0 y1 nj).length = 12 := HRQ.out.len _ _ _ _ _ _
              have hx10 : (RQ vn (.slice none 0 0) wt0 wl0 y1 nj)[10]? = some (.int .i64 y1) := by rw [← HRQE.out]; rfl
              have hx11 : (RQ vn (.slice none 0 0) wt0 wl0 y1 nj)[11]? = some (.int .i64 nj) := by rw [← HRQE.out]; rfl
              have htp := fun w' => rtop10_any w' c HOK.out vn (.slice none 0 0) wt0 wl0 y1 nj ⟨hpb.1, by omega⟩
              rw [HRQE.out] at htp
              obtain ⟨⟨r1, r2⟩, hr⟩ : ∃ X, rtopP c y1 = X := ⟨_, rfl⟩
              rw [hr] at htp
              dsimp only at htp
              have HTP := Lib.hid htp; clear htp
              go_wp2_with fail
              refine (ptop_of b c HOK.out seq p2 (by rw [← hlk2.top]; omega) (HS.out.pull 1 rfl)).mono ?_
              rintro e w14 ⟨rfl, hf⟩
              rw [P.top_like hlk2, hr]
              have HS := Lib.hid (HS.out.fr0 hf); clear hf hr
              dsimp only
              go_wp2_with (refine wpList_load_any 65 _ rfl rfl _ 0 rfl (RQ vn (.slice none 0 0) wt0 wl0 y1 nj) _ (HS.out.blk 4 rfl).range Try.underlying65 rfl (by rw [hlp2]; kernel_rfl) ?_)
              refine (HTP.out _).mono ?_
              rintro e w15 ⟨rfl, hf⟩
              have HS := Lib.hid (HS.out.fr0 hf); clear hf HTP
              go_wp2_with fail
              have hB0 := (HS.out.blk 4 rfl).drew
              have x10 := (hB0.cell 10).trans hx10
              have x11 := (hB0.cell 11).trans hx11
              have xl := hB0.lt
              refine step_start ([10, 20, 21], [22, 23]) [] (by kernel_rfl) ?_
              refine step_reads (N := 11) [0, 1, 2, 3, 4, 5, 6, 7, 8, 9, 11, 12, 13, 14, 15] (by kernel_rfl) ⟨⟨_, Fr.refl _ _⟩, rfl⟩ ?_
              simp only [theOps, nthOp, List.map_cons, List.map_nil, Array.getD_eq_getD_getElem?, List.getElem?_toArray, List.getElem?_cons_succ, List.getElem?_cons_zero, Option.getD_some]
              repeat (first | go_big_quiet_step (fail) | quiet_step (fail))
              refine wpQuiet_nil ?_
              have HS := Lib.hid HS.out.drew
              clear hB0 x10 x11 xl
              generalize World.drew _ = wd at HS ⊢
              have HF := Lib.hid (Fr.refl [] wd)
              refine step_keep (N := 10) 10 (by kernel_rfl) rfl ?_
              go_wp2_with fail
              refine (pmark_of b c seq p2 (HS.out.pull 1 rfl)).mono ?_
              rintro e w16 ⟨rfl, hf⟩
              have HF := Lib.hid hf
              have HS := Lib.hid (HS.out.fr0 hf); clear hf
              rw [← hlk2.top, ← hlk2.nl]
              go_wp2_with fail
              refine ⟨⟨⟨_, (by exact HF.out)⟩, rfl⟩, ?_⟩
              refine step_pures (N := 6) [16, 17, 18, 19] (by kernel_rfl) ?_
              simp only [theOps, nthOp, List.map_cons, List.map_nil, Array.getD_eq_getD_getElem?, List.getElem?_toArray, List.getElem?_cons_succ, List.getElem?_cons_zero, Option.getD_some]
              repeat (first | go_big_quiet_step (fail) | quiet_step (fail))
              refine wpQuiet_nil ?_
              have HRL : Hid ((s2).list.length ≤ 100000 ∧ (W.rall y2).length ≤ 100000) := Lib.hid (by have h1 := W.rallTo_length y2 (y2).length; have h2 : W.rall y2 = W.rallTo y2 (y2).length := rfl; rw [HPP2.out.rep.list, h2]; omega)
              have HLS : Hid (((s2).list == W.rall y2) = true) := Lib.hid (by rw [HPP2.out.rep.list]; simp)
              apply joinG (S := fun v v2 wF => Sep w wF [setT k (s2), poolT c seq b (p2), blkT YB 95 [.int .i64 (R : Int), sv2], refT (sv2) (y2), blkT XB 65 (RQ vn (.slice none 0 0) wt0 wl0 (y1) (nj)), blkT MB 83 [.int .i64 (wt), .int .i64 (wn)], blkT WB 65 (RQ vn (.slice none 0 0) wt0 wl0 (wt) (wn)), rowT 0 22 1 vn nsl (ns.map (Value.int .u64)), blkT w2.heap.size 31 cs, blkT w.heap.size 24 cl])
              · intro HR
                refine step_two (N := 5) 20 21 (by kernel_rfl) rfl rfl ?_ ?_
                · go_wp2_with fail
                  refine (all10_any HS.out).mono ?_
                  rintro e w17 ⟨v, rfl, hfr⟩
                  have HF := Lib.hid (HF.out.trans hfr.1)
                  have HS := Lib.hid (HS.out.fresh hfr); clear hfr
                  go_wp2_with fail
                  refine ⟨⟨⟨_, (by exact HF.out)⟩, rfl⟩, ?_⟩
                  refine step_keep (N := 4) 21 (by kernel_rfl) rfl ?_
                  refine wpList_load_any 95 _ rfl rfl _ 0 rfl [.int .i64 (R : Int), sv2] _ (HS.out.blk 3 rfl).range Try.underlying95 rfl (by kernel_rfl) ?_
                  go_wp2_with fail
                  refine ⟨⟨⟨_, (by exact HF.out)⟩, rfl⟩, ?_⟩
                  refine step_hard (N := 3) 22 (by kernel_rfl) rfl ?_
                  go_wp2_with fail
                  refine (rall_any 0 R sv2 y2 _ (HS.out.row 4 rfl) (by omega) (Nat.zero_le _)).mono ?_
                  rintro e w18 ⟨v2, rfl, hrow2, hf2, hown2⟩
                  have hS := HS.out.push hf2 (T := rowT 0 177 2 v2 (W.rall y2).length (W.ents (W.rall y2))) (fp := v2.ownBlock.toList) ⟨rfl, hrow2⟩ (fun q hq => hown2 q (by simpa using hq))
                  have HS := Lib.hid hS; clear hS hrow2 hf2 hown2
                  go_wp2_with fail
                  refine step_hard (N := 2) 23 (by kernel_rfl) rfl ?_
                  go_wp2_with fail
                  refine (same_any 0 0 v v2 (s2).list (W.rall y2) _ (HS.out.row 1 rfl) (HS.out.row 0 rfl) (by have := HRL.out; omega) (by have := HRL.out; omega)).mono ?_
                  rintro e w19 ⟨rfl, nd, rfl⟩
                  rw [HLS.out]
                  have HS := Lib.hid (HS.out.drewN nd).tail.tail
                  go_wp2_with fail
                  refine step_pures (N := 0) [24, 25] (by kernel_rfl) ?_
                  simp only [theOps, nthOp, List.map_cons, List.map_nil, Array.getD_eq_getD_getElem?, List.getElem?_toArray, List.getElem?_cons_succ, List.getElem?_cons_zero, Option.getD_some]
                  repeat (first | go_big_quiet_step (fail) | quiet_step (fail))
                  refine wpQuiet_nil ?_
                  refine step_done (by kernel_rfl) ?_
                  exact HR v v2 _ HS.out
                · refine wpList_load_any 95 _ rfl rfl _ 0 rfl [.int .i64 (R : Int), sv2] _ (HS.out.blk 2 rfl).range Try.underlying95 rfl (by kernel_rfl) ?_
                  go_wp2_with fail
                  refine ⟨⟨⟨_, (by exact HF.out)⟩, rfl⟩, ?_⟩
                  refine step_keep (N := 4) 20 (by kernel_rfl) rfl ?_
                  go_wp2_with fail
                  refine (all10_any HS.out).mono ?_
                  rintro e w17 ⟨v, rfl, hfr⟩
                  have HF := Lib.hid (HF.out.trans hfr.1)
                  have HS := Lib.hid (HS.out.fresh hfr); clear hfr
                  go_wp2_with fail
                  refine ⟨⟨⟨_, (by exact HF.out)⟩, rfl⟩, ?_⟩
                  refine step_hard (N := 3) 22 (by kernel_rfl) rfl ?_
                  go_wp2_with fail
                  refine (rall_any 0 R sv2 y2 _ (HS.out.row 4 rfl) (by omega) (Nat.zero_le _)).mono ?_
                  rintro e w18 ⟨v2, rfl, hrow2, hf2, hown2⟩
                  have hS := HS.out.push hf2 (T := rowT 0 177 2 v2 (W.rall y2).length (W.ents (W.rall y2))) (fp := v2.ownBlock.toList) ⟨rfl, hrow2⟩ (fun q hq => hown2 q (by simpa using hq))
                  have HS := Lib.hid hS; clear hS hrow2 hf2 hown2
                  go_wp2_with fail
                  refine step_hard (N := 2) 23 (by kernel_rfl) rfl ?_
                  go_wp2_with fail
                  refine (same_any 0 0 v v2 (s2).list (W.rall y2) _ (HS.out.row 1 rfl) (HS.out.row 0 rfl) (by have := HRL.out; omega) (by have := HRL.out; omega)).mono ?_
                  rintro e w19 ⟨rfl, nd, rfl⟩
                  rw [HLS.out]
                  have HS := Lib.hid (HS.out.drewN nd).tail.tail
                  go_wp2_with fail
                  refine step_pures (N := 0) [24, 25] (by kernel_rfl) ?_
                  simp only [theOps, nthOp, List.map_cons, List.map_nil, Array.getD_eq_getD_getElem?, List.getElem?_toArray, List.getElem?_cons_succ, List.getElem?_cons_zero, Option.getD_some]
                  repeat (first | go_big_quiet_step (fail) | quiet_step (fail))
                  refine wpQuiet_nil ?_
                  refine step_done (by kernel_rfl) ?_
                  exact HR v v2 _ HS.out
              · clear HS HF HRL HLS
                intro v v2 wF hS
                have HS := Lib.hid hS; clear hS
                go_wp2_with fail
                go_roundg (m - (j + 1))
                case measure => omega
                case rel => exact ⟨j + 1, al, p2, s2, sv2, y2, y1, nj, wt, wn, by omega, by go_num, rfl, ⟨HPP2.out, hwt, hwn⟩, by omega, HS.out⟩
            have e0 : (ak == 0) = false := by simpa using hk0
            by_cases hk1 : ak = 1
            · subst hk1
              clear hk0
              have hpp2 := HPP.out.give HOK.out ab
              have hql2 := P.rgiveP_len c ab R nj qj
              have hrt := fun w' (Rs : List Thing) h => rgive10_any (w0 := w) (w := w') (Rs := Rs) c HOK.out vn (.slice none 0 0) hv1 rfl wt0 wl0 tj nj ab ⟨hnl.1, by have := limit_pos HOK.out; omega⟩ R (by omega) sj qj (by omega) h
              have hpt := fun w' (Rs : List Thing) h => pgiveT (w0 := w) (w := w') (R := Rs) b k c HOK.out seq p s ab (by rw [← hlk.nl]; exact hnl) hdn h
              rw [HRQE.out] at hrt
              generalize P.give c ab p s = z at *
              obtain ⟨p2, s2⟩ := z
              obtain ⟨y1, hy1⟩ : ∃ y1, (P.rgiveP c ab R nj qj).1 = y1 := ⟨_, rfl⟩
              obtain ⟨y2, hy2⟩ : ∃ y2, (P.rgiveP c ab R nj qj).2 = y2 := ⟨_, rfl⟩
              rw [hy1, hy2] at hpp2
              rw [hy2] at hql2
              rw [hy1, hy2] at hrt
              clear hy1 hy2
              have HRT := Lib.hid hrt
              have HPT := Lib.hid hpt
              clear hrt hpt
              dsimp only at hpp2
              have HPP2 := Lib.hid hpp2; clear hpp2
              go_wp2_with fail
              refine (HPT.out _ _ ((HS.out.pull 2 rfl).pull 2 rfl)).mono ?_
              rintro e w12 ⟨rfl, h12⟩
              have hS := h12.pull 4 rfl
              have HS : Hid (Sep w w12 [refT sj qj, setT k s2, poolT c seq b p2, blkT wr.heap.size 88 [.int .i64 1, .int .i64 ab], blkT YB 95 [.int .i64 (R : Int), sj], blkT XB 65 (RQ vn (.slice none 0 0) wt0 wl0 tj nj), blkT MB 83 [.int .i64 wt, .int .i64 wn], blkT WB 65 (RQ vn (.slice none 0 0) wt0 wl0 wt wn), rowT 0 22 1 vn nsl (ns.map (Value.int .u64)), blkT w2.heap.size 31 cs, blkT w.heap.size 24 cl]) := Lib.hid hS
              clear h12 hS d0 d2
              have d2 := (HS.out.blk 3 rfl).cell 1
              have dl := (HS.out.blk 3 rfl).lt
              simp only [List.getElem?_cons_zero, List.getElem?_cons_succ] at d2
              go_wp2_with (first | (refine wpList_load_any 65 _ rfl rfl _ 0 rfl (RQ vn (.slice none 0 0) wt0 wl0 tj nj) _ (HS.out.blk 5 rfl).range Try.underlying65 rfl (by rw [hlpj]; kernel_rfl) ?_) | (refine wpList_load_any 95 _ rfl rfl _ 0 rfl [.int .i64 (R : Int), sj] _ (HS.out.blk 4 rfl).range Try.underlying95 rfl (by kernel_rfl) ?_))
              refine (HRT.out _ _ HS.out).mono ?_
              rintro e w13 ⟨sv2, rfl, h13⟩
              have honeS := ref_one h13 0 rfl R
              have HS := Lib.hid h13; clear h13 d2 dl
              have hlp2 : (RQ vn (.slice none 0 0) wt0 wl0 tj y1).length = 12 := HRQ.out.len _ _ _ _ _ _
              have hop2 : ∀ z9 ∈ RQ vn (.slice none 0 0) wt0 wl0 tj y1, z9.oneCell' = true := HRQ.out.one _ _ hv1 rfl _ _ _ _
              go_wp2_with (first | (refine wpList_store_sep HS.out 5 rfl (RQ vn (.slice none 0 0) wt0 wl0 tj y1) 65 _ _ rfl rfl rfl rfl (by rw [hlp2, hlpj]) (by rw [hlp2]; kernel_rfl) hop2 (fun wA hA _ => ?_); simp only [List.set_cons_zero, List.set_cons_succ] at hA; have HA1 := Lib.hid hA; clear hA) | (refine wpList_store_sep HA1.out 4 rfl [.int .i64 (R : Int), sv2] 95 _ _ rfl rfl rfl rfl rfl (by kernel_rfl) honeS (fun wA hA _ => ?_); simp only [List.set_cons_zero, List.set_cons_succ] at hA; have HA2 := Lib.hid hA; clear hA))
              have hS := HA2.out.sub (Ts' := [_, _, _, _, _, _, _, _, _, _]) [1, 2, 4, 0, 5, 6, 7, 8, 9, 10] rfl (by decide)
              have HS := Lib.hid hS
              clear hS HA1 HA2 hlp2 hop2 honeS HRT HPT
              have hpb := HPP2.out.top
              have hnb := HPP2.out.nl
              have hlk2 := HPP2.out.like
              have hcb := HOK.out.b64
              have hlp2 : (RQ vn (.slice none 0 0) wt0 wl0 tj y1).length = 12 := HRQ.out.len _ _ _ _ _ _
              have hx10 : (RQ vn (.slice none 0 0) wt0 wl0 tj y1)[10]? = some (.int .i64 tj) := by rw [← HRQE.out]; rfl
              have hx11 : (RQ vn (.slice none 0 0) wt0 wl0 tj y1)[11]? = some (.int .i64 y1) := by rw [← HRQE.out]; rfl
              have htp := fun w' => rtop10_any w' c HOK.out vn (.slice none 0 0) wt0 wl0 tj y1 ⟨hpb.1, by omega⟩
              rw [HRQE.out] at htp
              obtain ⟨⟨r1, r2⟩, hr⟩ : ∃ X, rtopP c tj = X := ⟨_, rfl⟩
              rw [hr] at htp
              dsimp only at htp
              have HTP := Lib.hid htp; clear htp
              go_wp2_with fail
              refine (ptop_of b c HOK.out seq p2 (by rw [← hlk2.top]; omega) (HS.out.pull 1 rfl)).mono ?_
              rintro e w14 ⟨rfl, hf⟩
              rw [P.top_like hlk2, hr]
              have HS := Lib.hid (HS.out.fr0 hf); clear hf hr
              dsimp only
              go_wp2_with (refine wpList_load_any 65 _ rfl rfl _ 0 rfl (RQ vn (.slice none 0 0) wt0 wl0 tj y1) _ (HS.out.blk 4 rfl).range Try.underlying65 rfl (by rw [hlp2]; kernel_rfl) ?_)
              refine (HTP.out _).mono ?_
              rintro e w15 ⟨rfl, hf⟩
              have HS := Lib.hid (HS.out.fr0 hf); clear hf HTP
              go_wp2_with fail
              have hB0 := (HS.out.blk 4 rfl).drew
              have x10 := (hB0.cell 10).trans hx10
              have x11 := (hB0.cell 11).trans hx11
              have xl := hB0.lt
              refine step_start ([10, 20, 21], [22, 23]) [] (by kernel_rfl) ?_
              refine step_reads (N := 11) [0, 1, 2, 3, 4, 5, 6, 7, 8, 9, 11, 12, 13, 14, 15] (by kernel_rfl) ⟨⟨_, Fr.refl _ _⟩, rfl⟩ ?_
              simp only [theOps, nthOp, List.map_cons, List.map_nil, Array.getD_eq_getD_getElem?, List.getElem?_toArray, List.getElem?_cons_succ, List.getElem?_cons_zero, Option.getD_some]
              repeat (first | go_big_quiet_step (fail) | quiet_step (fail))
              refine wpQuiet_nil ?_
              have HS := Lib.hid HS.out.drew
              clear hB0 x10 x11 xl
              generalize World.drew _ = wd at HS ⊢
              have HF := Lib.hid (Fr.refl [] wd)
              refine step_keep (N := 10) 10 (by kernel_rfl) rfl ?_
              go_wp2_with fail
              refine (pmark_of b c seq p2 (HS.out.pull 1 rfl)).mono ?_
              rintro e w16 ⟨rfl, hf⟩
              have HF := Lib.hid hf
              have HS := Lib.hid (HS.out.fr0 hf); clear hf
              rw [← hlk2.top, ← hlk2.nl]
              go_wp2_with fail
              refine ⟨⟨⟨_, (by exact HF.out)⟩, rfl⟩, ?_⟩
              refine step_pures (N := 6) [16, 17, 18, 19] (by kernel_rfl) ?_
              simp only [theOps, nthOp, List.map_cons, List.map_nil, Array.getD_eq_getD_getElem?, List.getElem?_toArray, List.getElem?_cons_succ, List.getElem?_cons_zero, Option.getD_some]
              repeat (first | go_big_quiet_step (fail) | quiet_step (fail))
              refine wpQuiet_nil ?_
              have HRL : Hid ((s2).list.length ≤ 100000 ∧ (W.rall y2).length ≤ 100000) := Lib.hid (by have h1 := W.rallTo_length y2 (y2).length; have h2 : W.rall y2 = W.rallTo y2 (y2).length := rfl; rw [HPP2.out.rep.list, h2]; omega)
              have HLS : Hid (((s2).list == W.rall y2) = true) := Lib.hid (by rw [HPP2.out.rep.list]; simp)
              apply joinG (S := fun v v2 wF => Sep w wF [setT k (s2), poolT c seq b (p2), blkT YB 95 [.int .i64 (R : Int), sv2], refT (sv2) (y2), blkT XB 65 (RQ vn (.slice none 0 0) wt0 wl0 (tj) (y1)), blkT MB 83 [.int .i64 (wt), .int .i64 (wn)], blkT WB 65 (RQ vn (.slice none 0 0) wt0 wl0 (wt) (wn)), rowT 0 22 1 vn nsl (ns.map (Value.int .u64)), blkT w2.heap.size 31 cs, blkT w.heap.size 24 cl])
              · intro HR
                refine step_two (N := 5) 20 21 (by kernel_rfl) rfl rfl ?_ ?_
                · go_wp2_with fail
                  refine (all10_any HS.out).mono ?_
                  rintro e w17 ⟨v, rfl, hfr⟩
                  have HF := Lib.hid (HF.out.trans hfr.1)
                  have HS := Lib.hid (HS.out.fresh hfr); clear hfr
                  go_wp2_with fail
                  refine ⟨⟨⟨_, (by exact HF.out)⟩, rfl⟩, ?_⟩
                  refine step_keep (N := 4) 21 (by kernel_rfl) rfl ?_
                  refine wpList_load_any 95 _ rfl rfl _ 0 rfl [.int .i64 (R : Int), sv2] _ (HS.out.blk 3 rfl).range Try.underlying95 rfl (by kernel_rfl) ?_
                  go_wp2_with fail
                  refine ⟨⟨⟨_, (by exact HF.out)⟩, rfl⟩, ?_⟩
                  refine step_hard (N := 3) 22 (by kernel_rfl) rfl ?_
                  go_wp2_with fail
                  refine (rall_any 0 R sv2 y2 _ (HS.out.row 4 rfl) (by omega) (Nat.zero_le _)).mono ?_
                  rintro e w18 ⟨v2, rfl, hrow2, hf2, hown2⟩
                  have hS := HS.out.push hf2 (T := rowT 0 177 2 v2 (W.rall y2).length (W.ents (W.rall y2))) (fp := v2.ownBlock.toList) ⟨rfl, hrow2⟩ (fun q hq => hown2 q (by simpa using hq))
                  have HS := Lib.hid hS; clear hS hrow2 hf2 hown2
                  go_wp2_with fail
                  refine step_hard (N := 2) 23 (by kernel_rfl) rfl ?_
                  go_wp2_with fail
                  refine (same_any 0 0 v v2 (s2).list (W.rall y2) _ (HS.out.row 1 rfl) (HS.out.row 0 rfl) (by have := HRL.out; omega) (by have := HRL.out; omega)).mono ?_
                  rintro e w19 ⟨rfl, nd, rfl⟩
                  rw [HLS.out]
                  have HS := Lib.hid (HS.out.drewN nd).tail.tail
                  go_wp2_with fail
                  refine step_pures (N := 0) [24, 25] (by kernel_rfl) ?_
                  simp only [theOps, nthOp, List.map_cons, List.map_nil, Array.getD_eq_getD_getElem?, List.getElem?_toArray, List.getElem?_cons_succ, List.getElem?_cons_zero, Option.getD_some]
                  repeat (first | go_big_quiet_step (fail) | quiet_step (fail))
                  refine wpQuiet_nil ?_
                  refine step_done (by kernel_rfl) ?_
                  exact HR v v2 _ HS.out
                · refine wpList_load_any 95 _ rfl rfl _ 0 rfl [.int .i64 (R : Int), sv2] _ (HS.out.blk 2 rfl).range Try.underlying95 rfl (by kernel_rfl) ?_
                  go_wp2_with fail
                  refine ⟨⟨⟨_, (by exact HF.out)⟩, rfl⟩, ?_⟩
                  refine step_keep (N := 4) 20 (by kernel_rfl) rfl ?_
                  go_wp2_with fail
                  refine (all10_any HS.out).mono ?_
                  rintro e w17 ⟨v, rfl, hfr⟩
                  have HF := Lib.hid (HF.out.trans hfr.1)
                  have HS := Lib.hid (HS.out.fresh hfr); clear hfr
                  go_wp2_with fail
                  refine ⟨⟨⟨_, (by exact HF.out)⟩, rfl⟩, ?_⟩
                  refine step_hard (N := 3) 22 (by kernel_rfl) rfl ?_
                  go_wp2_with fail
                  refine (rall_any 0 R sv2 y2 _ (HS.out.row 4 rfl) (by omega) (Nat.zero_le _)).mono ?_
                  rintro e w18 ⟨v2, rfl, hrow2, hf2, hown2⟩
                  have hS := HS.out.push hf2 (T := rowT 0 177 2 v2 (W.rall y2).length (W.ents (W.rall y2))) (fp := v2.ownBlock.toList) ⟨rfl, hrow2⟩ (fun q hq => hown2 q (by simpa using hq))
                  have HS := Lib.hid hS; clear hS hrow2 hf2 hown2
                  go_wp2_with fail
                  refine step_hard (N := 2) 23 (by kernel_rfl) rfl ?_
                  go_wp2_with fail
                  refine (same_any 0 0 v v2 (s2).list (W.rall y2) _ (HS.out.row 1 rfl) (HS.out.row 0 rfl) (by have := HRL.out; omega) (by have := HRL.out; omega)).mono ?_
                  rintro e w19 ⟨rfl, nd, rfl⟩
                  rw [HLS.out]
                  have HS := Lib.hid (HS.out.drewN nd).tail.tail
                  go_wp2_with fail
                  refine step_pures (N := 0) [24, 25] (by kernel_rfl) ?_
                  simp only [theOps, nthOp, List.map_cons, List.map_nil, Array.getD_eq_getD_getElem?, List.getElem?_toArray, List.getElem?_cons_succ, List.getElem?_cons_zero, Option.getD_some]
                  repeat (first | go_big_quiet_step (fail) | quiet_step (fail))
                  refine wpQuiet_nil ?_
                  refine step_done (by kernel_rfl) ?_
                  exact HR v v2 _ HS.out
              · clear HS HF HRL HLS
                intro v v2 wF hS
                have HS := Lib.hid hS; clear hS
                go_wp2_with fail
                go_roundg (m - (j + 1))
                case measure => omega
                case rel => exact ⟨j + 1, al, p2, s2, sv2, y2, tj, y1, wt, wn, by omega, by go_num, rfl, ⟨HPP2.out, hwt, hwn⟩, by omega, HS.out⟩
            have e1 : (ak == 1) = false := by simpa using hk1
            by_cases hk2 : ak = 2
            · subst hk2
              clear hk0 hk1
              go_wp2_with fail
              clear d0 d2
              have HS := Lib.hid HS.out.tail
              have hne : ¬ XB = MB := HS.out.ne 4 5 rfl rfl (by decide)
              have hmp := (HS.out.blk 4 rfl).drew
              have hopj : ∀ z9 ∈ RQ vn (.slice none 0 0) wt0 wl0 tj nj, z9.oneCell' = true := HRQ.out.one _ _ hv1 rfl _ _ _ _
              have hoM : ∀ z9 ∈ [Value.int .i64 tj, .int .i64 nj], z9.oneCell' = true := by simp [Value.oneCell']
              refine wp_region_fr [(1, [0, 2, 4]), (2, [1]), (2, [3]), (2, [5]), (0, [6]), (3, [7])] [MB] (by kernel_rfl) (by kernel_rfl) ?_
              simp only [theOps, nthOp, List.map_cons, List.map_nil, Array.getD_eq_getD_getElem?, List.getElem?_toArray, List.getElem?_cons_succ, List.getElem?_cons_zero, Option.getD_some]
              refine wpSegs_soft ?_
              repeat (first | (refine wpQuiet_load_mid 65 _ XB 0 (RQ vn (.slice none 0 0) wt0 wl0 tj nj) _ rfl rfl rfl (rangeAt_after hmp (by simpa using hne)) Try.underlying65 rfl (by rw [hlpj]; kernel_rfl) ?_; simp only [Act.put, List.setIfInBounds_toArray, List.set_cons_zero, List.set_cons_succ]) | go_big_quiet_step (fail) | quiet_step (fail))
              refine wpQuiet_nil ?_
              refine wpSegs_keep ?_
              go_wp2_with fail
              refine (pmark_of b c seq p (HS.out.drew.pull 1 rfl)).mono ?_
              rintro e w12 ⟨rfl, hf⟩
              have HF := Lib.hid hf
              have HS := Lib.hid (HS.out.drew.fr0 hf); clear hf hmp hne
              rw [← hlk.top, ← hlk.nl]
              go_wp2_with fail
              refine ⟨⟨⟨_, (by exact HF.out.mono (by simp))⟩, rfl⟩, ?_⟩
              refine wpSegs_keep ?_
              go_wp2_with fail
              refine (mark_sep HS.out).mono ?_
              rintro e w13 ⟨rfl, rfl⟩
              go_wp2_with fail
              refine ⟨⟨⟨_, (by exact HF.out.mono (by simp))⟩, rfl⟩, ?_⟩
              refine wpSegs_keep ?_
              refine wpList_store_sep HS.out 5 rfl [.int .i64 tj, .int .i64 nj] 83 _ _ rfl rfl rfl rfl rfl (by kernel_rfl) hoM (fun wA hA fA => ?_)
              simp only [List.set_cons_zero, List.set_cons_succ] at hA
              have HS := Lib.hid hA
              have HF2 := Lib.hid ((HF.out.mono (by simp)).trans fA)
              clear hA fA
              go_wp2_with fail
              refine ⟨⟨⟨_, (by exact HF2.out)⟩, rfl⟩, ?_⟩
              repeat ((first | refine wpSegs_soft ?_ | refine wpSegs_pure ?_ | refine wpSegs_here ?_); (repeat (first | go_big_quiet_step (fail) | quiet_step (fail))); refine wpQuiet_nil ?_)
              refine wpSegs_hard ?_
              refine wpList_store_sep HS.out 6 rfl (RQ vn (.slice none 0 0) wt0 wl0 tj nj) 65 _ _ rfl rfl rfl rfl (by rw [hlpj]; exact (HRQ.out.len _ _ _ _ _ _).symm) (by rw [hlpj]; kernel_rfl) hopj (fun wA hA _ => ?_)
              simp only [List.set_cons_zero, List.set_cons_succ] at hA
              have HS := Lib.hid hA; clear hA
              go_wp2_with fail
              refine wpSegs_done ?_
              have HPP2 := HPP
              have hql2 := hql
              clear hwt hwn hopj hoM HF HF2
              have hwt := hnt
              have hwn := hnl
              go_wp2_with fail
              have hpb := HPP2.out.top
              have hnb := HPP2.out.nl
              have hlk2 := HPP2.out.like
              have hcb := HOK.out.b64
              have hlp2 : (RQ vn (.slice none 0 0) wt0 wl0 tj nj).length = 12 := HRQ.out.len _ _ _ _ _ _
              have hx10 : (RQ vn (.slice none 0 0) wt0 wl0 tj nj)[10]? = some (.int .i64 tj) := by rw [← HRQE.out]; rfl
              have hx11 : (RQ vn (.slice none 0 0) wt0 wl0 tj nj)[11]? = some (.int .i64 nj) := by rw [← HRQE.out]; rfl
              have htp := fun w' => rtop10_any w' c HOK.out vn (.slice none 0 0) wt0 wl0 tj nj ⟨hpb.1, by omega⟩
              rw [HRQE.out] at htp
              obtain ⟨⟨r1, r2⟩, hr⟩ : ∃ X, rtopP c tj = X := ⟨_, rfl⟩
              rw [hr] at htp
              dsimp only at htp
              have HTP := Lib.hid htp; clear htp
              go_wp2_with fail
              refine (ptop_of b c HOK.out seq p (by rw [← hlk2.top]; omega) (HS.out.pull 1 rfl)).mono ?_
              rintro e w14 ⟨rfl, hf⟩
              rw [P.top_like hlk2, hr]
              have HS := Lib.hid (HS.out.fr0 hf); clear hf hr
              dsimp only
              go_wp2_with (refine wpList_load_any 65 _ rfl rfl _ 0 rfl (RQ vn (.slice none 0 0) wt0 wl0 tj nj) _ (HS.out.blk 4 rfl).range Try.underlying65 rfl (by rw [hlp2]; kernel_rfl) ?_)
              refine (HTP.out _).mono ?_
              rintro e w15 ⟨rfl, hf⟩
              have HS := Lib.hid (HS.out.fr0 hf); clear hf HTP
              go_wp2_with fail
              have hB0 := (HS.out.blk 4 rfl).drew
              have x10 := (hB0.cell 10).trans hx10
              have x11 := (hB0.cell 11).trans hx11
              have xl := hB0.lt
              refine step_start ([10, 20, 21], [22, 23]) [] (by kernel_rfl) ?_
              refine step_reads (N := 11) [0, 1, 2, 3, 4, 5, 6, 7, 8, 9, 11, 12, 13, 14, 15] (by kernel_rfl) ⟨⟨_, Fr.refl _ _⟩, rfl⟩ ?_
              simp only [theOps, nthOp, List.map_cons, List.map_nil, Array.getD_eq_getD_getElem?, List.getElem?_toArray, List.getElem?_cons_succ, List.getElem?_cons_zero, Option.getD_some]
              repeat (first | go_big_quiet_step (fail) | quiet_step (fail))
              refine wpQuiet_nil ?_
              have HS := Lib.hid HS.out.drew
              clear hB0 x10 x11 xl
              generalize World.drew _ = wd at HS ⊢
              have HF := Lib.hid (Fr.refl [] wd)
              refine step_keep (N := 10) 10 (by kernel_rfl) rfl ?_
              go_wp2_with fail
              refine (pmark_of b c seq p (HS.out.pull 1 rfl)).mono ?_
              rintro e w16 ⟨rfl, hf⟩
              have HF := Lib.hid hf
              have HS := Lib.hid (HS.out.fr0 hf); clear hf
              rw [← hlk2.top, ← hlk2.nl]
              go_wp2_with fail
              refine ⟨⟨⟨_, (by exact HF.out)⟩, rfl⟩, ?_⟩
              refine step_pures (N := 6) [16, 17, 18, 19] (by kernel_rfl) ?_
              simp only [theOps, nthOp, List.map_cons, List.map_nil, Array.getD_eq_getD_getElem?, List.getElem?_toArray, List.getElem?_cons_succ, List.getElem?_cons_zero, Option.getD_some]
              repeat (first | go_big_quiet_step (fail) | quiet_step (fail))
              refine wpQuiet_nil ?_
              have HRL : Hid ((s).list.length ≤ 100000 ∧ (W.rall qj).length ≤ 100000) := Lib.hid (by have h1 := W.rallTo_length qj (qj).length; have h2 : W.rall qj = W.rallTo qj (qj).length := rfl; rw [HPP2.out.rep.list, h2]; omega)
              have HLS : Hid (((s).list == W.rall qj) = true) := Lib.hid (by rw [HPP2.out.rep.list]; simp)
              apply joinG (S := fun v v2 wF => Sep w wF [setT k (s), poolT c seq b (p), blkT YB 95 [.int .i64 (R : Int), sj], refT (sj) (qj), blkT XB 65 (RQ vn (.slice none 0 0) wt0 wl0 (tj) (nj)), blkT MB 83 [.int .i64 (tj), .int .i64 (nj)], blkT WB 65 (RQ vn (.slice none 0 0) wt0 wl0 (tj) (nj)), rowT 0 22 1 vn nsl (ns.map (Value.int .u64)), blkT w2.heap.size 31 cs, blkT w.heap.size 24 cl])
              · intro HR
                refine step_two (N := 5) 20 21 (by kernel_rfl) rfl rfl ?_ ?_
                · go_wp2_with fail
                  refine (all10_any HS.out).mono ?_
                  rintro e w17 ⟨v, rfl, hfr⟩
                  have HF := Lib.hid (HF.out.trans hfr.1)
                  have HS := Lib.hid (HS.out.fresh hfr); clear hfr
                  go_wp2_with fail
                  refine ⟨⟨⟨_, (by exact HF.out)⟩, rfl⟩, ?_⟩
                  refine step_keep (N := 4) 21 (by kernel_rfl) rfl ?_
                  refine wpList_load_any 95 _ rfl rfl _ 0 rfl [.int .i64 (R : Int), sj] _ (HS.out.blk 3 rfl).range Try.underlying95 rfl (by kernel_rfl) ?_
                  go_wp2_with fail
                  refine ⟨⟨⟨_, (by exact HF.out)⟩, rfl⟩, ?_⟩
                  refine step_hard (N := 3) 22 (by kernel_rfl) rfl ?_
                  go_wp2_with fail
                  refine (rall_any 0 R sj qj _ (HS.out.row 4 rfl) (by omega) (Nat.zero_le _)).mono ?_
                  rintro e w18 ⟨v2, rfl, hrow2, hf2, hown2⟩
                  have hS := HS.out.push hf2 (T := rowT 0 177 2 v2 (W.rall qj).length (W.ents (W.rall qj))) (fp := v2.ownBlock.toList) ⟨rfl, hrow2⟩ (fun q hq => hown2 q (by simpa using hq))
                  have HS := Lib.hid hS; clear hS hrow2 hf2 hown2
                  go_wp2_with fail
                  refine step_hard (N := 2) 23 (by kernel_rfl) rfl ?_
                  go_wp2_with fail
                  refine (same_any 0 0 v v2 (s).list (W.rall qj) _ (HS.out.row 1 rfl) (HS.out.row 0 rfl) (by have := HRL.out; omega) (by have := HRL.out; omega)).mono ?_
                  rintro e w19 ⟨rfl, nd, rfl⟩
                  rw [HLS.out]
                  have HS := Lib.hid (HS.out.drewN nd).tail.tail
                  go_wp2_with fail
                  refine step_pures (N := 0) [24, 25] (by kernel_rfl) ?_
                  simp only [theOps, nthOp, List.map_cons, List.map_nil, Array.getD_eq_getD_getElem?, List.getElem?_toArray, List.getElem?_cons_succ, List.getElem?_cons_zero, Option.getD_some]
                  repeat (first | go_big_quiet_step (fail) | quiet_step (fail))
                  refine wpQuiet_nil ?_
                  refine step_done (by kernel_rfl) ?_
                  exact HR v v2 _ HS.out
                · refine wpList_load_any 95 _ rfl rfl _ 0 rfl [.int .i64 (R : Int), sj] _ (HS.out.blk 2 rfl).range Try.underlying95 rfl (by kernel_rfl) ?_
                  go_wp2_with fail
                  refine ⟨⟨⟨_, (by exact HF.out)⟩, rfl⟩, ?_⟩
                  refine step_keep (N := 4) 20 (by kernel_rfl) rfl ?_
                  go_wp2_with fail
                  refine (all10_any HS.out).mono ?_
                  rintro e w17 ⟨v, rfl, hfr⟩
                  have HF := Lib.hid (HF.out.trans hfr.1)
                  have HS := Lib.hid (HS.out.fresh hfr); clear hfr
                  go_wp2_with fail
                  refine ⟨⟨⟨_, (by exact HF.out)⟩, rfl⟩, ?_⟩
                  refine step_hard (N := 3) 22 (by kernel_rfl) rfl ?_
                  go_wp2_with fail
                  refine (rall_any 0 R sj qj _ (HS.out.row 4 rfl) (by omega) (Nat.zero_le _)).mono ?_
                  rintro e w18 ⟨v2, rfl, hrow2, hf2, hown2⟩
                  have hS := HS.out.push hf2 (T := rowT 0 177 2 v2 (W.rall qj).length (W.ents (W.rall qj))) (fp := v2.ownBlock.toList) ⟨rfl, hrow2⟩ (fun q hq => hown2 q (by simpa using hq))
                  have HS := Lib.hid hS; clear hS hrow2 hf2 hown2
                  go_wp2_with fail
                  refine step_hard (N := 2) 23 (by kernel_rfl) rfl ?_
                  go_wp2_with fail
                  refine (same_any 0 0 v v2 (s).list (W.rall qj) _ (HS.out.row 1 rfl) (HS.out.row 0 rfl) (by have := HRL.out; omega) (by have := HRL.out; omega)).mono ?_
                  rintro e w19 ⟨rfl, nd, rfl⟩
                  rw [HLS.out]
                  have HS := Lib.hid (HS.out.drewN nd).tail.tail
                  go_wp2_with fail
                  refine step_pures (N := 0) [24, 25] (by kernel_rfl) ?_
                  simp only [theOps, nthOp, List.map_cons, List.map_nil, Array.getD_eq_getD_getElem?, List.getElem?_toArray, List.getElem?_cons_succ, List.getElem?_cons_zero, Option.getD_some]
                  repeat (first | go_big_quiet_step (fail) | quiet_step (fail))
                  refine wpQuiet_nil ?_
                  refine step_done (by kernel_rfl) ?_
                  exact HR v v2 _ HS.out
              · clear HS HF HRL HLS
                intro v v2 wF hS
                have HS := Lib.hid hS; clear hS
                go_wp2_with fail
                go_roundg (m - (j + 1))
                case measure => omega
                case rel => exact ⟨j + 1, s.done.length, p, s, sj, qj, tj, nj, tj, nj, by omega, by go_num, rfl, ⟨HPP2.out, hwt, hwn⟩, by omega, HS.out⟩
            have e2 : (ak == 2) = false := by simpa using hk2
            by_cases hk3 : ak = 3
            · subst hk3
              clear hk0 hk1 hk2
              by_cases hle : (al : Int) ≤ (s.done.length : Int)
              · have hdl : decide ((al : Int) ≤ (s.done.length : Int)) = true := by simpa using hle
                have hdm : decide (al ≤ s.done.length) = true := by simpa using hle
                clear hle
                have hoM : ∀ z9 ∈ [Value.int .i64 wt, .int .i64 wn], z9.oneCell' = true := by simp [Value.oneCell']
                have hlpw : (RQ vn (.slice none 0 0) wt0 wl0 wt wn).length = 12 := HRQ.out.len _ _ _ _ _ _
                have hopw : ∀ z9 ∈ RQ vn (.slice none 0 0) wt0 wl0 wt wn, z9.oneCell' = true := HRQ.out.one _ _ hv1 rfl _ _ _ _
                go_wp2_with fail
                clear d0 d2
                have HS := Lib.hid HS.out.tail
                refine (mark_sep HS.out).mono ?_
                rintro e w12 ⟨rfl, rfl⟩
                go_wp2_with (refine wpList_load_any 83 _ rfl rfl _ 0 rfl [.int .i64 wt, .int .i64 wn] _ (HS.out.blk 5 rfl).range Try.underlying83 rfl (by kernel_rfl) ?_)
                refine (pback_of b c seq p wt wn (HS.out.pull 1 rfl)).mono ?_
                rintro e w13 ⟨rfl, h13⟩
                have HS := Lib.hid (h13.pull 1 rfl); clear h13 hdl hdm
                go_wp2_with fail
                refine (back_sep HS.out (by omega) _).mono ?_
                rintro e w14 ⟨rfl, h14⟩
                have HS := Lib.hid h14; clear h14
                have hpp2 := HPP.out.back hwt hwn al
                have hql2 := P.rback_len qj al
                have hrt := fun w' (Rs : List Thing) h => rback_sep (w0 := w) (w := w') (Rs := Rs) R sj qj al (by omega) h
                obtain ⟨p2, hp2⟩ : ∃ p2, ({ p with nt := wt, nl := wn } : P.St) = p2 := ⟨_, rfl⟩
                obtain ⟨s2, hs2⟩ : ∃ s2, (W.back s al).1 = s2 := ⟨_, rfl⟩
                obtain ⟨y2, hy2⟩ : ∃ y2, (W.rback qj al).1 = y2 := ⟨_, rfl⟩
                obtain ⟨y3, hy3⟩ : ∃ y3, (W.rback qj al).2 = y3 := ⟨_, rfl⟩
                have hS := HS.out
                rw [hp2, hs2] at hS hpp2
                rw [hy2] at hpp2 hql2
                rw [hy2, hy3] at hrt
                simp only [List.eraseIdx_cons_zero, List.eraseIdx_cons_succ] at hS
                clear HS hp2 hs2 hy2 hy3
                have HS := Lib.hid hS
                have HRT := Lib.hid hrt
                have HPP2 := Lib.hid hpp2
                clear hS hrt hpp2
                go_wp2_with (first | (refine wpList_load_any 65 _ rfl rfl _ 0 rfl (RQ vn (.slice none 0 0) wt0 wl0 wt wn) _ (HS.out.blk 6 rfl).range Try.underlying65 rfl (by rw [hlpw]; kernel_rfl) ?_) | (refine wpList_store_sep HS.out 4 rfl (RQ vn (.slice none 0 0) wt0 wl0 wt wn) 65 _ _ rfl rfl rfl rfl (by rw [hlpw, hlpj]) (by rw [hlpw]; kernel_rfl) hopw (fun wA hA _ => ?_); simp only [List.set_cons_zero, List.set_cons_succ] at hA; have HA1 := Lib.hid hA; clear hA) | (refine wpList_load_any 95 _ rfl rfl _ 0 rfl [.int .i64 (R : Int), sj] _ (HA1.out.blk 2 rfl).range Try.underlying95 rfl (by kernel_rfl) ?_))
                refine (HRT.out _ _ (HA1.out.pull 3 rfl)).mono ?_
                rintro e w15 ⟨sv2, rfl, h15⟩
                have honeS := ref_one h15 0 rfl R
                simp only [List.eraseIdx_cons_zero, List.eraseIdx_cons_succ] at h15
                have HS := Lib.hid h15; clear h15 HA1
                go_wp2_with (refine wpList_store_sep HS.out 3 rfl [.int .i64 (R : Int), sv2] 95 _ _ rfl rfl rfl rfl rfl (by kernel_rfl) honeS (fun wA hA _ => ?_); simp only [List.set_cons_zero, List.set_cons_succ] at hA; have HA2 := Lib.hid hA; clear hA)
                have hS := HA2.out.sub (Ts' := [_, _, _, _, _, _, _, _, _, _]) [1, 2, 3, 0, 4, 5, 6, 7, 8, 9] rfl (by decide)
                clear HS
                have HS := Lib.hid hS
                clear hS HA2 hlpw hopw honeS HRT hoM hlpj
                have hpb := HPP2.out.top
                have hnb := HPP2.out.nl
                have hlk2 := HPP2.out.like
                have hcb := HOK.out.b64
                have hlp2 : (RQ vn (.slice none 0 0) wt0 wl0 wt wn).length = 12 := HRQ.out.len _ _ _ _ _ _
                have hx10 : (RQ vn (.slice none 0 0) wt0 wl0 wt wn)[10]? = some (.int .i64 wt) := by rw [← HRQE.out]; rfl
                have hx11 : (RQ vn (.slice none 0 0) wt0 wl0 wt wn)[11]? = some (.int .i64 wn) := by rw [← HRQE.out]; rfl
                have htp := fun w' => rtop10_any w' c HOK.out vn (.slice none 0 0) wt0 wl0 wt wn ⟨hpb.1, by omega⟩
                rw [HRQE.out] at htp
                obtain ⟨⟨r1, r2⟩, hr⟩ : ∃ X, rtopP c wt = X := ⟨_, rfl⟩
                rw [hr] at htp
                dsimp only at htp
                have HTP := Lib.hid htp; clear htp
                go_wp2_with fail
                refine (ptop_of b c HOK.out seq p2 (by rw [← hlk2.top]; omega) (HS.out.pull 1 rfl)).mono ?_
                rintro e w14 ⟨rfl, hf⟩
                rw [P.top_like hlk2, hr]
                have HS := Lib.hid (HS.out.fr0 hf); clear hf hr
                dsimp only
                go_wp2_with (refine wpList_load_any 65 _ rfl rfl _ 0 rfl (RQ vn (.slice none 0 0) wt0 wl0 wt wn) _ (HS.out.blk 4 rfl).range Try.underlying65 rfl (by rw [hlp2]; kernel_rfl) ?_)
                refine (HTP.out _).mono ?_
                rintro e w15 ⟨rfl, hf⟩
                have HS := Lib.hid (HS.out.fr0 hf); clear hf HTP
                go_wp2_with fail
                have hB0 := (HS.out.blk 4 rfl).drew
                have x10 := (hB0.cell 10).trans hx10
                have x11 := (hB0.cell 11).trans hx11
                have xl := hB0.lt
                refine step_start ([10, 20, 21], [22, 23]) [] (by kernel_rfl) ?_
                refine step_reads (N := 11) [0, 1, 2, 3, 4, 5, 6, 7, 8, 9, 11, 12, 13, 14, 15] (by kernel_rfl) ⟨⟨_, Fr.refl _ _⟩, rfl⟩ ?_
                simp only [theOps, nthOp, List.map_cons, List.map_nil, Array.getD_eq_getD_getElem?, List.getElem?_toArray, List.getElem?_cons_succ, List.getElem?_cons_zero, Option.getD_some]
                repeat (first | go_big_quiet_step (fail) | quiet_step (fail))
                refine wpQuiet_nil ?_
                have HS := Lib.hid HS.out.drew
                clear hB0 x10 x11 xl
                generalize World.drew _ = wd at HS ⊢
                have HF := Lib.hid (Fr.refl [] wd)
                refine step_keep (N := 10) 10 (by kernel_rfl) rfl ?_
                go_wp2_with fail
                refine (pmark_of b c seq p2 (HS.out.pull 1 rfl)).mono ?_
                rintro e w16 ⟨rfl, hf⟩
                have HF := Lib.hid hf
                have HS := Lib.hid (HS.out.fr0 hf); clear hf
                rw [← hlk2.top, ← hlk2.nl]
                go_wp2_with fail
                refine ⟨⟨⟨_, (by exact HF.out)⟩, rfl⟩, ?_⟩
                refine step_pures (N := 6) [16, 17, 18, 19] (by kernel_rfl) ?_
                simp only [theOps, nthOp, List.map_cons, List.map_nil, Array.getD_eq_getD_getElem?, List.getElem?_toArray, List.getElem?_cons_succ, List.getElem?_cons_zero, Option.getD_some]
                repeat (first | go_big_quiet_step (fail) | quiet_step (fail))
                refine wpQuiet_nil ?_
                have HRL : Hid ((s2).list.length ≤ 100000 ∧ (W.rall y2).length ≤ 100000) := Lib.hid (by have h1 := W.rallTo_length y2 (y2).length; have h2 : W.rall y2 = W.rallTo y2 (y2).length := rfl; rw [HPP2.out.rep.list, h2]; omega)
                have HLS : Hid (((s2).list == W.rall y2) = true) := Lib.hid (by rw [HPP2.out.rep.list]; simp)
                apply joinG (S := fun v v2 wF => Sep w wF [setT k (s2), poolT c seq b (p2), blkT YB 95 [.int .i64 (R : Int), sv2], refT (sv2) (y2), blkT XB 65 (RQ vn (.slice none 0 0) wt0 wl0 (wt) (wn)), blkT MB 83 [.int .i64 (wt), .int .i64 (wn)], blkT WB 65 (RQ vn (.slice none 0 0) wt0 wl0 (wt) (wn)), rowT 0 22 1 vn nsl (ns.map (Value.int .u64)), blkT w2.heap.size 31 cs, blkT w.heap.size 24 cl])
                · intro HR
                  refine step_two (N := 5) 20 21 (by kernel_rfl) rfl rfl ?_ ?_
                  · go_wp2_with fail
                    refine (all10_any HS.out).mono ?_
                    rintro e w17 ⟨v, rfl, hfr⟩
                    have HF := Lib.hid (HF.out.trans hfr.1)
                    have HS := Lib.hid (HS.out.fresh hfr); clear hfr
                    go_wp2_with fail
                    refine ⟨⟨⟨_, (by exact HF.out)⟩, rfl⟩, ?_⟩
                    refine step_keep (N := 4) 21 (by kernel_rfl) rfl ?_
                    refine wpList_load_any 95 _ rfl rfl _ 0 rfl [.int .i64 (R : Int), sv2] _ (HS.out.blk 3 rfl).range Try.underlying95 rfl (by kernel_rfl) ?_
                    go_wp2_with fail
                    refine ⟨⟨⟨_, (by exact HF.out)⟩, rfl⟩, ?_⟩
                    refine step_hard (N := 3) 22 (by kernel_rfl) rfl ?_
                    go_wp2_with fail
                    refine (rall_any 0 R sv2 y2 _ (HS.out.row 4 rfl) (by omega) (Nat.zero_le _)).mono ?_
                    rintro e w18 ⟨v2, rfl, hrow2, hf2, hown2⟩
                    have hS := HS.out.push hf2 (T := rowT 0 177 2 v2 (W.rall y2).length (W.ents (W.rall y2))) (fp := v2.ownBlock.toList) ⟨rfl, hrow2⟩ (fun q hq => hown2 q (by simpa using hq))
                    have HS := Lib.hid hS; clear hS hrow2 hf2 hown2
                    go_wp2_with fail
                    refine step_hard (N := 2) 23 (by kernel_rfl) rfl ?_
                    go_wp2_with fail
                    refine (same_any 0 0 v v2 (s2).list (W.rall y2) _ (HS.out.row 1 rfl) (HS.out.row 0 rfl) (by have := HRL.out; omega) (by have := HRL.out; omega)).mono ?_
                    rintro e w19 ⟨rfl, nd, rfl⟩
                    rw [HLS.out]
                    have HS := Lib.hid (HS.out.drewN nd).tail.tail
                    go_wp2_with fail
                    refine step_pures (N := 0) [24, 25] (by kernel_rfl) ?_
                    simp only [theOps, nthOp, List.map_cons, List.map_nil, Array.getD_eq_getD_getElem?, List.getElem?_toArray, List.getElem?_cons_succ, List.getElem?_cons_zero, Option.getD_some]
                    repeat (first | go_big_quiet_step (fail) | quiet_step (fail))
                    refine wpQuiet_nil ?_
                    refine step_done (by kernel_rfl) ?_
                    exact HR v v2 _ HS.out
                  · refine wpList_load_any 95 _ rfl rfl _ 0 rfl [.int .i64 (R : Int), sv2] _ (HS.out.blk 2 rfl).range Try.underlying95 rfl (by kernel_rfl) ?_
                    go_wp2_with fail
                    refine ⟨⟨⟨_, (by exact HF.out)⟩, rfl⟩, ?_⟩
                    refine step_keep (N := 4) 20 (by kernel_rfl) rfl ?_
                    go_wp2_with fail
                    refine (all10_any HS.out).mono ?_
                    rintro e w17 ⟨v, rfl, hfr⟩
                    have HF := Lib.hid (HF.out.trans hfr.1)
                    have HS := Lib.hid (HS.out.fresh hfr); clear hfr
                    go_wp2_with fail
                    refine ⟨⟨⟨_, (by exact HF.out)⟩, rfl⟩, ?_⟩
                    refine step_hard (N := 3) 22 (by kernel_rfl) rfl ?_
                    go_wp2_with fail
                    refine (rall_any 0 R sv2 y2 _ (HS.out.row 4 rfl) (by omega) (Nat.zero_le _)).mono ?_
                    rintro e w18 ⟨v2, rfl, hrow2, hf2, hown2⟩
                    have hS := HS.out.push hf2 (T := rowT 0 177 2 v2 (W.rall y2).length (W.ents (W.rall y2))) (fp := v2.ownBlock.toList) ⟨rfl, hrow2⟩ (fun q hq => hown2 q (by simpa using hq))
                    have HS := Lib.hid hS; clear hS hrow2 hf2 hown2
                    go_wp2_with fail
                    refine step_hard (N := 2) 23 (by kernel_rfl) rfl ?_
                    go_wp2_with fail
                    refine (same_any 0 0 v v2 (s2).list (W.rall y2) _ (HS.out.row 1 rfl) (HS.out.row 0 rfl) (by have := HRL.out; omega) (by have := HRL.out; omega)).mono ?_
                    rintro e w19 ⟨rfl, nd, rfl⟩
                    rw [HLS.out]
                    have HS := Lib.hid (HS.out.drewN nd).tail.tail
                    go_wp2_with fail
                    refine step_pures (N := 0) [24, 25] (by kernel_rfl) ?_
                    simp only [theOps, nthOp, List.map_cons, List.map_nil, Array.getD_eq_getD_getElem?, List.getElem?_toArray, List.getElem?_cons_succ, List.getElem?_cons_zero, Option.getD_some]
                    repeat (first | go_big_quiet_step (fail) | quiet_step (fail))
                    refine wpQuiet_nil ?_
                    refine step_done (by kernel_rfl) ?_
                    exact HR v v2 _ HS.out
                · clear HS HF HRL HLS
                  intro v v2 wF hS
                  have HS := Lib.hid hS; clear hS
                  go_wp2_with fail
                  go_roundg (m - (j + 1))
                  case measure => omega
                  case rel => exact ⟨j + 1, al, p2, s2, sv2, y2, wt, wn, wt, wn, by omega, by go_num, rfl, ⟨HPP2.out, hwt, hwn⟩, by omega, HS.out⟩
              · have hdl : decide ((al : Int) ≤ (s.done.length : Int)) = false := by simpa using hle
                have hdm : decide (al ≤ s.done.length) = false := by simpa using hle
                clear hle
                have HPP2 := HPP
                have hql2 := hql
                go_wp2_with fail
                clear d0 d2
                have HS := Lib.hid HS.out.tail
                refine (mark_sep HS.out).mono ?_
                rintro e w12 ⟨rfl, rfl⟩
                have hpb := HPP2.out.top
                have hnb := HPP2.out.nl
                have hlk2 := HPP2.out.like
                have hcb := HOK.out.b64
                have hlp2 : (RQ vn (.slice none 0 0) wt0 wl0 tj nj).length = 12 := HRQ.out.len _ _ _ _ _ _
                have hx10 : (RQ vn (.slice none 0 0) wt0 wl0 tj nj)[10]? = some (.int .i64 tj) := by rw [← HRQE.out]; rfl
                have hx11 : (RQ vn (.slice none 0 0) wt0 wl0 tj nj)[11]? = some (.int .i64 nj) := by rw [← HRQE.out]; rfl
                have htp := fun w' => rtop10_any w' c HOK.out vn (.slice none 0 0) wt0 wl0 tj nj ⟨hpb.1, by omega⟩
                rw [HRQE.out] at htp
                obtain ⟨⟨r1, r2⟩, hr⟩ : ∃ X, rtopP c tj = X := ⟨_, rfl⟩
                rw [hr] at htp
                dsimp only at htp
                have HTP := Lib.hid htp; clear htp
                go_wp2_with fail
                refine (ptop_of b c HOK.out seq p (by rw [← hlk2.top]; omega) (HS.out.pull 1 rfl)).mono ?_
                rintro e w14 ⟨rfl, hf⟩
                rw [P.top_like hlk2, hr]
                have HS := Lib.hid (HS.out.fr0 hf); clear hf hr
                dsimp only
                go_wp2_with (refine wpList_load_any 65 _ rfl rfl _ 0 rfl (RQ vn (.slice none 0 0) wt0 wl0 tj nj) _ (HS.out.blk 4 rfl).range Try.underlying65 rfl (by rw [hlp2]; kernel_rfl) ?_)
                refine (HTP.out _).mono ?_
                rintro e w15 ⟨rfl, hf⟩
                have HS := Lib.hid (HS.out.fr0 hf); clear hf HTP
                go_wp2_with fail
                have hB0 := (HS.out.blk 4 rfl).drew
                have x10 := (hB0.cell 10).trans hx10
                have x11 := (hB0.cell 11).trans hx11
                have xl := hB0.lt
                refine step_start ([10, 20, 21], [22, 23]) [] (by kernel_rfl) ?_
                refine step_reads (N := 11) [0, 1, 2, 3, 4, 5, 6, 7, 8, 9, 11, 12, 13, 14, 15] (by kernel_rfl) ⟨⟨_, Fr.refl _ _⟩, rfl⟩ ?_
                simp only [theOps, nthOp, List.map_cons, List.map_nil, Array.getD_eq_getD_getElem?, List.getElem?_toArray, List.getElem?_cons_succ, List.getElem?_cons_zero, Option.getD_some]
                repeat (first | go_big_quiet_step (fail) | quiet_step (fail))
                refine wpQuiet_nil ?_
                have HS := Lib.hid HS.out.drew
                clear hB0 x10 x11 xl
                generalize World.drew _ = wd at HS ⊢
                have HF := Lib.hid (Fr.refl [] wd)
                refine step_keep (N := 10) 10 (by kernel_rfl) rfl ?_
                go_wp2_with fail
                refine (pmark_of b c seq p (HS.out.pull 1 rfl)).mono ?_
                rintro e w16 ⟨rfl, hf⟩
                have HF := Lib.hid hf
                have HS := Lib.hid (HS.out.fr0 hf); clear hf
                rw [← hlk2.top, ← hlk2.nl]
                go_wp2_with fail
                refine ⟨⟨⟨_, (by exact HF.out)⟩, rfl⟩, ?_⟩
                refine step_pures (N := 6) [16, 17, 18, 19] (by kernel_rfl) ?_
                simp only [theOps, nthOp, List.map_cons, List.map_nil, Array.getD_eq_getD_getElem?, List.getElem?_toArray, List.getElem?_cons_succ, List.getElem?_cons_zero, Option.getD_some]
                repeat (first | go_big_quiet_step (fail) | quiet_step (fail))
                refine wpQuiet_nil ?_
                have HRL : Hid ((s).list.length ≤ 100000 ∧ (W.rall qj).length ≤ 100000) := Lib.hid (by have h1 := W.rallTo_length qj (qj).length; have h2 : W.rall qj = W.rallTo qj (qj).length := rfl; rw [HPP2.out.rep.list, h2]; omega)
                have HLS : Hid (((s).list == W.rall qj) = true) := Lib.hid (by rw [HPP2.out.rep.list]; simp)
                apply joinG (S := fun v v2 wF => Sep w wF [setT k (s), poolT c seq b (p), blkT YB 95 [.int .i64 (R : Int), sj], refT (sj) (qj), blkT XB 65 (RQ vn (.slice none 0 0) wt0 wl0 (tj) (nj)), blkT MB 83 [.int .i64 (wt), .int .i64 (wn)], blkT WB 65 (RQ vn (.slice none 0 0) wt0 wl0 (wt) (wn)), rowT 0 22 1 vn nsl (ns.map (Value.int .u64)), blkT w2.heap.size 31 cs, blkT w.heap.size 24 cl])
                · intro HR
                  refine step_two (N := 5) 20 21 (by kernel_rfl) rfl rfl ?_ ?_
                  · go_wp2_with fail
                    refine (all10_any HS.out).mono ?_
                    rintro e w17 ⟨v, rfl, hfr⟩
                    have HF := Lib.hid (HF.out.trans hfr.1)
                    have HS := Lib.hid (HS.out.fresh hfr); clear hfr
                    go_wp2_with fail
                    refine ⟨⟨⟨_, (by exact HF.out)⟩, rfl⟩, ?_⟩
                    refine step_keep (N := 4) 21 (by kernel_rfl) rfl ?_
                    refine wpList_load_any 95 _ rfl rfl _ 0 rfl [.int .i64 (R : Int), sj] _ (HS.out.blk 3 rfl).range Try.underlying95 rfl (by kernel_rfl) ?_
                    go_wp2_with fail
                    refine ⟨⟨⟨_, (by exact HF.out)⟩, rfl⟩, ?_⟩
                    refine step_hard (N := 3) 22 (by kernel_rfl) rfl ?_
                    go_wp2_with fail
                    refine (rall_any 0 R sj qj _ (HS.out.row 4 rfl) (by omega) (Nat.zero_le _)).mono ?_
                    rintro e w18 ⟨v2, rfl, hrow2, hf2, hown2⟩
                    have hS := HS.out.push hf2 (T := rowT 0 177 2 v2 (W.rall qj).length (W.ents (W.rall qj))) (fp := v2.ownBlock.toList) ⟨rfl, hrow2⟩ (fun q hq => hown2 q (by simpa using hq))
                    have HS := Lib.hid hS; clear hS hrow2 hf2 hown2
                    go_wp2_with fail
                    refine step_hard (N := 2) 23 (by kernel_rfl) rfl ?_
                    go_wp2_with fail
                    refine (same_any 0 0 v v2 (s).list (W.rall qj) _ (HS.out.row 1 rfl) (HS.out.row 0 rfl) (by have := HRL.out; omega) (by have := HRL.out; omega)).mono ?_
                    rintro e w19 ⟨rfl, nd, rfl⟩
                    rw [HLS.out]
                    have HS := Lib.hid (HS.out.drewN nd).tail.tail
                    go_wp2_with fail
                    refine step_pures (N := 0) [24, 25] (by kernel_rfl) ?_
                    simp only [theOps, nthOp, List.map_cons, List.map_nil, Array.getD_eq_getD_getElem?, List.getElem?_toArray, List.getElem?_cons_succ, List.getElem?_cons_zero, Option.getD_some]
                    repeat (first | go_big_quiet_step (fail) | quiet_step (fail))
                    refine wpQuiet_nil ?_
                    refine step_done (by kernel_rfl) ?_
                    exact HR v v2 _ HS.out
                  · refine wpList_load_any 95 _ rfl rfl _ 0 rfl [.int .i64 (R : Int), sj] _ (HS.out.blk 2 rfl).range Try.underlying95 rfl (by kernel_rfl) ?_
                    go_wp2_with fail
                    refine ⟨⟨⟨_, (by exact HF.out)⟩, rfl⟩, ?_⟩
                    refine step_keep (N := 4) 20 (by kernel_rfl) rfl ?_
                    go_wp2_with fail
                    refine (all10_any HS.out).mono ?_
                    rintro e w17 ⟨v, rfl, hfr⟩
                    have HF := Lib.hid (HF.out.trans hfr.1)
                    have HS := Lib.hid (HS.out.fresh hfr); clear hfr
                    go_wp2_with fail
                    refine ⟨⟨⟨_, (by exact HF.out)⟩, rfl⟩, ?_⟩
                    refine step_hard (N := 3) 22 (by kernel_rfl) rfl ?_
                    go_wp2_with fail
                    refine (rall_any 0 R sj qj _ (HS.out.row 4 rfl) (by omega) (Nat.zero_le _)).mono ?_
                    rintro e w18 ⟨v2, rfl, hrow2, hf2, hown2⟩
                    have hS := HS.out.push hf2 (T := rowT 0 177 2 v2 (W.rall qj).length (W.ents (W.rall qj))) (fp := v2.ownBlock.toList) ⟨rfl, hrow2⟩ (fun q hq => hown2 q (by simpa using hq))
                    have HS := Lib.hid hS; clear hS hrow2 hf2 hown2
                    go_wp2_with fail
                    refine step_hard (N := 2) 23 (by kernel_rfl) rfl ?_
                    go_wp2_with fail
                    refine (same_any 0 0 v v2 (s).list (W.rall qj) _ (HS.out.row 1 rfl) (HS.out.row 0 rfl) (by have := HRL.out; omega) (by have := HRL.out; omega)).mono ?_
                    rintro e w19 ⟨rfl, nd, rfl⟩
                    rw [HLS.out]
                    have HS := Lib.hid (HS.out.drewN nd).tail.tail
                    go_wp2_with fail
                    refine step_pures (N := 0) [24, 25] (by kernel_rfl) ?_
                    simp only [theOps, nthOp, List.map_cons, List.map_nil, Array.getD_eq_getD_getElem?, List.getElem?_toArray, List.getElem?_cons_succ, List.getElem?_cons_zero, Option.getD_some]
                    repeat (first | go_big_quiet_step (fail) | quiet_step (fail))
                    refine wpQuiet_nil ?_
                    refine step_done (by kernel_rfl) ?_
                    exact HR v v2 _ HS.out
                · clear HS HF HRL HLS
                  intro v v2 wF hS
                  have HS := Lib.hid hS; clear hS
                  go_wp2_with fail
                  go_roundg (m - (j + 1))
                  case measure => omega
                  case rel => exact ⟨j + 1, al, p, s, sj, qj, tj, nj, wt, wn, by omega, by go_num, rfl, ⟨HPP2.out, hwt, hwn⟩, by omega, HS.out⟩
            have e3 : (ak == 3) = false := by simpa using hk3
            have HPP2 := HPP
            have hql2 := hql
            go_wp2_with fail
            clear d0 d2 hk0 hk1 hk2 hk3
            have HS := Lib.hid HS.out.tail
            have hpb := HPP2.out.top
            have hnb := HPP2.out.nl
            have hlk2 := HPP2.out.like
            have hcb := HOK.out.b64
            have hlp2 : (RQ vn (.slice none 0 0) wt0 wl0 tj nj).length = 12 := HRQ.out.len _ _ _ _ _ _
            have hx10 : (RQ vn (.slice none 0 0) wt0 wl0 tj nj)[10]? = some (.int .i64 tj) := by rw [← HRQE.out]; rfl
            have hx11 : (RQ vn (.slice none 0 0) wt0 wl0 tj nj)[11]? = some (.int .i64 nj) := by rw [← HRQE.out]; rfl
            have htp := fun w' => rtop10_any w' c HOK.out vn (.slice none 0 0) wt0 wl0 tj nj ⟨hpb.1, by omega⟩
            rw [HRQE.out] at htp
            obtain ⟨⟨r1, r2⟩, hr⟩ : ∃ X, rtopP c tj = X := ⟨_, rfl⟩
            rw [hr] at htp
            dsimp only at htp
            have HTP := Lib.hid htp; clear htp
            go_wp2_with fail
            refine (ptop_of b c HOK.out seq p (by rw [← hlk2.top]; omega) (HS.out.pull 1 rfl)).mono ?_
            rintro e w14 ⟨rfl, hf⟩
            rw [P.top_like hlk2, hr]
            have HS := Lib.hid (HS.out.fr0 hf); clear hf hr
            dsimp only
            go_wp2_with (refine wpList_load_any 65 _ rfl rfl _ 0 rfl (RQ vn (.slice none 0 0) wt0 wl0 tj nj) _ (HS.out.blk 4 rfl).range Try.underlying65 rfl (by rw [hlp2]; kernel_rfl) ?_)
            refine (HTP.out _).mono ?_
            rintro e w15 ⟨rfl, hf⟩
            have HS := Lib.hid (HS.out.fr0 hf); clear hf HTP
            go_wp2_with fail
            have hB0 := (HS.out.blk 4 rfl).drew
            have x10 := (hB0.cell 10).trans hx10
            have x11 := (hB0.cell 11).trans hx11
            have xl := hB0.lt
            refine step_start ([10, 20, 21], [22, 23]) [] (by kernel_rfl) ?_
            refine step_reads (N := 11) [0, 1, 2, 3, 4, 5, 6, 7, 8, 9, 11, 12, 13, 14, 15] (by kernel_rfl) ⟨⟨_, Fr.refl _ _⟩, rfl⟩ ?_
            simp only [theOps, nthOp, List.map_cons, List.map_nil, Array.getD_eq_getD_getElem?, List.getElem?_toArray, List.getElem?_cons_succ, List.getElem?_cons_zero, Option.getD_some]
            repeat (first | go_big_quiet_step (fail) | quiet_step (fail))
            refine wpQuiet_nil ?_
            have HS := Lib.hid HS.out.drew
            clear hB0 x10 x11 xl
            generalize World.drew _ = wd at HS ⊢
            have HF := Lib.hid (Fr.refl [] wd)
            refine step_keep (N := 10) 10 (by kernel_rfl) rfl ?_
            go_wp2_with fail
            refine (pmark_of b c seq p (HS.out.pull 1 rfl)).mono ?_
            rintro e w16 ⟨rfl, hf⟩
            have HF := Lib.hid hf
            have HS := Lib.hid (HS.out.fr0 hf); clear hf
            rw [← hlk2.top, ← hlk2.nl]
            go_wp2_with fail
            refine ⟨⟨⟨_, (by exact HF.out)⟩, rfl⟩, ?_⟩
            refine step_pures (N := 6) [16, 17, 18, 19] (by kernel_rfl) ?_
            simp only [theOps, nthOp, List.map_cons, List.map_nil, Array.getD_eq_getD_getElem?, List.getElem?_toArray, List.getElem?_cons_succ, List.getElem?_cons_zero, Option.getD_some]
            repeat (first | go_big_quiet_step (fail) | quiet_step (fail))
            refine wpQuiet_nil ?_
            have HRL : Hid ((s).list.length ≤ 100000 ∧ (W.rall qj).length ≤ 100000) := Lib.hid (by have h1 := W.rallTo_length qj (qj).length; have h2 : W.rall qj = W.rallTo qj (qj).length := rfl; rw [HPP2.out.rep.list, h2]; omega)
            have HLS : Hid (((s).list == W.rall qj) = true) := Lib.hid (by rw [HPP2.out.rep.list]; simp)
            apply joinG (S := fun v v2 wF => Sep w wF [setT k (s), poolT c seq b (p), blkT YB 95 [.int .i64 (R : Int), sj], refT (sj) (qj), blkT XB 65 (RQ vn (.slice none 0 0) wt0 wl0 (tj) (nj)), blkT MB 83 [.int .i64 (wt), .int .i64 (wn)], blkT WB 65 (RQ vn (.slice none 0 0) wt0 wl0 (wt) (wn)), rowT 0 22 1 vn nsl (ns.map (Value.int .u64)), blkT w2.heap.size 31 cs, blkT w.heap.size 24 cl])
            · intro HR
              refine step_two (N := 5) 20 21 (by kernel_rfl) rfl rfl ?_ ?_
              · go_wp2_with fail
                refine (all10_any HS.out).mono ?_
                rintro e w17 ⟨v, rfl, hfr⟩
                have HF := Lib.hid (HF.out.trans hfr.1)
                have HS := Lib.hid (HS.out.fresh hfr); clear hfr
                go_wp2_with fail
                refine ⟨⟨⟨_, (by exact HF.out)⟩, rfl⟩, ?_⟩
                refine step_keep (N := 4) 21 (by kernel_rfl) rfl ?_
                refine wpList_load_any 95 _ rfl rfl _ 0 rfl [.int .i64 (R : Int), sj] _ (HS.out.blk 3 rfl).range Try.underlying95 rfl (by kernel_rfl) ?_
                go_wp2_with fail
                refine ⟨⟨⟨_, (by exact HF.out)⟩, rfl⟩, ?_⟩
                refine step_hard (N := 3) 22 (by kernel_rfl) rfl ?_
                go_wp2_with fail
                refine (rall_any 0 R sj qj _ (HS.out.row 4 rfl) (by omega) (Nat.zero_le _)).mono ?_
                rintro e w18 ⟨v2, rfl, hrow2, hf2, hown2⟩
                have hS := HS.out.push hf2 (T := rowT 0 177 2 v2 (W.rall qj).length (W.ents (W.rall qj))) (fp := v2.ownBlock.toList) ⟨rfl, hrow2⟩ (fun q hq => hown2 q (by simpa using hq))
                have HS := Lib.hid hS; clear hS hrow2 hf2 hown2
                go_wp2_with fail
                refine step_hard (N := 2) 23 (by kernel_rfl) rfl ?_
                go_wp2_with fail
                refine (same_any 0 0 v v2 (s).list (W.rall qj) _ (HS.out.row 1 rfl) (HS.out.row 0 rfl) (by have := HRL.out; omega) (by have := HRL.out; omega)).mono ?_
                rintro e w19 ⟨rfl, nd, rfl⟩
                rw [HLS.out]
                have HS := Lib.hid (HS.out.drewN nd).tail.tail
                go_wp2_with fail
                refine step_pures (N := 0) [24, 25] (by kernel_rfl) ?_
                simp only [theOps, nthOp, List.map_cons, List.map_nil, Array.getD_eq_getD_getElem?, List.getElem?_toArray, List.getElem?_cons_succ, List.getElem?_cons_zero, Option.getD_some]
                repeat (first | go_big_quiet_step (fail) | quiet_step (fail))
                refine wpQuiet_nil ?_
                refine step_done (by kernel_rfl) ?_
                exact HR v v2 _ HS.out
              · refine wpList_load_any 95 _ rfl rfl _ 0 rfl [.int .i64 (R : Int), sj] _ (HS.out.blk 2 rfl).range Try.underlying95 rfl (by kernel_rfl) ?_
                go_wp2_with fail
                refine ⟨⟨⟨_, (by exact HF.out)⟩, rfl⟩, ?_⟩
                refine step_keep (N := 4) 20 (by kernel_rfl) rfl ?_
                go_wp2_with fail
                refine (all10_any HS.out).mono ?_
                rintro e w17 ⟨v, rfl, hfr⟩
                have HF := Lib.hid (HF.out.trans hfr.1)
                have HS := Lib.hid (HS.out.fresh hfr); clear hfr
                go_wp2_with fail
                refine ⟨⟨⟨_, (by exact HF.out)⟩, rfl⟩, ?_⟩
                refine step_hard (N := 3) 22 (by kernel_rfl) rfl ?_
                go_wp2_with fail
                refine (rall_any 0 R sj qj _ (HS.out.row 4 rfl) (by omega) (Nat.zero_le _)).mono ?_
                rintro e w18 ⟨v2, rfl, hrow2, hf2, hown2⟩
                have hS := HS.out.push hf2 (T := rowT 0 177 2 v2 (W.rall qj).length (W.ents (W.rall qj))) (fp := v2.ownBlock.toList) ⟨rfl, hrow2⟩ (fun q hq => hown2 q (by simpa using hq))
                have HS := Lib.hid hS; clear hS hrow2 hf2 hown2
                go_wp2_with fail
                refine step_hard (N := 2) 23 (by kernel_rfl) rfl ?_
                go_wp2_with fail
                refine (same_any 0 0 v v2 (s).list (W.rall qj) _ (HS.out.row 1 rfl) (HS.out.row 0 rfl) (by have := HRL.out; omega) (by have := HRL.out; omega)).mono ?_
                rintro e w19 ⟨rfl, nd, rfl⟩
                rw [HLS.out]
                have HS := Lib.hid (HS.out.drewN nd).tail.tail
                go_wp2_with fail
                refine step_pures (N := 0) [24, 25] (by kernel_rfl) ?_
                simp only [theOps, nthOp, List.map_cons, List.map_nil, Array.getD_eq_getD_getElem?, List.getElem?_toArray, List.getElem?_cons_succ, List.getElem?_cons_zero, Option.getD_some]
                repeat (first | go_big_quiet_step (fail) | quiet_step (fail))
                refine wpQuiet_nil ?_
                refine step_done (by kernel_rfl) ?_
                exact HR v v2 _ HS.out
            · clear HS HF HRL HLS
              intro v v2 wF hS
              have HS := Lib.hid hS; clear hS
              go_wp2_with fail
              go_roundg (m - (j + 1))
              case measure => omega
              case rel => exact ⟨j + 1, al, p, s, sj, qj, tj, nj, wt, wn, by omega, by go_num, rfl, ⟨HPP2.out, hwt, hwn⟩, by omega, HS.out⟩
          · obtain rfl : j = m := by omega
            clear hj
            have hnt := HPP.out.top
            have hnl := HPP.out.nl
            have hlk := HPP.out.like
            have hdn : s.done.length ≤ 900000 := by rw [HPP.out.rep.done]; omega
            have hlpj : (RQ vn (.slice none 0 0) wt0 wl0 tj nj).length = 12 := HRQ.out.len _ _ _ _ _ _
            have hre := fun w' (Rs : List Thing) h => rend10_any (w0 := w) (w := w') (Rs := Rs) c HOK.out vn (.slice none 0 0) wt0 wl0 tj nj ⟨hnt.1, by have := HOK.out.b64; omega⟩ ⟨hnl.1, by have := limit_pos HOK.out; omega⟩ R (by omega) sj qj (by omega) h
            rw [HRQE.out] at hre
            have hfin := P.end_like (c := c) HPP.out.rep hlk
            have hrl := rendP_len c wt0 wl0 tj nj R qj
            obtain ⟨y2, hy2⟩ : ∃ y2, rendP c wt0 wl0 tj nj R qj = y2 := ⟨_, rfl⟩
            rw [hy2] at hre hfin hrl
            have HRL : Hid ((P.end_ c p s).list.length ≤ 100000 ∧ (W.rall y2).length ≤ 100000) := Lib.hid (by have h1 := W.rallTo_length y2 y2.length; have h2 : W.rall y2 = W.rallTo y2 y2.length := rfl; rw [hfin.list, h2]; omega)
            have HLS : Hid (((P.end_ c p s).list == W.rall y2) = true) := Lib.hid (by rw [hfin.list]; simp)
            have HRE := Lib.hid hre
            clear hy2 hre hfin
            go_wp2_with fail
            refine (pendT b k c HOK.out seq p s (by rw [← hlk.top]; exact hnt) (by rw [← hlk.nl]; exact hnl) hdn HS.out).mono ?_
            rintro e w12 ⟨rfl, h12⟩
            generalize P.end_ c p s = s2 at *
            have HS := Lib.hid h12; clear h12
            have hmp := (HS.out.blk 4 rfl).drew
            have hmy := (HS.out.blk 2 rfl).drew
            go_wp2_with fail
            refine wp_region_fr [(1, [0, 2, 3]), (2, [1]), (3, [4]), (3, [5]), (3, [6]), (0, [7])] [] (by kernel_rfl) (by kernel_rfl) ?_
            simp only [theOps, nthOp, List.map_cons, List.map_nil, Array.getD_eq_getD_getElem?, List.getElem?_toArray, List.getElem?_cons_succ, List.getElem?_cons_zero, Option.getD_some]
            refine wpSegs_soft ?_
            repeat (first | (refine wpQuiet_load_mid 65 _ XB 0 (RQ vn (.slice none 0 0) wt0 wl0 tj nj) _ rfl rfl rfl (rangeAt_after hmp (by simp)) Try.underlying65 rfl (by rw [hlpj]; kernel_rfl) ?_; simp only [Act.put, List.setIfInBounds_toArray, List.set_cons_zero, List.set_cons_succ]) | (refine wpQuiet_load_mid 95 _ YB 0 [.int .i64 (R : Int), sj] _ rfl rfl rfl (rangeAt_after hmy (by simp)) Try.underlying95 rfl (by kernel_rfl) ?_; simp only [Act.put, List.setIfInBounds_toArray, List.set_cons_zero, List.set_cons_succ]) | go_big_quiet_step (fail) | quiet_step (fail))
            refine wpQuiet_nil ?_
            refine wpSegs_keep ?_
            go_wp2_with fail
            refine (all10_any HS.out.drew).mono ?_
            rintro e w13 ⟨v, rfl, hfr⟩
            have HF := Lib.hid hfr.1
            have HS := Lib.hid (HS.out.drew.fresh hfr); clear hfr hmp hmy
            go_wp2_with fail
            refine ⟨⟨⟨_, (by exact HF.out)⟩, rfl⟩, ?_⟩
            repeat ((first | refine wpSegs_soft ?_ | refine wpSegs_pure ?_ | refine wpSegs_here ?_); (repeat (first | go_big_quiet_step (fail) | quiet_step (fail))); refine wpQuiet_nil ?_)
            refine wpSegs_hard ?_
            go_wp2_with fail
            refine (HRE.out _ _ (HS.out.pull 4 rfl)).mono ?_
            rintro e w14 ⟨sv2, rfl, h14⟩
            have HS := Lib.hid h14; clear h14
            go_wp2_with fail
            repeat ((first | refine wpSegs_soft ?_ | refine wpSegs_pure ?_ | refine wpSegs_here ?_); (repeat (first | go_big_quiet_step (fail) | quiet_step (fail))); refine wpQuiet_nil ?_)
            refine wpSegs_hard ?_
            go_wp2_with fail
            refine (rall_any 0 R sv2 y2 _ (HS.out.row 0 rfl) (by omega) (Nat.zero_le _)).mono ?_
            rintro e w15 ⟨v2, rfl, hrow2, hf2, hown2⟩
            have hS := HS.out.push hf2 (T := rowT 0 177 2 v2 (W.rall y2).length (W.ents (W.rall y2))) (fp := v2.ownBlock.toList) ⟨rfl, hrow2⟩ (fun q hq => hown2 q (by simpa using hq))
            have HS := Lib.hid hS; clear hS hrow2 hf2 hown2
            go_wp2_with fail
            repeat ((first | refine wpSegs_soft ?_ | refine wpSegs_pure ?_ | refine wpSegs_here ?_); (repeat (first | go_big_quiet_step (fail) | quiet_step (fail))); refine wpQuiet_nil ?_)
            refine wpSegs_hard ?_
            go_wp2_with fail
            refine (same_any 0 0 v v2 s2.list (W.rall y2) _ (HS.out.row 2 rfl) (HS.out.row 0 rfl) (by have := HRL.out; omega) (by have := HRL.out; omega)).mono ?_
            rintro e w16 ⟨rfl, nd, rfl⟩
            rw [HLS.out]
            have HS := Lib.hid (HS.out.drewN nd)
            go_wp2_with fail
            repeat ((first | refine wpSegs_soft ?_ | refine wpSegs_pure ?_ | refine wpSegs_here ?_); (repeat (first | go_big_quiet_step (fail) | quiet_step (fail))); refine wpQuiet_nil ?_)
            refine wpSegs_done ?_
            go_wp2_with fail
            go_ret
            exact ⟨rfl, HS.out.fr⟩
    · have d3 : (p0.s != 1) = true := by simpa using hs1
      clear hs1
      go_wp2_with fail
      go_ret
      exact ⟨rfl, HS.out.fr⟩
theorem pplays_row (a b d f g l seq : Int) (v v2 : Value) (room : Int) (O : List O3) (L : List (Int × Int)) (w : World) (h : ArgG goodO enO 3 w v O) (hL : ArgE enA2 2 w v2 L) (_ : O.length ≤ maxLen) (_ : L.length ≤ maxLen) :
    Calls Try.prog 7 #[.agg #[.int .i64 a, .int .i64 b, .int .i64 d, .int .i64 f, .int .u64 g, .int .u64 l], .int .u64 seq, v, v2, .int .i64 room] w fun e w' => e = .returned (.bool true) ∧ Fr [] w w' := by
  obtain ⟨hO, hG⟩ := h
  obtain ⟨a1, c1, rfl⟩ := hO.len
  obtain ⟨a2, c2, rfl⟩ := hL.len
  rw [show (Value.agg #[.int .i64 a, .int .i64 b, .int .i64 d, .int .i64 f, .int .u64 g, .int .u64 l]) = .agg (cfgL ⟨a, b, d, f, g, l⟩).toArray from rfl]
  by_cases h0 : right ⟨a, b, d, f, g, l⟩ = true
  · by_cases h1 : O.length > 60
    · exact pplays_s1 w _ seq room a1 a2 _ c1 _ c2 h0 (by simp; omega)
    · by_cases h2 : L.length > 30
      · exact pplays_s2 w _ seq room a1 a2 _ c1 _ c2 h0 (by simp; omega) (by simp; omega)
      · exact pplays_main w _ (by unfold right at h0; simpa using h0) seq room a1 a2 _ c1 _ c2 O L rfl (by omega) hO hG rfl (by omega) hL
  · exact pplays_s0 w _ seq room a1 a2 _ c1 _ c2 (by simpa using h0)
end Go.Proofs.Ytccioehckfdjdaa
