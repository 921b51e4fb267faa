/- The law PoolReads, walked. -/
import Derived.Test.YtccioehckfdjdaaPr8
import Derived.Test.YtccioehckfdjdaaPalive
import Derived.Test.YtccioehckfdjdaaPread
import Derived.Test.YtccioehckfdjdaaEq
set_option linter.unusedSimpArgs false
set_option linter.unusedVariables false
namespace Go.Tum
theorem tape_askP {w : World} {b : Nat} {T : TypeId} {v : Value} {t : Tp} (h : Blk w b T (tapeL v t)) : w.rangeAt b 2 (enP t.ask) := by
  intro j u hj
  rw [h.cell]
  have hl : j < 6 := (List.getElem?_eq_some_iff.1 hj).1
  rcases (show j = 0 ∨ j = 1 ∨ j = 2 ∨ j = 3 ∨ j = 4 ∨ j = 5 by omega) with rfl | rfl | rfl | rfl | rfl | rfl <;> exact hj
theorem ArgE.takeP {T : Type} {en : T → List Value} {n : Nat} {w : World} {a : Option Addr} {m cap : Nat} {l : List T} (h : ArgE en n w (.slice a m cap) l) (k : Nat) (hk : k ≤ l.length) : ArgE en n w (.slice a k cap) (l.take k) := by
  obtain ⟨a', cap', e, hc, h⟩ := h
  simp only [Value.slice.injEq] at e
  obtain ⟨rfl, rfl, rfl⟩ := e
  have hl : (l.take k).length = k := by rw [List.length_take]; omega
  refine ⟨a, cap, by rw [hl], by omega, ?_⟩
  rcases h with h | ⟨x, rfl, hx, hcell⟩
  · left; subst h; simp
  · right
    refine ⟨x, rfl, hx, fun i hi j u hj => hcell i (by omega) j u ?_⟩
    rwa [List.getElem_take] at hj
end Go.Tum
namespace Go.Proofs.Ytccioehckfdjdaa
open Go.RowKit Go.Tum Go.Tum.Y
theorem joinD {A : Prop} {G S : Nat → Nat → Value → Value → World → Prop} (h : (∀ X Y vn vl wF, S X Y vn vl wF → G X Y vn vl wF) → A) (x : ∀ X Y vn vl wF, S X Y vn vl wF → G X Y vn vl wF) : A := h x
set_option maxRecDepth 100000 in
set_option maxHeartbeats 4000000 in
theorem preads_s0 (w : World) (c : Cfg) (seq : Int) (oa : Option Addr) (n oc : Nat) (hrc : right c = false) : Calls Try.prog 4 #[.agg (cfgL c).toArray, .int .u64 seq, .slice oa n oc] w fun e w' => e = .returned (.bool true) ∧ Fr [] w w' := by
  have HS := Lib.hid ((Sep.nil (Fr.refl [] w)).new 24 (cfgL c))
  have HR := Lib.hid (fun w => rright10_any w c)
  have hsz6 : (cfgL c).length = 6 := rfl
  generalize cfgL c = cl at *
  go_enter Try.func4, Try.ntmps4
  go_wp2_with fail
  refine (alive10_any _).mono ?_
  rintro e w1 ⟨rfl, hf⟩
  have HS := Lib.hid (HS.out.fr0 hf)
  clear hf
  go_wp2_with (first | (refine wpList_load_any 24 _ rfl rfl _ 0 rfl cl _ (HS.out.blk 0 rfl).range Try.underlying24 rfl (by rw [hsz6]; kernel_rfl) ?_))
  refine (HR.out _).mono ?_
  rintro e w1 ⟨rfl, hf⟩
  have HS := Lib.hid (HS.out.fr0 hf)
  clear hf
  rw [hrc]
  go_wp2_with fail
  go_ret
  exact ⟨rfl, HS.out.fr⟩
set_option maxRecDepth 100000 in
set_option maxHeartbeats 4000000 in
theorem preads_s1 (w : World) (c : Cfg) (seq : Int) (oa : Option Addr) (n oc : Nat) (hrc : right c = true) (d1 : decide ((n : Int) > 60) = true) : Calls Try.prog 4 #[.agg (cfgL c).toArray, .int .u64 seq, .slice oa n oc] w fun e w' => e = .returned (.bool true) ∧ Fr [] w w' := by
  have HS := Lib.hid ((Sep.nil (Fr.refl [] w)).new 24 (cfgL c))
  have HR := Lib.hid (fun w => rright10_any w c)
  have hsz6 : (cfgL c).length = 6 := rfl
  generalize cfgL c = cl at *
  go_enter Try.func4, Try.ntmps4
  go_wp2_with fail
  refine (alive10_any _).mono ?_
  rintro e w1 ⟨rfl, hf⟩
  have HS := Lib.hid (HS.out.fr0 hf)
  clear hf
  go_wp2_with (first | (refine wpList_load_any 24 _ rfl rfl _ 0 rfl cl _ (HS.out.blk 0 rfl).range Try.underlying24 rfl (by rw [hsz6]; kernel_rfl) ?_))
  refine (HR.out _).mono ?_
  rintro e w1 ⟨rfl, hf⟩
  have HS := Lib.hid (HS.out.fr0 hf)
  clear hf
  rw [hrc]
  go_wp2_with fail
  go_ret
  exact ⟨rfl, HS.out.fr⟩
set_option maxRecDepth 100000 in
set_option maxHeartbeats 16000000 in
theorem preads_main (w : World) (c : Cfg) (hok : Y.Ok c) (seq : Int) (oa : Option Addr) (n oc : Nat) (O : List O3) (hl : O.length = n) (hn : n ≤ 60) (hO : ArgE enO 3 w (.slice oa n oc) O) (hG : ∀ x ∈ O, goodO x) : Calls Try.prog 4 #[.agg (cfgL c).toArray, .int .u64 seq, .slice oa n oc] w fun e w' => e = .returned (.bool true) ∧ Fr [] w w' := by
  have hrc : right c = true := decide_eq_true hok
  have d1 : decide ((n : Int) > 60) = false := by simp; omega
  have hnn : (n : Int) ≤ 60 := by omega
  have HOF := Lib.hid (fun w => of10_any w c hok)
  have HNW := Lib.hid (fun w => pnew_any w c seq)
  have HAK := Lib.hid (fun (w' : World) (R : List Thing) (b : Nat) (p : P.St) hp hS => pask_of (w0 := w) (w := w') (R := R) b c hok seq p hp hS)
  have HTL := Lib.hid (fun (w' : World) (R : List Thing) (b : Nat) (x s : Int) (ok : Bool) hx (p : P.St) hp hS => ptell_of (w0 := w) (w := w') (R := R) b c hok seq x s ok hx p hp hS)
  have HST := Lib.hid (fun (p : P.St) (v s : Int) (hv : 0 ≤ v ∧ v ≤ 18446744073709551615) hp => P.ok_tell hok (p := p) hp seq v s hv)
  have HO0 := Lib.hid (P.ok_new c hok)
  have HOK := Lib.hid hok
  have HRD : Hid (∀ w' (k : Nat), k ≤ n → Fr [] w w' → Calls Try.prog 28 #[.agg (cfgL c).toArray, .int .u64 seq, .agg (tapeL (.slice oa k oc) P.tp0).toArray] w' fun e w'' => ∃ vn vl, (e = .returned (.tuple #[.agg (rpL c vn vl (P.rread c seq (O.take k)).1.wt (P.rread c seq (O.take k)).1.wl (P.rread c seq (O.take k)).1.top (P.rread c seq (O.take k)).1.nl).toArray, .agg (tapeL (.slice oa k oc) (P.rread c seq (O.take k)).2.1).toArray, .int .i64 (P.rread c seq (O.take k)).2.2]) ∧ vn.oneCell' = true ∧ vl.oneCell' = true) ∧ Fr [] w' w'') := fun w' k hk f =>
    (rread10_any w' c hok seq oa k oc (by omega) (O.take k) (by rw [List.length_take]; omega) ((hO.takeP k (by omega)).fr f) (fun x hx => hG x (List.mem_of_mem_take hx)) _ rfl).mono fun e w'' ⟨vn, vl, h1, h2, h3, h4⟩ => ⟨vn, vl, ⟨h1, h2, h3⟩, h4.fr⟩
  have HAG : Hid (∀ k, P.Gone c seq (O.take k) P.new0 → (P.rread c seq (O.take k)).2.2 = (P.told c seq (O.take k) P.new0).s ∧ ((P.rread c seq (O.take k)).2.1.ask, (P.rread c seq (O.take k)).2.1.need) = P.ask c (P.told c seq (O.take k) P.new0)) := Lib.hid fun k hg => by
    have h := P.rread_told hok seq (O.take k) (fun o ho => (hG o (List.mem_of_mem_take ho)).1) hg
    exact ⟨h.s, h.ask⟩
  have HRQ := Lib.hid (rqf c)
  have HOO := Lib.hid hO
  have HGG := Lib.hid hG
  have hoc : n ≤ oc := by
    obtain ⟨_, cap', e, hh, _⟩ := hO
    simp only [Value.slice.injEq] at e
    omega
  clear hO hG
  generalize rpL c = RQ at *
  have hsz : (mapCells c).length = 24 := rfl
  have hone := oneMapP c
  unfold mapV at *
  generalize mapCells c = cs at *
  have HS := Lib.hid ((Sep.nil (Fr.refl [] w)).new 24 (cfgL c))
  have HR := Lib.hid (fun w => rright10_any w c)
  have hsz6 : (cfgL c).length = 6 := rfl
  generalize cfgL c = cl at *
  go_enter Try.func4, Try.ntmps4
  go_wp2_with fail
  refine (alive10_any _).mono ?_
  rintro e w1 ⟨rfl, hf⟩
  have HS := Lib.hid (HS.out.fr0 hf)
  clear hf
  go_wp2_with (first | (refine wpList_load_any 24 _ rfl rfl _ 0 rfl cl _ (HS.out.blk 0 rfl).range Try.underlying24 rfl (by rw [hsz6]; kernel_rfl) ?_))
  refine (HR.out _).mono ?_
  rintro e w1 ⟨rfl, hf⟩
  have HS := Lib.hid (HS.out.fr0 hf)
  clear hf
  rw [hrc]
  go_wp2_with (first | (refine wpList_load_any 24 _ rfl rfl _ 0 rfl cl _ (HS.out.blk 0 rfl).range Try.underlying24 rfl (by rw [hsz6]; kernel_rfl) ?_))
  refine (HOF.out _).mono ?_
  rintro e w2 ⟨rfl, hf⟩
  have HS := Lib.hid ((HS.out.fr0 hf).new 31 cs); clear hf
  go_wp2_with (first | (refine wpList_store_new 31 _ (cs).toArray rfl _ _ rfl rfl rfl (by rw [List.size_toArray, hsz]; kernel_rfl) (by simp [hsz]) (all_oneCell_toArray hone) ?_) | (refine wpList_load_any 31 _ rfl rfl _ 0 rfl cs _ (HS.out.blk 0 rfl).range Try.underlying31 rfl (by rw [hsz]; kernel_rfl) ?_))
  refine (HNW.out _).mono ?_
  rintro e w3 ⟨b, rfl, hN⟩
  have HS := Lib.hid (HS.out.fresh hN.toFresh); clear hN
  go_wp2_with fail
  go_loopg [37] (n + 1) (fun g vi wr => ∃ (k : Nat) (p : P.St), g + k = n + 1 ∧ vi = .int .i64 (k : Int) ∧ (P.told c seq (O.take k) P.new0 = p ∧ P.Gone c seq (O.take k) P.new0 ∧ P.Ok c p) ∧ Sep w wr [poolT c seq b p, blkT w2.heap.size 31 cs, blkT w.heap.size 24 cl])
  case atStart => exact ⟨0, P.new0, by omega, rfl, ⟨rfl, trivial, HO0.out⟩, HS.out⟩
  case round =>
    clear HS
    obtain ⟨k, p, hgk, rfl, ⟨hpt, hgone, hpok⟩, hS⟩ := hrel
    by_cases hk : k < n + 1
    · have hki : (k : Int) < (n : Int) + 1 := by omega
      have hkoc : k ≤ oc := by omega
      have hkoi : (k : Int) ≤ (oc : Int) := by omega
      have HPO := Lib.hid hpok; clear hpok
      have hag := HAG.out k hgone
      rw [hpt] at hag
      have HRD2 := Lib.hid (fun w' f => HRD.out w' k (by omega) f)
      obtain ⟨Z, hZ⟩ : ∃ Z, P.rread c seq (O.take k) = Z := ⟨_, rfl⟩
      rw [hZ] at hag HRD2
      clear hZ
      have HGO := Lib.hid hgone; clear hgone
      have HPT := Lib.hid hpt; clear hpt
      obtain ⟨a, T, st⟩ := Z
      obtain ⟨tat, op, nd⟩ := T
      dsimp only at hag HRD2
      obtain ⟨h1, h2⟩ := hag
      have HA2 := Lib.hid h2.symm
      have hnd : nd = decide (p.s = 0) := by
        have := P.ask_snd c p
        rw [← h2] at this
        exact this
      have HND := Lib.hid hnd
      subst h1
      clear h2 hnd
      have HS := Lib.hid hS; clear hS
      go_wp2_with fail
      refine (HAK.out _ _ b p HPO.out HS.out).mono ?_
      rintro e w6 ⟨rfl, hf⟩
      rw [HA2.out]
      dsimp only
      have HS := Lib.hid ((HS.out.fr0 hf).new 43 (enP op)); clear hf
      have honeP := enP_one op
      have hone1 := tapeL_one oa k oc ⟨tat, op, nd⟩
      go_wp2_with (refine wpList_store_new 43 _ (enP op).toArray rfl _ _ rfl rfl rfl (by kernel_rfl) (by simp [enP]) (all_oneCell_toArray honeP) ?_)
      have hmc := (HS.out.blk 3 rfl).drew
      refine step_start ([6, 11, 12], [13, 14]) [] (by kernel_rfl) ?_
      refine step_reads (N := 10) [0, 1, 2, 3, 4, 5] (by kernel_rfl) ⟨⟨_, Fr.refl _ _⟩, rfl⟩ ?_
      simp only [theOps, nthOp, List.map_cons, List.map_nil, Array.getD_eq_getD_getElem?, List.getElem?_toArray, List.getElem?_cons_succ, List.getElem?_cons_zero, Option.getD_some]
      refine wpQuiet_load_mid 24 _ w.heap.size 0 cl _ rfl rfl rfl (rangeAt_after hmc (by simp)) Try.underlying24 rfl (by rw [hsz6]; kernel_rfl) ?_
      simp only [Act.put, List.setIfInBounds_toArray, List.set_cons_zero, List.set_cons_succ]
      repeat (first | go_big_quiet_step (fail) | quiet_step (fail))
      refine wpQuiet_nil ?_
      have HS := Lib.hid HS.out.drew
      clear hmc
      generalize World.drew _ = wd at HS ⊢
      have HF := Lib.hid (Fr.refl [] wd)
      apply joinD (S := fun X2 Y2 vn vl wF => Sep w wF [blkT Y2 47 (tapeL (.slice oa k oc) ⟨tat, op, nd⟩), blkT w6.heap.size 43 (enP op), poolT c seq b p, blkT w2.heap.size 31 cs, blkT w.heap.size 24 cl])
      · intro HR
        refine step_three (N := 9) 6 11 12 (by kernel_rfl) rfl rfl rfl ?_ ?_ ?_
        · go_wp2_with fail
          refine (HRD2.out _ HS.out.fr).mono ?_
          rintro e w9 ⟨vn, vl, ⟨rfl, hv1, hv2⟩, hf⟩
          have HF := Lib.hid (HF.out.trans hf)
          have HS := Lib.hid (HS.out.fr0 hf); clear hf
          go_wp2_with fail
          refine ⟨⟨⟨_, (by exact HF.out)⟩, rfl⟩, ?_⟩
          refine step_pures (N := 5) [7, 8, 9, 10] (by kernel_rfl) ?_
          simp only [theOps, nthOp, List.map_cons, List.map_nil, Array.getD_eq_getD_getElem?, List.getElem?_toArray, List.getElem?_cons_succ, List.getElem?_cons_zero, Option.getD_some]
          repeat (first | go_big_quiet_step (fail) | quiet_step (fail))
          refine wpQuiet_nil ?_
          refine step_two (N := 4) 11 12 (by kernel_rfl) rfl rfl ?_ ?_
          · go_wp2_with fail
            have hf := Fr.alloc HF.out (.cells ([.int .i64 0, .int .i64 0, .int .i64 0, .int .i64 0, .int .u64 0, .int .u64 0, .slice none 0 0, .slice none 0 0, .int .i64 0, .int .i64 0, .int .i64 0, .int .i64 0]).toArray 65)
            have hS := HS.out.new 65 ([.int .i64 0, .int .i64 0, .int .i64 0, .int .i64 0, .int .u64 0, .int .u64 0, .slice none 0 0, .slice none 0 0, .int .i64 0, .int .i64 0, .int .i64 0, .int .i64 0])
            have HF := Lib.hid hf; have HS := Lib.hid hS; clear hf hS
            refine ⟨⟨⟨_, (by exact HF.out)⟩, rfl⟩, ?_⟩
            generalize World.alloc _ _ = wn1 at HF HS ⊢
            generalize w9.heap.size = X2 at HS ⊢
            refine step_keep (N := 3) 12 (by kernel_rfl) rfl ?_
            go_wp2_with fail
            have hf := Fr.alloc HF.out (.cells ([.slice none 0 0, .int .i64 0, .int .i64 0, .int .i64 0, .int .u64 0, .int .u64 0, .int .u64 0, .int .u64 0, .bool false]).toArray 47)
            have hS := HS.out.new 47 ([.slice none 0 0, .int .i64 0, .int .i64 0, .int .i64 0, .int .u64 0, .int .u64 0, .int .u64 0, .int .u64 0, .bool false])
            have HF := Lib.hid hf; have HS := Lib.hid hS; clear hf hS
            refine ⟨⟨⟨_, (by exact HF.out)⟩, rfl⟩, ?_⟩
            generalize World.alloc _ _ = wn2 at HF HS ⊢
            generalize wn1.heap.size = Y2 at HS ⊢
            refine step_hard (N := 2) 13 (by kernel_rfl) rfl ?_
            refine wpList_store_sep HS.out 1 rfl (RQ vn vl a.wt a.wl a.top a.nl) 65 _ _ rfl rfl rfl rfl (by rw [HRQ.out.len]; rfl) (by rw [HRQ.out.len]; kernel_rfl) (HRQ.out.one _ _ hv1 hv2 _ _ _ _) (fun wA hA _ => ?_)
            have HS := Lib.hid hA; clear hA
            simp only [List.set_cons_zero, List.set_cons_succ] at HS
            go_wp2_with fail
            refine step_hard (N := 1) 14 (by kernel_rfl) rfl ?_
            refine wpList_store_sep HS.out 0 rfl (tapeL (.slice oa k oc) ⟨tat, op, nd⟩) 47 _ _ rfl rfl rfl rfl rfl (by kernel_rfl) hone1 (fun wA hA _ => ?_)
            have HS := Lib.hid hA; clear hA
            simp only [List.set_cons_zero, List.set_cons_succ] at HS
            go_wp2_with fail
            refine step_pures (N := 0) [15] (by kernel_rfl) ?_
            simp only [theOps, nthOp, List.map_cons, List.map_nil, Array.getD_eq_getD_getElem?, List.getElem?_toArray, List.getElem?_cons_succ, List.getElem?_cons_zero, Option.getD_some]
            repeat (first | go_big_quiet_step (fail) | quiet_step (fail))
            refine wpQuiet_nil ?_
            refine step_done (by kernel_rfl) ?_
            exact HR X2 Y2 vn vl _ (HS.out.sub [0, 2, 3, 4, 5] rfl (by decide))
          · go_wp2_with fail
            have hf := Fr.alloc HF.out (.cells ([.slice none 0 0, .int .i64 0, .int .i64 0, .int .i64 0, .int .u64 0, .int .u64 0, .int .u64 0, .int .u64 0, .bool false]).toArray 47)
            have hS := HS.out.new 47 ([.slice none 0 0, .int .i64 0, .int .i64 0, .int .i64 0, .int .u64 0, .int .u64 0, .int .u64 0, .int .u64 0, .bool false])
            have HF := Lib.hid hf; have HS := Lib.hid hS; clear hf hS
            refine ⟨⟨⟨_, (by exact HF.out)⟩, rfl⟩, ?_⟩
            generalize World.alloc _ _ = wn3 at HF HS ⊢
            generalize w9.heap.size = Y2 at HS ⊢
            refine step_keep (N := 3) 11 (by kernel_rfl) rfl ?_
            go_wp2_with fail
            have hf := Fr.alloc HF.out (.cells ([.int .i64 0, .int .i64 0, .int .i64 0, .int .i64 0, .int .u64 0, .int .u64 0, .slice none 0 0, .slice none 0 0, .int .i64 0, .int .i64 0, .int .i64 0, .int .i64 0]).toArray 65)
            have hS := HS.out.new 65 ([.int .i64 0, .int .i64 0, .int .i64 0, .int .i64 0, .int .u64 0, .int .u64 0, .slice none 0 0, .slice none 0 0, .int .i64 0, .int .i64 0, .int .i64 0, .int .i64 0])
            have HF := Lib.hid hf; have HS := Lib.hid hS; clear hf hS
            refine ⟨⟨⟨_, (by exact HF.out)⟩, rfl⟩, ?_⟩
            generalize World.alloc _ _ = wn4 at HF HS ⊢
            generalize wn3.heap.size = X2 at HS ⊢
            have HS := Lib.hid (HS.out.sub (Ts' := [_, _, _, _, _, _]) [1, 0, 2, 3, 4, 5] rfl (by decide))
            refine step_hard (N := 2) 13 (by kernel_rfl) rfl ?_
            refine wpList_store_sep HS.out 1 rfl (RQ vn vl a.wt a.wl a.top a.nl) 65 _ _ rfl rfl rfl rfl (by rw [HRQ.out.len]; rfl) (by rw [HRQ.out.len]; kernel_rfl) (HRQ.out.one _ _ hv1 hv2 _ _ _ _) (fun wA hA _ => ?_)
            have HS := Lib.hid hA; clear hA
            simp only [List.set_cons_zero, List.set_cons_succ] at HS
            go_wp2_with fail
            refine step_hard (N := 1) 14 (by kernel_rfl) rfl ?_
            refine wpList_store_sep HS.out 0 rfl (tapeL (.slice oa k oc) ⟨tat, op, nd⟩) 47 _ _ rfl rfl rfl rfl rfl (by kernel_rfl) hone1 (fun wA hA _ => ?_)
            have HS := Lib.hid hA; clear hA
            simp only [List.set_cons_zero, List.set_cons_succ] at HS
            go_wp2_with fail
            refine step_pures (N := 0) [15] (by kernel_rfl) ?_
            simp only [theOps, nthOp, List.map_cons, List.map_nil, Array.getD_eq_getD_getElem?, List.getElem?_toArray, List.getElem?_cons_succ, List.getElem?_cons_zero, Option.getD_some]
            repeat (first | go_big_quiet_step (fail) | quiet_step (fail))
            refine wpQuiet_nil ?_
            refine step_done (by kernel_rfl) ?_
            exact HR X2 Y2 vn vl _ (HS.out.sub [0, 2, 3, 4, 5] rfl (by decide))
        · go_wp2_with fail
          have hf := Fr.alloc HF.out (.cells ([.int .i64 0, .int .i64 0, .int .i64 0, .int .i64 0, .int .u64 0, .int .u64 0, .slice none 0 0, .slice none 0 0, .int .i64 0, .int .i64 0, .int .i64 0, .int .i64 0]).toArray 65)
          have hS := HS.out.new 65 ([.int .i64 0, .int .i64 0, .int .i64 0, .int .i64 0, .int .u64 0, .int .u64 0, .slice none 0 0, .slice none 0 0, .int .i64 0, .int .i64 0, .int .i64 0, .int .i64 0])
          have HF := Lib.hid hf; have HS := Lib.hid hS; clear hf hS
          refine ⟨⟨⟨_, (by exact HF.out)⟩, rfl⟩, ?_⟩
          generalize World.alloc _ _ = wn5 at HF HS ⊢
          generalize wd.heap.size = X2 at HS ⊢
          refine step_two (N := 8) 6 12 (by kernel_rfl) rfl rfl ?_ ?_
          · go_wp2_with fail
            refine (HRD2.out _ HS.out.fr).mono ?_
            rintro e w9 ⟨vn, vl, ⟨rfl, hv1, hv2⟩, hf⟩
            have HF := Lib.hid (HF.out.trans hf)
            have HS := Lib.hid (HS.out.fr0 hf); clear hf
            go_wp2_with fail
            refine ⟨⟨⟨_, (by exact HF.out)⟩, rfl⟩, ?_⟩
            refine step_pures (N := 4) [7, 8, 9, 10] (by kernel_rfl) ?_
            simp only [theOps, nthOp, List.map_cons, List.map_nil, Array.getD_eq_getD_getElem?, List.getElem?_toArray, List.getElem?_cons_succ, List.getElem?_cons_zero, Option.getD_some]
            repeat (first | go_big_quiet_step (fail) | quiet_step (fail))
            refine wpQuiet_nil ?_
            refine step_keep (N := 3) 12 (by kernel_rfl) rfl ?_
            go_wp2_with fail
            have hf := Fr.alloc HF.out (.cells ([.slice none 0 0, .int .i64 0, .int .i64 0, .int .i64 0, .int .u64 0, .int .u64 0, .int .u64 0, .int .u64 0, .bool false]).toArray 47)
            have hS := HS.out.new 47 ([.slice none 0 0, .int .i64 0, .int .i64 0, .int .i64 0, .int .u64 0, .int .u64 0, .int .u64 0, .int .u64 0, .bool false])
            have HF := Lib.hid hf; have HS := Lib.hid hS; clear hf hS
            refine ⟨⟨⟨_, (by exact HF.out)⟩, rfl⟩, ?_⟩
            generalize World.alloc _ _ = wn6 at HF HS ⊢
            generalize w9.heap.size = Y2 at HS ⊢
            refine step_hard (N := 2) 13 (by kernel_rfl) rfl ?_
            refine wpList_store_sep HS.out 1 rfl (RQ vn vl a.wt a.wl a.top a.nl) 65 _ _ rfl rfl rfl rfl (by rw [HRQ.out.len]; rfl) (by rw [HRQ.out.len]; kernel_rfl) (HRQ.out.one _ _ hv1 hv2 _ _ _ _) (fun wA hA _ => ?_)
            have HS := Lib.hid hA; clear hA
            simp only [List.set_cons_zero, List.set_cons_succ] at HS
            go_wp2_with fail
            refine step_hard (N := 1) 14 (by kernel_rfl) rfl ?_
            refine wpList_store_sep HS.out 0 rfl (tapeL (.slice oa k oc) ⟨tat, op, nd⟩) 47 _ _ rfl rfl rfl rfl rfl (by kernel_rfl) hone1 (fun wA hA _ => ?_)
            have HS := Lib.hid hA; clear hA
            simp only [List.set_cons_zero, List.set_cons_succ] at HS
            go_wp2_with fail
            refine step_pures (N := 0) [15] (by kernel_rfl) ?_
            simp only [theOps, nthOp, List.map_cons, List.map_nil, Array.getD_eq_getD_getElem?, List.getElem?_toArray, List.getElem?_cons_succ, List.getElem?_cons_zero, Option.getD_some]
            repeat (first | go_big_quiet_step (fail) | quiet_step (fail))
            refine wpQuiet_nil ?_
            refine step_done (by kernel_rfl) ?_
            exact HR X2 Y2 vn vl _ (HS.out.sub [0, 2, 3, 4, 5] rfl (by decide))
          · go_wp2_with fail
            have hf := Fr.alloc HF.out (.cells ([.slice none 0 0, .int .i64 0, .int .i64 0, .int .i64 0, .int .u64 0, .int .u64 0, .int .u64 0, .int .u64 0, .bool false]).toArray 47)
            have hS := HS.out.new 47 ([.slice none 0 0, .int .i64 0, .int .i64 0, .int .i64 0, .int .u64 0, .int .u64 0, .int .u64 0, .int .u64 0, .bool false])
            have HF := Lib.hid hf; have HS := Lib.hid hS; clear hf hS
            refine ⟨⟨⟨_, (by exact HF.out)⟩, rfl⟩, ?_⟩
            generalize World.alloc _ _ = wn7 at HF HS ⊢
            generalize wn5.heap.size = Y2 at HS ⊢
            refine step_keep (N := 7) 6 (by kernel_rfl) rfl ?_
            go_wp2_with fail
            refine (HRD2.out _ HS.out.fr).mono ?_
            rintro e w9 ⟨vn, vl, ⟨rfl, hv1, hv2⟩, hf⟩
            have HF := Lib.hid (HF.out.trans hf)
            have HS := Lib.hid (HS.out.fr0 hf); clear hf
            go_wp2_with fail
            refine ⟨⟨⟨_, (by exact HF.out)⟩, rfl⟩, ?_⟩
            refine step_pures (N := 3) [7, 8, 9, 10] (by kernel_rfl) ?_
            simp only [theOps, nthOp, List.map_cons, List.map_nil, Array.getD_eq_getD_getElem?, List.getElem?_toArray, List.getElem?_cons_succ, List.getElem?_cons_zero, Option.getD_some]
            repeat (first | go_big_quiet_step (fail) | quiet_step (fail))
            refine wpQuiet_nil ?_
            refine step_hard (N := 2) 13 (by kernel_rfl) rfl ?_
            refine wpList_store_sep HS.out 1 rfl (RQ vn vl a.wt a.wl a.top a.nl) 65 _ _ rfl rfl rfl rfl (by rw [HRQ.out.len]; rfl) (by rw [HRQ.out.len]; kernel_rfl) (HRQ.out.one _ _ hv1 hv2 _ _ _ _) (fun wA hA _ => ?_)
            have HS := Lib.hid hA; clear hA
            simp only [List.set_cons_zero, List.set_cons_succ] at HS
            go_wp2_with fail
            refine step_hard (N := 1) 14 (by kernel_rfl) rfl ?_
            refine wpList_store_sep HS.out 0 rfl (tapeL (.slice oa k oc) ⟨tat, op, nd⟩) 47 _ _ rfl rfl rfl rfl rfl (by kernel_rfl) hone1 (fun wA hA _ => ?_)
            have HS := Lib.hid hA; clear hA
            simp only [List.set_cons_zero, List.set_cons_succ] at HS
            go_wp2_with fail
            refine step_pures (N := 0) [15] (by kernel_rfl) ?_
            simp only [theOps, nthOp, List.map_cons, List.map_nil, Array.getD_eq_getD_getElem?, List.getElem?_toArray, List.getElem?_cons_succ, List.getElem?_cons_zero, Option.getD_some]
            repeat (first | go_big_quiet_step (fail) | quiet_step (fail))
            refine wpQuiet_nil ?_
            refine step_done (by kernel_rfl) ?_
            exact HR X2 Y2 vn vl _ (HS.out.sub [0, 2, 3, 4, 5] rfl (by decide))
        · go_wp2_with fail
          have hf := Fr.alloc HF.out (.cells ([.slice none 0 0, .int .i64 0, .int .i64 0, .int .i64 0, .int .u64 0, .int .u64 0, .int .u64 0, .int .u64 0, .bool false]).toArray 47)
          have hS := HS.out.new 47 ([.slice none 0 0, .int .i64 0, .int .i64 0, .int .i64 0, .int .u64 0, .int .u64 0, .int .u64 0, .int .u64 0, .bool false])
          have HF := Lib.hid hf; have HS := Lib.hid hS; clear hf hS
          refine ⟨⟨⟨_, (by exact HF.out)⟩, rfl⟩, ?_⟩
          generalize World.alloc _ _ = wn8 at HF HS ⊢
          generalize wd.heap.size = Y2 at HS ⊢
          refine step_two (N := 8) 6 11 (by kernel_rfl) rfl rfl ?_ ?_
          · go_wp2_with fail
            refine (HRD2.out _ HS.out.fr).mono ?_
            rintro e w9 ⟨vn, vl, ⟨rfl, hv1, hv2⟩, hf⟩
            have HF := Lib.hid (HF.out.trans hf)
            have HS := Lib.hid (HS.out.fr0 hf); clear hf
            go_wp2_with fail
            refine ⟨⟨⟨_, (by exact HF.out)⟩, rfl⟩, ?_⟩
            refine step_pures (N := 4) [7, 8, 9, 10] (by kernel_rfl) ?_
            simp only [theOps, nthOp, List.map_cons, List.map_nil, Array.getD_eq_getD_getElem?, List.getElem?_toArray, List.getElem?_cons_succ, List.getElem?_cons_zero, Option.getD_some]
            repeat (first | go_big_quiet_step (fail) | quiet_step (fail))
            refine wpQuiet_nil ?_
            refine step_keep (N := 3) 11 (by kernel_rfl) rfl ?_
            go_wp2_with fail
            have hf := Fr.alloc HF.out (.cells ([.int .i64 0, .int .i64 0, .int .i64 0, .int .i64 0, .int .u64 0, .int .u64 0, .slice none 0 0, .slice none 0 0, .int .i64 0, .int .i64 0, .int .i64 0, .int .i64 0]).toArray 65)
            have hS := HS.out.new 65 ([.int .i64 0, .int .i64 0, .int .i64 0, .int .i64 0, .int .u64 0, .int .u64 0, .slice none 0 0, .slice none 0 0, .int .i64 0, .int .i64 0, .int .i64 0, .int .i64 0])
            have HF := Lib.hid hf; have HS := Lib.hid hS; clear hf hS
            refine ⟨⟨⟨_, (by exact HF.out)⟩, rfl⟩, ?_⟩
            generalize World.alloc _ _ = wn9 at HF HS ⊢
            generalize w9.heap.size = X2 at HS ⊢
            have HS := Lib.hid (HS.out.sub (Ts' := [_, _, _, _, _, _]) [1, 0, 2, 3, 4, 5] rfl (by decide))
            refine step_hard (N := 2) 13 (by kernel_rfl) rfl ?_
            refine wpList_store_sep HS.out 1 rfl (RQ vn vl a.wt a.wl a.top a.nl) 65 _ _ rfl rfl rfl rfl (by rw [HRQ.out.len]; rfl) (by rw [HRQ.out.len]; kernel_rfl) (HRQ.out.one _ _ hv1 hv2 _ _ _ _) (fun wA hA _ => ?_)
            have HS := Lib.hid hA; clear hA
            simp only [List.set_cons_zero, List.set_cons_succ] at HS
            go_wp2_with fail
            refine step_hard (N := 1) 14 (by kernel_rfl) rfl ?_
            refine wpList_store_sep HS.out 0 rfl (tapeL (.slice oa k oc) ⟨tat, op, nd⟩) 47 _ _ rfl rfl rfl rfl rfl (by kernel_rfl) hone1 (fun wA hA _ => ?_)
            have HS := Lib.hid hA; clear hA
            simp only [List.set_cons_zero, List.set_cons_succ] at HS
            go_wp2_with fail
            refine step_pures (N := 0) [15] (by kernel_rfl) ?_
            simp only [theOps, nthOp, List.map_cons, List.map_nil, Array.getD_eq_getD_getElem?, List.getElem?_toArray, List.getElem?_cons_succ, List.getElem?_cons_zero, Option.getD_some]
            repeat (first | go_big_quiet_step (fail) | quiet_step (fail))
            refine wpQuiet_nil ?_
            refine step_done (by kernel_rfl) ?_
            exact HR X2 Y2 vn vl _ (HS.out.sub [0, 2, 3, 4, 5] rfl (by decide))
          · go_wp2_with fail
            have hf := Fr.alloc HF.out (.cells ([.int .i64 0, .int .i64 0, .int .i64 0, .int .i64 0, .int .u64 0, .int .u64 0, .slice none 0 0, .slice none 0 0, .int .i64 0, .int .i64 0, .int .i64 0, .int .i64 0]).toArray 65)
            have hS := HS.out.new 65 ([.int .i64 0, .int .i64 0, .int .i64 0, .int .i64 0, .int .u64 0, .int .u64 0, .slice none 0 0, .slice none 0 0, .int .i64 0, .int .i64 0, .int .i64 0, .int .i64 0])
            have HF := Lib.hid hf; have HS := Lib.hid hS; clear hf hS
            refine ⟨⟨⟨_, (by exact HF.out)⟩, rfl⟩, ?_⟩
            generalize World.alloc _ _ = wn10 at HF HS ⊢
            generalize wn8.heap.size = X2 at HS ⊢
            refine step_keep (N := 7) 6 (by kernel_rfl) rfl ?_
            go_wp2_with fail
            refine (HRD2.out _ HS.out.fr).mono ?_
            rintro e w9 ⟨vn, vl, ⟨rfl, hv1, hv2⟩, hf⟩
            have HF := Lib.hid (HF.out.trans hf)
            have HS := Lib.hid (HS.out.fr0 hf); clear hf
            go_wp2_with fail
            refine ⟨⟨⟨_, (by exact HF.out)⟩, rfl⟩, ?_⟩
            refine step_pures (N := 3) [7, 8, 9, 10] (by kernel_rfl) ?_
            simp only [theOps, nthOp, List.map_cons, List.map_nil, Array.getD_eq_getD_getElem?, List.getElem?_toArray, List.getElem?_cons_succ, List.getElem?_cons_zero, Option.getD_some]
            repeat (first | go_big_quiet_step (fail) | quiet_step (fail))
            refine wpQuiet_nil ?_
            have HS := Lib.hid (HS.out.sub (Ts' := [_, _, _, _, _, _]) [1, 0, 2, 3, 4, 5] rfl (by decide))
            refine step_hard (N := 2) 13 (by kernel_rfl) rfl ?_
            refine wpList_store_sep HS.out 1 rfl (RQ vn vl a.wt a.wl a.top a.nl) 65 _ _ rfl rfl rfl rfl (by rw [HRQ.out.len]; rfl) (by rw [HRQ.out.len]; kernel_rfl) (HRQ.out.one _ _ hv1 hv2 _ _ _ _) (fun wA hA _ => ?_)
            have HS := Lib.hid hA; clear hA
            simp only [List.set_cons_zero, List.set_cons_succ] at HS
            go_wp2_with fail
            refine step_hard (N := 1) 14 (by kernel_rfl) rfl ?_
            refine wpList_store_sep HS.out 0 rfl (tapeL (.slice oa k oc) ⟨tat, op, nd⟩) 47 _ _ rfl rfl rfl rfl rfl (by kernel_rfl) hone1 (fun wA hA _ => ?_)
            have HS := Lib.hid hA; clear hA
            simp only [List.set_cons_zero, List.set_cons_succ] at HS
            go_wp2_with fail
            refine step_pures (N := 0) [15] (by kernel_rfl) ?_
            simp only [theOps, nthOp, List.map_cons, List.map_nil, Array.getD_eq_getD_getElem?, List.getElem?_toArray, List.getElem?_cons_succ, List.getElem?_cons_zero, Option.getD_some]
            repeat (first | go_big_quiet_step (fail) | quiet_step (fail))
            refine wpQuiet_nil ?_
            refine step_done (by kernel_rfl) ?_
            exact HR X2 Y2 vn vl _ (HS.out.sub [0, 2, 3, 4, 5] rfl (by decide))
      · clear HS HF HRD2
        intro X2 Y2 vn vl wF hS
        have HS := Lib.hid hS; clear hS
        have HNE := fun w => neq_op_self w op
        have b8 := (HS.out.blk 0 rfl).cell 8
        have b8l := (HS.out.blk 0 rfl).lt
        have b8m := (HS.out.blk 1 rfl).lt
        simp only [tapeL, List.getElem?_cons_zero, List.getElem?_cons_succ] at b8
        by_cases hs : p.s = 0
        · have hnd : nd = true := by rw [HND.out]; simpa using hs
          have HSZ := Lib.hid hs; clear hs
          subst hnd
          go_wp2_with (first | (refine wpList_load_any 43 _ rfl rfl _ 0 rfl (enP op) _ (HS.out.blk 1 rfl).range Try.underlying43 rfl (by kernel_rfl) ?_) | (refine wpList_load_any 43 _ rfl rfl _ 2 rfl (enP op) _ (tape_askP (HS.out.blk 0 rfl)) Try.underlying43 rfl (by kernel_rfl) ?_))
          refine (pstatus_of b c seq p (HS.out.pull 2 rfl)).mono ?_
          rintro e w7 ⟨rfl, hf⟩
          have HS := Lib.hid (HS.out.fr0 hf); clear hf
          by_cases hkn : k = n
          · have hkq : ((k : Int) == (n : Int)) = true := by simp [hkn]
            go_wp2_with fail
            go_ret
            exact ⟨rfl, HS.out.fr⟩
          · have hkq : ((k : Int) == (n : Int)) = false := by simp; omega
            have hkl : (k : Int) < (n : Int) := by omega
            have hkO : k < O.length := by omega
            obtain ⟨x, rfl, hxw, hc0, hc1⟩ := HOO.out.at hkO
            have hgo := HGG.out O[k] (List.getElem_mem hkO)
            have hNX : P.told c seq (O.take (k + 1)) P.new0 = P.tell c seq O[k].v O[k].s p ∧ P.Gone c seq (O.take (k + 1)) P.new0 := by
              rw [List.take_succ_eq_append_getElem hkO, P.told_snoc, HPT.out]
              exact ⟨rfl, P.gone_snoc HGO.out (by rw [HPT.out]; exact HSZ.out)⟩
            generalize O[k] = o at *
            obtain ⟨ov, os, ook⟩ := o
            obtain ⟨g1, g2, g3, g4⟩ := hgo
            dsimp only at g1 g2 g3 g4 hNX
            have HNX := Lib.hid hNX; clear hNX
            have y0 := HS.out.fr.cell (hc0 _ rfl) (by simp)
            have y1 := HS.out.fr.cell (hc1 0 _ rfl) (by simp)
            have y2 := HS.out.fr.cell (hc1 1 _ rfl) (by simp)
            simp only [Nat.zero_add, Nat.reduceAdd] at y1 y2
            clear hc0 hc1
            go_wp2_with fail
            refine (HTL.out _ _ b ov os ook ⟨g1, g2⟩ p HPO.out (HS.out.pull 2 rfl)).mono ?_
            rintro e w10 ⟨rfl, hS⟩
            have HS := Lib.hid hS; clear hS y0 y1 y2
            go_wp2_with fail
            go_roundg (n + 1 - (k + 1))
            case measure => omega
            case rel => exact ⟨k + 1, _, by omega, by go_num, ⟨HNX.out.1, HNX.out.2, HST.out p ov os ⟨g1, g2⟩ HPO.out⟩, HS.out.sub [0, 3, 4] rfl (by decide)⟩
        · have hnd : nd = false := by rw [HND.out]; simpa using hs
          clear hs
          subst hnd
          go_wp2_with (first | (refine wpList_load_any 43 _ rfl rfl _ 0 rfl (enP op) _ (HS.out.blk 1 rfl).range Try.underlying43 rfl (by kernel_rfl) ?_) | (refine wpList_load_any 43 _ rfl rfl _ 2 rfl (enP op) _ (tape_askP (HS.out.blk 0 rfl)) Try.underlying43 rfl (by kernel_rfl) ?_))
          refine (pstatus_of b c seq p (HS.out.pull 2 rfl)).mono ?_
          rintro e w7 ⟨rfl, hf⟩
          have HS := Lib.hid (HS.out.fr0 hf); clear hf
          go_wp2_with fail
          go_ret
          exact ⟨rfl, HS.out.fr⟩
    · obtain rfl : k = n + 1 := by omega
      have HS := Lib.hid hS; clear hS
      go_wp2_with fail
      go_ret
      exact ⟨rfl, HS.out.fr⟩
theorem preads_any (w : World) (c : Cfg) (seq : Int) (oa : Option Addr) (n oc : Nat) (O : List O3) (hl : O.length = n) (hO : ArgE enO 3 w (.slice oa n oc) O) (hG : ∀ x ∈ O, goodO x) : Calls Try.prog 4 #[.agg (cfgL c).toArray, .int .u64 seq, .slice oa n oc] w fun e w' => e = .returned (.bool true) ∧ Fr [] w w' := by
  by_cases h0 : right c = true
  · by_cases h1 : n > 60
    · exact preads_s1 w c seq oa n oc h0 (by simp; omega)
    · exact preads_main w c (by unfold right at h0; simpa using h0) seq oa n oc O hl (by omega) hO hG
  · exact preads_s0 w c seq oa n oc (by simpa using h0)
theorem preads_row (a b d f g l seq : Int) (v : Value) (L : List O3) (w : World) (h : ArgG goodO enO 3 w v L) (_ : L.length ≤ maxLen) :
    Calls Try.prog 4 #[.agg #[.int .i64 a, .int .i64 b, .int .i64 d, .int .i64 f, .int .u64 g, .int .u64 l], .int .u64 seq, v] w fun e w' => e = .returned (.bool true) ∧ Fr [] w w' := by
  obtain ⟨hO, hG⟩ := h
  obtain ⟨a1, c1, rfl⟩ := hO.len
  exact preads_any w ⟨a, b, d, f, g, l⟩ seq a1 _ c1 L rfl hO hG
end Go.Proofs.Ytccioehckfdjdaa
