/- The law ScribeOwn, walked. -/
import Derived.Test.YtahoadnagadncaaScjoin
import Derived.Test.YtahoadnagadncaaEq
import Derived.Test.YtahoadnagadncaaMap
import Derived.Test.YtahoadnagadncaaYany
import Derived.Deep.LoopGhost
import Derived.Test.YtahoadnagadncaaScalive
set_option linter.unusedSimpArgs false
set_option linter.unusedVariables false
namespace Go.Tum.Sc
open Go.Tum.Y
/-- How often each place was seen, behind so many steps. -/
def seenF (ad : Nat → Int) : Nat → Int → Int
  | 0 => fun _ => 0
  | k + 1 => fun z => if z = ad k then seenF ad k (ad k) + 1 else seenF ad k z
theorem seenF_new (ad : Nat → Int) (z : Int) : ∀ k, (∀ j, j < k → ad j ≠ z) → seenF ad k z = 0
  | 0, _ => rfl
  | k + 1, h => by
    unfold seenF
    rw [if_neg (fun e => h k (by omega) e.symm)]
    exact seenF_new ad z k (fun j hj => h j (by omega))
def lastP (ask : Nat → P6) : Nat → P6
  | 0 => p0
  | k + 1 => ask k
end Go.Tum.Sc
namespace Go.Proofs.Ytahoadnagadncaa
open Go.RowKit Go.Tum Go.Tum.Y Go.Tum.Sc
theorem tells_is {c : Cfg} (h : Ok c) {kd i k : Int} (hi : Is c kd i k) : Tells c (place c kd i k) kd i k := by
  obtain ⟨e1, h0, h1⟩ := wh_place h hi
  obtain ⟨kd', i', k', hi', he, ht⟩ := what_in h h0 h1
  obtain ⟨rfl, rfl, rfl⟩ := place_inj h hi' hi he
  exact ht
theorem zeroInt (w : World) : (zeroValue 3).run Try.prog w = .ok (.int .i64 0) w := by kernel_rfl
/-- Where the d-th step is done. -/
def adOf (c : Cfg) (who seq : Int) (K : List (Int × Int)) (k d : Nat) : Int := (Sc.opAt c who seq K k d).a
theorem opAt_is {c : Cfg} (h : Ok c) {who seq : Int} (hw : 0 ≤ who ∧ who < c.t) (K : List (Int × Int)) (k : Nat) (hk : (k : Int) ≤ cap c) (d : Nat) :
    (d < k → Is c 6 who d ∧ adOf c who seq K k d = place c 6 who d) ∧ (d = k → Is c 5 who 0 ∧ adOf c who seq K k d = place c 5 who 0) ∧ (k < d → Is c 4 who 0 ∧ adOf c who seq K k d = place c 4 who 0) := by
  have e6 : cnt c 6 = c.t := by simp [cnt]
  have e5 : cnt c 5 = c.t := by simp [cnt]
  have e4 : cnt c 4 = c.t := by simp [cnt]
  have p6 : eachP c 6 = cap c := by simp [eachP, each]
  have p5 : eachP c 5 = 1 := by simp [eachP, each]
  have p4 : eachP c 4 = 1 := by simp [eachP, each]
  unfold adOf Sc.opAt
  refine ⟨fun hd => ?_, fun hd => ?_, fun hd => ?_⟩
  · have hi : Is c 6 who d := ⟨by omega, by omega, by omega, by omega⟩
    rw [if_pos hd]
    exact ⟨hi, by unfold logOp at_; rw [if_pos hi]⟩
  · have hi : Is c 5 who 0 := ⟨by omega, by omega, by omega, by omega⟩
    rw [if_neg (by omega), if_pos hd]
    exact ⟨hi, by unfold lenOp at_; rw [if_pos hi]⟩
  · have hi : Is c 4 who 0 := ⟨by omega, by omega, by omega, by omega⟩
    rw [if_neg (by omega), if_neg (by omega)]
    exact ⟨hi, by unfold openOp at_; rw [if_pos hi]⟩
theorem ad_new {c : Cfg} (h : Ok c) {who seq : Int} (hw : 0 ≤ who ∧ who < c.t) (K : List (Int × Int)) (k : Nat) (hk : (k : Int) ≤ cap c) (d : Nat) (hd : d ≤ k + 1) : ∀ j, j < d → adOf c who seq K k j ≠ adOf c who seq K k d := by
  intro j hj he
  have hj3 := opAt_is h hw (seq := seq) K k hk j
  have hd3 := opAt_is h hw (seq := seq) K k hk d
  rcases Nat.lt_trichotomy j k with hjk | hjk | hjk
  · obtain ⟨i1, e1⟩ := hj3.1 hjk
    rcases Nat.lt_trichotomy d k with hdk | hdk | hdk
    · obtain ⟨i2, e2⟩ := hd3.1 hdk
      have := (place_inj h i1 i2 (by rw [← e1, ← e2, he])).2.2
      omega
    · obtain ⟨i2, e2⟩ := hd3.2.1 hdk
      have := (place_inj h i1 i2 (by rw [← e1, ← e2, he])).1
      omega
    · obtain ⟨i2, e2⟩ := hd3.2.2 hdk
      have := (place_inj h i1 i2 (by rw [← e1, ← e2, he])).1
      omega
  · obtain ⟨i1, e1⟩ := hj3.2.1 hjk
    obtain ⟨i2, e2⟩ := hd3.2.2 (by omega)
    have := (place_inj h i1 i2 (by rw [← e1, ← e2, he])).1
    omega
  · omega
theorem rright13_any (w : World) (c : Cfg) : Calls Try.prog 7 #[.agg (cfgL c).toArray] w fun e w' => e = .returned (.bool (right c)) ∧ Fr [] w w' := rright_any w c
set_option maxRecDepth 100000 in
set_option maxHeartbeats 4000000 in
theorem own_s0 (w : World) (c : Cfg) (who seq : Int) (a : Option Addr) (m lc : Nat) (hrc : right c = false) : Calls Try.prog 4 #[cfgV c, .int .i64 who, .int .u64 seq, .slice a m lc] w fun e w' => e = .returned (.bool true) ∧ Fr [] w w' := by
  have HS := Lib.hid ((Sep.nil (Fr.refl [] w)).new 24 (cfgL c))
  have HR := Lib.hid (fun w => rright13_any w c)
  have hsz6 : (cfgL c).length = 6 := rfl
  have g0 : (cfgL c)[0]? = some (.int .i64 c.t) := rfl
  rw [show cfgV c = .agg (cfgL c).toArray from rfl]
  generalize cfgL c = cl at *
  go_enter Try.func4, Try.ntmps4
  go_wp2_with fail
  refine (alive13_any _).mono ?_
  rintro e w1 ⟨rfl, hf⟩
  have HS := Lib.hid (HS.out.fr0 hf)
  clear hf
  go_wp2_with (first | (refine wpList_load_any 24 _ rfl rfl _ 0 rfl cl _ (HS.out.blk 0 rfl).range Try.underlying24 rfl (by rw [hsz6]; kernel_rfl) ?_))
  refine (HR.out _).mono ?_
  rintro e w1 ⟨rfl, hf⟩
  have HS := Lib.hid (HS.out.fr0 hf)
  clear hf
  rw [hrc]
  go_wp2_with fail
  go_ret
  exact ⟨rfl, HS.out.fr⟩
set_option maxRecDepth 100000 in
set_option maxHeartbeats 4000000 in
theorem own_s1 (w : World) (c : Cfg) (who seq : Int) (a : Option Addr) (m lc : Nat) (hrc : right c = true) (d1 : decide ((m : Int) > 60) = true) : Calls Try.prog 4 #[cfgV c, .int .i64 who, .int .u64 seq, .slice a m lc] w fun e w' => e = .returned (.bool true) ∧ Fr [] w w' := by
  have HS := Lib.hid ((Sep.nil (Fr.refl [] w)).new 24 (cfgL c))
  have HR := Lib.hid (fun w => rright13_any w c)
  have hsz6 : (cfgL c).length = 6 := rfl
  have g0 : (cfgL c)[0]? = some (.int .i64 c.t) := rfl
  rw [show cfgV c = .agg (cfgL c).toArray from rfl]
  generalize cfgL c = cl at *
  go_enter Try.func4, Try.ntmps4
  go_wp2_with fail
  refine (alive13_any _).mono ?_
  rintro e w1 ⟨rfl, hf⟩
  have HS := Lib.hid (HS.out.fr0 hf)
  clear hf
  go_wp2_with (first | (refine wpList_load_any 24 _ rfl rfl _ 0 rfl cl _ (HS.out.blk 0 rfl).range Try.underlying24 rfl (by rw [hsz6]; kernel_rfl) ?_))
  refine (HR.out _).mono ?_
  rintro e w1 ⟨rfl, hf⟩
  have HS := Lib.hid (HS.out.fr0 hf)
  clear hf
  rw [hrc]
  go_wp2_with fail
  go_ret
  exact ⟨rfl, HS.out.fr⟩
set_option maxRecDepth 100000 in
set_option maxHeartbeats 40000000 in
theorem own_good (w : World) (c : Cfg) (h : Ok c) (who seq : Int) (a : Option Addr) (m lc : Nat) (L : List (Int × Int)) (hLm : L.length = m) (hL : ArgE enE 2 w (.slice a m lc) L) (hm : m ≤ 60) (hrc : right c = true) :
    Calls Try.prog 4 #[cfgV c, .int .i64 who, .int .u64 seq, .slice a m lc] w fun e w' => e = .returned (.bool true) ∧ Fr [] w w' := by
  subst hLm
  have HOF : Hid (∀ w, Calls Try.prog 8 #[.agg (cfgL c).toArray] w fun e w' => e = .returned (.tuple #[mapV c, .int .i64 0]) ∧ Fr [] w w') := fun w => of_good w c h
  have HAK0 := Lib.hid (fun w b who la n lc d K hB hr hK hn hd => ask_any w c h b who seq la n lc d K hB hr hK hn hd)
  have HCP := Lib.hid (fun w => cap_any w c h)
  have HAT := Lib.hid (fun w kd i k => at_any w c h kd i k)
  have HWT := Lib.hid (fun kd i k (hi : Is c kd i k) => tells_is h hi)
  have hsz : (mapCells c).length = 24 := rfl
  have hone := oneMap c
  have HNW := Lib.hid (fun w who v hL => scnew_any w c h who seq v L hL (by omega) _ rfl)
  have d1 : decide ((L.length : Int) > 60) = false := by simp; omega
  have ht1 := h.t1
  have ht8 := h.t8
  unfold Tells at HWT
  unfold mapV at *
  generalize mapCells c = cs at *
  obtain ⟨b8, hb8, hbe⟩ := and_i64_low who 8 (by decide)
  obtain ⟨q, hq⟩ : ∃ q : Int, q = (b8 : Int) := ⟨_, rfl⟩
  have hbe2 : bits .and .i64 who 255 = q := by rw [hq]; exact hbe
  have hq0 : 0 ≤ q ∧ q ≤ 255 := by rw [hq]; omega
  clear hq
  obtain ⟨r, hr⟩ : ∃ r, Int.tmod q c.t = r := ⟨_, rfl⟩
  have hr0 : 0 ≤ r ∧ r < c.t := by
    rw [← hr, Int.tmod_eq_emod_of_nonneg (by omega)]
    have := Int.emod_nonneg q (show c.t ≠ 0 by omega)
    have := Int.emod_lt_of_pos q (show 0 < c.t by omega)
    omega
  have hct : 1 ≤ c.t ∧ c.t ≤ 8 := ⟨ht1, ht8⟩
  clear ht1 ht8
  clear hbe hb8
  have hcb := cap_bd h
  obtain ⟨kk, hkk⟩ : ∃ x, x = min L.length (cap c).toNat := ⟨_, rfl⟩
  have HKK := Lib.hid hkk
  have hkL : kk ≤ L.length := by omega
  have hkc : (kk : Int) ≤ cap c := by omega
  clear hkk
  have HS := Lib.hid ((Sep.nil (Fr.refl [] w)).new 24 (cfgL c))
  have HR := Lib.hid (fun w => rright13_any w c)
  have hsz6 : (cfgL c).length = 6 := rfl
  have g0 : (cfgL c)[0]? = some (.int .i64 c.t) := rfl
  rw [show cfgV c = .agg (cfgL c).toArray from rfl]
  generalize cfgL c = cl at *
  go_enter Try.func4, Try.ntmps4
  go_wp2_with fail
  refine (alive13_any _).mono ?_
  rintro e w1 ⟨rfl, hf⟩
  have HS := Lib.hid (HS.out.fr0 hf)
  clear hf
  go_wp2_with (first | (refine wpList_load_any 24 _ rfl rfl _ 0 rfl cl _ (HS.out.blk 0 rfl).range Try.underlying24 rfl (by rw [hsz6]; kernel_rfl) ?_))
  refine (HR.out _).mono ?_
  rintro e w1 ⟨rfl, hf⟩
  have HS := Lib.hid (HS.out.fr0 hf)
  clear hf
  rw [hrc]
  go_wp2_with (first | (refine wpList_load_any 24 _ rfl rfl _ 0 rfl cl _ (HS.out.blk 0 rfl).range Try.underlying24 rfl (by rw [hsz6]; kernel_rfl) ?_))
  refine (HOF.out _).mono ?_
  rintro e w1 ⟨rfl, hf⟩
  have HS := Lib.hid (HS.out.fr0 hf)
  clear hf
  have HS := Lib.hid (HS.out.new 31 cs)
  have c0 := ((HS.out.blk 1 rfl).cell 0).trans g0
  have cl0 := (HS.out.blk 1 rfl).lt
  go_wp2_with (first | (refine wpList_store_new 31 _ (cs).toArray rfl _ _ rfl rfl rfl (by rw [List.size_toArray, hsz]; kernel_rfl) (by simp [hsz]) (all_oneCell_toArray hone) ?_) | (refine wpList_load_any 31 _ rfl rfl _ 0 rfl cs _ (HS.out.blk 0 rfl).range Try.underlying31 rfl (by rw [hsz]; kernel_rfl) ?_))
  refine (HNW.out _ r _ (hL.fr HS.out.fr)).mono ?_
  rintro e w2 ⟨b, v', rfl, hN⟩
  have hS := HS.out.append hN
  simp only [List.cons_append, List.nil_append] at hS
  rw [← HKK.out] at hS
  have hS := (hS.mapNew Try.prog 3 3 .i64 .i64)
  have hS := hS.new 40 (enP p0)
  simp only [World.size_alloc] at hS
  have HS := Lib.hid hS; clear hS hN
  have hmm := @run_makeMap Try.prog
  have honeP := enP_one p0
  obtain ⟨la, lc', rfl⟩ := HS.out.form 3 rfl
  obtain ⟨ask, has⟩ : ∃ ask : Nat → P6, ask = fun d => if d ≤ kk + 1 then Sc.opAt c r seq (L.take kk) kk d else p0 := ⟨_, rfl⟩
  have HAK := Lib.hid (fun w d hB hr hd => HAK0.out w b r la kk lc' d (L.take kk) hB hr (by rw [List.length_take]; omega) (by omega) hd)
  have hase : ∀ d, (if d ≤ kk + 1 then Sc.opAt c r seq (L.take kk) kk d else p0) = ask d := fun d => by rw [has]
  have hak0 : ∀ d, d ≤ kk + 1 → ask d = Sc.opAt c r seq (L.take kk) kk d := fun d hd => by rw [has]; exact if_pos hd
  simp only [hase] at HAK
  have HAS := Lib.hid hak0
  clear hase hak0 has HAK0
  obtain ⟨ad, had⟩ : ∃ ad : Nat → Int, ad = fun d => (ask d).a := ⟨_, rfl⟩
  have HNEW : Hid (∀ d, d ≤ kk + 1 → seenF ad d (ad d) = 0) := fun d hd => seenF_new ad (ad d) d (fun j hj => by
    rw [had]
    dsimp only
    rw [HAS.out j (by omega), HAS.out d hd]
    exact ad_new h hr0 (L.take kk) kk hkc d hd j hj)
  have HAD : Hid (∀ d, ad d = (ask d).a) := fun d => by rw [had]
  clear had
  have HTA := Lib.hid (fun d => opAt_is h hr0 (seq := seq) (L.take kk) kk hkc d)
  go_wp2_with fail
  refine (HAK.out _ 0 (HS.out.blk 2 rfl) (HS.out.row 3 rfl) (by omega)).mono ?_
  rintro e w4 ⟨rfl, hf⟩
  have hS := (HS.out.fr0 hf).new 40 (enP (ask 0))
  have HS := Lib.hid hS; clear hS hf
  have honeA := enP_one (ask 0)
  generalize hY : w2.heap.size + 1 = Y at HS ⊢
  go_wp2_with (first | (refine wpList_store_new 40 _ (enP (ask 0)).toArray rfl _ _ rfl rfl rfl (by kernel_rfl) (by simp [enP]) (all_oneCell_toArray honeA) ?_))
  clear honeA honeP hY
  go_loopg [14, 15, 16] (kk + 2) (fun gk v14 v15 v16 wr => ∃ k X, gk + k = kk + 2 ∧ v14 = .int .i64 (k : Int) ∧ v15 = .pointer (some ⟨X, 0, none⟩) ∧ v16 = .bool (decide (k ≤ kk + 1)) ∧ Sep w wr [blkT X 40 (enP (ask k)), blkT Y 40 (enP (lastP ask k)), mapT Try.prog 3 3 .i64 .i64 w2.heap.size k (seenF ad k), blkT b 75 (scL cs r seq (.slice la kk lc') k), rowT 0 56 2 (.slice la kk lc') kk (flat enE (L.take kk)), blkT w1.heap.size 31 cs, blkT w.heap.size 24 cl])
  case atStart => exact ⟨0, _, by omega, rfl, rfl, rfl, HS.out⟩
  case round =>
    clear HS
    obtain ⟨k, X, hgk, rfl, rfl, rfl, hS⟩ := hrel
    have HS := Lib.hid hS; clear hS
    have hal := L.length
    by_cases hk : k ≤ kk + 1
    · rw [decide_eq_true hk]
      have hseen := HNEW.out k hk
      by_cases h1 : k < kk
      · obtain ⟨hi, hA0⟩ := (HTA.out k).1 h1
        have hB := wh_place h hi
        have HTL := Lib.hid (fun w => HWT.out 6 r k hi w)
        have hak : ask k = ⟨1, place c 6 r k, 0, 0, (L.getD k (0, 0)).2, IntKind.u64.wrap (L.getD k (0, 0)).1⟩ := by
          rw [HAS.out k hk]
          unfold Sc.opAt
          rw [if_pos h1]
          unfold logOp at_
          rw [if_pos hi]
          have : (L.take kk).getD k (0, 0) = L.getD k (0, 0) := by simp [List.getD_eq_getElem?_getD, List.getElem?_take_of_lt h1]
          rw [this]
        have hadk : ad k = place c 6 r k := by rw [HAD.out k, hak]
        have hAb : 0 ≤ place c 6 r k ∧ place c 6 r k ≤ 18100 := ⟨hB.2.1, by have := size_bd h; omega⟩
        rw [hadk] at hseen
        clear hB hA0 hi
        generalize place c 6 r k = A at *
        obtain ⟨x, rfl, hxw, hc0, hc1⟩ := hL.at (i := k) (by omega)
        have e1 := hc1 0 _ rfl
        have hgd : L.getD k (0, 0) = L[k]'(by omega) := by simp [List.getD_eq_getElem?_getD, List.getElem?_eq_getElem (show k < L.length by omega)]
        rw [← hgd] at e1
        have HE := Lib.hid e1
        clear hc0 hc1 e1 hgd
        generalize L.getD k (0, 0) = E at *
        obtain ⟨E1, E2⟩ := E
        dsimp only at hak HE
        simp only [Nat.zero_add] at HE
        generalize IntKind.u64.wrap E1 = E3 at hak
        have HKA := Lib.hid hak; clear hak
        have hA : -9223372036854775808 ≤ A ∧ A ≤ 9223372036854775807 := by omega
        have hwf : (Lit.int .i64 A).wf = true := WalkArith.wf_i64 hA
        have hwf1 : (Lit.int .i64 1).wf = true := by decide
        have hkm : k < maxLen := by unfold maxLen; omega
        have hzz : (fun z => if z = A then 1 else seenF ad k z) = seenF ad (k + 1) := by
          funext z
          show _ = if z = ad k then seenF ad k (ad k) + 1 else seenF ad k z
          rw [hadk, hseen]; rfl
        have hone1 : seenF ad (k + 1) A = 1 := by rw [← hzz]; exact if_pos rfl
        have hsL : ((seenF ad k A : Int) + 1) = 1 := by rw [hseen]; rfl
        have hki : ¬ ((k : Int) > (L.length : Int) + 2) := by omega
        have HZZ := Lib.hid hzz; clear hzz
        have x1 := (HS.out.blk 0 rfl).cell 1
        have xl := (HS.out.blk 0 rfl).lt
        rw [HKA.out] at x1
        simp only [enP, List.getElem?_cons_zero, List.getElem?_cons_succ] at x1
        have m5 := HS.out.blk 5 rfl
        have HM5 := Lib.hid m5.range; clear m5
        go_wp2_with (first | (refine wpList_load_any 31 _ rfl rfl _ 0 rfl cs _ HM5.out Try.underlying31 rfl (by rw [hsz]; kernel_rfl) ?_))
        refine (HTL.out _).mono ?_
        rintro e w5 ⟨rfl, hf⟩
        have HS := Lib.hid (HS.out.fr0 hf)
        clear hf x1 xl HM5
        have x1 := (HS.out.blk 0 rfl).cell 1
        have xl := (HS.out.blk 0 rfl).lt
        rw [HKA.out] at x1
        simp only [enP, List.getElem?_cons_zero, List.getElem?_cons_succ] at x1
        go_wp2_with (first
          | (at_lookup; go_must (refine wpList_lookup_sep HS.out 2 rfl (by rfl) _ _ 52 rfl Try.underlying3 Try.underlying52 Try.underlying3 zeroInt rfl A rfl hwf ?_))
          | (at_mapUpdate; go_must (refine wpList_update_sep HS.out 2 rfl rfl _ _ _ 52 rfl Try.underlying3 Try.underlying52 Try.underlying3 rfl A rfl hwf 1 rfl hwf1 hkm ?_); intro wU hU fU; have HU := Lib.hid hU; clear hU fU))
        have HS : Hid (Sep w wU [blkT X 40 (enP (ask k)), blkT Y 40 (enP (lastP ask k)), mapT Try.prog 3 3 .i64 .i64 w2.heap.size (k + 1) (seenF ad (k + 1)), blkT b 75 (scL cs r seq (.slice la kk lc') k), rowT 0 56 2 (.slice la kk lc') kk (flat enE (L.take kk)), blkT w1.heap.size 31 cs, blkT w.heap.size 24 cl]) := by rw [← HZZ.out]; exact HU.out
        clear HU HZZ x1 xl
        have x0 := (HS.out.blk 0 rfl).cell 0
        have x1 := (HS.out.blk 0 rfl).cell 1
        have x4 := (HS.out.blk 0 rfl).cell 4
        have xl := (HS.out.blk 0 rfl).lt
        rw [HKA.out] at x0 x1 x4
        simp only [enP, List.getElem?_cons_zero, List.getElem?_cons_succ] at x0 x1 x4
        have e1 := HS.out.fr.cell HE.out (by simp)
        refine wp_region_fr [(1, [0, 1, 2, 3, 4, 5, 6, 7, 8, 9, 10, 11, 12, 13, 14, 15, 16, 17, 18, 19]), (2, [20]), (1, [21, 22, 23, 24, 25, 26, 27, 28, 29, 30, 31, 32, 33, 34, 35, 36, 37, 38, 39, 40, 41, 42, 43, 44, 45, 46, 47, 48, 49])] [] (by kernel_rfl) (by kernel_rfl) ?_
        simp only [theOps, nthOp, List.map_cons, List.map_nil, Array.getD_eq_getD_getElem?, List.getElem?_toArray, List.getElem?_cons_succ, List.getElem?_cons_zero, Option.getD_some]
        repeat ((first | refine wpSegs_soft ?_ | refine wpSegs_pure ?_ | refine wpSegs_here ?_); (repeat (first | go_big_quiet_step (fail) | quiet_step (fail))); refine wpQuiet_nil ?_)
        refine wpSegs_keep ?_
        go_wp2_with (at_lookup; go_must (refine wpList_lookup_sep HS.out.drew 2 rfl (by rfl) _ _ 52 rfl Try.underlying3 Try.underlying52 Try.underlying3 zeroInt rfl A rfl hwf ?_))
        refine ⟨⟨⟨_, (by exact ⟨rfl, rfl, rfl, Nat.le_refl _, fun _ _ _ => rfl⟩)⟩, rfl⟩, ?_⟩
        repeat ((first | refine wpSegs_soft ?_ | refine wpSegs_pure ?_ | refine wpSegs_here ?_); (repeat (first | go_big_quiet_step (fail) | quiet_step (fail))); refine wpQuiet_nil ?_)
        refine wpSegs_done ?_
        clear x0 x1 x4 xl
        have HS := Lib.hid HS.out.drew
        generalize wU.drew = wV at HS ⊢
        have honeA := enP_one (ask k)
        go_wp2_with (first | (refine wpList_load_any 40 _ rfl rfl _ 0 rfl (enP (ask k)) _ (HS.out.blk 0 rfl).range Try.underlying40 rfl (by kernel_rfl) ?_) | (refine wpList_store_sep HS.out 1 rfl (enP (ask k)) 40 _ _ rfl rfl rfl rfl rfl (by kernel_rfl) honeA (fun wA hA _ => ?_); have HA := Lib.hid hA; clear hA))
        refine (HA.out.call 3 rfl (fun R hR => tell_go b cs hsz r seq la kk lc' k 0 0 false hR (by omega) (by omega) (by simp; omega))).mono ?_
        rintro e w6 ⟨rfl, hS⟩
        have hS : Sep w w6 [blkT X 40 (enP (ask k)), blkT Y 40 (enP (ask k)), mapT Try.prog 3 3 .i64 .i64 w2.heap.size (k + 1) (seenF ad (k + 1)), blkT b 75 (scL cs r seq (.slice la kk lc') (k + 1)), rowT 0 56 2 (.slice la kk lc') kk (flat enE (L.take kk)), blkT w1.heap.size 31 cs, blkT w.heap.size 24 cl] := hS
        have HS := Lib.hid hS
        have hS2 := hS.new 40 (enP (ask k))
        have HS2 := Lib.hid hS2; clear hS hS2
        go_wp2_with (first | (refine wpList_load_any 40 _ rfl rfl _ 0 rfl (enP (ask k)) _ (HS.out.blk 0 rfl).range Try.underlying40 rfl (by kernel_rfl) ?_) | (refine wpList_store_new 40 _ (enP (ask k)).toArray rfl _ _ rfl rfl rfl (by kernel_rfl) (by simp [enP]) (all_oneCell_toArray honeA) ?_))
        refine (HAK.out _ (k + 1) (HS2.out.blk 4 rfl) (HS2.out.row 5 rfl) (by omega)).mono ?_
        rintro e w7 ⟨rfl, hf⟩
        have HS := Lib.hid (HS2.out.fr0 hf)
        have honeB := enP_one (ask (k + 1))
        clear HS2 hf
        go_wp2_with (first | (refine wpList_store_sep HS.out 0 rfl (enP (ask (k + 1))) 40 _ _ rfl rfl rfl rfl rfl (by kernel_rfl) honeB (fun wB hB _ => ?_); have HB := Lib.hid hB; clear hB))
        go_roundg (kk + 2 - (k + 1))
        case measure => omega
        case rel => exact ⟨k + 1, _, by omega, by go_num, rfl, by simp, HB.out.snd⟩
      · by_cases h2 : k = kk
        · obtain ⟨hi, hA0⟩ := (HTA.out k).2.1 h2
          have hB := wh_place h hi
          have HTL := Lib.hid (fun w => HWT.out 5 r 0 hi w)
          have hak : ask k = ⟨1, place c 5 r 0, 0, 0, (kk : Int), 0⟩ := by
            rw [HAS.out k hk]
            unfold Sc.opAt
            rw [if_neg h1, if_pos h2]
            unfold lenOp at_
            rw [if_pos hi]
          have hadk : ad k = place c 5 r 0 := by rw [HAD.out k, hak]
          have hAb : 0 ≤ place c 5 r 0 ∧ place c 5 r 0 ≤ 18100 := ⟨hB.2.1, by have := size_bd h; omega⟩
          rw [hadk] at hseen
          clear hB hA0 hi
          generalize place c 5 r 0 = A at HTL hak hadk hAb hseen
          clear h1 h2
          have HKA := Lib.hid hak; clear hak
          have hA : -9223372036854775808 ≤ A ∧ A ≤ 9223372036854775807 := by omega
          have hwf : (Lit.int .i64 A).wf = true := WalkArith.wf_i64 hA
          have hwf1 : (Lit.int .i64 1).wf = true := by decide
          have hkm : k < maxLen := by unfold maxLen; omega
          have hzz : (fun z => if z = A then 1 else seenF ad k z) = seenF ad (k + 1) := by
            funext z
            show _ = if z = ad k then seenF ad k (ad k) + 1 else seenF ad k z
            rw [hadk, hseen]; rfl
          have hone1 : seenF ad (k + 1) A = 1 := by rw [← hzz]; exact if_pos rfl
          have hsL : ((seenF ad k A : Int) + 1) = 1 := by rw [hseen]; rfl
          have hki : ¬ ((k : Int) > (L.length : Int) + 2) := by omega
          have HZZ := Lib.hid hzz; clear hzz
          have x1 := (HS.out.blk 0 rfl).cell 1
          have xl := (HS.out.blk 0 rfl).lt
          rw [HKA.out] at x1
          simp only [enP, List.getElem?_cons_zero, List.getElem?_cons_succ] at x1
          have m5 := HS.out.blk 5 rfl
          have HM5 := Lib.hid m5.range; clear m5
          go_wp2_with (first | (refine wpList_load_any 31 _ rfl rfl _ 0 rfl cs _ HM5.out Try.underlying31 rfl (by rw [hsz]; kernel_rfl) ?_))
          refine (HTL.out _).mono ?_
          rintro e w5 ⟨rfl, hf⟩
          have HS := Lib.hid (HS.out.fr0 hf)
          clear hf x1 xl HM5
          have x1 := (HS.out.blk 0 rfl).cell 1
          have xl := (HS.out.blk 0 rfl).lt
          rw [HKA.out] at x1
          simp only [enP, List.getElem?_cons_zero, List.getElem?_cons_succ] at x1
          go_wp2_with (first
            | (at_lookup; go_must (refine wpList_lookup_sep HS.out 2 rfl (by rfl) _ _ 52 rfl Try.underlying3 Try.underlying52 Try.underlying3 zeroInt rfl A rfl hwf ?_))
            | (at_mapUpdate; go_must (refine wpList_update_sep HS.out 2 rfl rfl _ _ _ 52 rfl Try.underlying3 Try.underlying52 Try.underlying3 rfl A rfl hwf 1 rfl hwf1 hkm ?_); intro wU hU fU; have HU := Lib.hid hU; clear hU fU))
          have HS : Hid (Sep w wU [blkT X 40 (enP (ask k)), blkT Y 40 (enP (lastP ask k)), mapT Try.prog 3 3 .i64 .i64 w2.heap.size (k + 1) (seenF ad (k + 1)), blkT b 75 (scL cs r seq (.slice la kk lc') k), rowT 0 56 2 (.slice la kk lc') kk (flat enE (L.take kk)), blkT w1.heap.size 31 cs, blkT w.heap.size 24 cl]) := by rw [← HZZ.out]; exact HU.out
          clear HU HZZ x1 xl
          have x0 := (HS.out.blk 0 rfl).cell 0
          have x1 := (HS.out.blk 0 rfl).cell 1
          have x4 := (HS.out.blk 0 rfl).cell 4
          have xl := (HS.out.blk 0 rfl).lt
          rw [HKA.out] at x0 x1 x4
          simp only [enP, List.getElem?_cons_zero, List.getElem?_cons_succ] at x0 x1 x4
          refine wp_region_fr [(1, [0, 1, 2, 3, 4, 5, 6, 7, 8, 9, 10, 11, 12, 13, 14, 15, 16, 17, 18, 19]), (2, [20]), (1, [21, 22, 23, 24, 25, 26, 27, 28, 29, 30, 31, 32, 33, 34, 35, 36, 37, 38, 39, 40, 41, 42, 43, 44, 45, 46, 47, 48, 49])] [] (by kernel_rfl) (by kernel_rfl) ?_
          simp only [theOps, nthOp, List.map_cons, List.map_nil, Array.getD_eq_getD_getElem?, List.getElem?_toArray, List.getElem?_cons_succ, List.getElem?_cons_zero, Option.getD_some]
          repeat ((first | refine wpSegs_soft ?_ | refine wpSegs_pure ?_ | refine wpSegs_here ?_); (repeat (first | go_big_quiet_step (fail) | quiet_step (fail))); refine wpQuiet_nil ?_)
          refine wpSegs_keep ?_
          go_wp2_with (at_lookup; go_must (refine wpList_lookup_sep HS.out.drew 2 rfl (by rfl) _ _ 52 rfl Try.underlying3 Try.underlying52 Try.underlying3 zeroInt rfl A rfl hwf ?_))
          refine ⟨⟨⟨_, (by exact ⟨rfl, rfl, rfl, Nat.le_refl _, fun _ _ _ => rfl⟩)⟩, rfl⟩, ?_⟩
          repeat ((first | refine wpSegs_soft ?_ | refine wpSegs_pure ?_ | refine wpSegs_here ?_); (repeat (first | go_big_quiet_step (fail) | quiet_step (fail))); refine wpQuiet_nil ?_)
          refine wpSegs_done ?_
          clear x0 x1 x4 xl
          have HS := Lib.hid HS.out.drew
          generalize wU.drew = wV at HS ⊢
          have honeA := enP_one (ask k)
          go_wp2_with (first | (refine wpList_load_any 40 _ rfl rfl _ 0 rfl (enP (ask k)) _ (HS.out.blk 0 rfl).range Try.underlying40 rfl (by kernel_rfl) ?_) | (refine wpList_store_sep HS.out 1 rfl (enP (ask k)) 40 _ _ rfl rfl rfl rfl rfl (by kernel_rfl) honeA (fun wA hA _ => ?_); have HA := Lib.hid hA; clear hA))
          refine (HA.out.call 3 rfl (fun R hR => tell_go b cs hsz r seq la kk lc' k 0 0 false hR (by omega) (by omega) (by simp; omega))).mono ?_
          rintro e w6 ⟨rfl, hS⟩
          have hS : Sep w w6 [blkT X 40 (enP (ask k)), blkT Y 40 (enP (ask k)), mapT Try.prog 3 3 .i64 .i64 w2.heap.size (k + 1) (seenF ad (k + 1)), blkT b 75 (scL cs r seq (.slice la kk lc') (k + 1)), rowT 0 56 2 (.slice la kk lc') kk (flat enE (L.take kk)), blkT w1.heap.size 31 cs, blkT w.heap.size 24 cl] := hS
          have HS := Lib.hid hS
          have hS2 := hS.new 40 (enP (ask k))
          have HS2 := Lib.hid hS2; clear hS hS2
          go_wp2_with (first | (refine wpList_load_any 40 _ rfl rfl _ 0 rfl (enP (ask k)) _ (HS.out.blk 0 rfl).range Try.underlying40 rfl (by kernel_rfl) ?_) | (refine wpList_store_new 40 _ (enP (ask k)).toArray rfl _ _ rfl rfl rfl (by kernel_rfl) (by simp [enP]) (all_oneCell_toArray honeA) ?_))
          refine (HAK.out _ (k + 1) (HS2.out.blk 4 rfl) (HS2.out.row 5 rfl) (by omega)).mono ?_
          rintro e w7 ⟨rfl, hf⟩
          have HS := Lib.hid (HS2.out.fr0 hf)
          have honeB := enP_one (ask (k + 1))
          clear HS2 hf
          go_wp2_with (first | (refine wpList_store_sep HS.out 0 rfl (enP (ask (k + 1))) 40 _ _ rfl rfl rfl rfl rfl (by kernel_rfl) honeB (fun wB hB _ => ?_); have HB := Lib.hid hB; clear hB))
          go_roundg (kk + 2 - (k + 1))
          case measure => omega
          case rel => exact ⟨k + 1, _, by omega, by go_num, rfl, by simp, HB.out.snd⟩
        · obtain ⟨hi, hA0⟩ := (HTA.out k).2.2 (by omega)
          have hB := wh_place h hi
          have HTL := Lib.hid (fun w => HWT.out 4 r 0 hi w)
          have hak : ask k = ⟨1, place c 4 r 0, 0, 0, 1, seq⟩ := by
            rw [HAS.out k hk]
            unfold Sc.opAt
            rw [if_neg h1, if_neg h2]
            unfold openOp at_
            rw [if_pos hi]
          have hadk : ad k = place c 4 r 0 := by rw [HAD.out k, hak]
          have hAb : 0 ≤ place c 4 r 0 ∧ place c 4 r 0 ≤ 18100 := ⟨hB.2.1, by have := size_bd h; omega⟩
          rw [hadk] at hseen
          clear hB hA0 hi
          generalize place c 4 r 0 = A at HTL hak hadk hAb hseen
          clear h1 h2
          have HKA := Lib.hid hak; clear hak
          have hA : -9223372036854775808 ≤ A ∧ A ≤ 9223372036854775807 := by omega
          have hwf : (Lit.int .i64 A).wf = true := WalkArith.wf_i64 hA
          have hwf1 : (Lit.int .i64 1).wf = true := by decide
          have hkm : k < maxLen := by unfold maxLen; omega
          have hzz : (fun z => if z = A then 1 else seenF ad k z) = seenF ad (k + 1) := by
            funext z
            show _ = if z = ad k then seenF ad k (ad k) + 1 else seenF ad k z
            rw [hadk, hseen]; rfl
          have hone1 : seenF ad (k + 1) A = 1 := by rw [← hzz]; exact if_pos rfl
          have hsL : ((seenF ad k A : Int) + 1) = 1 := by rw [hseen]; rfl
          have hki : ¬ ((k : Int) > (L.length : Int) + 2) := by omega
          have HZZ := Lib.hid hzz; clear hzz
          have x1 := (HS.out.blk 0 rfl).cell 1
          have xl := (HS.out.blk 0 rfl).lt
          rw [HKA.out] at x1
          simp only [enP, List.getElem?_cons_zero, List.getElem?_cons_succ] at x1
          have m5 := HS.out.blk 5 rfl
          have HM5 := Lib.hid m5.range; clear m5
          go_wp2_with (first | (refine wpList_load_any 31 _ rfl rfl _ 0 rfl cs _ HM5.out Try.underlying31 rfl (by rw [hsz]; kernel_rfl) ?_))
          refine (HTL.out _).mono ?_
          rintro e w5 ⟨rfl, hf⟩
          have HS := Lib.hid (HS.out.fr0 hf)
          clear hf x1 xl HM5
          have x1 := (HS.out.blk 0 rfl).cell 1
          have xl := (HS.out.blk 0 rfl).lt
          rw [HKA.out] at x1
          simp only [enP, List.getElem?_cons_zero, List.getElem?_cons_succ] at x1
          go_wp2_with (first
            | (at_lookup; go_must (refine wpList_lookup_sep HS.out 2 rfl (by rfl) _ _ 52 rfl Try.underlying3 Try.underlying52 Try.underlying3 zeroInt rfl A rfl hwf ?_))
            | (at_mapUpdate; go_must (refine wpList_update_sep HS.out 2 rfl rfl _ _ _ 52 rfl Try.underlying3 Try.underlying52 Try.underlying3 rfl A rfl hwf 1 rfl hwf1 hkm ?_); intro wU hU fU; have HU := Lib.hid hU; clear hU fU))
          have HS : Hid (Sep w wU [blkT X 40 (enP (ask k)), blkT Y 40 (enP (lastP ask k)), mapT Try.prog 3 3 .i64 .i64 w2.heap.size (k + 1) (seenF ad (k + 1)), blkT b 75 (scL cs r seq (.slice la kk lc') k), rowT 0 56 2 (.slice la kk lc') kk (flat enE (L.take kk)), blkT w1.heap.size 31 cs, blkT w.heap.size 24 cl]) := by rw [← HZZ.out]; exact HU.out
          clear HU HZZ x1 xl
          have x0 := (HS.out.blk 0 rfl).cell 0
          have x1 := (HS.out.blk 0 rfl).cell 1
          have x4 := (HS.out.blk 0 rfl).cell 4
          have xl := (HS.out.blk 0 rfl).lt
          rw [HKA.out] at x0 x1 x4
          simp only [enP, List.getElem?_cons_zero, List.getElem?_cons_succ] at x0 x1 x4
          refine wp_region_fr [(1, [0, 1, 2, 3, 4, 5, 6, 7, 8, 9, 10, 11, 12, 13, 14, 15, 16, 17, 18, 19]), (2, [20]), (1, [21, 22, 23, 24, 25, 26, 27, 28, 29, 30, 31, 32, 33, 34, 35, 36, 37, 38, 39, 40, 41, 42, 43, 44, 45, 46, 47, 48, 49])] [] (by kernel_rfl) (by kernel_rfl) ?_
          simp only [theOps, nthOp, List.map_cons, List.map_nil, Array.getD_eq_getD_getElem?, List.getElem?_toArray, List.getElem?_cons_succ, List.getElem?_cons_zero, Option.getD_some]
          repeat ((first | refine wpSegs_soft ?_ | refine wpSegs_pure ?_ | refine wpSegs_here ?_); (repeat (first | go_big_quiet_step (fail) | quiet_step (fail))); refine wpQuiet_nil ?_)
          refine wpSegs_keep ?_
          go_wp2_with (at_lookup; go_must (refine wpList_lookup_sep HS.out.drew 2 rfl (by rfl) _ _ 52 rfl Try.underlying3 Try.underlying52 Try.underlying3 zeroInt rfl A rfl hwf ?_))
          refine ⟨⟨⟨_, (by exact ⟨rfl, rfl, rfl, Nat.le_refl _, fun _ _ _ => rfl⟩)⟩, rfl⟩, ?_⟩
          repeat ((first | refine wpSegs_soft ?_ | refine wpSegs_pure ?_ | refine wpSegs_here ?_); (repeat (first | go_big_quiet_step (fail) | quiet_step (fail))); refine wpQuiet_nil ?_)
          refine wpSegs_done ?_
          clear x0 x1 x4 xl
          have HS := Lib.hid HS.out.drew
          generalize wU.drew = wV at HS ⊢
          have honeA := enP_one (ask k)
          go_wp2_with (first | (refine wpList_load_any 40 _ rfl rfl _ 0 rfl (enP (ask k)) _ (HS.out.blk 0 rfl).range Try.underlying40 rfl (by kernel_rfl) ?_) | (refine wpList_store_sep HS.out 1 rfl (enP (ask k)) 40 _ _ rfl rfl rfl rfl rfl (by kernel_rfl) honeA (fun wA hA _ => ?_); have HA := Lib.hid hA; clear hA))
          refine (HA.out.call 3 rfl (fun R hR => tell_go b cs hsz r seq la kk lc' k 0 0 false hR (by omega) (by omega) (by simp; omega))).mono ?_
          rintro e w6 ⟨rfl, hS⟩
          have hS : Sep w w6 [blkT X 40 (enP (ask k)), blkT Y 40 (enP (ask k)), mapT Try.prog 3 3 .i64 .i64 w2.heap.size (k + 1) (seenF ad (k + 1)), blkT b 75 (scL cs r seq (.slice la kk lc') (k + 1)), rowT 0 56 2 (.slice la kk lc') kk (flat enE (L.take kk)), blkT w1.heap.size 31 cs, blkT w.heap.size 24 cl] := hS
          have HS := Lib.hid hS
          have hS2 := hS.new 40 (enP (ask k))
          have HS2 := Lib.hid hS2; clear hS hS2
          go_wp2_with (first | (refine wpList_load_any 40 _ rfl rfl _ 0 rfl (enP (ask k)) _ (HS.out.blk 0 rfl).range Try.underlying40 rfl (by kernel_rfl) ?_) | (refine wpList_store_new 40 _ (enP (ask k)).toArray rfl _ _ rfl rfl rfl (by kernel_rfl) (by simp [enP]) (all_oneCell_toArray honeA) ?_))
          refine (HAK.out _ (k + 1) (HS2.out.blk 4 rfl) (HS2.out.row 5 rfl) (by omega)).mono ?_
          rintro e w7 ⟨rfl, hf⟩
          have HS := Lib.hid (HS2.out.fr0 hf)
          have honeB := enP_one (ask (k + 1))
          clear HS2 hf
          go_wp2_with (first | (refine wpList_store_sep HS.out 0 rfl (enP (ask (k + 1))) 40 _ _ rfl rfl rfl rfl rfl (by kernel_rfl) honeB (fun wB hB _ => ?_); have HB := Lib.hid hB; clear hB))
          go_roundg (kk + 2 - (k + 1))
          case measure => omega
          case rel => exact ⟨k + 1, _, by omega, by go_num, rfl, by simp, HB.out.snd⟩
    · obtain rfl : k = kk + 2 := by omega
      rw [decide_eq_false hk]
      obtain ⟨hi, hA0⟩ := (HTA.out (kk + 1)).2.2 (by omega)
      have hak : lastP ask (kk + 2) = ⟨1, at_ c 4 r 0, 0, 0, 1, seq⟩ := by
        show ask (kk + 1) = _
        rw [HAS.out (kk + 1) (by omega)]
        unfold Sc.opAt
        rw [if_neg (by omega), if_neg (by omega)]
        rfl
      have y1 := (HS.out.blk 1 rfl).cell 1
      have y4 := (HS.out.blk 1 rfl).cell 4
      have y5 := (HS.out.blk 1 rfl).cell 5
      have yl := (HS.out.blk 1 rfl).lt
      rw [hak] at y1 y4 y5
      simp only [enP, List.getElem?_cons_zero, List.getElem?_cons_succ] at y1 y4 y5
      have hmd := (HS.out.blk 5 rfl).drew
      have HAT := Lib.hid (fun w => HAT.out w 4 r 0)
      generalize at_ c 4 r 0 = A at y1 HAT
      go_wp2_with fail
      have hmin : (if cap c < (L.length : Int) then cap c else (L.length : Int)) = (kk : Int) := by
        have := HKK.out
        split <;> omega
      have HCL := fun w => eql_cell_self w 1 seq
      refine wp_region_fr [(1, [0, 1, 2, 3]), (2, [4]), (1, [5, 6, 7, 8, 9, 10, 11, 12]), (2, [13]), (1, [14, 15, 16, 17, 18, 19, 20, 21, 22, 23])] [] (by kernel_rfl) (by kernel_rfl) ?_
      simp only [theOps, nthOp, List.map_cons, List.map_nil, Array.getD_eq_getD_getElem?, List.getElem?_toArray, List.getElem?_cons_succ, List.getElem?_cons_zero, Option.getD_some]
      refine wpSegs_soft ?_
      iterate 3 (first | go_big_quiet_step (fail) | quiet_step (fail))
      refine wpQuiet_load_mid 31 _ w1.heap.size 0 cs _ rfl rfl rfl (rangeAt_after hmd (by simp)) Try.underlying31 rfl (by rw [hsz]; kernel_rfl) ?_
      simp only [Act.put, List.setIfInBounds_toArray, List.set_cons_zero, List.set_cons_succ]
      refine wpQuiet_nil ?_
      refine wpSegs_keep ?_
      go_wp2_with fail
      refine (HCP.out _).mono ?_
      rintro e w9 ⟨rfl, hf⟩
      have HF := Lib.hid hf; clear hf
      go_wp2_with fail
      refine ⟨⟨⟨_, (by exact HF.out)⟩, rfl⟩, ?_⟩
      refine wpSegs_soft ?_
      iterate 6 (first | go_big_quiet_step (fail) | quiet_step (fail))
      refine wpQuiet_load_mid 31 _ w1.heap.size 0 cs _ rfl rfl rfl (rangeAt_after hmd (by simp)) Try.underlying31 rfl (by rw [hsz]; kernel_rfl) ?_
      simp only [Act.put, List.setIfInBounds_toArray, List.set_cons_zero, List.set_cons_succ]
      iterate 1 (first | go_big_quiet_step (fail) | quiet_step (fail))
      refine wpQuiet_nil ?_
      refine wpSegs_keep ?_
      go_wp2_with fail
      refine (HAT.out _).mono ?_
      rintro e w10 ⟨rfl, hf⟩
      have HF := Lib.hid (HF.out.trans hf); clear hf
      go_wp2_with fail
      refine ⟨⟨⟨_, (by exact HF.out)⟩, rfl⟩, ?_⟩
      repeat ((first | refine wpSegs_soft ?_ | refine wpSegs_pure ?_ | refine wpSegs_here ?_); (repeat (first | go_big_quiet_step (fail) | quiet_step (fail))); refine wpQuiet_nil ?_)
      refine wpSegs_done ?_
      go_wp2_with fail
      go_ret
      exact ⟨rfl, (HS.out.drew.fr0 HF.out).fr⟩
theorem sown_any (w : World) (c : Cfg) (who seq : Int) (a : Option Addr) (m lc : Nat) (L : List (Int × Int)) (hL : ArgE enE 2 w (.slice a m lc) L) (hLm : m = L.length) :
    Calls Try.prog 4 #[cfgV c, .int .i64 who, .int .u64 seq, .slice a m lc] w fun e w' => e = .returned (.bool true) ∧ Fr [] w w' := by
  by_cases h0 : right c = true
  · by_cases h1 : m > 60
    · exact own_s1 w c who seq a m lc h0 (by simp; omega)
    · exact own_good w c (by unfold right at h0; simpa using h0) who seq a m lc L hLm.symm hL (by omega) h0
  · exact own_s0 w c who seq a m lc (by simpa using h0)
theorem own_row (a b d f g l who seq : Int) (v : Value) (L : List (Int × Int)) (w : World) (hL : ArgN enE 2 w v L) (_ : L.length ≤ maxLen) :
    Calls Try.prog 4 #[.agg #[.int .i64 a, .int .i64 b, .int .i64 d, .int .i64 f, .int .u64 g, .int .u64 l], .int .i64 who, .int .u64 seq, v] w fun e w' => e = .returned (.bool true) ∧ Fr [] w w' := by
  obtain ⟨a1, c1, rfl, _⟩ := id hL.1
  exact sown_any w ⟨a, b, d, f, g, l⟩ who seq a1 _ c1 L hL.1 rfl
end Go.Proofs.Ytahoadnagadncaa
