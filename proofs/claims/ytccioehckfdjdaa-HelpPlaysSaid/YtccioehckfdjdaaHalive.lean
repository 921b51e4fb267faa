/- Chapter 12: the law's own example. -/
import Derived.Test.YtccioehckfdjdaaHthing
import Derived.Test.YtccioehckfdjdaaHlaid
set_option linter.unusedSimpArgs false
set_option linter.unusedVariables false
namespace Go.Tum.H
open Go.Tum.Y Go.Tum.C Go.Proofs.Ytccioehckfdjdaa
def cE : Cfg := ⟨2, 3, 4, 50, 5, 99⟩
theorem okE : Ok cE := ⟨by decide, by decide, by decide, by decide, by decide, by decide, by decide, by decide, by decide, by decide⟩
def op6 (p : P6) : Op6 := ⟨p.k, p.a, p.ov, p.os, p.nv, p.ns⟩
structure AS where
  h : H
  m : M
def nxt (s : AS) : AS := ⟨tell cE 6 (s.m.told 0 (op6 (ask cE 0 1 6 s.h).1)).v (s.m.told 0 (op6 (ask cE 0 1 6 s.h).1)).s s.h, s.m.step 0 (op6 (ask cE 0 1 6 s.h).1)⟩
def atE : Int := at_ cE 16 1 2
def stA : Nat → AS
  | 0 => ⟨Go.Proofs.Ytccioehckfdjdaa.H.hNew, laidM cE 1 6 [(atE, 9)]⟩
  | k + 1 => nxt (stA k)
def kindA (k : Nat) : Int := (ask cE 0 1 6 (stA k).h).1.k
def kindsA : Nat → List Value
  | 0 => []
  | k + 1 => kindsA k ++ [.int .i64 (kindA k)]
theorem stA_ask : ∀ k < 9, (ask cE 0 1 6 (stA k).h).2 = decide (k < 8) := by decide +kernel
theorem stA_good : ∀ k < 9, Good cE (stA k).h := by unfold Good; decide +kernel
theorem stA_rng : ∀ k < 9, 0 ≤ (stA k).h.next ∧ (stA k).h.next ≤ 8 := by decide +kernel
theorem stA_told : ∀ k < 9, ((stA k).m.trace.length ≤ 100000) ∧ (0 ≤ ((stA k).m.told 0 (op6 (ask cE 0 1 6 (stA k).h).1)).v ∧ ((stA k).m.told 0 (op6 (ask cE 0 1 6 (stA k).h).1)).v ≤ 18446744073709551615) ∧ 0 ≤ ((stA k).m.told 0 (op6 (ask cE 0 1 6 (stA k).h).1)).s := by decide +kernel
theorem stA_end : (stA 8).h.next = 8 ∧ kindA 3 = 1 ∧ kindA 6 = 2 ∧ peek (stA 8).m atE = ((9, 6), true) ∧ peek (stA 8).m (at_ cE 4 1 0) = ((0, 6), true) ∧ peek (stA 8).m (at_ cE 3 0 0) = ((2, 0), true) := by decide +kernel
end Go.Tum.H
namespace Go.Tum
theorem argE_blk {T : Type} {en : T → List Value} {n : Nat} {w : World} {k : Nat} {ty : TypeId} {L : List T} (h : Blk w k ty (flat en L)) (hl : ∀ x, (en x).length = n) {m c : Nat} (hm : m = L.length) (hc : m ≤ c) : ArgE en n w (.slice (some ⟨k, 0, none⟩) m c) L := by
  subst hm
  refine ⟨_, _, rfl, hc, .inr ⟨_, rfl, h.lt, fun i hi j u hu => ?_⟩⟩
  have hj : j < n := by rw [← hl L[i]]; exact (List.getElem?_eq_some_iff.1 hu).1
  have := flat_get hl L i hi j hj
  rw [hu] at this
  have h2 := (h.cell (i * n + j)).trans this
  have he : (⟨k, 0, none⟩ : Addr).add (i * n + j) = ⟨k, i * n + j, none⟩ := by rw [Addr.add_lit, Nat.zero_add]
  rw [he]
  exact h2
end Go.Tum
namespace Go.Proofs.Ytccioehckfdjdaa
open Go.RowKit Go.Tum Go.Tum.Y Go.Tum.Sc
theorem opVm_of (p : P6) : opVm (H.op6 p) = .agg (enP p).toArray := rfl
theorem sample12_any (w : World) : Calls Try.prog 115 #[] w fun e w' => e = .returned (.agg [Value.int .i64 2, .int .i64 3, .int .i64 4, .int .i64 50, .int .u64 5, .int .u64 99].toArray) ∧ Fr [] w w' := by
  have HS := Lib.hid ((Sep.nil (Fr.refl [] w)).new 24 [Value.int .i64 2, .int .i64 3, .int .i64 4, .int .i64 50, .int .u64 5, .int .u64 99])
  go_enter Try.func115, Try.ntmps115
  go_wp2_with fail
  exact bodyPost_ret (v := .agg [Value.int .i64 2, .int .i64 3, .int .i64 4, .int .i64 50, .int .u64 5, .int .u64 99].toArray) (res_cell Try.results115 rfl (HS.out.blk 0 rfl).range Try.underlying24 rfl (by kernel_rfl)) rfl ⟨rfl, HS.out.fr⟩
theorem H_infoInt : (Try.prog.info? 3).map (fun i => (i.zero, i.size, i.bytes)) = some (some (.int .i64 0), 1, 8) := by kernel_rfl
set_option maxRecDepth 100000 in
set_option maxHeartbeats 8000000 in
theorem alive12_any (w : World) : Calls Try.prog 59 #[] w fun e w' => e = .returned (.bool true) ∧ Fr [] w w' := by
  have HOF : Hid (∀ w, Calls Try.prog 25 #[.agg #[.int .i64 2, .int .i64 3, .int .i64 4, .int .i64 50, .int .u64 5, .int .u64 99]] w fun e w' => e = .returned (.tuple #[mapV H.cE, .int .i64 0]) ∧ Fr [] w w') := fun w => of_good w H.cE H.okE
  have HAT : Hid (∀ w, Calls Try.prog 37 #[mapV H.cE, .int .i64 16, .int .i64 1, .int .i64 2] w fun e w' => e = .returned (.int .i64 H.atE) ∧ Fr [] w w') := fun w => at_any w H.cE H.okE 16 1 2
  have HA1 := Lib.hid (fun w => at_any w H.cE H.okE 4 1 0)
  have HA2 := Lib.hid (fun w => at_any w H.cE H.okE 3 0 0)
  have HLD := Lib.hid (fun w k hA => laid_any w H.cE H.okE 1 6 (some ⟨k, 0, none⟩) 1 1 [(H.atE, 9)] rfl hA (by decide))
  have HNW := Lib.hid (fun w => hnew_of w H.cE 0 1 6)
  have HOW := Lib.hid (fun w => hown_any w H.cE H.okE 0 6 none 0 0 [] rfl ⟨_, _, rfl, by decide, .inl rfl⟩ (fun _ => ⟨rfl, rfl⟩) (by decide))
  have HAK := Lib.hid (fun (w0 w : World) (R : List Thing) (b k : Nat) (hk : k < 9) (hS : Sep w0 w (helpT H.cE 0 1 6 b (H.stA k).h :: R)) => by
    have := hask_of b H.cE H.okE 0 1 6 _ (H.stA_good k hk) hS
    rw [H.stA_ask k hk] at this
    exact this)
  have HTL := Lib.hid (fun (w0 w : World) (R : List Thing) (b k : Nat) (hk : k < 9) (ok : Bool) (hS : Sep w0 w (helpT H.cE 0 1 6 b (H.stA k).h :: R)) =>
    htell_any b H.cE H.okE 0 1 6 _ _ _ ok (H.stA_told k hk).2.1 (H.stA_told k hk).2.2 (H.stA_good k hk) (H.stA_rng k hk) hS)
  have HTE : Hid (∀ k, H.tell H.cE 6 ((H.stA k).m.told 0 (H.op6 (H.ask H.cE 0 1 6 (H.stA k).h).1)).v ((H.stA k).m.told 0 (H.op6 (H.ask H.cE 0 1 6 (H.stA k).h).1)).s (H.stA k).h = (H.stA (k + 1)).h) := fun _ => rfl
  have HDO := Lib.hid (fun (w0 w : World) (R : List Thing) (b k : Nat) (hk : k < 9) (hS : Sep w0 w (memT b (H.stA k).m :: R)) => mdo_any hS (H.stA_told k hk).1 0 (H.op6 (H.ask H.cE 0 1 6 (H.stA k).h).1))
  have HDE : Hid (∀ k, (H.stA k).m.step 0 (H.op6 (H.ask H.cE 0 1 6 (H.stA k).h).1) = (H.stA (k + 1)).m) := fun _ => rfl
  have HDN := Lib.hid (fun (w0 w : World) (R : List Thing) (b : Nat) (hS : Sep w0 w (helpT H.cE 0 1 6 b (H.stA 8).h :: R)) => hdone_of b H.cE 0 1 6 _ hS)
  have h0 : H.laidM H.cE 1 6 [(H.atE, 9)] = (H.stA 0).m := rfl
  have h0' : H.hNew = (H.stA 0).h := rfl
  rw [h0] at HLD
  rw [h0'] at HNW
  obtain ⟨e8, kk3, kk6, p1, p2, p3⟩ := H.stA_end
  rw [e8] at HDN
  have HKN : Hid (∀ k, H.kindsA (k + 1) = H.kindsA k ++ [.int .i64 (H.ask H.cE 0 1 6 (H.stA k).h).1.k]) := fun _ => rfl
  have HK3 : Hid ((H.kindsA 8)[3]? = some (.int .i64 1)) := by rw [← kk3]; exact rfl
  have HK6 : Hid ((H.kindsA 8)[6]? = some (.int .i64 2)) := by rw [← kk6]; exact rfl
  have HP1 := Lib.hid p1; have HP2 := Lib.hid p2; have HP3 := Lib.hid p3
  have hk0 : H.kindsA 0 = [] := rfl
  clear h0 h0' e8 kk3 kk6 p1 p2 p3
  obtain ⟨ti0, hi0, hz0, hz1, hz2⟩ := info_parts H_infoInt
  unfold outVm at HDO
  simp only [opVm_of] at HDO
  have hsz : (mapCells H.cE).length = 24 := rfl
  have hone : ∀ v ∈ mapCells H.cE, v.oneCell' = true := by simp [mapCells, Value.oneCell']
  have HOPL := Lib.hid (fun k => enP_one (H.ask H.cE 0 1 6 (H.stA k).h).1)
  unfold mapV at *
  generalize at_ H.cE 4 1 0 = a1 at *
  generalize at_ H.cE 3 0 0 = a2 at *
  generalize H.atE = aE at *
  generalize H.kindsA = kn at *
  generalize H.stA = st at *
  generalize mapCells H.cE = cs at *
  go_enter Try.func59, Try.ntmps59
  go_wp2_with fail
  refine (sample12_any _).mono ?_
  rintro e w1 ⟨rfl, hf⟩
  have HF := Lib.hid hf; clear hf
  go_wp2_with fail
  refine (HOF.out _).mono ?_
  rintro e w2 ⟨rfl, hf⟩
  have HS := Lib.hid ((Sep.nil (HF.out.trans hf)).new 31 cs); clear hf HF
  go_wp2_with (first | (refine wpList_store_new 31 _ (cs).toArray rfl _ _ rfl rfl rfl (by rw [List.size_toArray, hsz]; kernel_rfl) (by simp [hsz]) (all_oneCell_toArray hone) ?_) | (refine wpList_load_any 31 _ rfl rfl _ 0 rfl cs _ (HS.out.blk 0 rfl).range Try.underlying31 rfl (by rw [hsz]; kernel_rfl) ?_))
  refine (HAT.out _).mono ?_
  rintro e w3 ⟨rfl, hf⟩
  have HS := Lib.hid (HS.out.fr0 hf); clear hf
  go_wp2_with (refine wpList_load_any 31 _ rfl rfl _ 0 rfl cs _ (HS.out.blk 0 rfl).range Try.underlying31 rfl (by rw [hsz]; kernel_rfl) ?_)
  have HS := Lib.hid (HS.out.new 136 [.int .i64 aE, .int .u64 9])
  refine (HLD.out _ _ (argE_blk (en := enE) (L := [(aE, 9)]) (HS.out.blk 0 rfl) enE_len rfl (Nat.le_refl _))).mono ?_
  rintro e w4 ⟨mb, rfl, hN⟩
  have hS := HS.out.append hN
  simp only [List.cons_append, List.nil_append] at hS
  have HS := Lib.hid hS; clear hS hN
  go_wp2_with (refine wpList_load_any 31 _ rfl rfl _ 0 rfl cs _ (HS.out.blk 2 rfl).range Try.underlying31 rfl (by rw [hsz]; kernel_rfl) ?_)
  refine (HNW.out _).mono ?_
  rintro e w5 ⟨hb, rfl, hN⟩
  have hS := HS.out.append hN
  simp only [List.cons_append, List.nil_append] at hS
  have HS := Lib.hid hS; clear hS hN
  go_wp2_with fail
  have hS := HS.out.fresh (T := rowT 0 3 1 (.slice (some ⟨w5.heap.size, 0, none⟩) 0 0) 0 (kn 0)) (w' := w5.alloc (.cells #[] 3)) ⟨(Fr.refl [] w5).alloc _, [w5.heap.size], ⟨rfl, by rw [hk0]; exact World.ownsRow_made w5 #[] 0 (Nat.zero_le _) (by unfold maxLen; omega) (by simp)⟩, by simp⟩
  have HS := Lib.hid hS; clear hS
  refine (HAK.out _ _ _ hb 0 (by decide) (HS.out.pull 1 rfl)).mono ?_
  rintro e w6 ⟨rfl, hf⟩
  have HS := Lib.hid ((HS.out.fr0 hf).new 43 (enP (H.ask H.cE 0 1 6 (st 0).h).1)); clear hf
  have honeO := HOPL.out 0
  go_wp2_with (refine wpList_store_new 43 _ (enP (H.ask H.cE 0 1 6 (st 0).h).1).toArray rfl _ _ rfl rfl rfl (by kernel_rfl) (by simp [enP]) (all_oneCell_toArray honeO) ?_)
  go_loopg [6, 7, 8] 8 (fun g v6 v7 v8 wr => ∃ k X, g + k = 8 ∧ v7 = .pointer (some ⟨X, 0, none⟩) ∧ v8 = .bool (decide (k < 8)) ∧ Sep w wr [blkT X 43 (enP (H.ask H.cE 0 1 6 (st k).h).1), rowT 0 3 1 v6 k (kn k), helpT H.cE 0 1 6 hb (st k).h, memT mb (st k).m, blkT w2.heap.size 31 cs])
  case atStart => exact ⟨0, _, by omega, rfl, by first | rfl | simp, HS.out.sub [0, 1, 2, 3, 5] rfl (by decide)⟩
  case round =>
    clear HS honeO
    obtain ⟨k, X, hg, rfl, rfl, hS⟩ := hrel
    obtain ⟨oa, oc, rfl⟩ := hS.form 1 rfl
    have HS := Lib.hid hS; clear hS
    by_cases hk : k < 8
    · rw [decide_eq_true hk]
      have hki : (k : Int) + 1 ≤ 8 := by omega
      go_wp2_with (refine wpList_load_any 43 _ rfl rfl _ 0 rfl (enP (H.ask H.cE 0 1 6 (st k).h).1) _ (HS.out.blk 0 rfl).range Try.underlying43 rfl (by kernel_rfl) ?_)
      refine (HDO.out _ _ _ mb k (by omega) (HS.out.pull 3 rfl)).mono ?_
      rintro e w7 ⟨rfl, hS⟩
      rw [HDE.out] at hS
      have hTE := HTE.out k
      have hTL := fun w0 w R => HTL.out w0 w R hb k (by omega)
      rw [hTE] at hTL
      have HT := Lib.hid hTL
      clear hTE hTL
      generalize (st k).m.told 0 (H.op6 (H.ask H.cE 0 1 6 (st k).h).1) = tt at *
      obtain ⟨t0, t1, t2⟩ := tt
      have HS := Lib.hid (hS.new 55 [.int .u64 t0, .int .u64 t1, .bool t2]); clear hS
      go_wp2_with (refine wpList_load_any 55 _ rfl rfl _ 0 rfl [.int .u64 t0, .int .u64 t1, .bool t2] _ (HS.out.blk 0 rfl).range Try.underlying55 rfl (by kernel_rfl) ?_)
      refine (HT.out _ _ _ t2 (HS.out.pull 4 rfl)).mono ?_
      rintro e w8 ⟨rfl, hS⟩
      have HS := Lib.hid hS; clear hS
      have q0 : w8.cell? ⟨X, 0, none⟩ = some (.int .i64 (H.ask H.cE 0 1 6 (st k).h).1.k) := (HS.out.blk 3 rfl).cell 0
      have ql := (HS.out.blk 3 rfl).lt
      have HS := Lib.hid (HS.out.new 3 [.int .i64 (H.ask H.cE 0 1 6 (st k).h).1.k])
      go_wp2_with (at_builtin; go_must (refine wpList_push_blk _ rfl _ _ 70 rfl 0 3 ti0 _ 1 8 Try.underlying70 hi0 hz0 hz1 hz2 rfl (by decide) (.slice oa k oc) k (kn k) rfl (HS.out.row 5 rfl) [.int .i64 (H.ask H.cE 0 1 6 (st k).h).1.k] _ _ rfl (HS.out.blk 0 rfl) rfl (by simp [Value.oneCell']) (by unfold maxLen; omega) (by omega) (Nat.zero_le _) ?_))
      intro g2 c2' w10 hown hg2 hgg hc1 hc2'
      have h3 := HS.out.grown 5 rfl hown hg2 (fun q e => by
        rcases hgg with h1 | h1
        · exact .inl (h1.trans e)
        · right; simp only [Value.ownBlock, Option.some.injEq] at e; rw [← e, h1]; simp <;> omega)
      rw [← HKN.out k] at h3
      have HS := Lib.hid (show Sep w w10 [helpT H.cE 0 1 6 hb (st (k + 1)).h, memT mb (st (k + 1)).m, blkT X 43 (enP (H.ask H.cE 0 1 6 (st k).h).1), rowT 0 3 1 (.slice (some ⟨g2, 0, none⟩) (k + 1) c2') (k + 1) (kn (k + 1)), blkT w2.heap.size 31 cs] from h3.sub [1, 3, 4, 5, 6] rfl (by decide))
      clear h3 hown hg2 hgg hc1 hc2' q0 ql HT
      have d20 : decide ((k : Int) + 1 > 20) = false := by simp; omega
      have HS2 := Lib.hid (HS.out.new 43 (enP (H.ask H.cE 0 1 6 (st k).h).1))
      have honeO := HOPL.out k
      go_wp2_with (first | (refine wpList_load_any 43 _ rfl rfl _ 0 rfl (enP (H.ask H.cE 0 1 6 (st k).h).1) _ (HS.out.blk 2 rfl).range Try.underlying43 rfl (by kernel_rfl) ?_) | (refine wpList_store_new 43 _ (enP (H.ask H.cE 0 1 6 (st k).h).1).toArray rfl _ _ rfl rfl rfl (by kernel_rfl) (by simp [enP]) (all_oneCell_toArray honeO) ?_))
      refine (HAK.out _ _ _ hb (k + 1) (by omega) (HS2.out.pull 1 rfl)).mono ?_
      rintro e w11 ⟨rfl, hf⟩
      have HS := Lib.hid (HS2.out.fr0 hf); clear hf HS2 honeO
      have honeO := HOPL.out (k + 1)
      go_wp2_with (refine wpList_store_sep HS.out 0 rfl (enP (H.ask H.cE 0 1 6 (st (k + 1)).h).1) 43 _ _ rfl rfl rfl rfl rfl (by kernel_rfl) honeO (fun wT hT _ => ?_); have HS3 := Lib.hid hT; clear hT)
      go_roundg (8 - (k + 1))
      case measure => omega
      case rel => exact ⟨k + 1, _, by omega, by first | rfl | simp, by first | rfl | simp, HS3.out.sub [0, 4, 1, 2, 5] rfl (by decide)⟩
    · obtain rfl : k = 8 := by omega
      rw [decide_eq_false hk]
      obtain ⟨g0, hoa⟩ : ∃ g, oa = some ⟨g, 0, none⟩ := by
        rcases ownsRow_form (HS.out.row 1 rfl) with ⟨_, e⟩ | ⟨g, cap, e, _⟩
        · omega
        · simp only [Value.slice.injEq] at e; exact ⟨g, e.1⟩
      subst hoa
      have HEQ1 : ∀ w, (binOp .eql 41 (.agg #[.int .u64 9, .int .u64 6]) (.agg #[.int .u64 9, .int .u64 6])).run Try.prog w = .ok (.bool true) w := fun w => eql_cell w 9 6 9 6
      have HEQ2 : ∀ w, (binOp .eql 41 (.agg #[.int .u64 0, .int .u64 6]) (.agg #[.int .u64 0, .int .u64 6])).run Try.prog w = .ok (.bool true) w := fun w => eql_cell w 0 6 0 6
      go_wp2_with fail
      obtain ⟨_, vc, vt, hM⟩ := sep_mem HS.out 3 rfl
      refine (peek_any _ mb vc vt _ _ hM).mono ?_
      rintro e w9 ⟨rfl, hf⟩
      rw [HP1.out]
      have HS := Lib.hid ((HS.out.fr0 hf).new 41 [.int .u64 9, .int .u64 6]); clear hf hM
      go_wp2_with (refine wpList_load_any 31 _ rfl rfl _ 0 rfl cs _ (HS.out.blk 5 rfl).range Try.underlying31 rfl (by rw [hsz]; kernel_rfl) ?_)
      refine (HA1.out _).mono ?_
      rintro e w12 ⟨rfl, hf⟩
      have HS := Lib.hid (HS.out.fr0 hf); clear hf
      go_wp2_with fail
      obtain ⟨_, vc, vt, hM⟩ := sep_mem HS.out 4 rfl
      refine (peek_any _ mb vc vt _ _ hM).mono ?_
      rintro e w9 ⟨rfl, hf⟩
      rw [HP2.out]
      have HS := Lib.hid ((HS.out.fr0 hf).new 41 [.int .u64 0, .int .u64 6]); clear hf hM
      go_wp2_with (refine wpList_load_any 31 _ rfl rfl _ 0 rfl cs _ (HS.out.blk 6 rfl).range Try.underlying31 rfl (by rw [hsz]; kernel_rfl) ?_)
      refine (HA2.out _).mono ?_
      rintro e w13 ⟨rfl, hf⟩
      have HS := Lib.hid (HS.out.fr0 hf); clear hf
      go_wp2_with fail
      obtain ⟨_, vc, vt, hM⟩ := sep_mem HS.out 5 rfl
      refine (peek_any _ mb vc vt _ _ hM).mono ?_
      rintro e w9 ⟨rfl, hf⟩
      rw [HP3.out]
      have HS := Lib.hid ((HS.out.fr0 hf).new 41 [.int .u64 2, .int .u64 0]); clear hf hM
      go_wp2_with fail
      refine (HDN.out _ _ _ hb (HS.out.pull 5 rfl)).mono ?_
      rintro e w14 ⟨rfl, hf⟩
      have HS := Lib.hid (HS.out.fr0 hf); clear hf
      have y3 := ownsRow_cell (HS.out.row 4 rfl) 3 _ HK3.out
      have y6 := ownsRow_cell (HS.out.row 4 rfl) 6 _ HK6.out
      have b0 := (HS.out.blk 0 rfl).cell 0
      simp only [List.getElem?_cons_zero] at b0
      go_wp2_with (first | (refine wpList_load_any 41 _ rfl rfl _ 0 rfl [.int .u64 9, .int .u64 6] _ (HS.out.blk 2 rfl).range Try.underlying41 rfl (by kernel_rfl) ?_) | (refine wpList_load_any 41 _ rfl rfl _ 0 rfl [.int .u64 0, .int .u64 6] _ (HS.out.blk 1 rfl).range Try.underlying41 rfl (by kernel_rfl) ?_) | (refine wpList_load_any 31 _ rfl rfl _ 0 rfl cs _ (HS.out.blk 7 rfl).range Try.underlying31 rfl (by rw [hsz]; kernel_rfl) ?_))
      refine (HOW.out _).mono ?_
      rintro e w15 ⟨ob, rfl, hN⟩
      have HS := Lib.hid (HS.out.append hN); clear hN
      go_wp2_with fail
      go_ret
      exact ⟨rfl, HS.out.fr⟩
end Go.Proofs.Ytccioehckfdjdaa
