/- The walk of the document's What: what stands at a place, by looking for it. -/
import Derived.Test.YtjblonbfmdjpcaaYlaw2
set_option linter.unusedSimpArgs false
set_option linter.unusedVariables false
namespace Go.Proofs.Ytjblonbfmdjpcaa
open Go.RowKit Go.Tum Go.Tum.Y
theorem each_pos {c : Cfg} (h : Ok c) (kd : Int) : 1 ≤ each c kd ∧ each c kd ≤ 3000 := by
  have := cap_bd h
  unfold each
  repeat' split
  all_goals omega
theorem cnt_pos {c : Cfg} (h : Ok c) (kd : Int) : 0 ≤ cnt c kd ∧ cnt c kd ≤ 520 := by
  have := limit_pos h; have := h.t1; have := h.t8; have := h.b1; have := h.b64
  unfold cnt
  repeat' split
  all_goals omega
theorem is_zero {c : Cfg} (h : Ok c) {kd b : Int} (hk : 0 ≤ kd ∧ kd ≤ 16) (h0 : 0 ≤ b) (h1 : b < cnt c kd) : Is c kd b 0 :=
  ⟨h0, h1, Int.le_refl _, by have := each_pos h kd; unfold eachP; rw [if_pos hk]; omega⟩
theorem is_hit {c : Cfg} (h : Ok c) {kd b p : Int} (hk : 0 ≤ kd ∧ kd ≤ 16) (h0 : 0 ≤ b) (h1 : b < cnt c kd) (h2 : place c kd b 0 ≤ p) (h3 : p < place c kd b 0 + each c kd) : Is c kd b (p - place c kd b 0) ∧ place c kd b (p - place c kd b 0) = p := by
  have hz := is_zero h hk h0 h1
  have hi : Is c kd b (p - place c kd b 0) := ⟨h0, h1, by omega, by unfold eachP; rw [if_pos hk]; omega⟩
  exact ⟨hi, by have := place_lin hz hi; omega⟩
theorem hit_is {c : Cfg} (h : Ok c) {kd b k p : Int} (hi : Is c kd b k) (hp : place c kd b k = p) : place c kd b 0 ≤ p ∧ p < place c kd b 0 + each c kd := by
  have hk := is_kind hi
  have hi' := hi
  obtain ⟨h0, h1, h2, h3⟩ := hi'
  unfold eachP at h3
  rw [if_pos hk] at h3
  have := place_lin (is_zero h hk h0 h1) hi
  omega
/-- What is looked for: a thing that stands there; or nothing does. -/
def Found (c : Cfg) (p kd i k : Int) : Prop := (Is c kd i k ∧ place c kd i k = p) ∨ ((p < 0 ∨ size c ≤ p) ∧ kd = -1 ∧ i = 0 ∧ k = 0)
theorem Found.hit {c : Cfg} (h : Ok c) {p kd i k : Int} (f : Found c p kd i k) {a b : Int} (ha : 0 ≤ a ∧ a ≤ 16) (h0 : 0 ≤ b) (h1 : b < cnt c a) (h2 : place c a b 0 ≤ p) (h3 : p < place c a b 0 + each c a) : a = kd ∧ b = i ∧ p - place c a b 0 = k := by
  obtain ⟨g1, g2⟩ := is_hit h ha h0 h1 h2 h3
  rcases f with ⟨q1, q2⟩ | ⟨q, _⟩
  · exact place_inj h g1 q1 (g2.trans q2.symm)
  · have := (wh_place h g1).2
    omega
theorem Found.no {c : Cfg} (h : Ok c) {p kd i k : Int} (f : Found c p kd i k) (hn : kd < 0 ∨ 16 < kd) : kd = -1 ∧ i = 0 ∧ k = 0 := by
  rcases f with ⟨q1, _⟩ | ⟨_, q⟩
  · have := is_kind q1; omega
  · exact q
set_option maxRecDepth 100000 in
set_option maxHeartbeats 8000000 in
theorem rwhat_any (w : World) (c : Cfg) (h : Ok c) (p kd i k : Int) (f : Found c p kd i k) : Calls Try.prog 23 #[cfgV c, .int .i64 p] w fun e w' => e = .returned (.agg #[.int .i64 kd, .int .i64 i, .int .i64 k]) ∧ Fr [] w w' := by
  have HCN : Hid (∀ (w : World) (a : Nat), a ≤ 16 → Calls Try.prog 33 #[.agg (cfgL c).toArray, .int .i64 a] w fun e w' => e = .returned (.int .i64 (cnt c a)) ∧ Fr [] w w') := fun w a ha => rcount_any w c h a (by omega)
  have HEA : Hid (∀ (w : World) (a : Nat), a ≤ 16 → Calls Try.prog 34 #[.agg (cfgL c).toArray, .int .i64 a] w fun e w' => e = .returned (.int .i64 (each c a)) ∧ Fr [] w w') := fun w a ha => reach_any w c h a (by omega)
  have HAT : Hid (∀ (w : World) (a b : Nat), a ≤ 16 → (b : Int) < cnt c a → Calls Try.prog 21 #[.agg (cfgL c).toArray, .int .i64 a, .int .i64 b, .int .i64 0] w fun e w' => e = .returned (.int .i64 (place c a b 0)) ∧ Fr [] w w') := fun w a b ha hb => by
    have := rat_any w c h a b 0
    rwa [at_is (is_zero h (by omega) (by omega) hb)] at this
  have hS := ((Sep.nil (Fr.refl [] w)).new 24 (cfgL c)).new 43 [.int .i64 0, .int .i64 0, .int .i64 0]
  simp only [World.size_alloc] at hS
  have HS := Lib.hid hS; clear hS
  have HH := Lib.hid h
  have HF := Lib.hid f
  have hsz6 : (cfgL c).length = 6 := rfl
  rw [show cfgV c = .agg (cfgL c).toArray from rfl]
  generalize cfgL c = cl at *
  clear h f
  go_enter Try.func23, Try.ntmps23
  go_wp2_with fail
  go_loopg [5] 17 (fun g va wr => ∃ a : Nat, g + a = 17 ∧ va = .int .i64 (a : Int) ∧ (0 ≤ kd → kd ≤ 16 → (a : Int) ≤ kd) ∧ Sep w wr [blkT (w.heap.size + 1) 43 [.int .i64 0, .int .i64 0, .int .i64 0], blkT w.heap.size 24 cl])
  case atStart => exact ⟨0, by omega, rfl, fun h _ => by simpa using h, HS.out⟩
  case round =>
    clear HS
    obtain ⟨a, hg, rfl, hlo, hS⟩ := hrel
    have HS := Lib.hid hS; have HLO := Lib.hid hlo
    clear hS hlo
    by_cases ha : a < 17
    · have hai : (a : Int) < 17 := by omega
      have hcn := cnt_pos HH.out a
      obtain ⟨n, hn⟩ : ∃ n : Nat, (n : Int) = cnt c a := ⟨(cnt c a).toNat, by omega⟩
      have hnb : n ≤ 520 := by omega
      have hea := each_pos HH.out a
      clear hcn
      go_wp2_with fail
      go_loopg [6] n (fun g vb wr => ∃ b : Nat, g + b = n ∧ vb = .int .i64 (b : Int) ∧ ((a : Int) = kd → (b : Int) ≤ i) ∧ Sep w wr [blkT (w.heap.size + 1) 43 [.int .i64 0, .int .i64 0, .int .i64 0], blkT w.heap.size 24 cl])
      case atStart =>
        refine ⟨0, by omega, rfl, fun e => ?_, HS.out⟩
        rcases HF.out with ⟨q, _⟩ | ⟨_, q, _⟩
        · exact q.1
        · omega
      case round =>
        clear HS
        obtain ⟨b, hgb, rfl, hlb, hS⟩ := hrel
        have HS := Lib.hid hS; have HLB := Lib.hid hlb
        clear hS hlb
        by_cases hb : b < n
        · have hbi : (b : Int) < (n : Int) := by omega
          have hbc : (b : Int) < cnt c a := by omega
          have HN := Lib.hid hn
          have hpb : 0 ≤ place c a b 0 ∧ place c a b 0 ≤ 18100 := by
            have h1 := (wh_place HH.out (is_zero HH.out (by omega) (by omega) hbc)).2
            have h2 := size_bd HH.out
            omega
          have HHI : Hid (∀ (h2 : place c a b 0 ≤ p) (h3 : p < place c a b 0 + each c a), (a : Int) = kd ∧ (b : Int) = i ∧ p - place c a b 0 = k) := HF.out.hit HH.out (by omega) (by omega) hbc
          have HNH : Hid (¬ (place c a b 0 ≤ p ∧ p < place c a b 0 + each c a) → (a : Int) = kd → (b : Int) + 1 ≤ i) := fun hno e => by
            have h1 := HLB.out e
            rcases HF.out with ⟨q, qp⟩ | ⟨_, q, _⟩
            · have h2 := hit_is HH.out q qp
              by_cases e2 : (b : Int) = i
              · rw [← e2, ← e] at h2; exact absurd h2 hno
              · omega
            · omega
          have HC1 := Lib.hid (fun w => HCN.out w a (by omega))
          have HE1 := Lib.hid (fun w => HEA.out w a (by omega))
          have HA1 := Lib.hid (fun w => HAT.out w a b (by omega) hbc)
          rw [← hn] at HC1
          clear hn hbc
          generalize place c a b 0 = fp at *
          generalize each c a = ea at *
          go_wp2_with (first | (refine wpList_load_any 24 _ rfl rfl _ 0 rfl cl _ (HS.out.blk 1 rfl).range Try.underlying24 rfl (by rw [hsz6]; kernel_rfl) ?_))
          refine (HC1.out _).mono ?_
          rintro e w1 ⟨rfl, hf⟩
          have HS := Lib.hid (HS.out.fr0 hf)
          clear hf
          go_wp2_with (first | (refine wpList_load_any 24 _ rfl rfl _ 0 rfl cl _ (HS.out.blk 1 rfl).range Try.underlying24 rfl (by rw [hsz6]; kernel_rfl) ?_))
          refine (HA1.out _).mono ?_
          rintro e w1 ⟨rfl, hf⟩
          have HS := Lib.hid (HS.out.fr0 hf)
          clear hf
          by_cases h2 : fp ≤ p
          · have d2 : decide (p ≥ fp) = true := by simpa using h2
            go_wp2_with (first | (refine wpList_load_any 24 _ rfl rfl _ 0 rfl cl _ (HS.out.blk 1 rfl).range Try.underlying24 rfl (by rw [hsz6]; kernel_rfl) ?_))
            refine (HE1.out _).mono ?_
            rintro e w1 ⟨rfl, hf⟩
            have HS := Lib.hid (HS.out.fr0 hf)
            clear hf
            by_cases h3 : p < fp + ea
            · have d3 : decide (p < fp + ea) = true := by simpa using h3
              obtain ⟨e1, e2, e3⟩ := HHI.out h2 h3
              have b1 : 0 ≤ p - fp ∧ p - fp ≤ 3000 := by omega
              rw [e3] at b1
              have E1 := Lib.hid e1; have E2 := Lib.hid e2
              clear h3 e1 e2
              go_wp2_with (first | (refine wpList_store_mid rfl 43 _ _ rfl (w.heap.size + 1) 0 [.int .i64 (a : Int), .int .i64 (b : Int), .int .i64 k].toArray rfl rfl ((HS.out.blk 0 rfl).there _ rfl) (by kernel_rfl) (all_oneCell_toArray (by simp [Value.oneCell'])) ?_))
              have HS := Lib.hid (HS.out.setAll 0 rfl [.int .i64 (a : Int), .int .i64 (b : Int), .int .i64 k] rfl)
              exact bodyPost_ret (v := .agg #[.int .i64 (a : Int), .int .i64 (b : Int), .int .i64 k]) (res_cell Try.results23 rfl (HS.out.blk 0 rfl).range Try.underlying43 rfl (by kernel_rfl)) rfl ⟨by rw [E1.out, E2.out], HS.out.fr⟩
            · have d3 : decide (p < fp + ea) = false := by simpa using h3
              have HNX := HNH.out (fun q => h3 q.2)
              clear h3
              go_wp2_with fail
              go_roundg (n - (b + 1))
              case measure => omega
              case rel => exact ⟨b + 1, by omega, by go_num, fun e => by have := HNX e; omega, HS.out⟩
          · have d2 : decide (p ≥ fp) = false := by simpa using h2
            have HNX := HNH.out (fun q => h2 q.1)
            clear h2
            go_wp2_with fail
            go_roundg (n - (b + 1))
            case measure => omega
            case rel => exact ⟨b + 1, by omega, by go_num, fun e => by have := HNX e; omega, HS.out⟩
        · obtain rfl : b = n := by omega
          have HC1 := Lib.hid (fun w => HCN.out w a (by omega))
          rw [← hn] at HC1
          have HNX : Hid (0 ≤ kd → kd ≤ 16 → ((a + 1 : Nat) : Int) ≤ kd) := fun g0 g1 => by
            have h1 := HLO.out g0 g1
            by_cases e : (a : Int) = kd
            · have h2 := HLB.out e
              rcases HF.out with ⟨q, _⟩ | ⟨_, q, _⟩
              · have := q.2.1
                rw [← e] at this
                omega
              · omega
            · omega
          clear hn
          go_wp2_with (first | (refine wpList_load_any 24 _ rfl rfl _ 0 rfl cl _ (HS.out.blk 1 rfl).range Try.underlying24 rfl (by rw [hsz6]; kernel_rfl) ?_))
          refine (HC1.out _).mono ?_
          rintro e w1 ⟨rfl, hf⟩
          have HS := Lib.hid (HS.out.fr0 hf)
          clear hf
          go_wp2_with fail
          go_roundg (17 - (a + 1))
          case measure => omega
          case rel => exact ⟨a + 1, by omega, by go_num, HNX.out, HS.out⟩
    · obtain rfl : a = 17 := by omega
      obtain ⟨e1, e2, e3⟩ := HF.out.no HH.out (by
        by_cases g0 : 0 ≤ kd
        · by_cases g1 : kd ≤ 16
          · have := HLO.out g0 g1; omega
          · omega
        · omega)
      subst e1 e2 e3
      go_wp2_with (first | (refine wpList_store_mid rfl 43 _ _ rfl (w.heap.size + 1) 0 [.int .i64 (-1), .int .i64 0, .int .i64 0].toArray rfl rfl ((HS.out.blk 0 rfl).there _ rfl) (by kernel_rfl) (all_oneCell_toArray (by simp [Value.oneCell'])) ?_))
      have HS := Lib.hid (HS.out.setAll 0 rfl [.int .i64 (-1), .int .i64 0, .int .i64 0] rfl)
      exact bodyPost_ret (v := .agg #[.int .i64 (-1), .int .i64 0, .int .i64 0]) (res_cell Try.results23 rfl (HS.out.blk 0 rfl).range Try.underlying43 rfl (by kernel_rfl)) rfl ⟨rfl, HS.out.fr⟩
end Go.Proofs.Ytjblonbfmdjpcaa
