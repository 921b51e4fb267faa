/- The walk of At: where a thing stands. -/
import Derived.Test.YtccioehckfdjdaaYcnt
set_option linter.unusedSimpArgs false
set_option linter.unusedVariables false
namespace Go.Tum.Y
/-- Where the things of a kind begin, of those that stand together. -/
def fromP (c : Cfg) (kind : Int) : Int :=
  if kind = 7 then fTag c else if kind = 10 then fRoot c else if kind = 11 then fLife c else if kind = 12 then fTop c else if kind = 13 then fStack c else if kind = 14 then fLim c else if kind = 15 then fLimbo c else if kind = 16 then fWord c else if kind = 17 then size c else 0
def Is (c : Cfg) (kind i k : Int) : Prop := 0 ≤ i ∧ i < cnt c kind ∧ 0 ≤ k ∧ k < eachP c kind
instance (c : Cfg) (kind i k : Int) : Decidable (Is c kind i k) := by unfold Is; infer_instance
/-- Where a thing stands. -/
def place (c : Cfg) (kind i k : Int) : Int :=
  if kind = 0 then 0 else if kind ≤ 6 then 1 + i * stride c + ownOf kind + k else if kind ≤ 9 then fTag c + i * 3 + kind - 7 else fromP c kind + i * each c kind + k
/-- .. if there is one. -/
def at_ (c : Cfg) (kind i k : Int) : Int := if Is c kind i k then place c kind i k else -1
theorem istr_bd {c : Cfg} (h : Ok c) {i : Int} (h0 : 0 ≤ i) (h1 : i < c.t) : 0 ≤ i * stride c ∧ i * stride c + stride c ≤ c.t * stride c := by
  have h3 := stride_bd h
  have h4 := mul_bd (x := i) (y := stride c) (a := c.t - 1) (b := stride c) h0 (by omega) (by omega) (by omega)
  rw [Int.sub_mul] at h4
  omega
theorem is_kind {c : Cfg} {kind i k : Int} (h : Is c kind i k) : 0 ≤ kind ∧ kind ≤ 16 := by
  obtain ⟨h0, h1, h2, h3⟩ := h
  unfold eachP at h3
  split at h3
  · assumption
  · omega
theorem fromP_bd {c : Cfg} (h : Ok c) (kind : Int) : 0 ≤ fromP c kind ∧ fromP c kind ≤ 18100 := by
  have h1 := bds h; have h2 := limit_pos h; have := h.t1; have := h.t8; have := h.b1; have := h.b64
  have := h1.tag; have := h1.root; have := h1.life; have := h1.top; have := h1.stack; have := h1.lim; have := h1.limbo; have := h1.word; have := h1.size_; have := size_bd h
  unfold fromP
  repeat' split
  all_goals omega
end Go.Tum.Y
namespace Go.Proofs.Ytccioehckfdjdaa
open Go.RowKit Go.Tum Go.Tum.Y

set_option maxHeartbeats 1000000 in
theorem at_bad1 (w : World) (c : Cfg) (h : Ok c) (kind i k : Int) (d0 : decide (i < 0) = true) : Calls Try.prog 37 #[mapV c, .int .i64 kind, .int .i64 i, .int .i64 k] w fun e w' => e = .returned (.int .i64 (-1)) ∧ Fr [] w w' := by
  have hm := Blk.new w 31 (mapCells c)
  have hsz : (mapCells c).length = 24 := rfl
  have HC := Lib.hid (fun w => counts_any w c h kind)
  have HS := Lib.hid (fun w => stride_any w c h)
  unfold mapV at *
  have HM := Lib.hid hm; clear hm
  generalize mapCells c = cs at *
  generalize cnt c kind = n at *
  generalize eachP c kind = sz at *
  clear HS h
  go_enter Try.func37, Try.ntmps37
  go_wp2_with (refine wpList_load_any 31 _ rfl rfl _ 0 rfl cs _ HM.out.range Try.underlying31 rfl (by rw [hsz]; kernel_rfl) ?_)
  refine (HC.out _).mono ?_
  rintro e w1 ⟨rfl, hf⟩
  have HM1 := Lib.hid (HM.out.fr hf (by simp))
  have HF := Lib.hid (((Fr.refl [] w).alloc _).trans hf); clear hf
  go_wp2_with fail
  go_ret
  exact ⟨rfl, HF.out⟩
set_option maxHeartbeats 1000000 in
theorem at_bad2 (w : World) (c : Cfg) (h : Ok c) (kind i k : Int) (d0 : decide (i < 0) = false) (d1 : decide (i ≥ cnt c kind) = true) : Calls Try.prog 37 #[mapV c, .int .i64 kind, .int .i64 i, .int .i64 k] w fun e w' => e = .returned (.int .i64 (-1)) ∧ Fr [] w w' := by
  have hm := Blk.new w 31 (mapCells c)
  have hsz : (mapCells c).length = 24 := rfl
  have HC := Lib.hid (fun w => counts_any w c h kind)
  have HS := Lib.hid (fun w => stride_any w c h)
  unfold mapV at *
  have HM := Lib.hid hm; clear hm
  generalize mapCells c = cs at *
  generalize cnt c kind = n at *
  generalize eachP c kind = sz at *
  clear HS h
  go_enter Try.func37, Try.ntmps37
  go_wp2_with (refine wpList_load_any 31 _ rfl rfl _ 0 rfl cs _ HM.out.range Try.underlying31 rfl (by rw [hsz]; kernel_rfl) ?_)
  refine (HC.out _).mono ?_
  rintro e w1 ⟨rfl, hf⟩
  have HM1 := Lib.hid (HM.out.fr hf (by simp))
  have HF := Lib.hid (((Fr.refl [] w).alloc _).trans hf); clear hf
  go_wp2_with fail
  go_ret
  exact ⟨rfl, HF.out⟩
set_option maxHeartbeats 1000000 in
theorem at_bad3 (w : World) (c : Cfg) (h : Ok c) (kind i k : Int) (d0 : decide (i < 0) = false) (d1 : decide (i ≥ cnt c kind) = false) (d2 : decide (k < 0) = true) : Calls Try.prog 37 #[mapV c, .int .i64 kind, .int .i64 i, .int .i64 k] w fun e w' => e = .returned (.int .i64 (-1)) ∧ Fr [] w w' := by
  have hm := Blk.new w 31 (mapCells c)
  have hsz : (mapCells c).length = 24 := rfl
  have HC := Lib.hid (fun w => counts_any w c h kind)
  have HS := Lib.hid (fun w => stride_any w c h)
  unfold mapV at *
  have HM := Lib.hid hm; clear hm
  generalize mapCells c = cs at *
  generalize cnt c kind = n at *
  generalize eachP c kind = sz at *
  clear HS h
  go_enter Try.func37, Try.ntmps37
  go_wp2_with (refine wpList_load_any 31 _ rfl rfl _ 0 rfl cs _ HM.out.range Try.underlying31 rfl (by rw [hsz]; kernel_rfl) ?_)
  refine (HC.out _).mono ?_
  rintro e w1 ⟨rfl, hf⟩
  have HM1 := Lib.hid (HM.out.fr hf (by simp))
  have HF := Lib.hid (((Fr.refl [] w).alloc _).trans hf); clear hf
  go_wp2_with fail
  go_ret
  exact ⟨rfl, HF.out⟩
set_option maxHeartbeats 1000000 in
theorem at_bad4 (w : World) (c : Cfg) (h : Ok c) (kind i k : Int) (d0 : decide (i < 0) = false) (d1 : decide (i ≥ cnt c kind) = false) (d2 : decide (k < 0) = false) (d3 : decide (k ≥ eachP c kind) = true) : Calls Try.prog 37 #[mapV c, .int .i64 kind, .int .i64 i, .int .i64 k] w fun e w' => e = .returned (.int .i64 (-1)) ∧ Fr [] w w' := by
  have hm := Blk.new w 31 (mapCells c)
  have hsz : (mapCells c).length = 24 := rfl
  have HC := Lib.hid (fun w => counts_any w c h kind)
  have HS := Lib.hid (fun w => stride_any w c h)
  unfold mapV at *
  have HM := Lib.hid hm; clear hm
  generalize mapCells c = cs at *
  generalize cnt c kind = n at *
  generalize eachP c kind = sz at *
  clear HS h
  go_enter Try.func37, Try.ntmps37
  go_wp2_with (refine wpList_load_any 31 _ rfl rfl _ 0 rfl cs _ HM.out.range Try.underlying31 rfl (by rw [hsz]; kernel_rfl) ?_)
  refine (HC.out _).mono ?_
  rintro e w1 ⟨rfl, hf⟩
  have HM1 := Lib.hid (HM.out.fr hf (by simp))
  have HF := Lib.hid (((Fr.refl [] w).alloc _).trans hf); clear hf
  go_wp2_with fail
  go_ret
  exact ⟨rfl, HF.out⟩
set_option maxHeartbeats 1000000 in
theorem at_0 (w : World) (c : Cfg) (h : Ok c) (i k : Int) (hi : Is c 0 i k) : Calls Try.prog 37 #[mapV c, .int .i64 0, .int .i64 i, .int .i64 k] w fun e w' => e = .returned (.int .i64 0) ∧ Fr [] w w' := by
  have d0 : decide (i < 0) = false := by simp; have := hi.1; omega
  have d1 : decide (i ≥ cnt c 0) = false := by simp; exact hi.2.1
  have d2 : decide (k < 0) = false := by simp; have := hi.2.2.1; omega
  have d3 : decide (k ≥ eachP c 0) = false := by simp; exact hi.2.2.2
  have hm := Blk.new w 31 (mapCells c)
  have hsz : (mapCells c).length = 24 := rfl
  have HC := Lib.hid (fun w => counts_any w c h 0)
  have HS := Lib.hid (fun w => stride_any w c h)
  unfold mapV at *
  have HM := Lib.hid hm; clear hm
  generalize mapCells c = cs at *
  generalize cnt c 0 = n at *
  generalize eachP c 0 = sz at *
  clear HS h hi
  go_enter Try.func37, Try.ntmps37
  go_wp2_with (refine wpList_load_any 31 _ rfl rfl _ 0 rfl cs _ HM.out.range Try.underlying31 rfl (by rw [hsz]; kernel_rfl) ?_)
  refine (HC.out _).mono ?_
  rintro e w1 ⟨rfl, hf⟩
  have HM1 := Lib.hid (HM.out.fr hf (by simp))
  have HF := Lib.hid (((Fr.refl [] w).alloc _).trans hf); clear hf
  go_wp2_with fail
  go_ret
  exact ⟨rfl, HF.out⟩
set_option maxHeartbeats 1000000 in
theorem at_1 (w : World) (c : Cfg) (h : Ok c) (i k : Int) (hi : Is c 1 i k) : Calls Try.prog 37 #[mapV c, .int .i64 1, .int .i64 i, .int .i64 k] w fun e w' => e = .returned (.int .i64 (1 + i * stride c + k)) ∧ Fr [] w w' := by
  have hic : i < c.t := hi.2.1
  have hb : 0 ≤ i * stride c ∧ i * stride c ≤ 16848 := by
    have h1 := istr_bd h hi.1 hic
    have h2 := ts_bd h
    have h3 := stride_bd h
    omega
  have hk0 : 0 ≤ k := hi.2.2.1
  have hk1 : k < 10000 := by
    have := hi.2.2.2
    have := cap_bd h
    have e : eachP c 1 = 1 := by simp [eachP, each]
    omega
  have d0 : decide (i < 0) = false := by simp; have := hi.1; omega
  have d1 : decide (i ≥ cnt c 1) = false := by simp; exact hi.2.1
  have d2 : decide (k < 0) = false := by simp; have := hi.2.2.1; omega
  have d3 : decide (k ≥ eachP c 1) = false := by simp; exact hi.2.2.2
  have hm := Blk.new w 31 (mapCells c)
  have hsz : (mapCells c).length = 24 := rfl
  have HC := Lib.hid (fun w => counts_any w c h 1)
  have HS := Lib.hid (fun w => stride_any w c h)
  unfold mapV at *
  have HM := Lib.hid hm; clear hm
  generalize mapCells c = cs at *
  generalize cnt c 1 = n at *
  generalize eachP c 1 = sz at *
  generalize stride c = s at *
  clear h hi hic
  go_enter Try.func37, Try.ntmps37
  go_wp2_with (refine wpList_load_any 31 _ rfl rfl _ 0 rfl cs _ HM.out.range Try.underlying31 rfl (by rw [hsz]; kernel_rfl) ?_)
  refine (HC.out _).mono ?_
  rintro e w1 ⟨rfl, hf⟩
  have HM1 := Lib.hid (HM.out.fr hf (by simp))
  have HF := Lib.hid (((Fr.refl [] w).alloc _).trans hf); clear hf
  go_wp2_with (refine wpList_load_any 31 _ rfl rfl _ 0 rfl cs _ HM1.out.range Try.underlying31 rfl (by rw [hsz]; kernel_rfl) ?_)
  refine (HS.out _).mono ?_
  rintro e w2 ⟨rfl, hf⟩
  have HF2 := Lib.hid (HF.out.trans hf); clear hf
  go_wp2_with fail
  refine (own_any _ _).mono ?_
  rintro e w3 ⟨rfl, rfl⟩
  rw [show ownOf 1 = 0 from rfl]
  go_wp2_with fail
  go_ret
  generalize 1 + i * s + k = res
  exact ⟨rfl, HF2.out⟩
set_option maxHeartbeats 1000000 in
theorem at_2 (w : World) (c : Cfg) (h : Ok c) (i k : Int) (hi : Is c 2 i k) : Calls Try.prog 37 #[mapV c, .int .i64 2, .int .i64 i, .int .i64 k] w fun e w' => e = .returned (.int .i64 (1 + i * stride c + 1 + k)) ∧ Fr [] w w' := by
  have hic : i < c.t := hi.2.1
  have hb : 0 ≤ i * stride c ∧ i * stride c ≤ 16848 := by
    have h1 := istr_bd h hi.1 hic
    have h2 := ts_bd h
    have h3 := stride_bd h
    omega
  have hk0 : 0 ≤ k := hi.2.2.1
  have hk1 : k < 10000 := by
    have := hi.2.2.2
    have := cap_bd h
    have e : eachP c 2 = 4 := by simp [eachP, each]
    omega
  have d0 : decide (i < 0) = false := by simp; have := hi.1; omega
  have d1 : decide (i ≥ cnt c 2) = false := by simp; exact hi.2.1
  have d2 : decide (k < 0) = false := by simp; have := hi.2.2.1; omega
  have d3 : decide (k ≥ eachP c 2) = false := by simp; exact hi.2.2.2
  have hm := Blk.new w 31 (mapCells c)
  have hsz : (mapCells c).length = 24 := rfl
  have HC := Lib.hid (fun w => counts_any w c h 2)
  have HS := Lib.hid (fun w => stride_any w c h)
  unfold mapV at *
  have HM := Lib.hid hm; clear hm
  generalize mapCells c = cs at *
  generalize cnt c 2 = n at *
  generalize eachP c 2 = sz at *
  generalize stride c = s at *
  clear h hi hic
  go_enter Try.func37, Try.ntmps37
  go_wp2_with (refine wpList_load_any 31 _ rfl rfl _ 0 rfl cs _ HM.out.range Try.underlying31 rfl (by rw [hsz]; kernel_rfl) ?_)
  refine (HC.out _).mono ?_
  rintro e w1 ⟨rfl, hf⟩
  have HM1 := Lib.hid (HM.out.fr hf (by simp))
  have HF := Lib.hid (((Fr.refl [] w).alloc _).trans hf); clear hf
  go_wp2_with (refine wpList_load_any 31 _ rfl rfl _ 0 rfl cs _ HM1.out.range Try.underlying31 rfl (by rw [hsz]; kernel_rfl) ?_)
  refine (HS.out _).mono ?_
  rintro e w2 ⟨rfl, hf⟩
  have HF2 := Lib.hid (HF.out.trans hf); clear hf
  go_wp2_with fail
  refine (own_any _ _).mono ?_
  rintro e w3 ⟨rfl, rfl⟩
  rw [show ownOf 2 = 1 from rfl]
  go_wp2_with fail
  go_ret
  generalize 1 + i * s + 1 + k = res
  exact ⟨rfl, HF2.out⟩
set_option maxHeartbeats 1000000 in
theorem at_3 (w : World) (c : Cfg) (h : Ok c) (i k : Int) (hi : Is c 3 i k) : Calls Try.prog 37 #[mapV c, .int .i64 3, .int .i64 i, .int .i64 k] w fun e w' => e = .returned (.int .i64 (1 + i * stride c + 5 + k)) ∧ Fr [] w w' := by
  have hic : i < c.t := hi.2.1
  have hb : 0 ≤ i * stride c ∧ i * stride c ≤ 16848 := by
    have h1 := istr_bd h hi.1 hic
    have h2 := ts_bd h
    have h3 := stride_bd h
    omega
  have hk0 : 0 ≤ k := hi.2.2.1
  have hk1 : k < 10000 := by
    have := hi.2.2.2
    have := cap_bd h
    have e : eachP c 3 = 1 := by simp [eachP, each]
    omega
  have d0 : decide (i < 0) = false := by simp; have := hi.1; omega
  have d1 : decide (i ≥ cnt c 3) = false := by simp; exact hi.2.1
  have d2 : decide (k < 0) = false := by simp; have := hi.2.2.1; omega
  have d3 : decide (k ≥ eachP c 3) = false := by simp; exact hi.2.2.2
  have hm := Blk.new w 31 (mapCells c)
  have hsz : (mapCells c).length = 24 := rfl
  have HC := Lib.hid (fun w => counts_any w c h 3)
  have HS := Lib.hid (fun w => stride_any w c h)
  unfold mapV at *
  have HM := Lib.hid hm; clear hm
  generalize mapCells c = cs at *
  generalize cnt c 3 = n at *
  generalize eachP c 3 = sz at *
  generalize stride c = s at *
  clear h hi hic
  go_enter Try.func37, Try.ntmps37
  go_wp2_with (refine wpList_load_any 31 _ rfl rfl _ 0 rfl cs _ HM.out.range Try.underlying31 rfl (by rw [hsz]; kernel_rfl) ?_)
  refine (HC.out _).mono ?_
  rintro e w1 ⟨rfl, hf⟩
  have HM1 := Lib.hid (HM.out.fr hf (by simp))
  have HF := Lib.hid (((Fr.refl [] w).alloc _).trans hf); clear hf
  go_wp2_with (refine wpList_load_any 31 _ rfl rfl _ 0 rfl cs _ HM1.out.range Try.underlying31 rfl (by rw [hsz]; kernel_rfl) ?_)
  refine (HS.out _).mono ?_
  rintro e w2 ⟨rfl, hf⟩
  have HF2 := Lib.hid (HF.out.trans hf); clear hf
  go_wp2_with fail
  refine (own_any _ _).mono ?_
  rintro e w3 ⟨rfl, rfl⟩
  rw [show ownOf 3 = 5 from rfl]
  go_wp2_with fail
  go_ret
  generalize 1 + i * s + 5 + k = res
  exact ⟨rfl, HF2.out⟩
set_option maxHeartbeats 1000000 in
theorem at_4 (w : World) (c : Cfg) (h : Ok c) (i k : Int) (hi : Is c 4 i k) : Calls Try.prog 37 #[mapV c, .int .i64 4, .int .i64 i, .int .i64 k] w fun e w' => e = .returned (.int .i64 (1 + i * stride c + 6 + k)) ∧ Fr [] w w' := by
  have hic : i < c.t := hi.2.1
  have hb : 0 ≤ i * stride c ∧ i * stride c ≤ 16848 := by
    have h1 := istr_bd h hi.1 hic
    have h2 := ts_bd h
    have h3 := stride_bd h
    omega
  have hk0 : 0 ≤ k := hi.2.2.1
  have hk1 : k < 10000 := by
    have := hi.2.2.2
    have := cap_bd h
    have e : eachP c 4 = 1 := by simp [eachP, each]
    omega
  have d0 : decide (i < 0) = false := by simp; have := hi.1; omega
  have d1 : decide (i ≥ cnt c 4) = false := by simp; exact hi.2.1
  have d2 : decide (k < 0) = false := by simp; have := hi.2.2.1; omega
  have d3 : decide (k ≥ eachP c 4) = false := by simp; exact hi.2.2.2
  have hm := Blk.new w 31 (mapCells c)
  have hsz : (mapCells c).length = 24 := rfl
  have HC := Lib.hid (fun w => counts_any w c h 4)
  have HS := Lib.hid (fun w => stride_any w c h)
  unfold mapV at *
  have HM := Lib.hid hm; clear hm
  generalize mapCells c = cs at *
  generalize cnt c 4 = n at *
  generalize eachP c 4 = sz at *
  generalize stride c = s at *
  clear h hi hic
  go_enter Try.func37, Try.ntmps37
  go_wp2_with (refine wpList_load_any 31 _ rfl rfl _ 0 rfl cs _ HM.out.range Try.underlying31 rfl (by rw [hsz]; kernel_rfl) ?_)
  refine (HC.out _).mono ?_
  rintro e w1 ⟨rfl, hf⟩
  have HM1 := Lib.hid (HM.out.fr hf (by simp))
  have HF := Lib.hid (((Fr.refl [] w).alloc _).trans hf); clear hf
  go_wp2_with (refine wpList_load_any 31 _ rfl rfl _ 0 rfl cs _ HM1.out.range Try.underlying31 rfl (by rw [hsz]; kernel_rfl) ?_)
  refine (HS.out _).mono ?_
  rintro e w2 ⟨rfl, hf⟩
  have HF2 := Lib.hid (HF.out.trans hf); clear hf
  go_wp2_with fail
  refine (own_any _ _).mono ?_
  rintro e w3 ⟨rfl, rfl⟩
  rw [show ownOf 4 = 6 from rfl]
  go_wp2_with fail
  go_ret
  generalize 1 + i * s + 6 + k = res
  exact ⟨rfl, HF2.out⟩
set_option maxHeartbeats 1000000 in
theorem at_5 (w : World) (c : Cfg) (h : Ok c) (i k : Int) (hi : Is c 5 i k) : Calls Try.prog 37 #[mapV c, .int .i64 5, .int .i64 i, .int .i64 k] w fun e w' => e = .returned (.int .i64 (1 + i * stride c + 7 + k)) ∧ Fr [] w w' := by
  have hic : i < c.t := hi.2.1
  have hb : 0 ≤ i * stride c ∧ i * stride c ≤ 16848 := by
    have h1 := istr_bd h hi.1 hic
    have h2 := ts_bd h
    have h3 := stride_bd h
    omega
  have hk0 : 0 ≤ k := hi.2.2.1
  have hk1 : k < 10000 := by
    have := hi.2.2.2
    have := cap_bd h
    have e : eachP c 5 = 1 := by simp [eachP, each]
    omega
  have d0 : decide (i < 0) = false := by simp; have := hi.1; omega
  have d1 : decide (i ≥ cnt c 5) = false := by simp; exact hi.2.1
  have d2 : decide (k < 0) = false := by simp; have := hi.2.2.1; omega
  have d3 : decide (k ≥ eachP c 5) = false := by simp; exact hi.2.2.2
  have hm := Blk.new w 31 (mapCells c)
  have hsz : (mapCells c).length = 24 := rfl
  have HC := Lib.hid (fun w => counts_any w c h 5)
  have HS := Lib.hid (fun w => stride_any w c h)
  unfold mapV at *
  have HM := Lib.hid hm; clear hm
  generalize mapCells c = cs at *
  generalize cnt c 5 = n at *
  generalize eachP c 5 = sz at *
  generalize stride c = s at *
  clear h hi hic
  go_enter Try.func37, Try.ntmps37
  go_wp2_with (refine wpList_load_any 31 _ rfl rfl _ 0 rfl cs _ HM.out.range Try.underlying31 rfl (by rw [hsz]; kernel_rfl) ?_)
  refine (HC.out _).mono ?_
  rintro e w1 ⟨rfl, hf⟩
  have HM1 := Lib.hid (HM.out.fr hf (by simp))
  have HF := Lib.hid (((Fr.refl [] w).alloc _).trans hf); clear hf
  go_wp2_with (refine wpList_load_any 31 _ rfl rfl _ 0 rfl cs _ HM1.out.range Try.underlying31 rfl (by rw [hsz]; kernel_rfl) ?_)
  refine (HS.out _).mono ?_
  rintro e w2 ⟨rfl, hf⟩
  have HF2 := Lib.hid (HF.out.trans hf); clear hf
  go_wp2_with fail
  refine (own_any _ _).mono ?_
  rintro e w3 ⟨rfl, rfl⟩
  rw [show ownOf 5 = 7 from rfl]
  go_wp2_with fail
  go_ret
  generalize 1 + i * s + 7 + k = res
  exact ⟨rfl, HF2.out⟩
set_option maxHeartbeats 1000000 in
theorem at_6 (w : World) (c : Cfg) (h : Ok c) (i k : Int) (hi : Is c 6 i k) : Calls Try.prog 37 #[mapV c, .int .i64 6, .int .i64 i, .int .i64 k] w fun e w' => e = .returned (.int .i64 (1 + i * stride c + 8 + k)) ∧ Fr [] w w' := by
  have hic : i < c.t := hi.2.1
  have hb : 0 ≤ i * stride c ∧ i * stride c ≤ 16848 := by
    have h1 := istr_bd h hi.1 hic
    have h2 := ts_bd h
    have h3 := stride_bd h
    omega
  have hk0 : 0 ≤ k := hi.2.2.1
  have hk1 : k < 10000 := by
    have := hi.2.2.2
    have := cap_bd h
    have e : eachP c 6 = cap c := by simp [eachP, each]
    omega
  have d0 : decide (i < 0) = false := by simp; have := hi.1; omega
  have d1 : decide (i ≥ cnt c 6) = false := by simp; exact hi.2.1
  have d2 : decide (k < 0) = false := by simp; have := hi.2.2.1; omega
  have d3 : decide (k ≥ eachP c 6) = false := by simp; exact hi.2.2.2
  have hm := Blk.new w 31 (mapCells c)
  have hsz : (mapCells c).length = 24 := rfl
  have HC := Lib.hid (fun w => counts_any w c h 6)
  have HS := Lib.hid (fun w => stride_any w c h)
  unfold mapV at *
  have HM := Lib.hid hm; clear hm
  generalize mapCells c = cs at *
  generalize cnt c 6 = n at *
  generalize eachP c 6 = sz at *
  generalize stride c = s at *
  clear h hi hic
  go_enter Try.func37, Try.ntmps37
  go_wp2_with (refine wpList_load_any 31 _ rfl rfl _ 0 rfl cs _ HM.out.range Try.underlying31 rfl (by rw [hsz]; kernel_rfl) ?_)
  refine (HC.out _).mono ?_
  rintro e w1 ⟨rfl, hf⟩
  have HM1 := Lib.hid (HM.out.fr hf (by simp))
  have HF := Lib.hid (((Fr.refl [] w).alloc _).trans hf); clear hf
  go_wp2_with (refine wpList_load_any 31 _ rfl rfl _ 0 rfl cs _ HM1.out.range Try.underlying31 rfl (by rw [hsz]; kernel_rfl) ?_)
  refine (HS.out _).mono ?_
  rintro e w2 ⟨rfl, hf⟩
  have HF2 := Lib.hid (HF.out.trans hf); clear hf
  go_wp2_with fail
  refine (own_any _ _).mono ?_
  rintro e w3 ⟨rfl, rfl⟩
  rw [show ownOf 6 = 8 from rfl]
  go_wp2_with fail
  go_ret
  generalize 1 + i * s + 8 + k = res
  exact ⟨rfl, HF2.out⟩
set_option maxHeartbeats 1000000 in
theorem at_7 (w : World) (c : Cfg) (h : Ok c) (i k : Int) (hi : Is c 7 i k) : Calls Try.prog 37 #[mapV c, .int .i64 7, .int .i64 i, .int .i64 k] w fun e w' => e = .returned (.int .i64 (fTag c + i * 3)) ∧ Fr [] w w' := by
  have hic : i < c.t := hi.2.1
  have hi0 : 0 ≤ i := hi.1
  have hi8 : i ≤ 8 := by have := h.t8; omega
  have hF := (bds h).tag
  have d0 : decide (i < 0) = false := by simp; have := hi.1; omega
  have d1 : decide (i ≥ cnt c 7) = false := by simp; exact hi.2.1
  have d2 : decide (k < 0) = false := by simp; have := hi.2.2.1; omega
  have d3 : decide (k ≥ eachP c 7) = false := by simp; exact hi.2.2.2
  have hm := Blk.new w 31 (mapCells c)
  have hsz : (mapCells c).length = 24 := rfl
  have HC := Lib.hid (fun w => counts_any w c h 7)
  have HS := Lib.hid (fun w => stride_any w c h)
  unfold mapV at *
  have HM := Lib.hid hm; clear hm
  have g : (mapCells c)[13]? = some (.int .i64 (fTag c)) := rfl
  generalize mapCells c = cs at *
  generalize cnt c 7 = n at *
  generalize eachP c 7 = sz at *
  generalize fTag c = F at *
  clear HS h hi hic
  go_enter Try.func37, Try.ntmps37
  go_wp2_with (refine wpList_load_any 31 _ rfl rfl _ 0 rfl cs _ HM.out.range Try.underlying31 rfl (by rw [hsz]; kernel_rfl) ?_)
  refine (HC.out _).mono ?_
  rintro e w1 ⟨rfl, hf⟩
  have HM1 := Lib.hid (HM.out.fr hf (by simp))
  have HF := Lib.hid (((Fr.refl [] w).alloc _).trans hf); clear hf
  have c13 : w1.cell? ⟨w.heap.size, 13, none⟩ = some (.int .i64 F) := (HM1.out.cell 13).trans g
  go_wp2_with fail
  go_ret
  generalize F + i * 3 = res
  exact ⟨rfl, HF.out⟩
set_option maxHeartbeats 1000000 in
theorem at_8 (w : World) (c : Cfg) (h : Ok c) (i k : Int) (hi : Is c 8 i k) : Calls Try.prog 37 #[mapV c, .int .i64 8, .int .i64 i, .int .i64 k] w fun e w' => e = .returned (.int .i64 (fTag c + i * 3 + 8 - 7)) ∧ Fr [] w w' := by
  have hic : i < c.t := hi.2.1
  have hi0 : 0 ≤ i := hi.1
  have hi8 : i ≤ 8 := by have := h.t8; omega
  have hF := (bds h).tag
  have d0 : decide (i < 0) = false := by simp; have := hi.1; omega
  have d1 : decide (i ≥ cnt c 8) = false := by simp; exact hi.2.1
  have d2 : decide (k < 0) = false := by simp; have := hi.2.2.1; omega
  have d3 : decide (k ≥ eachP c 8) = false := by simp; exact hi.2.2.2
  have hm := Blk.new w 31 (mapCells c)
  have hsz : (mapCells c).length = 24 := rfl
  have HC := Lib.hid (fun w => counts_any w c h 8)
  have HS := Lib.hid (fun w => stride_any w c h)
  unfold mapV at *
  have HM := Lib.hid hm; clear hm
  have g : (mapCells c)[13]? = some (.int .i64 (fTag c)) := rfl
  generalize mapCells c = cs at *
  generalize cnt c 8 = n at *
  generalize eachP c 8 = sz at *
  generalize fTag c = F at *
  clear HS h hi hic
  go_enter Try.func37, Try.ntmps37
  go_wp2_with (refine wpList_load_any 31 _ rfl rfl _ 0 rfl cs _ HM.out.range Try.underlying31 rfl (by rw [hsz]; kernel_rfl) ?_)
  refine (HC.out _).mono ?_
  rintro e w1 ⟨rfl, hf⟩
  have HM1 := Lib.hid (HM.out.fr hf (by simp))
  have HF := Lib.hid (((Fr.refl [] w).alloc _).trans hf); clear hf
  have c13 : w1.cell? ⟨w.heap.size, 13, none⟩ = some (.int .i64 F) := (HM1.out.cell 13).trans g
  go_wp2_with fail
  go_ret
  generalize F + i * 3 + 8 - 7 = res
  exact ⟨rfl, HF.out⟩
set_option maxHeartbeats 1000000 in
theorem at_9 (w : World) (c : Cfg) (h : Ok c) (i k : Int) (hi : Is c 9 i k) : Calls Try.prog 37 #[mapV c, .int .i64 9, .int .i64 i, .int .i64 k] w fun e w' => e = .returned (.int .i64 (fTag c + i * 3 + 9 - 7)) ∧ Fr [] w w' := by
  have hic : i < c.t := hi.2.1
  have hi0 : 0 ≤ i := hi.1
  have hi8 : i ≤ 8 := by have := h.t8; omega
  have hF := (bds h).tag
  have d0 : decide (i < 0) = false := by simp; have := hi.1; omega
  have d1 : decide (i ≥ cnt c 9) = false := by simp; exact hi.2.1
  have d2 : decide (k < 0) = false := by simp; have := hi.2.2.1; omega
  have d3 : decide (k ≥ eachP c 9) = false := by simp; exact hi.2.2.2
  have hm := Blk.new w 31 (mapCells c)
  have hsz : (mapCells c).length = 24 := rfl
  have HC := Lib.hid (fun w => counts_any w c h 9)
  have HS := Lib.hid (fun w => stride_any w c h)
  unfold mapV at *
  have HM := Lib.hid hm; clear hm
  have g : (mapCells c)[13]? = some (.int .i64 (fTag c)) := rfl
  generalize mapCells c = cs at *
  generalize cnt c 9 = n at *
  generalize eachP c 9 = sz at *
  generalize fTag c = F at *
  clear HS h hi hic
  go_enter Try.func37, Try.ntmps37
  go_wp2_with (refine wpList_load_any 31 _ rfl rfl _ 0 rfl cs _ HM.out.range Try.underlying31 rfl (by rw [hsz]; kernel_rfl) ?_)
  refine (HC.out _).mono ?_
  rintro e w1 ⟨rfl, hf⟩
  have HM1 := Lib.hid (HM.out.fr hf (by simp))
  have HF := Lib.hid (((Fr.refl [] w).alloc _).trans hf); clear hf
  have c13 : w1.cell? ⟨w.heap.size, 13, none⟩ = some (.int .i64 F) := (HM1.out.cell 13).trans g
  go_wp2_with fail
  go_ret
  generalize F + i * 3 + 9 - 7 = res
  exact ⟨rfl, HF.out⟩
set_option maxHeartbeats 1000000 in
theorem at_10 (w : World) (c : Cfg) (h : Ok c) (i k : Int) (hi : Is c 10 i k) : Calls Try.prog 37 #[mapV c, .int .i64 10, .int .i64 i, .int .i64 k] w fun e w' => e = .returned (.int .i64 (fRoot c + i * each c 10 + k)) ∧ Fr [] w w' := by
  have he : each c 10 = 1 := by simp [each]
  have he2 : eachP c 10 = each c 10 := by simp [eachP]
  have hi0 : 0 ≤ i := hi.1
  have hk0 : 0 ≤ k := hi.2.2.1
  have hk1 : k ≤ 8 := by
    have := hi.2.2.2
    omega
  have hib : 0 ≤ i * each c 10 ∧ i * each c 10 ≤ 4160 := by
    have e : cnt c 10 = 16 := by simp [cnt]
    have h1 := hi.2.1
    have h2 := h.b64
    have h3 := limit_pos h
    rw [he]
    omega
  have hF : 0 ≤ fRoot c ∧ fRoot c ≤ 18100 := fromP_bd h 10
  have d0 : decide (i < 0) = false := by simp; have := hi.1; omega
  have d1 : decide (i ≥ cnt c 10) = false := by simp; exact hi.2.1
  have d2 : decide (k < 0) = false := by simp; have := hi.2.2.1; omega
  have d3 : decide (k ≥ eachP c 10) = false := by simp; exact hi.2.2.2
  have hm := Blk.new w 31 (mapCells c)
  have hsz : (mapCells c).length = 24 := rfl
  have HC := Lib.hid (fun w => counts_any w c h 10)
  have HS := Lib.hid (fun w => stride_any w c h)
  unfold mapV at *
  have HM := Lib.hid hm; clear hm
  have g : (mapCells c)[16]? = some (.int .i64 (fRoot c)) := rfl
  rw [he2] at *
  generalize mapCells c = cs at *
  generalize cnt c 10 = n at *
  generalize each c 10 = sz at *
  generalize fRoot c = F at *
  clear HS h hi he he2
  go_enter Try.func37, Try.ntmps37
  go_wp2_with (refine wpList_load_any 31 _ rfl rfl _ 0 rfl cs _ HM.out.range Try.underlying31 rfl (by rw [hsz]; kernel_rfl) ?_)
  refine (HC.out _).mono ?_
  rintro e w1 ⟨rfl, hf⟩
  have HM1 := Lib.hid (HM.out.fr hf (by simp))
  have HF := Lib.hid (((Fr.refl [] w).alloc _).trans hf); clear hf
  have c13 : w1.cell? ⟨w.heap.size, 16, none⟩ = some (.int .i64 F) := (HM1.out.cell 16).trans g
  go_wp2_with fail
  go_ret
  generalize F + i * sz + k = res
  exact ⟨rfl, HF.out⟩
set_option maxHeartbeats 1000000 in
theorem at_11 (w : World) (c : Cfg) (h : Ok c) (i k : Int) (hi : Is c 11 i k) : Calls Try.prog 37 #[mapV c, .int .i64 11, .int .i64 i, .int .i64 k] w fun e w' => e = .returned (.int .i64 (fLife c + i * each c 11 + k)) ∧ Fr [] w w' := by
  have he : each c 11 = 1 := by simp [each]
  have he2 : eachP c 11 = each c 11 := by simp [eachP]
  have hi0 : 0 ≤ i := hi.1
  have hk0 : 0 ≤ k := hi.2.2.1
  have hk1 : k ≤ 8 := by
    have := hi.2.2.2
    omega
  have hib : 0 ≤ i * each c 11 ∧ i * each c 11 ≤ 4160 := by
    have e : cnt c 11 = c.b := by simp [cnt]
    have h1 := hi.2.1
    have h2 := h.b64
    have h3 := limit_pos h
    rw [he]
    omega
  have hF : 0 ≤ fLife c ∧ fLife c ≤ 18100 := fromP_bd h 11
  have d0 : decide (i < 0) = false := by simp; have := hi.1; omega
  have d1 : decide (i ≥ cnt c 11) = false := by simp; exact hi.2.1
  have d2 : decide (k < 0) = false := by simp; have := hi.2.2.1; omega
  have d3 : decide (k ≥ eachP c 11) = false := by simp; exact hi.2.2.2
  have hm := Blk.new w 31 (mapCells c)
  have hsz : (mapCells c).length = 24 := rfl
  have HC := Lib.hid (fun w => counts_any w c h 11)
  have HS := Lib.hid (fun w => stride_any w c h)
  unfold mapV at *
  have HM := Lib.hid hm; clear hm
  have g : (mapCells c)[17]? = some (.int .i64 (fLife c)) := rfl
  rw [he2] at *
  generalize mapCells c = cs at *
  generalize cnt c 11 = n at *
  generalize each c 11 = sz at *
  generalize fLife c = F at *
  clear HS h hi he he2
  go_enter Try.func37, Try.ntmps37
  go_wp2_with (refine wpList_load_any 31 _ rfl rfl _ 0 rfl cs _ HM.out.range Try.underlying31 rfl (by rw [hsz]; kernel_rfl) ?_)
  refine (HC.out _).mono ?_
  rintro e w1 ⟨rfl, hf⟩
  have HM1 := Lib.hid (HM.out.fr hf (by simp))
  have HF := Lib.hid (((Fr.refl [] w).alloc _).trans hf); clear hf
  have c13 : w1.cell? ⟨w.heap.size, 17, none⟩ = some (.int .i64 F) := (HM1.out.cell 17).trans g
  go_wp2_with fail
  go_ret
  generalize F + i * sz + k = res
  exact ⟨rfl, HF.out⟩
set_option maxHeartbeats 1000000 in
theorem at_12 (w : World) (c : Cfg) (h : Ok c) (i k : Int) (hi : Is c 12 i k) : Calls Try.prog 37 #[mapV c, .int .i64 12, .int .i64 i, .int .i64 k] w fun e w' => e = .returned (.int .i64 (fTop c + i * each c 12 + k)) ∧ Fr [] w w' := by
  have he : each c 12 = 1 := by simp [each]
  have he2 : eachP c 12 = each c 12 := by simp [eachP]
  have hi0 : 0 ≤ i := hi.1
  have hk0 : 0 ≤ k := hi.2.2.1
  have hk1 : k ≤ 8 := by
    have := hi.2.2.2
    omega
  have hib : 0 ≤ i * each c 12 ∧ i * each c 12 ≤ 4160 := by
    have e : cnt c 12 = 1 := by simp [cnt]
    have h1 := hi.2.1
    have h2 := h.b64
    have h3 := limit_pos h
    rw [he]
    omega
  have hF : 0 ≤ fTop c ∧ fTop c ≤ 18100 := fromP_bd h 12
  have d0 : decide (i < 0) = false := by simp; have := hi.1; omega
  have d1 : decide (i ≥ cnt c 12) = false := by simp; exact hi.2.1
  have d2 : decide (k < 0) = false := by simp; have := hi.2.2.1; omega
  have d3 : decide (k ≥ eachP c 12) = false := by simp; exact hi.2.2.2
  have hm := Blk.new w 31 (mapCells c)
  have hsz : (mapCells c).length = 24 := rfl
  have HC := Lib.hid (fun w => counts_any w c h 12)
  have HS := Lib.hid (fun w => stride_any w c h)
  unfold mapV at *
  have HM := Lib.hid hm; clear hm
  have g : (mapCells c)[18]? = some (.int .i64 (fTop c)) := rfl
  rw [he2] at *
  generalize mapCells c = cs at *
  generalize cnt c 12 = n at *
  generalize each c 12 = sz at *
  generalize fTop c = F at *
  clear HS h hi he he2
  go_enter Try.func37, Try.ntmps37
  go_wp2_with (refine wpList_load_any 31 _ rfl rfl _ 0 rfl cs _ HM.out.range Try.underlying31 rfl (by rw [hsz]; kernel_rfl) ?_)
  refine (HC.out _).mono ?_
  rintro e w1 ⟨rfl, hf⟩
  have HM1 := Lib.hid (HM.out.fr hf (by simp))
  have HF := Lib.hid (((Fr.refl [] w).alloc _).trans hf); clear hf
  have c13 : w1.cell? ⟨w.heap.size, 18, none⟩ = some (.int .i64 F) := (HM1.out.cell 18).trans g
  go_wp2_with fail
  go_ret
  generalize F + i * sz + k = res
  exact ⟨rfl, HF.out⟩
set_option maxHeartbeats 1000000 in
theorem at_13 (w : World) (c : Cfg) (h : Ok c) (i k : Int) (hi : Is c 13 i k) : Calls Try.prog 37 #[mapV c, .int .i64 13, .int .i64 i, .int .i64 k] w fun e w' => e = .returned (.int .i64 (fStack c + i * each c 13 + k)) ∧ Fr [] w w' := by
  have he : each c 13 = 1 := by simp [each]
  have he2 : eachP c 13 = each c 13 := by simp [eachP]
  have hi0 : 0 ≤ i := hi.1
  have hk0 : 0 ≤ k := hi.2.2.1
  have hk1 : k ≤ 8 := by
    have := hi.2.2.2
    omega
  have hib : 0 ≤ i * each c 13 ∧ i * each c 13 ≤ 4160 := by
    have e : cnt c 13 = c.b := by simp [cnt]
    have h1 := hi.2.1
    have h2 := h.b64
    have h3 := limit_pos h
    rw [he]
    omega
  have hF : 0 ≤ fStack c ∧ fStack c ≤ 18100 := fromP_bd h 13
  have d0 : decide (i < 0) = false := by simp; have := hi.1; omega
  have d1 : decide (i ≥ cnt c 13) = false := by simp; exact hi.2.1
  have d2 : decide (k < 0) = false := by simp; have := hi.2.2.1; omega
  have d3 : decide (k ≥ eachP c 13) = false := by simp; exact hi.2.2.2
  have hm := Blk.new w 31 (mapCells c)
  have hsz : (mapCells c).length = 24 := rfl
  have HC := Lib.hid (fun w => counts_any w c h 13)
  have HS := Lib.hid (fun w => stride_any w c h)
  unfold mapV at *
  have HM := Lib.hid hm; clear hm
  have g : (mapCells c)[19]? = some (.int .i64 (fStack c)) := rfl
  rw [he2] at *
  generalize mapCells c = cs at *
  generalize cnt c 13 = n at *
  generalize each c 13 = sz at *
  generalize fStack c = F at *
  clear HS h hi he he2
  go_enter Try.func37, Try.ntmps37
  go_wp2_with (refine wpList_load_any 31 _ rfl rfl _ 0 rfl cs _ HM.out.range Try.underlying31 rfl (by rw [hsz]; kernel_rfl) ?_)
  refine (HC.out _).mono ?_
  rintro e w1 ⟨rfl, hf⟩
  have HM1 := Lib.hid (HM.out.fr hf (by simp))
  have HF := Lib.hid (((Fr.refl [] w).alloc _).trans hf); clear hf
  have c13 : w1.cell? ⟨w.heap.size, 19, none⟩ = some (.int .i64 F) := (HM1.out.cell 19).trans g
  go_wp2_with fail
  go_ret
  generalize F + i * sz + k = res
  exact ⟨rfl, HF.out⟩
set_option maxHeartbeats 1000000 in
theorem at_14 (w : World) (c : Cfg) (h : Ok c) (i k : Int) (hi : Is c 14 i k) : Calls Try.prog 37 #[mapV c, .int .i64 14, .int .i64 i, .int .i64 k] w fun e w' => e = .returned (.int .i64 (fLim c + i * each c 14 + k)) ∧ Fr [] w w' := by
  have he : each c 14 = 1 := by simp [each]
  have he2 : eachP c 14 = each c 14 := by simp [eachP]
  have hi0 : 0 ≤ i := hi.1
  have hk0 : 0 ≤ k := hi.2.2.1
  have hk1 : k ≤ 8 := by
    have := hi.2.2.2
    omega
  have hib : 0 ≤ i * each c 14 ∧ i * each c 14 ≤ 4160 := by
    have e : cnt c 14 = 1 := by simp [cnt]
    have h1 := hi.2.1
    have h2 := h.b64
    have h3 := limit_pos h
    rw [he]
    omega
  have hF : 0 ≤ fLim c ∧ fLim c ≤ 18100 := fromP_bd h 14
  have d0 : decide (i < 0) = false := by simp; have := hi.1; omega
  have d1 : decide (i ≥ cnt c 14) = false := by simp; exact hi.2.1
  have d2 : decide (k < 0) = false := by simp; have := hi.2.2.1; omega
  have d3 : decide (k ≥ eachP c 14) = false := by simp; exact hi.2.2.2
  have hm := Blk.new w 31 (mapCells c)
  have hsz : (mapCells c).length = 24 := rfl
  have HC := Lib.hid (fun w => counts_any w c h 14)
  have HS := Lib.hid (fun w => stride_any w c h)
  unfold mapV at *
  have HM := Lib.hid hm; clear hm
  have g : (mapCells c)[20]? = some (.int .i64 (fLim c)) := rfl
  rw [he2] at *
  generalize mapCells c = cs at *
  generalize cnt c 14 = n at *
  generalize each c 14 = sz at *
  generalize fLim c = F at *
  clear HS h hi he he2
  go_enter Try.func37, Try.ntmps37
  go_wp2_with (refine wpList_load_any 31 _ rfl rfl _ 0 rfl cs _ HM.out.range Try.underlying31 rfl (by rw [hsz]; kernel_rfl) ?_)
  refine (HC.out _).mono ?_
  rintro e w1 ⟨rfl, hf⟩
  have HM1 := Lib.hid (HM.out.fr hf (by simp))
  have HF := Lib.hid (((Fr.refl [] w).alloc _).trans hf); clear hf
  have c13 : w1.cell? ⟨w.heap.size, 20, none⟩ = some (.int .i64 F) := (HM1.out.cell 20).trans g
  go_wp2_with fail
  go_ret
  generalize F + i * sz + k = res
  exact ⟨rfl, HF.out⟩
set_option maxHeartbeats 1000000 in
theorem at_15 (w : World) (c : Cfg) (h : Ok c) (i k : Int) (hi : Is c 15 i k) : Calls Try.prog 37 #[mapV c, .int .i64 15, .int .i64 i, .int .i64 k] w fun e w' => e = .returned (.int .i64 (fLimbo c + i * each c 15 + k)) ∧ Fr [] w w' := by
  have he : each c 15 = 1 := by simp [each]
  have he2 : eachP c 15 = each c 15 := by simp [eachP]
  have hi0 : 0 ≤ i := hi.1
  have hk0 : 0 ≤ k := hi.2.2.1
  have hk1 : k ≤ 8 := by
    have := hi.2.2.2
    omega
  have hib : 0 ≤ i * each c 15 ∧ i * each c 15 ≤ 4160 := by
    have e : cnt c 15 = limit c := by simp [cnt]
    have h1 := hi.2.1
    have h2 := h.b64
    have h3 := limit_pos h
    rw [he]
    omega
  have hF : 0 ≤ fLimbo c ∧ fLimbo c ≤ 18100 := fromP_bd h 15
  have d0 : decide (i < 0) = false := by simp; have := hi.1; omega
  have d1 : decide (i ≥ cnt c 15) = false := by simp; exact hi.2.1
  have d2 : decide (k < 0) = false := by simp; have := hi.2.2.1; omega
  have d3 : decide (k ≥ eachP c 15) = false := by simp; exact hi.2.2.2
  have hm := Blk.new w 31 (mapCells c)
  have hsz : (mapCells c).length = 24 := rfl
  have HC := Lib.hid (fun w => counts_any w c h 15)
  have HS := Lib.hid (fun w => stride_any w c h)
  unfold mapV at *
  have HM := Lib.hid hm; clear hm
  have g : (mapCells c)[21]? = some (.int .i64 (fLimbo c)) := rfl
  rw [he2] at *
  generalize mapCells c = cs at *
  generalize cnt c 15 = n at *
  generalize each c 15 = sz at *
  generalize fLimbo c = F at *
  clear HS h hi he he2
  go_enter Try.func37, Try.ntmps37
  go_wp2_with (refine wpList_load_any 31 _ rfl rfl _ 0 rfl cs _ HM.out.range Try.underlying31 rfl (by rw [hsz]; kernel_rfl) ?_)
  refine (HC.out _).mono ?_
  rintro e w1 ⟨rfl, hf⟩
  have HM1 := Lib.hid (HM.out.fr hf (by simp))
  have HF := Lib.hid (((Fr.refl [] w).alloc _).trans hf); clear hf
  have c13 : w1.cell? ⟨w.heap.size, 21, none⟩ = some (.int .i64 F) := (HM1.out.cell 21).trans g
  go_wp2_with fail
  go_ret
  generalize F + i * sz + k = res
  exact ⟨rfl, HF.out⟩
set_option maxHeartbeats 1000000 in
theorem at_16 (w : World) (c : Cfg) (h : Ok c) (i k : Int) (hi : Is c 16 i k) : Calls Try.prog 37 #[mapV c, .int .i64 16, .int .i64 i, .int .i64 k] w fun e w' => e = .returned (.int .i64 (fWord c + i * each c 16 + k)) ∧ Fr [] w w' := by
  have he : each c 16 = 8 := by simp [each]
  have he2 : eachP c 16 = each c 16 := by simp [eachP]
  have hi0 : 0 ≤ i := hi.1
  have hk0 : 0 ≤ k := hi.2.2.1
  have hk1 : k ≤ 8 := by
    have := hi.2.2.2
    omega
  have hib : 0 ≤ i * each c 16 ∧ i * each c 16 ≤ 4160 := by
    have e : cnt c 16 = c.b := by simp [cnt]
    have h1 := hi.2.1
    have h2 := h.b64
    have h3 := limit_pos h
    rw [he]
    omega
  have hF : 0 ≤ fWord c ∧ fWord c ≤ 18100 := fromP_bd h 16
  have d0 : decide (i < 0) = false := by simp; have := hi.1; omega
  have d1 : decide (i ≥ cnt c 16) = false := by simp; exact hi.2.1
  have d2 : decide (k < 0) = false := by simp; have := hi.2.2.1; omega
  have d3 : decide (k ≥ eachP c 16) = false := by simp; exact hi.2.2.2
  have hm := Blk.new w 31 (mapCells c)
  have hsz : (mapCells c).length = 24 := rfl
  have HC := Lib.hid (fun w => counts_any w c h 16)
  have HS := Lib.hid (fun w => stride_any w c h)
  unfold mapV at *
  have HM := Lib.hid hm; clear hm
  have g : (mapCells c)[22]? = some (.int .i64 (fWord c)) := rfl
  rw [he2] at *
  generalize mapCells c = cs at *
  generalize cnt c 16 = n at *
  generalize each c 16 = sz at *
  generalize fWord c = F at *
  clear HS h hi he he2
  go_enter Try.func37, Try.ntmps37
  go_wp2_with (refine wpList_load_any 31 _ rfl rfl _ 0 rfl cs _ HM.out.range Try.underlying31 rfl (by rw [hsz]; kernel_rfl) ?_)
  refine (HC.out _).mono ?_
  rintro e w1 ⟨rfl, hf⟩
  have HM1 := Lib.hid (HM.out.fr hf (by simp))
  have HF := Lib.hid (((Fr.refl [] w).alloc _).trans hf); clear hf
  have c13 : w1.cell? ⟨w.heap.size, 22, none⟩ = some (.int .i64 F) := (HM1.out.cell 22).trans g
  go_wp2_with fail
  go_ret
  generalize F + i * sz + k = res
  exact ⟨rfl, HF.out⟩
theorem at_any (w : World) (c : Cfg) (h : Ok c) (kind i k : Int) : Calls Try.prog 37 #[mapV c, .int .i64 kind, .int .i64 i, .int .i64 k] w fun e w' => e = .returned (.int .i64 (at_ c kind i k)) ∧ Fr [] w w' := by
  unfold at_
  by_cases hi : Is c kind i k
  · rw [if_pos hi]
    rcases kinds (is_kind hi) with rfl | rfl | rfl | rfl | rfl | rfl | rfl | rfl | rfl | rfl | rfl | rfl | rfl | rfl | rfl | rfl | rfl
    · exact at_0 w c h i k hi
    · rw [show place c 1 i k = 1 + i * stride c + k by simp [place, ownOf]]; exact at_1 w c h i k hi
    · rw [show place c 2 i k = 1 + i * stride c + 1 + k by simp [place, ownOf]]; exact at_2 w c h i k hi
    · rw [show place c 3 i k = 1 + i * stride c + 5 + k by simp [place, ownOf]]; exact at_3 w c h i k hi
    · rw [show place c 4 i k = 1 + i * stride c + 6 + k by simp [place, ownOf]]; exact at_4 w c h i k hi
    · rw [show place c 5 i k = 1 + i * stride c + 7 + k by simp [place, ownOf]]; exact at_5 w c h i k hi
    · rw [show place c 6 i k = 1 + i * stride c + 8 + k by simp [place, ownOf]]; exact at_6 w c h i k hi
    · rw [show place c 7 i k = fTag c + i * 3 by simp [place]]; exact at_7 w c h i k hi
    · rw [show place c 8 i k = fTag c + i * 3 + 8 - 7 by simp [place]]; exact at_8 w c h i k hi
    · rw [show place c 9 i k = fTag c + i * 3 + 9 - 7 by simp [place]]; exact at_9 w c h i k hi
    · rw [show place c 10 i k = fRoot c + i * each c 10 + k by simp [place, fromP]]; exact at_10 w c h i k hi
    · rw [show place c 11 i k = fLife c + i * each c 11 + k by simp [place, fromP]]; exact at_11 w c h i k hi
    · rw [show place c 12 i k = fTop c + i * each c 12 + k by simp [place, fromP]]; exact at_12 w c h i k hi
    · rw [show place c 13 i k = fStack c + i * each c 13 + k by simp [place, fromP]]; exact at_13 w c h i k hi
    · rw [show place c 14 i k = fLim c + i * each c 14 + k by simp [place, fromP]]; exact at_14 w c h i k hi
    · rw [show place c 15 i k = fLimbo c + i * each c 15 + k by simp [place, fromP]]; exact at_15 w c h i k hi
    · rw [show place c 16 i k = fWord c + i * each c 16 + k by simp [place, fromP]]; exact at_16 w c h i k hi
  · rw [if_neg hi]
    by_cases h0 : i < 0
    · exact at_bad1 w c h kind i k (by simpa using h0)
    by_cases h1 : cnt c kind ≤ i
    · exact at_bad2 w c h kind i k (by simpa using h0) (by simpa using h1)
    by_cases h2 : k < 0
    · exact at_bad3 w c h kind i k (by simpa using h0) (by simpa using h1) (by simpa using h2)
    by_cases h3 : eachP c kind ≤ k
    · exact at_bad4 w c h kind i k (by simpa using h0) (by simpa using h1) (by simpa using h2) (by simpa using h3)
    exact absurd ⟨by omega, by omega, by omega, by omega⟩ hi
end Go.Proofs.Ytccioehckfdjdaa
