/- The law PoolFrees, walked. -/
import Derived.Test.YtccioehckfdjdaaPlaw
import Derived.Test.YtccioehckfdjdaaMJoin
import Derived.Test.YtccioehckfdjdaaPalive
import Derived.Test.YtccioehckfdjdaaPl0
import Derived.Test.YtccioehckfdjdaaMArg
set_option linter.unusedSimpArgs false
set_option linter.unusedVariables false
namespace Go.Tum
/-- Numbers, each once, and which: told by how often each was met. -/
structure Seen (c : Y.Cfg) (D K : List Int) (f : Int → Int) : Prop where
  nd : D.Nodup
  bd : ∀ b ∈ D, 0 ≤ b ∧ b < c.b
  len : K.length ≤ D.length
  f0 : ∀ z, z ∉ D → f z = 0
  f1 : ∀ z, z ∈ D → f z = 1
theorem Seen.next {c : Y.Cfg} {D K : List Int} {f : Int → Int} (h : Seen c D K f) {b : Int} (hb : 0 ≤ b ∧ b < c.b) (hn : b ∉ D) : Seen c (D ++ [b]) (if b ∈ K then K else b :: K) (fun z => if z = b then 1 else f z) := by
  refine ⟨?_, ?_, ?_, ?_, ?_⟩
  · rw [List.nodup_append]
    exact ⟨h.nd, by simp, fun x hx y hy => by simp at hy; subst hy; exact fun e => hn (e ▸ hx)⟩
  · intro x hx
    rcases List.mem_append.1 hx with hx | hx
    · exact h.bd x hx
    · simp at hx; subst hx; exact hb
  · have := h.len
    split <;> simp <;> omega
  · intro z hz
    simp at hz
    rw [if_neg hz.2]
    exact h.f0 z hz.1
  · intro z hz
    by_cases e : z = b
    · rw [if_pos e]
    · rw [if_neg e]
      refine h.f1 z ?_
      rcases List.mem_append.1 hz with hz | hz
      · exact hz
      · simp at hz; exact absurd hz e
theorem Seen.few {c : Y.Cfg} {D K : List Int} {f : Int → Int} (h : Seen c D K f) (hb : 0 ≤ c.b) : (D.length : Int) ≤ c.b := by
  have h2 : D ⊆ (List.range c.b.toNat).map (fun n : Nat => (n : Int)) := fun b hb2 => by
    have := h.bd b hb2
    exact List.mem_map.2 ⟨b.toNat, by simp; omega, by omega⟩
  have := List.Nodup.length_le_of_subset h.nd h2
  simp at this
  omega
namespace P
open Go.Tum.Y
theorem mem_free {f : Int → Int} {L : List Int} {b : Int} (hb : b ∈ L) : b ∈ freeL f L ↔ f (b + 1) = 0 := by
  unfold freeL
  simp [List.mem_filter, hb]
theorem fz_at {c : Cfg} {f : Int → Int} {top : Int} {LL : List Int} {p : St} {s : W.S} {kept : Int} (h : Fz c f top LL p s kept) (hb : ∀ b ∈ LL, 0 ≤ b ∧ b < c.b) (m : Nat) (hm : m < LL.length) :
    (f (LL[m] + 1) = 0 → W.get s (at_ c 11 LL[m] 0) = (0, true) ∧ W.get s (at_ c 13 (top + ((freeL f (LL.take m)).length : Int)) 0) = (LL[m], true) ∧ (freeL f (LL.take (m + 1))).length = (freeL f (LL.take m)).length + 1 ∧ keptL f (LL.take (m + 1)) = keptL f (LL.take m)) ∧
    (f (LL[m] + 1) ≠ 0 → (W.get s (at_ c 11 LL[m] 0)).2 = false ∧ (freeL f (LL.take (m + 1))).length = (freeL f (LL.take m)).length ∧ keptL f (LL.take (m + 1)) = keptL f (LL.take m) ++ [LL[m]]) := by
  have hmem : LL[m] ∈ LL := List.getElem_mem hm
  have e : LL.take (m + 1) = LL.take m ++ [LL[m]] := by rw [List.take_succ_eq_append_getElem hm]
  rw [e, freeL_snoc, keptL_snoc]
  refine ⟨fun h0 => ?_, fun h0 => ?_⟩
  · rw [if_pos h0, if_pos h0]
    obtain ⟨h1, h2⟩ := free_at f LL m hm h0
    refine ⟨h.life1 _ ((mem_free hmem).2 h0), ?_, by simp, rfl⟩
    rw [h.stack _ h1, h2]
  · rw [if_neg h0, if_neg h0]
    refine ⟨h.life2 _ (hb _ hmem).1 (hb _ hmem).2 (fun hx => h0 ((mem_free hmem).1 hx)), rfl, rfl⟩
theorem bumps_mem (A : List Int) (z : Int) : bumps (fun _ => 0) A z = 0 ↔ z ∉ A := by
  have := (bumps_zero A (fun _ => 0) z (fun _ => Int.le_refl _)).2
  rw [this]; simp
theorem mem_next (A : List Int) (q : Nat) (h : q < A.length) (y : Int) : decide (y ∈ A.take (q + 1)) = (decide (y ∈ A.take q) || (A[q] == y)) := by
  rw [List.take_succ_eq_append_getElem h]
  generalize A.take q = T
  generalize A[q] = a
  by_cases h1 : y ∈ T
  · simp [h1]
  · by_cases h2 : a = y
    · simp [h1, h2]
    · simp [h1, h2, Ne.symm h2]
end P
end Go.Tum
namespace Go.Proofs.Ytccioehckfdjdaa
open Go.RowKit Go.Tum Go.Tum.Y
theorem P_infoI : (Try.prog.info? 3).map (fun i => (i.zero, i.size, i.bytes)) = some (some (.int .i64 0), 1, 8) := by kernel_rfl
theorem tmodF {q t r : Int} (h : Int.tmod q t = r) (h0 : 0 ≤ q) (ht : 1 ≤ t) : 0 ≤ r ∧ r < t := by
  subst h
  exact ⟨Int.tmod_nonneg _ h0, Int.tmod_lt_of_pos _ (by omega)⟩
theorem rlimit10_any (w : World) (c : Cfg) (h : Y.Ok c) : Calls Try.prog 31 #[.agg #[.int .i64 c.t, .int .i64 c.b, .int .i64 c.w, .int .i64 c.f, .int .u64 c.fi, .int .u64 c.la]] w fun e w' => e = .returned (.int .i64 (limit c)) ∧ Fr [] w w' := rlimit_any w c h
set_option maxRecDepth 100000 in
set_option maxHeartbeats 4000000 in
theorem pfrees_s0 (w : World) (c : Cfg) (sa la : Option Addr) (sm sc lm lc : Nat) (top : Int) (hrc : right c = false) : Calls Try.prog 5 #[cfgV c, .slice sa sm sc, .slice la lm lc, .int .i64 top] w fun e w' => e = .returned (.bool true) ∧ Fr [] w w' := by
  have g0 : (cfgL c)[0]? = some (.int .i64 c.t) := rfl
  have g1 : (cfgL c)[1]? = some (.int .i64 c.b) := rfl
  have g2 : (cfgL c)[2]? = some (.int .i64 c.w) := rfl
  have g3 : (cfgL c)[3]? = some (.int .i64 c.f) := rfl
  have g4 : (cfgL c)[4]? = some (.int .u64 c.fi) := rfl
  have g5 : (cfgL c)[5]? = some (.int .u64 c.la) := rfl
  have HS := Lib.hid ((Sep.nil (Fr.refl [] w)).new 24 (cfgL c))
  have HR := Lib.hid (fun w => rright10_any w c)
  have hsz6 : (cfgL c).length = 6 := rfl
  rw [show cfgV c = .agg (cfgL c).toArray from rfl]
  generalize cfgL c = cl at *
  go_enter Try.func5, Try.ntmps5
  go_wp2_with fail
  refine (alive10_any _).mono ?_
  rintro e w1 ⟨rfl, hf⟩
  have HS := Lib.hid (HS.out.fr0 hf)
  clear hf
  go_wp2_with (first | (refine wpList_load_any 24 _ rfl rfl _ 0 rfl cl _ (HS.out.blk 0 rfl).range Try.underlying24 rfl (by rw [hsz6]; kernel_rfl) ?_))
  refine (HR.out _).mono ?_
  rintro e w1 ⟨rfl, hf⟩
  have HS := Lib.hid (HS.out.fr0 hf)
  clear hf
  rw [hrc]
  have c0 := ((HS.out.blk 0 rfl).cell 0).trans g0
  have c1 := ((HS.out.blk 0 rfl).cell 1).trans g1
  have c2 := ((HS.out.blk 0 rfl).cell 2).trans g2
  have c3 := ((HS.out.blk 0 rfl).cell 3).trans g3
  have c4 := ((HS.out.blk 0 rfl).cell 4).trans g4
  have c5 := ((HS.out.blk 0 rfl).cell 5).trans g5
  have kl := (HS.out.blk 0 rfl).lt
  go_wp2_with fail
  go_ret
  exact ⟨rfl, HS.out.fr⟩
set_option maxRecDepth 100000 in
set_option maxHeartbeats 4000000 in
theorem pfrees_s1 (w : World) (c : Cfg) (sa la : Option Addr) (sm sc lm lc : Nat) (top : Int) (hrc : right c = true) (d1 : decide ((sm : Int) < c.t) = true) : Calls Try.prog 5 #[cfgV c, .slice sa sm sc, .slice la lm lc, .int .i64 top] w fun e w' => e = .returned (.bool true) ∧ Fr [] w w' := by
  have g0 : (cfgL c)[0]? = some (.int .i64 c.t) := rfl
  have g1 : (cfgL c)[1]? = some (.int .i64 c.b) := rfl
  have g2 : (cfgL c)[2]? = some (.int .i64 c.w) := rfl
  have g3 : (cfgL c)[3]? = some (.int .i64 c.f) := rfl
  have g4 : (cfgL c)[4]? = some (.int .u64 c.fi) := rfl
  have g5 : (cfgL c)[5]? = some (.int .u64 c.la) := rfl
  have HS := Lib.hid ((Sep.nil (Fr.refl [] w)).new 24 (cfgL c))
  have HR := Lib.hid (fun w => rright10_any w c)
  have hsz6 : (cfgL c).length = 6 := rfl
  rw [show cfgV c = .agg (cfgL c).toArray from rfl]
  generalize cfgL c = cl at *
  go_enter Try.func5, Try.ntmps5
  go_wp2_with fail
  refine (alive10_any _).mono ?_
  rintro e w1 ⟨rfl, hf⟩
  have HS := Lib.hid (HS.out.fr0 hf)
  clear hf
  go_wp2_with (first | (refine wpList_load_any 24 _ rfl rfl _ 0 rfl cl _ (HS.out.blk 0 rfl).range Try.underlying24 rfl (by rw [hsz6]; kernel_rfl) ?_))
  refine (HR.out _).mono ?_
  rintro e w1 ⟨rfl, hf⟩
  have HS := Lib.hid (HS.out.fr0 hf)
  clear hf
  rw [hrc]
  have c0 := ((HS.out.blk 0 rfl).cell 0).trans g0
  have c1 := ((HS.out.blk 0 rfl).cell 1).trans g1
  have c2 := ((HS.out.blk 0 rfl).cell 2).trans g2
  have c3 := ((HS.out.blk 0 rfl).cell 3).trans g3
  have c4 := ((HS.out.blk 0 rfl).cell 4).trans g4
  have c5 := ((HS.out.blk 0 rfl).cell 5).trans g5
  have kl := (HS.out.blk 0 rfl).lt
  go_wp2_with fail
  go_ret
  exact ⟨rfl, HS.out.fr⟩
set_option maxRecDepth 100000 in
set_option maxHeartbeats 4000000 in
theorem pfrees_s2 (w : World) (c : Cfg) (sa la : Option Addr) (sm sc lm lc : Nat) (top : Int) (hrc : right c = true) (d1 : decide ((sm : Int) < c.t) = false) (d2 : decide ((lm : Int) > 8) = true) : Calls Try.prog 5 #[cfgV c, .slice sa sm sc, .slice la lm lc, .int .i64 top] w fun e w' => e = .returned (.bool true) ∧ Fr [] w w' := by
  have g0 : (cfgL c)[0]? = some (.int .i64 c.t) := rfl
  have g1 : (cfgL c)[1]? = some (.int .i64 c.b) := rfl
  have g2 : (cfgL c)[2]? = some (.int .i64 c.w) := rfl
  have g3 : (cfgL c)[3]? = some (.int .i64 c.f) := rfl
  have g4 : (cfgL c)[4]? = some (.int .u64 c.fi) := rfl
  have g5 : (cfgL c)[5]? = some (.int .u64 c.la) := rfl
  have HS := Lib.hid ((Sep.nil (Fr.refl [] w)).new 24 (cfgL c))
  have HR := Lib.hid (fun w => rright10_any w c)
  have hsz6 : (cfgL c).length = 6 := rfl
  rw [show cfgV c = .agg (cfgL c).toArray from rfl]
  generalize cfgL c = cl at *
  go_enter Try.func5, Try.ntmps5
  go_wp2_with fail
  refine (alive10_any _).mono ?_
  rintro e w1 ⟨rfl, hf⟩
  have HS := Lib.hid (HS.out.fr0 hf)
  clear hf
  go_wp2_with (first | (refine wpList_load_any 24 _ rfl rfl _ 0 rfl cl _ (HS.out.blk 0 rfl).range Try.underlying24 rfl (by rw [hsz6]; kernel_rfl) ?_))
  refine (HR.out _).mono ?_
  rintro e w1 ⟨rfl, hf⟩
  have HS := Lib.hid (HS.out.fr0 hf)
  clear hf
  rw [hrc]
  have c0 := ((HS.out.blk 0 rfl).cell 0).trans g0
  have c1 := ((HS.out.blk 0 rfl).cell 1).trans g1
  have c2 := ((HS.out.blk 0 rfl).cell 2).trans g2
  have c3 := ((HS.out.blk 0 rfl).cell 3).trans g3
  have c4 := ((HS.out.blk 0 rfl).cell 4).trans g4
  have c5 := ((HS.out.blk 0 rfl).cell 5).trans g5
  have kl := (HS.out.blk 0 rfl).lt
  go_wp2_with fail
  go_ret
  exact ⟨rfl, HS.out.fr⟩
set_option maxRecDepth 100000 in
set_option maxHeartbeats 4000000 in
theorem pfrees_s3 (w : World) (c : Cfg) (sa la : Option Addr) (sm sc lm lc : Nat) (top : Int) (hok : Y.Ok c) (d1 : decide ((sm : Int) < c.t) = false) (d2 : decide ((lm : Int) > 8) = false) (d3 : decide ((lm : Int) > limit c) = true) : Calls Try.prog 5 #[cfgV c, .slice sa sm sc, .slice la lm lc, .int .i64 top] w fun e w' => e = .returned (.bool true) ∧ Fr [] w w' := by
  have hrc : right c = true := decide_eq_true hok
  have HRL := Lib.hid (fun w => rlimit10_any w c hok)
  have g0 : (cfgL c)[0]? = some (.int .i64 c.t) := rfl
  have g1 : (cfgL c)[1]? = some (.int .i64 c.b) := rfl
  have g2 : (cfgL c)[2]? = some (.int .i64 c.w) := rfl
  have g3 : (cfgL c)[3]? = some (.int .i64 c.f) := rfl
  have g4 : (cfgL c)[4]? = some (.int .u64 c.fi) := rfl
  have g5 : (cfgL c)[5]? = some (.int .u64 c.la) := rfl
  have HS := Lib.hid ((Sep.nil (Fr.refl [] w)).new 24 (cfgL c))
  have HR := Lib.hid (fun w => rright10_any w c)
  have hsz6 : (cfgL c).length = 6 := rfl
  rw [show cfgV c = .agg (cfgL c).toArray from rfl]
  generalize cfgL c = cl at *
  go_enter Try.func5, Try.ntmps5
  go_wp2_with fail
  refine (alive10_any _).mono ?_
  rintro e w1 ⟨rfl, hf⟩
  have HS := Lib.hid (HS.out.fr0 hf)
  clear hf
  go_wp2_with (first | (refine wpList_load_any 24 _ rfl rfl _ 0 rfl cl _ (HS.out.blk 0 rfl).range Try.underlying24 rfl (by rw [hsz6]; kernel_rfl) ?_))
  refine (HR.out _).mono ?_
  rintro e w1 ⟨rfl, hf⟩
  have HS := Lib.hid (HS.out.fr0 hf)
  clear hf
  rw [hrc]
  have c0 := ((HS.out.blk 0 rfl).cell 0).trans g0
  have c1 := ((HS.out.blk 0 rfl).cell 1).trans g1
  have c2 := ((HS.out.blk 0 rfl).cell 2).trans g2
  have c3 := ((HS.out.blk 0 rfl).cell 3).trans g3
  have c4 := ((HS.out.blk 0 rfl).cell 4).trans g4
  have c5 := ((HS.out.blk 0 rfl).cell 5).trans g5
  have kl := (HS.out.blk 0 rfl).lt
  go_wp2_with fail
  refine (HRL.out _).mono ?_
  rintro e w2 ⟨rfl, hf⟩
  have HS := Lib.hid (HS.out.fr0 hf)
  go_wp2_with fail
  go_ret
  exact ⟨rfl, HS.out.fr⟩
set_option maxRecDepth 100000 in
set_option maxHeartbeats 16000000 in
theorem pfrees_main (w : World) (c : Cfg) (hok : Y.Ok c) (sa la : Option Addr) (sm sc lm lc : Nat) (top : Int) (SL LL : List Int) (hsm : sm = SL.length) (hlm : lm = LL.length) (hst : c.t ≤ (sm : Int)) (hl8 : lm ≤ 8) (hll : (lm : Int) ≤ limit c)
    (hSA : ArgE enU 1 w (.slice sa sm sc) SL) (hSG : ∀ x ∈ SL, goodU x) (hLA : ArgE enI 1 w (.slice la lm lc) LL) (hLG : ∀ x ∈ LL, goodI x) : Calls Try.prog 5 #[cfgV c, .slice sa sm sc, .slice la lm lc, .int .i64 top] w fun e w' => e = .returned (.bool true) ∧ Fr [] w w' := by
  have hrc : right c = true := decide_eq_true hok
  have d1 : decide ((sm : Int) < c.t) = false := by simp; omega
  have d2 : decide ((lm : Int) > 8) = false := by simp; omega
  have d3 : decide ((lm : Int) > limit c) = false := by simp; omega
  have HRL := Lib.hid (fun w => rlimit10_any w c hok)
  obtain ⟨i0, hi0, hz0, hz1, hz2⟩ := info_parts P_infoU
  obtain ⟨j0, hj0, hj1, hj2, hj3⟩ := info_parts P_infoI
  have hb1 := hok.b1
  have hb64 := hok.b64
  have hlim := limit_pos hok
  obtain ⟨tn, htn⟩ : ∃ tn : Nat, c.t = (tn : Int) := ⟨c.t.toNat, by have := hok.t1; omega⟩
  have ht8 : tn ≤ 8 := by have := hok.t8; omega
  have ht1 : 1 ≤ tn := by have := hok.t1; omega
  have HOF := Lib.hid (fun w => of10_any w c hok)
  have HRD := Lib.hid (fun (w' : World) (R : List Thing) seq l hl hg oa n oc hn hS => pcells_read (w0 := w) (w := w') (R := R) c hok seq l hl hg oa n oc hn hS)
  have HAT := Lib.hid (fun w kind i k => at_any w c hok kind i k)
  have hsz : (mapCells c).length = 24 := rfl
  have hone := oneMapP c
  have g0 : (cfgL c)[0]? = some (.int .i64 c.t) := rfl
  have g1 : (cfgL c)[1]? = some (.int .i64 c.b) := rfl
  have g2 : (cfgL c)[2]? = some (.int .i64 c.w) := rfl
  have g3 : (cfgL c)[3]? = some (.int .i64 c.f) := rfl
  have g4 : (cfgL c)[4]? = some (.int .u64 c.fi) := rfl
  have g5 : (cfgL c)[5]? = some (.int .u64 c.la) := rfl
  rw [htn] at g0 d1 HRL hst
  have HOK := Lib.hid hok
  have HTN := Lib.hid htn
  obtain ⟨A, hAd⟩ : ∃ A, SL.take tn = A := ⟨_, rfl⟩
  have hAl : tn = A.length := by rw [← hAd, List.length_take]; omega
  have hAA := hSA.takeU tn (by omega)
  rw [hAd] at hAA
  obtain ⟨sx, rfl, _⟩ := hAA.rowU (fun e => by rw [e] at hAl; simp at hAl; omega)
  have HAC : Hid (∀ w', Fr [] w w' → ∀ j u, (A.map (Value.int .u64))[j]? = some u → w'.cell? (sx.add j) = some u) := Lib.hid fun w' hf => by
    obtain ⟨x, e, h⟩ := (hAA.fr hf).rowU (fun e => by rw [e] at hAl; simp at hAl; omega)
    cases e; exact h
  have HAG : Hid (∀ x ∈ A, goodU x) := Lib.hid fun x hx => hSG x (by rw [← hAd] at hx; exact List.mem_of_mem_take hx)
  have htsc : tn ≤ sc := by
    obtain ⟨a', cap', e, hc, _⟩ := hAA
    simp only [Value.slice.injEq] at e
    omega
  have HAL := Lib.hid hAl
  have HAA := Lib.hid hAA
  clear hAl hAA hAd hSG hSA hsm
  have HLA := Lib.hid hLA
  have HLG := Lib.hid hLG
  have HLMM := Lib.hid hlm
  clear hlm hLA hLG htn
  unfold mapV at *
  generalize mapCells c = cs at *
  have hlmi : (lm : Int) ≤ 8 := by omega
  have hsmt : tn ≤ sm := by omega
  have d1n : decide (sm < tn) = false := by simp; omega
  have hmm := @run_makeMap Try.prog
  have HS := Lib.hid ((Sep.nil (Fr.refl [] w)).new 24 (cfgL c))
  have HR := Lib.hid (fun w => rright10_any w c)
  have hsz6 : (cfgL c).length = 6 := rfl
  rw [show cfgV c = .agg (cfgL c).toArray from rfl]
  generalize cfgL c = cl at *
  go_enter Try.func5, Try.ntmps5
  go_wp2_with fail
  refine (alive10_any _).mono ?_
  rintro e w1 ⟨rfl, hf⟩
  have HS := Lib.hid (HS.out.fr0 hf)
  clear hf
  go_wp2_with (first | (refine wpList_load_any 24 _ rfl rfl _ 0 rfl cl _ (HS.out.blk 0 rfl).range Try.underlying24 rfl (by rw [hsz6]; kernel_rfl) ?_))
  refine (HR.out _).mono ?_
  rintro e w1 ⟨rfl, hf⟩
  have HS := Lib.hid (HS.out.fr0 hf)
  clear hf
  rw [hrc]
  have c0 := ((HS.out.blk 0 rfl).cell 0).trans g0
  have c1 := ((HS.out.blk 0 rfl).cell 1).trans g1
  have c2 := ((HS.out.blk 0 rfl).cell 2).trans g2
  have c3 := ((HS.out.blk 0 rfl).cell 3).trans g3
  have c4 := ((HS.out.blk 0 rfl).cell 4).trans g4
  have c5 := ((HS.out.blk 0 rfl).cell 5).trans g5
  have kl := (HS.out.blk 0 rfl).lt
  go_wp2_with fail
  refine (HRL.out _).mono ?_
  rintro e w2 ⟨rfl, hf⟩
  have HS := Lib.hid ((HS.out.fr0 hf).cntNew Try.prog 3 3 .i64 .i64); clear hf c0 c1 c2 c3 c4 c5 kl
  go_wp2_with fail
  go_loopg [62] lm (fun g vi wr => ∃ (j : Nat) (K : List Int) (f : Int → Int), g + j = lm ∧ vi = .int .i64 (j : Int) ∧ Seen c (LL.take j) K f ∧ Sep w wr [cntT Try.prog 3 3 .i64 .i64 w2.heap.size K f, blkT w.heap.size 24 cl])
  case atStart => exact ⟨0, [], _, by omega, rfl, ⟨by simp, by simp, by simp, fun _ _ => rfl, by simp⟩, HS.out⟩
  case round =>
    clear HS
    obtain ⟨j, K, f, hgj, rfl, hseen, hS⟩ := hrel
    by_cases hj : j < lm
    · have hji : (j : Int) < (lm : Int) := by omega
      have hjl : j < LL.length := by have := HLMM.out; omega
      obtain ⟨x, rfl, hx, a0, a1⟩ := (HLA.out.fr hS.fr).at hjl
      have hbg := HLG.out LL[j] (List.getElem_mem hjl)
      have htk : LL.take (j + 1) = LL.take j ++ [LL[j]] := by rw [List.take_succ_eq_append_getElem hjl]
      have HTK := Lib.hid htk
      clear htk
      generalize LL[j] = b at *
      have a0 := a0 _ rfl
      clear a1
      rw [Nat.mul_one] at a0
      have hq : 0 ≤ f b ∧ f b ≤ 1 := by
        by_cases hm : b ∈ LL.take j
        · rw [hseen.f1 b hm]; decide
        · rw [hseen.f0 b hm]; decide
      have hwf : (Lit.int .i64 b).wf = true := WalkArith.wf_i64 (by unfold goodI at hbg; omega)
      obtain ⟨q, hqq⟩ : ∃ q, f b = q := ⟨_, rfl⟩
      rw [hqq] at hq
      have HQ : Hid (f b = q) := Lib.hid hqq
      clear hqq
      have hwf1 : (Lit.int .i64 (q + 1)).wf = true := WalkArith.wf_i64 (by omega)
      have hkm : K.length < maxLen := by have := hseen.len; rw [List.length_take] at this; unfold maxLen; omega
      have HS := Lib.hid hS; clear hS
      have HSE := Lib.hid hseen; clear hseen
      have k1 := ((HS.out.blk 1 rfl).cell 1).trans g1
      have kl := (HS.out.blk 1 rfl).lt
      by_cases hneg : b < 0
      · have e1 : decide (b < 0) = true := by simpa using hneg
        clear k1 kl
        go_wp2_with (first
          | (at_lookup; refine wpList_lookup_cnt HS.out 0 rfl (by rfl) _ _ 72 rfl Try.underlying3 Try.underlying72 Try.underlying3 zeroIntP rfl b rfl hwf ?_; rw [HQ.out])
          | (at_lookup; refine wpList_lookup_cnt HU.out 0 rfl (by rfl) _ _ 72 rfl Try.underlying3 Try.underlying72 Try.underlying3 zeroIntP rfl b rfl hwf ?_; rw [if_pos rfl])
          | (at_mapUpdate; go_must (refine wpList_update_cnt HS.out 0 rfl rfl _ _ _ 72 rfl Try.underlying3 Try.underlying72 Try.underlying3 rfl b rfl hwf (q + 1) rfl hwf1 hkm ?_); intro wU hU fU; have HU := Lib.hid hU; clear hU fU; have HLK := cnt_look HU.out 0 rfl Try.underlying3 Try.underlying72 Try.underlying3 zeroIntP b hwf; rw [if_pos rfl] at HLK; have k1 := ((HU.out.blk 1 rfl).cell 1).trans g1; have kl := (HU.out.blk 1 rfl).lt))
        go_ret
        exact ⟨rfl, HU.out.fr⟩
      · have e1 : decide (b < 0) = false := by simpa using hneg
        by_cases hbig : c.b ≤ b
        · have e2 : decide (b ≥ c.b) = true := by simpa using hbig
          go_wp2_with (first
            | (at_lookup; refine wpList_lookup_cnt HS.out 0 rfl (by rfl) _ _ 72 rfl Try.underlying3 Try.underlying72 Try.underlying3 zeroIntP rfl b rfl hwf ?_; rw [HQ.out])
            | (at_lookup; refine wpList_lookup_cnt HU.out 0 rfl (by rfl) _ _ 72 rfl Try.underlying3 Try.underlying72 Try.underlying3 zeroIntP rfl b rfl hwf ?_; rw [if_pos rfl])
            | (at_mapUpdate; go_must (refine wpList_update_cnt HS.out 0 rfl rfl _ _ _ 72 rfl Try.underlying3 Try.underlying72 Try.underlying3 rfl b rfl hwf (q + 1) rfl hwf1 hkm ?_); intro wU hU fU; have HU := Lib.hid hU; clear hU fU; have HLK := cnt_look HU.out 0 rfl Try.underlying3 Try.underlying72 Try.underlying3 zeroIntP b hwf; rw [if_pos rfl] at HLK; have k1 := ((HU.out.blk 1 rfl).cell 1).trans g1; have kl := (HU.out.blk 1 rfl).lt))
          go_ret
          exact ⟨rfl, HU.out.fr⟩
        · have e2 : decide (b ≥ c.b) = false := by simpa using hbig
          by_cases hq1 : q = 1
          · have e3 : decide (q + 1 > 1) = true := by simp; omega
            clear hq1 k1 kl
            go_wp2_with (first
              | (at_lookup; refine wpList_lookup_cnt HS.out 0 rfl (by rfl) _ _ 72 rfl Try.underlying3 Try.underlying72 Try.underlying3 zeroIntP rfl b rfl hwf ?_; rw [HQ.out])
              | (at_lookup; refine wpList_lookup_cnt HU.out 0 rfl (by rfl) _ _ 72 rfl Try.underlying3 Try.underlying72 Try.underlying3 zeroIntP rfl b rfl hwf ?_; rw [if_pos rfl])
              | (at_mapUpdate; go_must (refine wpList_update_cnt HS.out 0 rfl rfl _ _ _ 72 rfl Try.underlying3 Try.underlying72 Try.underlying3 rfl b rfl hwf (q + 1) rfl hwf1 hkm ?_); intro wU hU fU; have HU := Lib.hid hU; clear hU fU; have HLK := cnt_look HU.out 0 rfl Try.underlying3 Try.underlying72 Try.underlying3 zeroIntP b hwf; rw [if_pos rfl] at HLK; have k1 := ((HU.out.blk 1 rfl).cell 1).trans g1; have kl := (HU.out.blk 1 rfl).lt))
            go_ret
            exact ⟨rfl, HU.out.fr⟩
          · have e3 : decide (q + 1 > 1) = false := by simp; omega
            have hnm : b ∉ LL.take j := fun hm => by
              have := HSE.out.f1 b hm
              rw [HQ.out] at this
              exact hq1 this
            have HNX := Lib.hid (HSE.out.next (b := b) (by omega) hnm)
            have hq0 : Hid (q = 0) := Lib.hid (by omega)
            clear hq1 k1 kl
            go_wp2_with (first
              | (at_lookup; refine wpList_lookup_cnt HS.out 0 rfl (by rfl) _ _ 72 rfl Try.underlying3 Try.underlying72 Try.underlying3 zeroIntP rfl b rfl hwf ?_; rw [HQ.out])
              | (at_lookup; refine wpList_lookup_cnt HU.out 0 rfl (by rfl) _ _ 72 rfl Try.underlying3 Try.underlying72 Try.underlying3 zeroIntP rfl b rfl hwf ?_; rw [if_pos rfl])
              | (at_mapUpdate; go_must (refine wpList_update_cnt HS.out 0 rfl rfl _ _ _ 72 rfl Try.underlying3 Try.underlying72 Try.underlying3 rfl b rfl hwf (q + 1) rfl hwf1 hkm ?_); intro wU hU fU; have HU := Lib.hid hU; clear hU fU; have HLK := cnt_look HU.out 0 rfl Try.underlying3 Try.underlying72 Try.underlying3 zeroIntP b hwf; rw [if_pos rfl] at HLK; have k1 := ((HU.out.blk 1 rfl).cell 1).trans g1; have kl := (HU.out.blk 1 rfl).lt))
            go_roundg (lm - (j + 1))
            case measure => omega
            case rel =>
              refine ⟨j + 1, _, _, by omega, by go_num, ?_, HU.out⟩
              rw [HTK.out]
              have hn := HNX.out
              have := hq0.out
              subst this
              exact hn
    · obtain rfl : j = lm := by omega
      rw [List.take_of_length_le (by have := HLMM.out; omega)] at hseen
      have hfew := hseen.few (by omega)
      rw [← HLMM.out] at hfew
      have HS := Lib.hid hS.tail; clear hS
      have HND := Lib.hid hseen.nd
      have HBD := Lib.hid hseen.bd
      clear hseen
      obtain ⟨tq, htq⟩ : ∃ tq, bits .and .i64 top 63 = tq := ⟨_, rfl⟩
      have htb0 : 0 ≤ tq ∧ tq ≤ 63 := by rw [← htq]; exact and_i64_bd top 63 (by omega) (by omega)
      obtain ⟨ti, hti⟩ : ∃ ti, Int.tmod tq (c.b - (j : Int) + 1) = ti := ⟨_, rfl⟩
      have htr := tmodF hti htb0.1 (by omega)
      obtain ⟨tp, rfl⟩ : ∃ tp : Nat, ti = (tp : Int) := ⟨ti.toNat, by omega⟩
      have htb : (tp : Int) + (j : Int) ≤ c.b := by omega
      have htp63 : tp ≤ 64 := by omega
      have hdz : ¬ c.b - (j : Int) + 1 = 0 := by omega
      have k1 := ((HS.out.blk 0 rfl).cell 1).trans g1
      have kl := (HS.out.blk 0 rfl).lt
      have HS := Lib.hid (HS.out.fresh (T := rowT 0 22 1 (.slice (some ⟨wr.heap.size, 0, none⟩) 0 0) 0 []) (w' := wr.alloc (.cells #[] 22)) ⟨(Fr.refl [] wr).alloc _, [wr.heap.size], ⟨rfl, World.ownsRow_made wr #[] 0 (Nat.zero_le _) (by unfold maxLen; omega) (by simp)⟩, by simp⟩)
      have k0 := ((HS.out.blk 1 rfl).cell 0).trans g0
      have kl0 := (HS.out.blk 1 rfl).lt
      have hA0 := HAC.out _ HS.out.fr
      go_wp2_with (at_builtin; go_must (refine wpList_append_at _ rfl _ _ 63 rfl 0 22 i0 _ 1 8 Try.underlying63 hi0 hz0 hz1 hz2 rfl (by decide) (.slice (some ⟨wr.heap.size, 0, none⟩) 0 0) 0 [] rfl (HS.out.row 0 rfl) sx tn sc (A.map (Value.int .u64)) rfl (by rw [List.length_map, ← HAL.out]; simp) hA0 (by simp [Value.oneCell']) (by unfold maxLen; omega) (by omega) (Nat.zero_le _) (by simp) ?_))
      intro g c' w4 hown hg2 hgg hc1 hc2
      have h3 := (HS.out.grown 0 rfl hown hg2 (fun q e => by
        rcases hgg with h1 | h1
        · exact .inl (h1.trans e)
        · right; simp only [Value.ownBlock, Option.some.injEq] at e; rw [← e, h1]; simp))
      have h4 : Sep w w4 [rowT 0 22 1 (.slice (some ⟨g, 0, none⟩) tn c') tn (A.map (Value.int .u64)), blkT w.heap.size 24 cl] := by
        simpa using h3
      have HS := Lib.hid (h4.new 22 [.int .u64 tp, .int .u64 j])
      clear h3 h4 hown hg2 hgg hc1 hc2 k0 k1 kl kl0 hA0
      go_wp2_with (at_builtin; go_must (refine wpList_append_at _ rfl _ _ 63 rfl 0 22 i0 _ 1 8 Try.underlying63 hi0 hz0 hz1 hz2 rfl (by decide) (.slice (some ⟨g, 0, none⟩) tn c') tn (A.map (Value.int .u64)) rfl (HS.out.row 1 rfl) ⟨w4.heap.size, 0, none⟩ 2 2 [.int .u64 tp, .int .u64 j] rfl rfl (fun j u h => by have := (HS.out.blk 0 rfl).cell j; simp only [Addr.add_lit, Nat.zero_add]; rw [this, h]) (by simp [Value.oneCell']) (by unfold maxLen; omega) (by omega) (Nat.zero_le _) (by simp) ?_))
      intro g2 c2 w5 hown hg2 hgg hc1 hc2
      have h3 := (HS.out.grown 1 rfl hown hg2 (fun q e => by
        rcases hgg with h1 | h1
        · exact .inl (h1.trans e)
        · right; simp only [Value.ownBlock, Option.some.injEq] at e; rw [← e, h1]; simp)).tail
      have h4 : Sep w w5 [rowT 0 22 1 (.slice (some ⟨g2, 0, none⟩) (tn + 2 + 0) c2) (tn + 2 + 0) ((A ++ [(tp : Int), (j : Int)] ++ LL.take 0).map (Value.int .u64)), blkT w.heap.size 24 cl] := by
        simpa using h3
      have HS := Lib.hid h4
      clear h3 h4 hown hg2 hgg hc1 hc2
      go_wp2_with fail
      go_loopg [12, 110] j (fun g v12 vi wr => ∃ (i : Nat), g + i = j ∧ vi = .int .i64 (i : Int) ∧ Sep w wr [rowT 0 22 1 v12 (tn + 2 + i) ((A ++ [(tp : Int), (j : Int)] ++ LL.take i).map (Value.int .u64)), blkT w.heap.size 24 cl])
      case atStart => exact ⟨0, by omega, rfl, HS.out⟩
      case round =>
        clear HS
        obtain ⟨i, hgi, rfl, hS⟩ := hrel
        obtain ⟨oa, oc, rfl⟩ := hS.form 0 rfl
        by_cases hi : i < j
        · have hii : (i : Int) < (j : Int) := by omega
          have hil : i < LL.length := by have := HLMM.out; omega
          obtain ⟨x, rfl, hx, a0, a1⟩ := (HLA.out.fr hS.fr).at hil
          have hbb := HBD.out LL[i] (List.getElem_mem hil)
          have HTK : Hid (LL.take (i + 1) = LL.take i ++ [LL[i]]) := Lib.hid (by rw [List.take_succ_eq_append_getElem hil])
          generalize LL[i] = b at *
          have a0 := a0 _ rfl
          clear a1
          rw [Nat.mul_one] at a0
          have hbu : IntKind.u64.wrap b = b := by rw [IntKind.wrap_u64]; omega
          have HS := Lib.hid (hS.new 22 [.int .u64 b]); clear hS
          go_wp2_with (at_builtin; go_must (refine wpList_push_blk _ rfl _ _ 63 rfl 0 22 i0 _ 1 8 Try.underlying63 hi0 hz0 hz1 hz2 rfl (by decide) (.slice oa (tn + 2 + i) oc) (tn + 2 + i) ((A ++ [(tp : Int), (j : Int)] ++ LL.take i).map (Value.int .u64)) rfl (HS.out.row 1 rfl) [.int .u64 b] _ _ rfl (HS.out.blk 0 rfl) rfl (by simp [Value.oneCell']) (by unfold maxLen; omega) (by omega) (Nat.zero_le _) ?_))
          intro g3 c3 w6 hown hg2 hgg hc1 hc2
          have h3 := (HS.out.grown 1 rfl hown hg2 (fun q e => by
            rcases hgg with h1 | h1
            · exact .inl (h1.trans e)
            · right; simp only [Value.ownBlock, Option.some.injEq] at e; rw [← e, h1]; simp)).tail
          have h4 : Sep w w6 [rowT 0 22 1 (.slice (some ⟨g3, 0, none⟩) (tn + 2 + (i + 1)) c3) (tn + 2 + (i + 1)) ((A ++ [(tp : Int), (j : Int)] ++ LL.take (i + 1)).map (Value.int .u64)), blkT w.heap.size 24 cl] := by
            rw [HTK.out]
            simpa [Nat.add_assoc] using h3
          have HS := Lib.hid h4
          clear h3 h4 hown hg2 hgg hc1 hc2
          go_wp2_with fail
          go_roundg (j - (i + 1))
          case measure => omega
          case rel => exact ⟨i + 1, by omega, by go_num, HS.out⟩
        · obtain rfl : i = j := by omega
          rw [List.take_of_length_le (by have := HLMM.out; omega)] at hS
          have hlst : A ++ [(tp : Int), (i : Int)] ++ LL = A ++ (tp : Int) :: (LL.length : Int) :: LL := by rw [HLMM.out]; simp
          rw [hlst] at hS
          have hlen : (A ++ (tp : Int) :: (LL.length : Int) :: LL).length = tn + 2 + i := by rw [HLMM.out, HAL.out]; simp; omega
          have hrng : ∀ x ∈ A ++ (tp : Int) :: (LL.length : Int) :: LL, 0 ≤ x ∧ x ≤ 18446744073709551615 := fun x hx => by
            rcases List.mem_append.1 hx with hx | hx
            · exact HAG.out x hx
            · simp only [List.mem_cons] at hx
              have := HLMM.out
              rcases hx with rfl | rfl | hx
              · omega
              · omega
              · have := HBD.out x hx; omega
          have hfeed : P.feed c 5 (fives (A ++ (tp : Int) :: (LL.length : Int) :: LL)) 0 P.new0 = (P.fr0 c A LL tp, A.length + 2 + LL.length) := P.feed_all HOK.out A LL (tp : Int) (by rw [HTN.out, HAL.out]) (by omega) (by rw [← HLMM.out]; exact hll)
          rw [← HAL.out, ← HLMM.out] at hfeed
          rw [← HLMM.out] at hlen hrng hS
          clear hlst
          generalize A ++ (tp : Int) :: (i : Int) :: LL = lst at *
          have HS := Lib.hid hS; clear hS
          have HFD := Lib.hid hfeed
          have HLE := Lib.hid hlen
          have HRN := Lib.hid hrng
          clear hfeed hlen hrng
          go_wp2_with (first | (refine wpList_load_any 24 _ rfl rfl _ 0 rfl cl _ (HS.out.blk 1 rfl).range Try.underlying24 rfl (by rw [hsz6]; kernel_rfl) ?_))
          refine (HOF.out _).mono ?_
          rintro e w3 ⟨rfl, hf⟩
          have HS := Lib.hid (((HS.out.fr0 hf).new 31 cs).pull 1 rfl); clear hf
          have HS := Lib.hid (show Sep w _ [rowT 0 22 1 (.slice oa (tn + 2 + i) oc) (tn + 2 + i) (lst.map (Value.int .u64)), blkT w3.heap.size 31 cs, blkT w.heap.size 24 cl] from HS.out)
          go_wp2_with (refine wpList_store_new 31 _ (cs).toArray rfl _ _ rfl rfl rfl (by rw [List.size_toArray, hsz]; kernel_rfl) (by simp [hsz]) (all_oneCell_toArray hone) ?_)
          have hA4 := Lib.hid (rowU_arg HLE.out.symm (HS.out.row 0 rfl))
          have hmd := (HS.out.blk 1 rfl).drew
          refine wp_region_fr [(1, [0, 1]), (2, [2]), (3, [3]), (0, [4, 5, 6, 7, 8])] [] (by kernel_rfl) (by kernel_rfl) ?_
          simp only [theOps, nthOp, List.map_cons, List.map_nil, Array.getD_eq_getD_getElem?, List.getElem?_toArray, List.getElem?_cons_succ, List.getElem?_cons_zero, Option.getD_some]
          refine wpSegs_soft ?_
          repeat (first | (refine wpQuiet_load_mid 31 _ _ 0 cs _ rfl rfl rfl (rangeAt_after hmd (by simp)) Try.underlying31 rfl (by rw [hsz]; kernel_rfl) ?_; simp only [Act.put, List.setIfInBounds_toArray, List.set_cons_zero, List.set_cons_succ]) | go_big_quiet_step (fail) | quiet_step (fail))
          refine wpQuiet_nil ?_
          refine wpSegs_keep ?_
          go_wp2_with fail
          refine (cells_any _ _ lst (hA4.out.fr (Fr.refl _ _).drew) (by rw [HLE.out]; omega)).mono ?_
          rintro e w5 ⟨v', rfl, hfr⟩
          have HF := Lib.hid hfr.1
          have h3 := HS.out.drew.fresh hfr; clear hfr
          obtain ⟨oa2, oc2, rfl⟩ := h3.form 0 rfl
          have HS := Lib.hid h3; clear h3
          go_wp2_with fail
          refine ⟨⟨⟨_, (by exact HF.out)⟩, rfl⟩, ?_⟩
          refine wpSegs_hard ?_
          go_wp2_with fail
          refine (HRD.out _ _ 5 lst (by rw [HLE.out]; omega) HRN.out oa2 _ oc2 rfl HS.out).mono ?_
          rintro e w6 ⟨b, rfl, h6⟩
          rw [HFD.out] at h6
          rw [HFD.out]
          have HS := Lib.hid (show Sep w w6 [poolT c 5 b (P.fr0 c A LL tp), blkT w3.heap.size 31 cs, blkT w.heap.size 24 cl] from h6.sub [0, 3, 4] rfl (by decide)); clear h6 HF hmd
          go_wp2_with fail
          repeat ((first | refine wpSegs_soft ?_ | refine wpSegs_pure ?_ | refine wpSegs_here ?_); (repeat (first | go_big_quiet_step (fail) | quiet_step (fail))); refine wpQuiet_nil ?_)
          refine wpSegs_done ?_
          go_wp2_with fail
          refine (pstatus_of b c 5 _ HS.out).mono ?_
          rintro e w7 ⟨rfl, hf⟩
          have HS := Lib.hid (HS.out.fr0 hf); clear hf
          rw [show (P.fr0 c A LL tp).s = 1 from rfl]
          go_wp2_with fail
          refine (wnew_sep _ 200).mono ?_
          rintro e w8 ⟨k, rfl, hfr⟩
          rw [show roomOf 200 = 200 from by decide] at hfr
          have HS := Lib.hid (HS.out.fresh hfr); clear hfr
          go_wp2_with fail
          have hpk := P.feed_ok HOK.out 5 (fives lst) 0 P.new0 (P.ok_new c HOK.out) (fun o ho => by
            obtain ⟨z, hz, rfl⟩ := List.mem_map.1 ho
            exact HRN.out z hz)
          rw [HFD.out] at hpk
          refine (psettle_of b k c HOK.out 5 (P.fr0 c A LL tp) ⟨200, [], []⟩ hpk (by decide) HS.out).mono ?_
          rintro e w9 ⟨rfl, h9⟩
          obtain ⟨p, s, hset, _, hfz, hknl⟩ := P.settle_fz HOK.out (slots := A) (limbo := LL) (top := (tp : Int)) (by omega) HBD.out (by rw [← HLMM.out]; exact htb) (by rw [← HLMM.out]; exact hll) (by have := HLMM.out; omega)
          rw [hset] at h9
          have hkf := P.kept_few (slots := A) HND.out
          rw [← HAL.out] at hkf
          have HNT : Hid (p.nt = (tp : Int) + ((P.freeL (P.bumps (fun _ => 0) A) LL).length : Int)) := Lib.hid hfz.nt
          have HNL := Lib.hid hknl
          have HAT2 := Lib.hid (P.fz_at hfz HBD.out)
          have HL1 := Lib.hid hfz.lim1
          have HBM := Lib.hid (P.bumps_mem A)
          have HS := Lib.hid (show Sep w w9 [setT k s, poolT c 5 b p, blkT w3.heap.size 31 cs, blkT w.heap.size 24 cl] from h9)
          clear h9 hset hfz hknl hpk HFD HLE HRN hA4
          generalize P.bumps (fun _ => 0) A = f at *
          have HS := Lib.hid (HS.out.fresh (T := rowT 0 3 1 (.slice (some ⟨w9.heap.size, 0, none⟩) 0 0) 0 []) (w' := w9.alloc (.cells #[] 3)) ⟨(Fr.refl [] w9).alloc _, [w9.heap.size], ⟨rfl, World.ownsRow_made w9 #[] 0 (Nat.zero_le _) (by unfold maxLen; omega) (by simp)⟩, by simp⟩)
          go_wp2_with fail
          go_loopg [20, 21, 148] i (fun g v20 v21 vi wr => ∃ (m : Nat), g + m = i ∧ vi = .int .i64 (m : Int) ∧ v21 = .int .i64 ((P.freeL f (LL.take m)).length : Int) ∧ Sep w wr [rowT 0 3 1 v20 (P.keptL f (LL.take m)).length ((P.keptL f (LL.take m)).map (Value.int .i64)), setT k s, poolT c 5 b p, blkT w3.heap.size 31 cs, blkT w.heap.size 24 cl])
          case atStart => exact ⟨0, by omega, rfl, rfl, HS.out⟩
          case round =>
            clear HS
            obtain ⟨m, hgm, rfl, rfl, hS⟩ := hrel
            obtain ⟨ka, kc, rfl⟩ := hS.form 0 rfl
            by_cases hm : m < i
            · have hmi : (m : Int) < (i : Int) := by omega
              have hml : m < LL.length := by have := HLMM.out; omega
              obtain ⟨x, rfl, hx, a0, a1⟩ := (HLA.out.fr hS.fr).at hml
              have hbb := HBD.out LL[m] (List.getElem_mem hml)
              have hat := HAT2.out m hml
              have hfl : (P.freeL f (LL.take m)).length ≤ 8 := Nat.le_trans (P.freeL_len f _) (by rw [List.length_take]; omega)
              have hkl : (P.keptL f (LL.take m)).length ≤ 8 := Nat.le_trans (P.keptL_len f _) (by rw [List.length_take]; omega)
              generalize LL[m] = y at *
              obtain ⟨F2, hF2⟩ : ∃ F2, P.freeL f (LL.take (m + 1)) = F2 := ⟨_, rfl⟩
              obtain ⟨K2, hK2⟩ : ∃ K2, P.keptL f (LL.take (m + 1)) = K2 := ⟨_, rfl⟩
              rw [hF2, hK2] at hat
              have HF2 := Lib.hid hF2
              have HK2 := Lib.hid hK2
              clear hF2 hK2
              generalize (P.freeL f (LL.take m)).length = fl at *
              generalize P.keptL f (LL.take m) = K1 at *
              have a0 := a0 _ rfl
              clear a1
              rw [Nat.mul_one] at a0
              have hbu : IntKind.u64.wrap y = y := by rw [IntKind.wrap_u64]; omega
              have hbu1 : IntKind.u64.wrap (y + 1) = y + 1 := by rw [IntKind.wrap_u64]; omega
              have HS := Lib.hid hS; clear hS
              have HAT2' := Lib.hid hat; clear hat
              have k0 := ((HS.out.blk 4 rfl).cell 0).trans g0
              have kl0 := (HS.out.blk 4 rfl).lt
              go_wp2_with fail
              have HS9 := HS
              go_loopg [24, 157] tn (fun g v24 vi wr2 => ∃ (q : Nat), g + q = tn ∧ vi = .int .i64 (q : Int) ∧ v24 = .bool (decide (y + 1 ∈ A.take q)) ∧ wr2 = wr)
              case atStart => exact ⟨0, by omega, rfl, by simp, rfl⟩
              case round =>
                obtain ⟨q, hgq, rfl, rfl, rfl⟩ := hrel
                have HS := HS9
                by_cases hq : q < tn
                · have hqi : (q : Int) < (tn : Int) := by omega
                  have hql : q < A.length := by have := HAL.out; omega
                  obtain ⟨x2, e2, hx2, b0, b1⟩ := (HAA.out.fr HS.out.fr).at hql
                  obtain rfl := Option.some.inj e2
                  clear e2
                  have hag := HAG.out A[q] (List.getElem_mem hql)
                  have HNX := Lib.hid (P.mem_next A q hql (y + 1))
                  generalize A[q] = z at *
                  generalize decide (y + 1 ∈ A.take q) = nm at *
                  have b0 := b0 _ rfl
                  clear b1
                  rw [Nat.mul_one] at b0
                  clear k0 kl0 a0
                  cases nm
                  · go_wp2_with fail
                    go_roundg (tn - (q + 1))
                    case measure => omega
                    case rel => exact ⟨q + 1, by omega, by go_num, by rw [HNX.out]; rfl, rfl⟩
                  · go_wp2_with fail
                    go_roundg (tn - (q + 1))
                    case measure => omega
                    case rel => exact ⟨q + 1, by omega, by go_num, by rw [HNX.out]; rfl, rfl⟩
                · obtain rfl : q = tn := by omega
                  rw [List.take_of_length_le (by rw [HAL.out]; exact Nat.le_refl _)]
                  clear k0 kl0 a0
                  by_cases hnm : y + 1 ∈ A
                  · have hdm : decide (y + 1 ∈ A) = true := by simpa using hnm
                    rw [hdm]
                    have hat := HAT2'.out.2 (fun e => (HBM.out _).1 e hnm)
                    clear hnm hdm
                    obtain ⟨hg1', hf2, hk2⟩ := hat
                    have HL2 := Lib.hid hf2
                    have HK3 := Lib.hid hk2
                    clear hf2 hk2
                    have HS := HS9
                    go_wp2_with (first | (refine wpList_load_any 31 _ rfl rfl _ 0 rfl cs _ (HS.out.blk 3 rfl).range Try.underlying31 rfl (by rw [hsz]; kernel_rfl) ?_))
                    refine (HAT.out _ _ _ _).mono ?_
                    rintro e w10 ⟨rfl, hf⟩
                    have HS := Lib.hid (HS.out.fr0 hf); clear hf
                    go_wp2_with fail
                    refine (get_sep (HS.out.pull 1 rfl) _).mono ?_
                    rintro e w11 ⟨rfl, hf⟩
                    have HS := Lib.hid (HS.out.fr0 hf); clear hf
                    rw [hg1']
                    clear hg1'
                    have HS := Lib.hid (HS.out.new 3 [.int .i64 y])
                    go_wp2_with (at_builtin; go_must (refine wpList_push_blk _ rfl _ _ 70 rfl 0 3 j0 _ 1 8 Try.underlying70 hj0 hj1 hj2 hj3 rfl (by decide) (.slice ka K1.length kc) K1.length (K1.map (Value.int .i64)) rfl (HS.out.row 1 rfl) [.int .i64 y] _ _ rfl (HS.out.blk 0 rfl) rfl (by simp [Value.oneCell']) (by unfold maxLen; omega) (by omega) (Nat.zero_le _) ?_))
                    intro g3 c3 w12 hown hg2 hgg hc1 hc2
                    have h3 := (HS.out.grown 1 rfl hown hg2 (fun q e => by
                      rcases hgg with h1 | h1
                      · exact .inl (h1.trans e)
                      · right; simp only [Value.ownBlock, Option.some.injEq] at e; rw [← e, h1]; simp)).tail
                    have h4 : Sep w w12 [rowT 0 3 1 (.slice (some ⟨g3, 0, none⟩) (K1.length + 1) c3) (K1.length + 1) (K2.map (Value.int .i64)), setT k s, poolT c 5 b p, blkT w3.heap.size 31 cs, blkT w.heap.size 24 cl] := by
                      rw [HK3.out]
                      simpa using h3
                    have HS := Lib.hid h4
                    clear h3 h4 hown hg2 hgg hc1 hc2
                    go_wp2_with fail
                    go_roundg (i - (m + 1))
                    case measure => omega
                    case rel =>
                      refine ⟨m + 1, by omega, by go_num, by rw [HF2.out, HL2.out], ?_⟩
                      rw [HK2.out, show K2.length = K1.length + 1 from by rw [HK3.out]; simp]
                      exact HS.out
                  · have hdm : decide (y + 1 ∈ A) = false := by simpa using hnm
                    rw [hdm]
                    have hat := HAT2'.out.1 ((HBM.out _).2 hnm)
                    clear hnm hdm
                    obtain ⟨hg1', hg2', hf2, hk2⟩ := hat
                    have HL2 := Lib.hid hf2
                    have HK3 := Lib.hid hk2
                    clear hf2 hk2
                    have HS := HS9
                    go_wp2_with (first | (refine wpList_load_any 31 _ rfl rfl _ 0 rfl cs _ (HS.out.blk 3 rfl).range Try.underlying31 rfl (by rw [hsz]; kernel_rfl) ?_))
                    refine (HAT.out _ _ _ _).mono ?_
                    rintro e w10 ⟨rfl, hf⟩
                    have HS := Lib.hid (HS.out.fr0 hf); clear hf
                    go_wp2_with fail
                    refine (get_sep (HS.out.pull 1 rfl) _).mono ?_
                    rintro e w11 ⟨rfl, hf⟩
                    have HS := Lib.hid (HS.out.fr0 hf); clear hf
                    rw [hg1']
                    go_wp2_with (first | (refine wpList_load_any 31 _ rfl rfl _ 0 rfl cs _ (HS.out.blk 3 rfl).range Try.underlying31 rfl (by rw [hsz]; kernel_rfl) ?_))
                    refine (HAT.out _ _ _ _).mono ?_
                    rintro e w12 ⟨rfl, hf⟩
                    have HS := Lib.hid (HS.out.fr0 hf); clear hf
                    go_wp2_with fail
                    refine (get_sep (HS.out.pull 1 rfl) _).mono ?_
                    rintro e w13 ⟨rfl, hf⟩
                    have HS := Lib.hid (HS.out.fr0 hf); clear hf
                    rw [hg2']
                    go_wp2_with fail
                    go_roundg (i - (m + 1))
                    case measure => omega
                    case rel => exact ⟨m + 1, by omega, by go_num, by rw [HF2.out, HL2.out]; go_num, by rw [HK2.out, HK3.out]; exact HS.out⟩
            · obtain rfl : m = i := by omega
              rw [List.take_of_length_le (by rw [← HLMM.out]; exact Nat.le_refl _)] at hS ⊢
              obtain ⟨K, hK⟩ : ∃ K, P.keptL f LL = K := ⟨_, rfl⟩
              obtain ⟨fl, hfl⟩ : ∃ fl, (P.freeL f LL).length = fl := ⟨_, rfl⟩
              rw [hK] at HL1 hkf hS HNL ⊢
              rw [hfl] at HNT
              rw [hfl]
              have hkl8 : K.length ≤ 8 := by rw [← hK]; exact Nat.le_trans (P.keptL_len f _) (by rw [← HLMM.out]; omega)
              have HKB : Hid (∀ y ∈ K, 0 ≤ y ∧ y ≤ 64) := Lib.hid fun y hy => by
                rw [← hK] at hy
                have := HBD.out y (List.mem_filter.1 hy).1
                omega
              have HFL8 : Hid (fl ≤ 8) := Lib.hid (by rw [← hfl]; exact Nat.le_trans (P.freeL_len f _) (by rw [← HLMM.out]; omega))
              clear hK hfl
              obtain ⟨kn, hkn⟩ : ∃ kn, K.length = kn := ⟨_, rfl⟩
              rw [hkn] at hkf hS HNL hkl8 ⊢
              have HKN := Lib.hid hkn
              clear hkn
              have HSQ := Lib.hid hS; clear hS
              go_wp2_with fail
              go_loopg [216] kn (fun g vi wr2 => ∃ (q : Nat), g + q = kn ∧ vi = .int .i64 (q : Int) ∧ Sep w wr2 [rowT 0 3 1 (.slice ka kn kc) kn (K.map (Value.int .i64)), setT k s, poolT c 5 b p, blkT w3.heap.size 31 cs, blkT w.heap.size 24 cl])
              case atStart => exact ⟨0, by omega, rfl, HSQ.out⟩
              case round =>
                clear HSQ
                obtain ⟨q, hgq, rfl, hS⟩ := hrel
                by_cases hq : q < kn
                · have hqi : (q : Int) < (kn : Int) := by omega
                  have hql : q < K.length := by have := HKN.out; omega
                  have hl1 := HL1.out q hql
                  obtain ⟨ga, rfl⟩ : ∃ g, ka = some ⟨g, 0, none⟩ := by
                    rcases ownsRow_form (hS.row 0 rfl) with ⟨e0, e1⟩ | ⟨g, c', e0, _⟩
                    · omega
                    · simp only [Value.slice.injEq] at e0; exact ⟨g, e0.1⟩
                  have hcy := ownsRow_cell (hS.row 0 rfl) q _ (by rw [List.getElem?_map, List.getElem?_eq_getElem hql]; rfl)
                  have hyb := HKB.out K[q] (List.getElem_mem hql)
                  generalize K[q] = y at *
                  have HS := Lib.hid hS; clear hS
                  have hbu : IntKind.u64.wrap y = y := by rw [IntKind.wrap_u64]; omega
                  go_wp2_with (first | (refine wpList_load_any 31 _ rfl rfl _ 0 rfl cs _ (HS.out.blk 3 rfl).range Try.underlying31 rfl (by rw [hsz]; kernel_rfl) ?_))
                  refine (HAT.out _ _ _ _).mono ?_
                  rintro e w10 ⟨rfl, hf⟩
                  have HS := Lib.hid (HS.out.fr0 hf); clear hf
                  go_wp2_with fail
                  refine (get_sep (HS.out.pull 1 rfl) _).mono ?_
                  rintro e w11 ⟨rfl, hf⟩
                  have HS := Lib.hid (HS.out.fr0 hf); clear hf
                  rcases hl1 with hl1 | ⟨hl1, hl2⟩
                  · rw [hl1]
                    go_wp2_with fail
                    go_roundg (kn - (q + 1))
                    case measure => omega
                    case rel => exact ⟨q + 1, by omega, by go_num, HS.out⟩
                  · have hq2 : q < LL.length := by
                      rw [List.getElem?_eq_some_iff] at hl2
                      exact hl2.1
                    obtain ⟨x2, e2, hx2, b0, b1⟩ := (HLA.out.fr HS.out.fr).at hq2
                    have e3 : LL[q] = y := by
                      rw [List.getElem?_eq_getElem hq2] at hl2
                      exact Option.some.inj hl2
                    rw [e3] at b0
                    have b0 := b0 _ rfl
                    rw [Nat.mul_one] at b0
                    subst e2
                    have hqm : q < m := by have := HLMM.out; omega
                    have hqmi : (q : Int) < (m : Int) := by omega
                    clear b1 hl2 e3
                    rw [hl1]
                    go_wp2_with fail
                    go_roundg (kn - (q + 1))
                    case measure => omega
                    case rel => exact ⟨q + 1, by omega, by go_num, HS.out⟩
                · obtain rfl : q = kn := by omega
                  have HS := Lib.hid hS; clear hS
                  have k0 := ((HS.out.blk 4 rfl).cell 0).trans g0
                  have kl0 := (HS.out.blk 4 rfl).lt
                  have d9 : decide ((q : Int) ≤ (tn : Int)) = true := by simp; omega
                  have d9n : decide (q ≤ tn) = true := by simp; omega
                  go_wp2_with fail
                  refine (pmark_of b c 5 p (HS.out.pull 2 rfl)).mono ?_
                  rintro e w15 ⟨rfl, hf⟩
                  rw [HNT.out, HNL.out]
                  have HF := Lib.hid hf
                  have HS7 := HS
                  have hqt : (q : Int) ≤ (tn : Int) := by omega
                  have hqq : 0 ≤ (q : Int) ∧ (q : Int) ≤ 8 := by omega
                  have hff : 0 ≤ (fl : Int) ∧ (fl : Int) ≤ 8 := by have := HFL8.out; omega
                  have htt : 0 ≤ (tp : Int) ∧ (tp : Int) ≤ 64 := by omega
                  clear hf d9 k0 kl0 hti htq htr htb0 hdz htb hfew HAT2 hgq hgm hgi hgj hq hm hi hj hkf hkl8 hlmi d2 d3 hll hl8 hst d1 d1n hsmt ht8 htsc hmm
                  generalize ((fl : Nat) : Int) = fi at *
                  generalize ((tp : Nat) : Int) = ti at *
                  have hwt : IntKind.i64.wrap (ti + fi) = ti + fi := by rw [IntKind.wrap_i64]; omega
                  go_wp2_with fail
                  go_ret
                  exact ⟨rfl, (HS7.out.fr0 HF.out).fr⟩
theorem pfrees_any (w : World) (c : Cfg) (sa la : Option Addr) (sm sc lm lc : Nat) (top : Int) (SL LL : List Int) (hsm : sm = SL.length) (hlm : lm = LL.length)
    (hSA : ArgE enU 1 w (.slice sa sm sc) SL) (hSG : ∀ x ∈ SL, goodU x) (hLA : ArgE enI 1 w (.slice la lm lc) LL) (hLG : ∀ x ∈ LL, goodI x) : Calls Try.prog 5 #[cfgV c, .slice sa sm sc, .slice la lm lc, .int .i64 top] w fun e w' => e = .returned (.bool true) ∧ Fr [] w w' := by
  by_cases h0 : right c = true
  · have hok : Y.Ok c := by unfold right at h0; simpa using h0
    by_cases h1 : (sm : Int) < c.t
    · exact pfrees_s1 w c sa la sm sc lm lc top h0 (by simpa using h1)
    · by_cases h2 : lm > 8
      · exact pfrees_s2 w c sa la sm sc lm lc top h0 (by simpa using h1) (by simp; omega)
      · by_cases h3 : (lm : Int) > limit c
        · exact pfrees_s3 w c sa la sm sc lm lc top hok (by simpa using h1) (by simp; omega) (by simpa using h3)
        · exact pfrees_main w c hok sa la sm sc lm lc top SL LL hsm hlm (by omega) (by omega) (by omega) hSA hSG hLA hLG
  · exact pfrees_s0 w c sa la sm sc lm lc top (by simpa using h0)
theorem pfrees_row (a b d f g l : Int) (v1 v2 : Value) (top : Int) (L1 L2 : List Int) (w : World) (h1 : ArgG goodU enU 1 w v1 L1) (h2 : ArgG goodI enI 1 w v2 L2) (_ : L1.length ≤ maxLen) (_ : L2.length ≤ maxLen) :
    Calls Try.prog 5 #[.agg #[.int .i64 a, .int .i64 b, .int .i64 d, .int .i64 f, .int .u64 g, .int .u64 l], v1, v2, .int .i64 top] w fun e w' => e = .returned (.bool true) ∧ Fr [] w w' := by
  obtain ⟨hA1, hG1⟩ := h1
  obtain ⟨hA2, hG2⟩ := h2
  obtain ⟨a1, c1, rfl⟩ := hA1.len
  obtain ⟨a2, c2, rfl⟩ := hA2.len
  exact pfrees_any w ⟨a, b, d, f, g, l⟩ a1 a2 _ c1 _ c2 top L1 L2 rfl rfl hA1 hG1 hA2 hG2
end Go.Proofs.Ytccioehckfdjdaa
