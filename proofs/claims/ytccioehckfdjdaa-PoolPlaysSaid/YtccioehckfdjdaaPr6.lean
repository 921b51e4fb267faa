/- The document's Take, Give of chapter 10. -/
import Derived.Test.YtccioehckfdjdaaMPrs
set_option linter.unusedSimpArgs false
set_option linter.unusedVariables false
namespace Go.Tum
open Go.RowKit Go.Deep
/-- One cell of a thing is stored: the world behind it is a letter. -/
theorem wpList_store_cell {P : Program} {ops : Array Oper} {rest : List Oper} {op : Oper} {a : Act} {w w0 : World} {Q : Exit → Act → World → Prop} {Ts : List Thing} (h : Sep w0 w Ts) (i : Nat) {b : Nat} {T : TypeId} {cs : List Value} (hi : Ts[i]? = some (blkT b T cs)) (o : Nat) (v : Value) (ty : TypeId) (x y : Operand) (ho : op.op = .store ty x y) (hgd : op.guard = none)
    (hx : a.eval x = .pointer (some ⟨b, o, none⟩)) (hy : a.eval y = v) (hl : o + 1 ≤ cs.length) (hi2 : (P.info? ty).map (·.size) = some 1) (h1 : v.oneCell' = true)
    (hk : ∀ w', Sep w0 w' (Ts.set i (blkT b T (cs.set o v))) → Fr [b] w w' → wpList P ops Q rest (a.put op.dst undef) w') : wpList P ops Q (op :: rest) a w := by
  refine wpList_plain hgd fun _ hK => ?_
  have ht : w.there b o 1 := (h.blk i hi).thereO o 1 hl
  have hc : v.cells = #[v] := by cases v <;> first | rfl | cases h1
  have hrun : (storeVar ty ⟨b, o, none⟩ v).run P w = .ok () (w.setCells b o [v]) := by
    have := run_storeCells_cells (P := P) b o [v] 0 w (fun j hj => by simpa using (ht j (by simpa using hj)).1) (fun j hj => by simpa using (ht j (by simpa using hj)).2) (fun x hx => by simp at hx; subst hx; exact h1)
    cases hq : P.info? ty with
    | none => simp [hq] at hi2
    | some i2 =>
      have hs : i2.size = 1 := by simpa [hq] using hi2
      simp only [Nat.add_zero] at this
      simp [storeVar, sizeOf, typeInfo, hq, hc, hs, this]
  unfold Oper.wp execOp
  simp only [ho, hx, hy, Instr.storeAt, Instr.sureAddr, Sem.run_bind, Sem.run_pure, Result.andThen_ok, hrun]
  refine hK _ _ (hk _ ?_ ?_)
  · have := h.set i hi o v
    exact this
  · exact Fr.setCells (by simp) _ o (Fr.refl _ _)
end Go.Tum
namespace Go.Proofs.Ytccioehckfdjdaa
open Go.RowKit Go.Tum Go.Tum.Y Go.Tum.W
/-- What a walk knows of the document's pool, as cells. -/
structure RFf (f : Int → Int → Int → Int → List Value) (c : Cfg) (vn vl : Value) : Prop where
  len : ∀ wt wl t l, (f wt wl t l).length = 12
  cb : ∀ wt wl t l, (f wt wl t l)[1]? = some (.int .i64 c.b)
  nmd : ∀ wt wl t l, (f wt wl t l)[6]? = some vn
  lmb : ∀ wt wl t l, (f wt wl t l)[7]? = some vl
  top : ∀ wt wl t l, (f wt wl t l)[10]? = some (.int .i64 t)
  lim : ∀ wt wl t l, (f wt wl t l)[11]? = some (.int .i64 l)
  stop : ∀ wt wl t l x, (f wt wl t l).set 10 (.int .i64 x) = f wt wl x l
  slim : ∀ wt wl t l x, (f wt wl t l).set 11 (.int .i64 x) = f wt wl t x
  one : vn.oneCell' = true → vl.oneCell' = true → ∀ wt wl t l, ∀ u ∈ f wt wl t l, u.oneCell' = true
  pre : ∀ (w : World) (k : Nat) wt wl t l, Blk w k 65 (f wt wl t l) → Blk w.drew k 65 (cgL c ++ [vn, vl, .int .i64 wt, .int .i64 wl, .int .i64 t, .int .i64 l])
theorem rff (c : Cfg) (vn vl : Value) : RFf (rpL c vn vl) c vn vl :=
  ⟨fun _ _ _ _ => rfl, fun _ _ _ _ => rfl, fun _ _ _ _ => rfl, fun _ _ _ _ => rfl, fun _ _ _ _ => rfl, fun _ _ _ _ => rfl, fun _ _ _ _ _ => rfl, fun _ _ _ _ _ => rfl, fun h1 h2 wt wl t l u hu => by
    simp [rpL] at hu
    rcases hu with rfl | rfl | rfl | rfl | rfl | rfl | rfl | rfl | rfl | rfl | rfl | rfl <;> first | exact h1 | exact h2 | rfl, fun w k wt wl t l h => h.drew⟩
def z12 : List Value := [.int .i64 0, .int .i64 0, .int .i64 0, .int .i64 0, .int .u64 0, .int .u64 0, .slice none 0 0, .slice none 0 0, .int .i64 0, .int .i64 0, .int .i64 0, .int .i64 0]
theorem z12_len : z12.length = 12 := rfl
theorem ref_one {w0 w : World} {Ts : List Thing} {sv : Value} {q : List (Int × Int)} (h : Sep w0 w Ts) (i : Nat) (hi : Ts[i]? = some (refT sv q)) (R : Nat) : ∀ u ∈ [Value.int .i64 R, sv], u.oneCell' = true := by
  have : sv.oneCell' = true := by
    rcases ownsRow_form (h.row i hi) with ⟨e0, _⟩ | ⟨g, c', e0, _⟩ <;> (rw [e0]; simp [Value.oneCell'])
  intro u hu
  simp only [List.mem_cons, List.not_mem_nil, or_false] at hu
  rcases hu with rfl | rfl
  · rfl
  · exact this
set_option maxRecDepth 100000 in
set_option maxHeartbeats 4000000 in
theorem rtake10_n1 {w0 w : World} {Rs : List Thing} (c : Cfg) (hok : Y.Ok c) (vn vl : Value) (hvn : vn.oneCell' = true) (hvl : vl.oneCell' = true) (wt wl top lim b : Int) (R : Nat) (sv : Value) (q : List (Int × Int)) (d1 : (top == 0) = true) (h : Sep w0 w (refT sv q :: Rs)) :
    Calls Try.prog 49 #[.agg (rpL c vn vl wt wl top lim).toArray, .agg #[.int .i64 R, sv], .int .i64 b] w fun e w' => ∃ sv', e = .returned (.tuple #[.agg (rpL c vn vl wt wl top lim).toArray, .agg [Value.int .i64 R, sv'].toArray]) ∧ Sep w0 w' (refT sv' q :: Rs) := by
  have HRF := Lib.hid (rff c vn vl)
  have HONE : Hid (∀ wt wl t l, ∀ u ∈ rpL c vn vl wt wl t l, u.oneCell' = true) := Lib.hid (HRF.out.one hvn hvl)
  have HSV := Lib.hid (fun (w' : World) (Ts : List Thing) (sv : Value) (q : List (Int × Int)) (i : Nat) (h : Sep w0 w' Ts) (hi : Ts[i]? = some (refT sv q)) => ref_one h i hi R)
  have hS := (((h.new 65 (rpL c vn vl wt wl top lim)).new 95 [.int .i64 R, sv]).new 65 z12).new 95 [.int .i64 0, .slice none 0 0]
  simp only [World.size_alloc] at hS
  unfold z12 at hS
  have HS := Lib.hid hS; clear hS h
  unfold cfgV at *
  generalize rpL c vn vl = RPf at *
  have hB := HS.out.blk 3 rfl
  have r1 := (hB.cell 1).trans (HRF.out.cb _ _ _ _)
  have r6 := (hB.cell 6).trans (HRF.out.nmd _ _ _ _)
  have r10 := (hB.cell 10).trans (HRF.out.top _ _ _ _)
  have r11 := (hB.cell 11).trans (HRF.out.lim _ _ _ _)
  have rl := hB.lt
  have rz := hB.froz
  go_enter Try.func49, Try.ntmps49
  go_wp2_with fail
  -- tumbler/tumblerref10.Take 2: function and region, 49: the function, sv: sv, RPf wt wl top lim: RP
  clear r1 r6 r10 r11 rl rz hB
  have hpd := (HS.out.blk 3 rfl).drew
  have hsd := (HS.out.blk 2 rfl).drew
  have hlen : (RPf wt wl top lim).length = 12 := HRF.out.len _ _ _ _
  have honeP : ∀ u ∈ (RPf wt wl top lim), u.oneCell' = true := HONE.out _ _ _ _
  have hone := HSV.out _ _ _ _ 4 HS.out rfl
  refine wp_region_fr [(1, [0, 1]), (2, [2]), (3, [3])] [w.heap.size + 1 + 1] (by kernel_rfl) (by kernel_rfl) ?_
  simp only [theOps, nthOp, List.map_cons, List.map_nil, Array.getD_eq_getD_getElem?, List.getElem?_toArray, List.getElem?_cons_succ, List.getElem?_cons_zero, Option.getD_some]
  refine wpSegs_soft ?_
  repeat (first | (refine wpQuiet_load_mid 95 _ _ 0 [.int .i64 R, sv] _ rfl rfl rfl (rangeAt_after hsd (by simp <;> omega)) Try.underlying95 rfl (by kernel_rfl) ?_; simp only [Act.put, List.setIfInBounds_toArray, List.set_cons_zero, List.set_cons_succ]) | (refine wpQuiet_load_mid 65 _ _ 0 (RPf wt wl top lim) _ rfl rfl rfl (rangeAt_after hpd (by simp <;> omega)) Try.underlying65 rfl (by rw [hlen]; kernel_rfl) ?_; simp only [Act.put, List.setIfInBounds_toArray, List.set_cons_zero, List.set_cons_succ]) | go_big_quiet_step (fail) | quiet_step (fail))
  refine wpQuiet_nil ?_
  refine wpSegs_keep ?_
  refine wpList_store_sep HS.out.drew 1 rfl (RPf wt wl top lim) 65 _ _ rfl rfl rfl rfl (by rw [hlen]; rfl) (by rw [hlen]; kernel_rfl) honeP (fun wC hC fC => ?_)
  simp only [List.set_cons_zero, List.set_cons_succ] at hC
  have HC := Lib.hid hC; have HF := Lib.hid fC
  clear hC fC
  go_wp2_with fail
  refine ⟨⟨⟨_, (by exact HF.out)⟩, rfl⟩, ?_⟩
  refine wpSegs_hard ?_
  refine wpList_store_sep HC.out 0 rfl [.int .i64 R, sv] 95 _ _ rfl rfl rfl rfl rfl (by kernel_rfl) hone (fun wD hD _ => ?_)
  simp only [List.set_cons_zero, List.set_cons_succ] at hD
  have HDD := Lib.hid hD; clear hD
  go_wp2_with fail
  refine wpSegs_done ?_
  go_wp2_with fail
  exact bodyPost_ret (v := .tuple #[.agg (RPf wt wl top lim).toArray, .agg [Value.int .i64 R, sv].toArray]) (res_cell_cell Try.results49 rfl rfl (HDD.out.blk 1 rfl).range Try.underlying65 rfl (by rw [hlen]; kernel_rfl) (HDD.out.blk 0 rfl).range Try.underlying95 rfl (by kernel_rfl)) rfl ⟨_, rfl, HDD.out.tail.tail.tail.tail⟩
set_option maxRecDepth 100000 in
set_option maxHeartbeats 4000000 in
theorem rtake10_n2 {w0 w : World} {Rs : List Thing} (c : Cfg) (hok : Y.Ok c) (vn vl : Value) (hvn : vn.oneCell' = true) (hvl : vl.oneCell' = true) (wt wl top lim b : Int) (R : Nat) (sv : Value) (q : List (Int × Int)) (d1 : (top == 0) = false) (d2 : decide (b < 0) = true) (h : Sep w0 w (refT sv q :: Rs)) :
    Calls Try.prog 49 #[.agg (rpL c vn vl wt wl top lim).toArray, .agg #[.int .i64 R, sv], .int .i64 b] w fun e w' => ∃ sv', e = .returned (.tuple #[.agg (rpL c vn vl wt wl top lim).toArray, .agg [Value.int .i64 R, sv'].toArray]) ∧ Sep w0 w' (refT sv' q :: Rs) := by
  have HRF := Lib.hid (rff c vn vl)
  have HONE : Hid (∀ wt wl t l, ∀ u ∈ rpL c vn vl wt wl t l, u.oneCell' = true) := Lib.hid (HRF.out.one hvn hvl)
  have HSV := Lib.hid (fun (w' : World) (Ts : List Thing) (sv : Value) (q : List (Int × Int)) (i : Nat) (h : Sep w0 w' Ts) (hi : Ts[i]? = some (refT sv q)) => ref_one h i hi R)
  have hS := (((h.new 65 (rpL c vn vl wt wl top lim)).new 95 [.int .i64 R, sv]).new 65 z12).new 95 [.int .i64 0, .slice none 0 0]
  simp only [World.size_alloc] at hS
  unfold z12 at hS
  have HS := Lib.hid hS; clear hS h
  unfold cfgV at *
  generalize rpL c vn vl = RPf at *
  have hB := HS.out.blk 3 rfl
  have r1 := (hB.cell 1).trans (HRF.out.cb _ _ _ _)
  have r6 := (hB.cell 6).trans (HRF.out.nmd _ _ _ _)
  have r10 := (hB.cell 10).trans (HRF.out.top _ _ _ _)
  have r11 := (hB.cell 11).trans (HRF.out.lim _ _ _ _)
  have rl := hB.lt
  have rz := hB.froz
  go_enter Try.func49, Try.ntmps49
  go_wp2_with fail
  -- tumbler/tumblerref10.Take 2: function and region, 49: the function, sv: sv, RPf wt wl top lim: RP
  clear r1 r6 r10 r11 rl rz hB
  have hpd := (HS.out.blk 3 rfl).drew
  have hsd := (HS.out.blk 2 rfl).drew
  have hlen : (RPf wt wl top lim).length = 12 := HRF.out.len _ _ _ _
  have honeP : ∀ u ∈ (RPf wt wl top lim), u.oneCell' = true := HONE.out _ _ _ _
  have hone := HSV.out _ _ _ _ 4 HS.out rfl
  refine wp_region_fr [(1, [0, 1]), (2, [2]), (3, [3])] [w.heap.size + 1 + 1] (by kernel_rfl) (by kernel_rfl) ?_
  simp only [theOps, nthOp, List.map_cons, List.map_nil, Array.getD_eq_getD_getElem?, List.getElem?_toArray, List.getElem?_cons_succ, List.getElem?_cons_zero, Option.getD_some]
  refine wpSegs_soft ?_
  repeat (first | (refine wpQuiet_load_mid 95 _ _ 0 [.int .i64 R, sv] _ rfl rfl rfl (rangeAt_after hsd (by simp <;> omega)) Try.underlying95 rfl (by kernel_rfl) ?_; simp only [Act.put, List.setIfInBounds_toArray, List.set_cons_zero, List.set_cons_succ]) | (refine wpQuiet_load_mid 65 _ _ 0 (RPf wt wl top lim) _ rfl rfl rfl (rangeAt_after hpd (by simp <;> omega)) Try.underlying65 rfl (by rw [hlen]; kernel_rfl) ?_; simp only [Act.put, List.setIfInBounds_toArray, List.set_cons_zero, List.set_cons_succ]) | go_big_quiet_step (fail) | quiet_step (fail))
  refine wpQuiet_nil ?_
  refine wpSegs_keep ?_
  refine wpList_store_sep HS.out.drew 1 rfl (RPf wt wl top lim) 65 _ _ rfl rfl rfl rfl (by rw [hlen]; rfl) (by rw [hlen]; kernel_rfl) honeP (fun wC hC fC => ?_)
  simp only [List.set_cons_zero, List.set_cons_succ] at hC
  have HC := Lib.hid hC; have HF := Lib.hid fC
  clear hC fC
  go_wp2_with fail
  refine ⟨⟨⟨_, (by exact HF.out)⟩, rfl⟩, ?_⟩
  refine wpSegs_hard ?_
  refine wpList_store_sep HC.out 0 rfl [.int .i64 R, sv] 95 _ _ rfl rfl rfl rfl rfl (by kernel_rfl) hone (fun wD hD _ => ?_)
  simp only [List.set_cons_zero, List.set_cons_succ] at hD
  have HDD := Lib.hid hD; clear hD
  go_wp2_with fail
  refine wpSegs_done ?_
  go_wp2_with fail
  exact bodyPost_ret (v := .tuple #[.agg (RPf wt wl top lim).toArray, .agg [Value.int .i64 R, sv].toArray]) (res_cell_cell Try.results49 rfl rfl (HDD.out.blk 1 rfl).range Try.underlying65 rfl (by rw [hlen]; kernel_rfl) (HDD.out.blk 0 rfl).range Try.underlying95 rfl (by kernel_rfl)) rfl ⟨_, rfl, HDD.out.tail.tail.tail.tail⟩
set_option maxRecDepth 100000 in
set_option maxHeartbeats 4000000 in
theorem rtake10_n3 {w0 w : World} {Rs : List Thing} (c : Cfg) (hok : Y.Ok c) (vn vl : Value) (hvn : vn.oneCell' = true) (hvl : vl.oneCell' = true) (wt wl top lim b : Int) (R : Nat) (sv : Value) (q : List (Int × Int)) (d1 : (top == 0) = false) (d2 : decide (b < 0) = false) (d3 : decide (b ≥ c.b) = true) (h : Sep w0 w (refT sv q :: Rs)) :
    Calls Try.prog 49 #[.agg (rpL c vn vl wt wl top lim).toArray, .agg #[.int .i64 R, sv], .int .i64 b] w fun e w' => ∃ sv', e = .returned (.tuple #[.agg (rpL c vn vl wt wl top lim).toArray, .agg [Value.int .i64 R, sv'].toArray]) ∧ Sep w0 w' (refT sv' q :: Rs) := by
  have HRF := Lib.hid (rff c vn vl)
  have HONE : Hid (∀ wt wl t l, ∀ u ∈ rpL c vn vl wt wl t l, u.oneCell' = true) := Lib.hid (HRF.out.one hvn hvl)
  have HSV := Lib.hid (fun (w' : World) (Ts : List Thing) (sv : Value) (q : List (Int × Int)) (i : Nat) (h : Sep w0 w' Ts) (hi : Ts[i]? = some (refT sv q)) => ref_one h i hi R)
  have hS := (((h.new 65 (rpL c vn vl wt wl top lim)).new 95 [.int .i64 R, sv]).new 65 z12).new 95 [.int .i64 0, .slice none 0 0]
  simp only [World.size_alloc] at hS
  unfold z12 at hS
  have HS := Lib.hid hS; clear hS h
  unfold cfgV at *
  generalize rpL c vn vl = RPf at *
  have hB := HS.out.blk 3 rfl
  have r1 := (hB.cell 1).trans (HRF.out.cb _ _ _ _)
  have r6 := (hB.cell 6).trans (HRF.out.nmd _ _ _ _)
  have r10 := (hB.cell 10).trans (HRF.out.top _ _ _ _)
  have r11 := (hB.cell 11).trans (HRF.out.lim _ _ _ _)
  have rl := hB.lt
  have rz := hB.froz
  go_enter Try.func49, Try.ntmps49
  go_wp2_with fail
  -- tumbler/tumblerref10.Take 2: function and region, 49: the function, sv: sv, RPf wt wl top lim: RP
  clear r1 r6 r10 r11 rl rz hB
  have hpd := (HS.out.blk 3 rfl).drew
  have hsd := (HS.out.blk 2 rfl).drew
  have hlen : (RPf wt wl top lim).length = 12 := HRF.out.len _ _ _ _
  have honeP : ∀ u ∈ (RPf wt wl top lim), u.oneCell' = true := HONE.out _ _ _ _
  have hone := HSV.out _ _ _ _ 4 HS.out rfl
  refine wp_region_fr [(1, [0, 1]), (2, [2]), (3, [3])] [w.heap.size + 1 + 1] (by kernel_rfl) (by kernel_rfl) ?_
  simp only [theOps, nthOp, List.map_cons, List.map_nil, Array.getD_eq_getD_getElem?, List.getElem?_toArray, List.getElem?_cons_succ, List.getElem?_cons_zero, Option.getD_some]
  refine wpSegs_soft ?_
  repeat (first | (refine wpQuiet_load_mid 95 _ _ 0 [.int .i64 R, sv] _ rfl rfl rfl (rangeAt_after hsd (by simp <;> omega)) Try.underlying95 rfl (by kernel_rfl) ?_; simp only [Act.put, List.setIfInBounds_toArray, List.set_cons_zero, List.set_cons_succ]) | (refine wpQuiet_load_mid 65 _ _ 0 (RPf wt wl top lim) _ rfl rfl rfl (rangeAt_after hpd (by simp <;> omega)) Try.underlying65 rfl (by rw [hlen]; kernel_rfl) ?_; simp only [Act.put, List.setIfInBounds_toArray, List.set_cons_zero, List.set_cons_succ]) | go_big_quiet_step (fail) | quiet_step (fail))
  refine wpQuiet_nil ?_
  refine wpSegs_keep ?_
  refine wpList_store_sep HS.out.drew 1 rfl (RPf wt wl top lim) 65 _ _ rfl rfl rfl rfl (by rw [hlen]; rfl) (by rw [hlen]; kernel_rfl) honeP (fun wC hC fC => ?_)
  simp only [List.set_cons_zero, List.set_cons_succ] at hC
  have HC := Lib.hid hC; have HF := Lib.hid fC
  clear hC fC
  go_wp2_with fail
  refine ⟨⟨⟨_, (by exact HF.out)⟩, rfl⟩, ?_⟩
  refine wpSegs_hard ?_
  refine wpList_store_sep HC.out 0 rfl [.int .i64 R, sv] 95 _ _ rfl rfl rfl rfl rfl (by kernel_rfl) hone (fun wD hD _ => ?_)
  simp only [List.set_cons_zero, List.set_cons_succ] at hD
  have HDD := Lib.hid hD; clear hD
  go_wp2_with fail
  refine wpSegs_done ?_
  go_wp2_with fail
  exact bodyPost_ret (v := .tuple #[.agg (RPf wt wl top lim).toArray, .agg [Value.int .i64 R, sv].toArray]) (res_cell_cell Try.results49 rfl rfl (HDD.out.blk 1 rfl).range Try.underlying65 rfl (by rw [hlen]; kernel_rfl) (HDD.out.blk 0 rfl).range Try.underlying95 rfl (by kernel_rfl)) rfl ⟨_, rfl, HDD.out.tail.tail.tail.tail⟩
set_option maxRecDepth 100000 in
set_option maxHeartbeats 8000000 in
theorem rtake10_y {w0 w : World} {Rs : List Thing} (c : Cfg) (hok : Y.Ok c) (vn vl : Value) (hvn : vn.oneCell' = true) (hvl : vl.oneCell' = true) (wt wl top lim b : Int) (ht : 0 ≤ top ∧ top ≤ 1000) (R : Nat) (hR : R ≤ 65536) (sv : Value) (q : List (Int × Int)) (hq : q.length ≤ 100000) (d1 : (top == 0) = false) (d2 : decide (b < 0) = false) (d3 : decide (b ≥ c.b) = false) (h : Sep w0 w (refT sv q :: Rs)) :
    Calls Try.prog 49 #[.agg (rpL c vn vl wt wl top lim).toArray, .agg #[.int .i64 R, sv], .int .i64 b] w fun e w' => ∃ sv', e = .returned (.tuple #[.agg (rpL c vn vl wt wl (top - 1) lim).toArray, .agg [Value.int .i64 R, sv'].toArray]) ∧ Sep w0 w' (refT sv' (P.rwipe c b R 8 (P.rp1 R q (at_ c 11 b 0) 1)) :: Rs) := by
  have HA := Lib.hid (fun w => rat_any w c hok 11 b 0)
  have HAK := Lib.hid (fun w k => rat_any w c hok 16 b k)
  have hwn : IntKind.i64.wrap (top - 1) = top - 1 := wrap_i64_id _ (by omega) (by omega)
  obtain ⟨QF, hQF⟩ : ∃ QF, P.rwipe c b R 8 (P.rp1 R q (at_ c 11 b 0) 1) = QF := ⟨_, rfl⟩
  rw [hQF]
  have HQF := Lib.hid hQF; clear hQF
  have HRF := Lib.hid (rff c vn vl)
  have HONE : Hid (∀ wt wl t l, ∀ u ∈ rpL c vn vl wt wl t l, u.oneCell' = true) := Lib.hid (HRF.out.one hvn hvl)
  have HSV := Lib.hid (fun (w' : World) (Ts : List Thing) (sv : Value) (q : List (Int × Int)) (i : Nat) (h : Sep w0 w' Ts) (hi : Ts[i]? = some (refT sv q)) => ref_one h i hi R)
  have hS := (((h.new 65 (rpL c vn vl wt wl top lim)).new 95 [.int .i64 R, sv]).new 65 z12).new 95 [.int .i64 0, .slice none 0 0]
  simp only [World.size_alloc] at hS
  unfold z12 at hS
  have HS := Lib.hid hS; clear hS h
  unfold cfgV at *
  generalize rpL c vn vl = RPf at *
  have hB := HS.out.blk 3 rfl
  have r1 := (hB.cell 1).trans (HRF.out.cb _ _ _ _)
  have r6 := (hB.cell 6).trans (HRF.out.nmd _ _ _ _)
  have r10 := (hB.cell 10).trans (HRF.out.top _ _ _ _)
  have r11 := (hB.cell 11).trans (HRF.out.lim _ _ _ _)
  have rl := hB.lt
  have rz := hB.froz
  go_enter Try.func49, Try.ntmps49
  go_wp2_with (refine wpList_store_cell HS.out 3 rfl 10 (.int .i64 (top - 1)) 3 _ _ rfl rfl rfl rfl (by rw [HRF.out.len]; decide) (by kernel_rfl) rfl (fun wA hA _ => ?_); simp only [List.set_cons_zero, List.set_cons_succ, HRF.out.stop] at hA; have HA2 := Lib.hid hA; clear hA)
  clear r1 r6 r10 r11 rl rz hB
  have HS := HA2
  have hB := HS.out.blk 3 rfl
  have r1 := (hB.cell 1).trans (HRF.out.cb _ _ _ _)
  have r6 := (hB.cell 6).trans (HRF.out.nmd _ _ _ _)
  have r10 := (hB.cell 10).trans (HRF.out.top _ _ _ _)
  have r11 := (hB.cell 11).trans (HRF.out.lim _ _ _ _)
  have rl := hB.lt
  have rz := hB.froz
  have hp1 := P.rp1_len R q (at_ c 11 b 0) 1
  -- tumbler/tumblerref10.Take 4: function and region, HA.out _: where, sv: sv, q: q, sv1: sv', (RPf wt wl (top - 1) lim): RP, (at_ c 11 b 0): the place, 1: the value
  have hmd := HRF.out.pre _ _ _ _ _ _ (HS.out.blk 3 rfl)
  have hsd := (HS.out.blk 2 rfl).drew
  refine wp_region_fr [(1, [0, 1, 2, 3]), (2, [4]), (3, [5]), (3, [6])] [] (by kernel_rfl) (by kernel_rfl) ?_
  simp only [theOps, nthOp, List.map_cons, List.map_nil, Array.getD_eq_getD_getElem?, List.getElem?_toArray, List.getElem?_cons_succ, List.getElem?_cons_zero, Option.getD_some]
  refine wpSegs_soft ?_
  repeat (first | (refine wpQuiet_load_mid 95 _ _ 0 [.int .i64 R, sv] _ rfl rfl rfl (rangeAt_after hsd (by simp <;> omega)) Try.underlying95 rfl (by kernel_rfl) ?_; simp only [Act.put, List.setIfInBounds_toArray, List.set_cons_zero, List.set_cons_succ]) | (refine wpQuiet_load_mid 24 _ _ 0 (cgL c) _ rfl rfl rfl (rangeAt_pre hmd (by simp <;> omega)) Try.underlying24 rfl (by kernel_rfl) ?_; simp only [Act.put, List.setIfInBounds_toArray, List.set_cons_zero, List.set_cons_succ]) | go_big_quiet_step (fail) | quiet_step (fail))
  refine wpQuiet_nil ?_
  refine wpSegs_keep ?_
  go_wp2_with fail
  refine (HA.out _).mono ?_
  rintro e w4 ⟨rfl, hf⟩
  have HF := Lib.hid hf
  clear r1 r6 r10 r11 rl rz hB
  have HS := Lib.hid (HS.out.drew.fr0 hf); clear hf hmd hsd
  have hB := HS.out.blk 3 rfl
  have r1 := (hB.cell 1).trans (HRF.out.cb _ _ _ _)
  have r6 := (hB.cell 6).trans (HRF.out.nmd _ _ _ _)
  have r10 := (hB.cell 10).trans (HRF.out.top _ _ _ _)
  have r11 := (hB.cell 11).trans (HRF.out.lim _ _ _ _)
  have rl := hB.lt
  have rz := hB.froz
  go_wp2_with fail
  refine ⟨⟨⟨_, (by exact HF.out)⟩, rfl⟩, ?_⟩
  repeat ((first | refine wpSegs_soft ?_ | refine wpSegs_pure ?_ | refine wpSegs_here ?_); (repeat (first | go_big_quiet_step (fail) | quiet_step (fail))); refine wpQuiet_nil ?_)
  refine wpSegs_hard ?_
  go_wp2_with fail
  clear r1 r6 r10 r11 rl rz hB
  refine (rput10_sep R sv q (at_ c 11 b 0) 1 (by omega) hR (HS.out.pull 4 rfl)).mono ?_
  rintro e w5 ⟨sv1, rfl, h5⟩
  have h6 : Sep w0 w5 (blkT (w.heap.size + 1 + 1 + 1) 95 [.int .i64 0, .slice none 0 0] :: blkT (w.heap.size + 1 + 1) 65 [.int .i64 0, .int .i64 0, .int .i64 0, .int .i64 0, .int .u64 0, .int .u64 0, .slice none 0 0, .slice none 0 0, .int .i64 0, .int .i64 0, .int .i64 0, .int .i64 0] :: blkT (w.heap.size + 1) 95 [.int .i64 R, sv] :: blkT w.heap.size 65 (RPf wt wl (top - 1) lim) :: refT sv1 (P.rp1 R q (at_ c 11 b 0) 1) :: Rs) := (((h5.pull 4 rfl).pull 4 rfl).pull 4 rfl).pull 4 rfl
  clear h5
  have hone := HSV.out _ _ _ _ 4 h6 rfl
  have HS5 := Lib.hid h6; clear h6
  go_wp2_with fail
  refine wpSegs_hard ?_
  refine wpList_store_sep HS5.out 2 rfl [.int .i64 R, sv1] 95 _ _ rfl rfl rfl rfl rfl (by kernel_rfl) hone (fun wA hA fA => ?_)
  simp only [List.set_cons_zero, List.set_cons_succ] at hA
  have HS := Lib.hid hA; clear hA fA HS5
  simp only [Act.put, List.setIfInBounds_toArray, List.set_cons_zero, List.set_cons_succ]
  go_wp2_with fail
  repeat ((first | refine wpSegs_soft ?_ | refine wpSegs_pure ?_ | refine wpSegs_here ?_); (repeat (first | go_big_quiet_step (fail) | quiet_step (fail))); refine wpQuiet_nil ?_)
  refine wpSegs_done ?_
  have hB := HS.out.blk 3 rfl
  have r1 := (hB.cell 1).trans (HRF.out.cb _ _ _ _)
  have r6 := (hB.cell 6).trans (HRF.out.nmd _ _ _ _)
  have r10 := (hB.cell 10).trans (HRF.out.top _ _ _ _)
  have r11 := (hB.cell 11).trans (HRF.out.lim _ _ _ _)
  have rl := hB.lt
  have rz := hB.froz
  generalize P.rp1 R q (at_ c 11 b 0) 1 = q1 at *
  go_wp2_with fail
  clear r1 r6 r10 r11 rl rz hB
  go_loopg [8] 8 (fun g vi wr => ∃ (j : Nat) (sj : Value), g + j = 8 ∧ vi = .int .i64 (j : Int) ∧ Sep w0 wr (blkT (w.heap.size + 1 + 1 + 1) 95 [.int .i64 0, .slice none 0 0] :: blkT (w.heap.size + 1 + 1) 65 [.int .i64 0, .int .i64 0, .int .i64 0, .int .i64 0, .int .u64 0, .int .u64 0, .slice none 0 0, .slice none 0 0, .int .i64 0, .int .i64 0, .int .i64 0, .int .i64 0] :: blkT (w.heap.size + 1) 95 [.int .i64 R, sj] :: blkT w.heap.size 65 (RPf wt wl (top - 1) lim) :: refT sj (P.rwipe c b R j q1) :: Rs))
  case atStart =>
    have e0 : P.rwipe c b R 0 q1 = q1 := by rw [P.rwipe]
    refine ⟨0, sv1, by omega, rfl, ?_⟩
    rw [e0]
    exact HS.out
  case round =>
    clear HS
    obtain ⟨j, sj, hgj, rfl, hS⟩ := hrel
    have HS := Lib.hid hS; clear hS
    have hB := HS.out.blk 3 rfl
    have r1 := (hB.cell 1).trans (HRF.out.cb _ _ _ _)
    have r6 := (hB.cell 6).trans (HRF.out.nmd _ _ _ _)
    have r10 := (hB.cell 10).trans (HRF.out.top _ _ _ _)
    have r11 := (hB.cell 11).trans (HRF.out.lim _ _ _ _)
    have rl := hB.lt
    have rz := hB.froz
    by_cases hj : j < 8
    · have hji : (j : Int) < 8 := by omega
      have hp2 := P.rwipe_len c b R q1 j
      have HRW : Hid (P.rp1 R (P.rwipe c b R j q1) (at_ c 16 b j) 0 = P.rwipe c b R (j + 1) q1) := Lib.hid (by rw [P.rwipe])
      generalize P.rwipe c b R j q1 = qj at *
      go_wp2_with fail
      -- tumbler/tumblerref10.Take 8: function and region, HAK.out _ _: where, sj: sv, qj: q, sk: sv', (RPf wt wl (top - 1) lim): RP, (at_ c 16 b j): the place, 0: the value
      have hmd := HRF.out.pre _ _ _ _ _ _ (HS.out.blk 3 rfl)
      have hsd := (HS.out.blk 2 rfl).drew
      refine wp_region_fr [(1, [0, 1, 2, 3, 4]), (2, [5]), (3, [6]), (3, [7])] [] (by kernel_rfl) (by kernel_rfl) ?_
      simp only [theOps, nthOp, List.map_cons, List.map_nil, Array.getD_eq_getD_getElem?, List.getElem?_toArray, List.getElem?_cons_succ, List.getElem?_cons_zero, Option.getD_some]
      refine wpSegs_soft ?_
      repeat (first | (refine wpQuiet_load_mid 95 _ _ 0 [.int .i64 R, sj] _ rfl rfl rfl (rangeAt_after hsd (by simp <;> omega)) Try.underlying95 rfl (by kernel_rfl) ?_; simp only [Act.put, List.setIfInBounds_toArray, List.set_cons_zero, List.set_cons_succ]) | (refine wpQuiet_load_mid 24 _ _ 0 (cgL c) _ rfl rfl rfl (rangeAt_pre hmd (by simp <;> omega)) Try.underlying24 rfl (by kernel_rfl) ?_; simp only [Act.put, List.setIfInBounds_toArray, List.set_cons_zero, List.set_cons_succ]) | go_big_quiet_step (fail) | quiet_step (fail))
      refine wpQuiet_nil ?_
      refine wpSegs_keep ?_
      go_wp2_with fail
      refine (HAK.out _ _).mono ?_
      rintro e w4 ⟨rfl, hf⟩
      have HF := Lib.hid hf
      clear r1 r6 r10 r11 rl rz hB
      have HS := Lib.hid (HS.out.drew.fr0 hf); clear hf hmd hsd
      have hB := HS.out.blk 3 rfl
      have r1 := (hB.cell 1).trans (HRF.out.cb _ _ _ _)
      have r6 := (hB.cell 6).trans (HRF.out.nmd _ _ _ _)
      have r10 := (hB.cell 10).trans (HRF.out.top _ _ _ _)
      have r11 := (hB.cell 11).trans (HRF.out.lim _ _ _ _)
      have rl := hB.lt
      have rz := hB.froz
      go_wp2_with fail
      refine ⟨⟨⟨_, (by exact HF.out)⟩, rfl⟩, ?_⟩
      repeat ((first | refine wpSegs_soft ?_ | refine wpSegs_pure ?_ | refine wpSegs_here ?_); (repeat (first | go_big_quiet_step (fail) | quiet_step (fail))); refine wpQuiet_nil ?_)
      refine wpSegs_hard ?_
      go_wp2_with fail
      clear r1 r6 r10 r11 rl rz hB
      refine (rput10_sep R sj qj (at_ c 16 b j) 0 (by omega) hR (HS.out.pull 4 rfl)).mono ?_
      rintro e w5 ⟨sk, rfl, h5⟩
      have h6 : Sep w0 w5 (blkT (w.heap.size + 1 + 1 + 1) 95 [.int .i64 0, .slice none 0 0] :: blkT (w.heap.size + 1 + 1) 65 [.int .i64 0, .int .i64 0, .int .i64 0, .int .i64 0, .int .u64 0, .int .u64 0, .slice none 0 0, .slice none 0 0, .int .i64 0, .int .i64 0, .int .i64 0, .int .i64 0] :: blkT (w.heap.size + 1) 95 [.int .i64 R, sj] :: blkT w.heap.size 65 (RPf wt wl (top - 1) lim) :: refT sk (P.rp1 R qj (at_ c 16 b j) 0) :: Rs) := (((h5.pull 4 rfl).pull 4 rfl).pull 4 rfl).pull 4 rfl
      clear h5
      have hone := HSV.out _ _ _ _ 4 h6 rfl
      have HS5 := Lib.hid h6; clear h6
      go_wp2_with fail
      refine wpSegs_hard ?_
      refine wpList_store_sep HS5.out 2 rfl [.int .i64 R, sk] 95 _ _ rfl rfl rfl rfl rfl (by kernel_rfl) hone (fun wA hA fA => ?_)
      simp only [List.set_cons_zero, List.set_cons_succ] at hA
      have HS := Lib.hid hA; clear hA fA HS5
      simp only [Act.put, List.setIfInBounds_toArray, List.set_cons_zero, List.set_cons_succ]
      go_wp2_with fail
      repeat ((first | refine wpSegs_soft ?_ | refine wpSegs_pure ?_ | refine wpSegs_here ?_); (repeat (first | go_big_quiet_step (fail) | quiet_step (fail))); refine wpQuiet_nil ?_)
      refine wpSegs_done ?_
      have hB := HS.out.blk 3 rfl
      have r1 := (hB.cell 1).trans (HRF.out.cb _ _ _ _)
      have r6 := (hB.cell 6).trans (HRF.out.nmd _ _ _ _)
      have r10 := (hB.cell 10).trans (HRF.out.top _ _ _ _)
      have r11 := (hB.cell 11).trans (HRF.out.lim _ _ _ _)
      have rl := hB.lt
      have rz := hB.froz
      clear r1 r6 r10 r11 rl rz hB
      rw [HRW.out] at HS
      go_wp2_with fail
      go_roundg (8 - (j + 1))
      case measure => omega
      case rel => exact ⟨j + 1, sk, by omega, by go_num, HS.out⟩
    · obtain rfl : j = 8 := by omega
      rw [HQF.out] at HS
      go_wp2_with fail
      -- tumbler/tumblerref10.Take 9: function and region, 49: the function, sj: sv, RPf wt wl (top - 1) lim: RP
      clear r1 r6 r10 r11 rl rz hB
      have hpd := (HS.out.blk 3 rfl).drew
      have hsd := (HS.out.blk 2 rfl).drew
      have hlen : (RPf wt wl (top - 1) lim).length = 12 := HRF.out.len _ _ _ _
      have honeP : ∀ u ∈ (RPf wt wl (top - 1) lim), u.oneCell' = true := HONE.out _ _ _ _
      have hone := HSV.out _ _ _ _ 4 HS.out rfl
      refine wp_region_fr [(1, [0, 1]), (2, [2]), (3, [3])] [w.heap.size + 1 + 1] (by kernel_rfl) (by kernel_rfl) ?_
      simp only [theOps, nthOp, List.map_cons, List.map_nil, Array.getD_eq_getD_getElem?, List.getElem?_toArray, List.getElem?_cons_succ, List.getElem?_cons_zero, Option.getD_some]
      refine wpSegs_soft ?_
      repeat (first | (refine wpQuiet_load_mid 95 _ _ 0 [.int .i64 R, sj] _ rfl rfl rfl (rangeAt_after hsd (by simp <;> omega)) Try.underlying95 rfl (by kernel_rfl) ?_; simp only [Act.put, List.setIfInBounds_toArray, List.set_cons_zero, List.set_cons_succ]) | (refine wpQuiet_load_mid 65 _ _ 0 (RPf wt wl (top - 1) lim) _ rfl rfl rfl (rangeAt_after hpd (by simp <;> omega)) Try.underlying65 rfl (by rw [hlen]; kernel_rfl) ?_; simp only [Act.put, List.setIfInBounds_toArray, List.set_cons_zero, List.set_cons_succ]) | go_big_quiet_step (fail) | quiet_step (fail))
      refine wpQuiet_nil ?_
      refine wpSegs_keep ?_
      refine wpList_store_sep HS.out.drew 1 rfl (RPf wt wl (top - 1) lim) 65 _ _ rfl rfl rfl rfl (by rw [hlen]; rfl) (by rw [hlen]; kernel_rfl) honeP (fun wC hC fC => ?_)
      simp only [List.set_cons_zero, List.set_cons_succ] at hC
      have HC := Lib.hid hC; have HF := Lib.hid fC
      clear hC fC
      go_wp2_with fail
      refine ⟨⟨⟨_, (by exact HF.out)⟩, rfl⟩, ?_⟩
      refine wpSegs_hard ?_
      refine wpList_store_sep HC.out 0 rfl [.int .i64 R, sj] 95 _ _ rfl rfl rfl rfl rfl (by kernel_rfl) hone (fun wD hD _ => ?_)
      simp only [List.set_cons_zero, List.set_cons_succ] at hD
      have HDD := Lib.hid hD; clear hD
      go_wp2_with fail
      refine wpSegs_done ?_
      go_wp2_with fail
      exact bodyPost_ret (v := .tuple #[.agg (RPf wt wl (top - 1) lim).toArray, .agg [Value.int .i64 R, sj].toArray]) (res_cell_cell Try.results49 rfl rfl (HDD.out.blk 1 rfl).range Try.underlying65 rfl (by rw [hlen]; kernel_rfl) (HDD.out.blk 0 rfl).range Try.underlying95 rfl (by kernel_rfl)) rfl ⟨_, rfl, HDD.out.tail.tail.tail.tail⟩
theorem rtake10_any {w0 w : World} {Rs : List Thing} (c : Cfg) (hok : Y.Ok c) (vn vl : Value) (hvn : vn.oneCell' = true) (hvl : vl.oneCell' = true) (wt wl top lim b : Int) (ht : 0 ≤ top ∧ top ≤ 1000) (R : Nat) (hR : R ≤ 65536) (sv : Value) (q : List (Int × Int)) (hq : q.length ≤ 100000) (h : Sep w0 w (refT sv q :: Rs)) :
    Calls Try.prog 49 #[.agg (rpL c vn vl wt wl top lim).toArray, .agg #[.int .i64 R, sv], .int .i64 b] w fun e w' => ∃ sv', e = .returned (.tuple #[.agg (rpL c vn vl wt wl (P.rtakeP c b R top q).1 lim).toArray, .agg [Value.int .i64 R, sv'].toArray]) ∧ Sep w0 w' (refT sv' (P.rtakeP c b R top q).2 :: Rs) := by
  unfold P.rtakeP
  by_cases h1 : top = 0
  · rw [if_pos (.inl h1)]; exact rtake10_n1 c hok vn vl hvn hvl wt wl top lim b R sv q (by simpa using h1) h
  by_cases h2 : b < 0
  · rw [if_pos (.inr (.inl h2))]; exact rtake10_n2 c hok vn vl hvn hvl wt wl top lim b R sv q (by simpa using h1) (by simpa using h2) h
  by_cases h3 : c.b ≤ b
  · rw [if_pos (.inr (.inr h3))]; exact rtake10_n3 c hok vn vl hvn hvl wt wl top lim b R sv q (by simpa using h1) (by simpa using h2) (by simpa using h3) h
  rw [if_neg (by rintro (h | h | h) <;> contradiction)]
  dsimp only
  exact rtake10_y c hok vn vl hvn hvl wt wl top lim b ht R hR sv q hq (by simpa using h1) (by simpa using h2) (by simpa using h3) h
set_option maxRecDepth 100000 in
set_option maxHeartbeats 4000000 in
theorem rgive10_n1 {w0 w : World} {Rs : List Thing} (c : Cfg) (hok : Y.Ok c) (vn vl : Value) (hvn : vn.oneCell' = true) (hvl : vl.oneCell' = true) (wt wl top lim b : Int) (R : Nat) (sv : Value) (q : List (Int × Int)) (d1 : decide (lim ≥ limit c) = true) (h : Sep w0 w (refT sv q :: Rs)) :
    Calls Try.prog 50 #[.agg (rpL c vn vl wt wl top lim).toArray, .agg #[.int .i64 R, sv], .int .i64 b] w fun e w' => ∃ sv', e = .returned (.tuple #[.agg (rpL c vn vl wt wl top lim).toArray, .agg [Value.int .i64 R, sv'].toArray]) ∧ Sep w0 w' (refT sv' q :: Rs) := by
  have HLM : Hid (∀ w, Calls Try.prog 31 #[cfgV c] w fun e w' => e = .returned (.int .i64 (limit c)) ∧ Fr [] w w') := Lib.hid (fun w => rlimit_any w c hok)
  have HRF := Lib.hid (rff c vn vl)
  have HONE : Hid (∀ wt wl t l, ∀ u ∈ rpL c vn vl wt wl t l, u.oneCell' = true) := Lib.hid (HRF.out.one hvn hvl)
  have HSV := Lib.hid (fun (w' : World) (Ts : List Thing) (sv : Value) (q : List (Int × Int)) (i : Nat) (h : Sep w0 w' Ts) (hi : Ts[i]? = some (refT sv q)) => ref_one h i hi R)
  have hS := (((h.new 65 (rpL c vn vl wt wl top lim)).new 95 [.int .i64 R, sv]).new 65 z12).new 95 [.int .i64 0, .slice none 0 0]
  simp only [World.size_alloc] at hS
  unfold z12 at hS
  have HS := Lib.hid hS; clear hS h
  unfold cfgV at *
  generalize rpL c vn vl = RPf at *
  have hB := HS.out.blk 3 rfl
  have r1 := (hB.cell 1).trans (HRF.out.cb _ _ _ _)
  have r6 := (hB.cell 6).trans (HRF.out.nmd _ _ _ _)
  have r10 := (hB.cell 10).trans (HRF.out.top _ _ _ _)
  have r11 := (hB.cell 11).trans (HRF.out.lim _ _ _ _)
  have rl := hB.lt
  have rz := hB.froz
  go_enter Try.func50, Try.ntmps50
  go_wp2_with fail
  have hmd := HRF.out.pre _ _ _ _ _ _ (HS.out.blk 3 rfl)
  have hB0 := (HS.out.blk 3 rfl).drew
  have x11 := (hB0.cell 11).trans (HRF.out.lim _ _ _ _)
  have xl := hB0.lt
  refine wp_region_fr [(1, [0, 1, 2, 3]), (2, [4]), (0, [5, 6, 7, 8, 9, 10, 12, 13, 11]), (3, [14]), (0, [15, 16])] [] (by kernel_rfl) (by kernel_rfl) ?_
  simp only [theOps, nthOp, List.map_cons, List.map_nil, Array.getD_eq_getD_getElem?, List.getElem?_toArray, List.getElem?_cons_succ, List.getElem?_cons_zero, Option.getD_some]
  refine wpSegs_soft ?_
  repeat (first | (refine wpQuiet_load_mid 95 _ _ 0 [.int .i64 R, sv] _ rfl rfl rfl (rangeAt_after hsd (by simp <;> omega)) Try.underlying95 rfl (by kernel_rfl) ?_; simp only [Act.put, List.setIfInBounds_toArray, List.set_cons_zero, List.set_cons_succ]) | (refine wpQuiet_load_mid 24 _ _ 0 (cgL c) _ rfl rfl rfl (rangeAt_pre hmd (by simp <;> omega)) Try.underlying24 rfl (by kernel_rfl) ?_; simp only [Act.put, List.setIfInBounds_toArray, List.set_cons_zero, List.set_cons_succ]) | go_big_quiet_step (fail) | quiet_step (fail))
  refine wpQuiet_nil ?_
  refine wpSegs_keep ?_
  go_wp2_with fail
  refine (HLM.out _).mono ?_
  rintro e w4 ⟨rfl, hf⟩
  have HF := Lib.hid hf
  clear r1 r6 r10 r11 rl rz hB
  have HS := Lib.hid (HS.out.drew.fr0 hf); clear hf hmd hB0 x11 xl
  have hB := HS.out.blk 3 rfl
  have r1 := (hB.cell 1).trans (HRF.out.cb _ _ _ _)
  have r6 := (hB.cell 6).trans (HRF.out.nmd _ _ _ _)
  have r10 := (hB.cell 10).trans (HRF.out.top _ _ _ _)
  have r11 := (hB.cell 11).trans (HRF.out.lim _ _ _ _)
  have rl := hB.lt
  have rz := hB.froz
  go_wp2_with fail
  refine ⟨⟨⟨_, (by exact HF.out)⟩, rfl⟩, ?_⟩
  repeat (first | (refine wpSegs_hard ?_; go_wp2_with fail) | ((first | refine wpSegs_soft ?_ | refine wpSegs_pure ?_ | refine wpSegs_here ?_); (repeat (first | go_big_quiet_step (fail) | quiet_step (fail))); refine wpQuiet_nil ?_))
  refine wpSegs_done ?_
  go_wp2_with fail
  -- tumbler/tumblerref10.Give 2: function and region, 50: the function, sv: sv, RPf wt wl top lim: RP
  clear r1 r6 r10 r11 rl rz hB
  have hpd := (HS.out.blk 3 rfl).drew
  have hsd := (HS.out.blk 2 rfl).drew
  have hlen : (RPf wt wl top lim).length = 12 := HRF.out.len _ _ _ _
  have honeP : ∀ u ∈ (RPf wt wl top lim), u.oneCell' = true := HONE.out _ _ _ _
  have hone := HSV.out _ _ _ _ 4 HS.out rfl
  refine wp_region_fr [(1, [0, 1]), (2, [2]), (3, [3])] [w.heap.size + 1 + 1] (by kernel_rfl) (by kernel_rfl) ?_
  simp only [theOps, nthOp, List.map_cons, List.map_nil, Array.getD_eq_getD_getElem?, List.getElem?_toArray, List.getElem?_cons_succ, List.getElem?_cons_zero, Option.getD_some]
  refine wpSegs_soft ?_
  repeat (first | (refine wpQuiet_load_mid 95 _ _ 0 [.int .i64 R, sv] _ rfl rfl rfl (rangeAt_after hsd (by simp <;> omega)) Try.underlying95 rfl (by kernel_rfl) ?_; simp only [Act.put, List.setIfInBounds_toArray, List.set_cons_zero, List.set_cons_succ]) | (refine wpQuiet_load_mid 65 _ _ 0 (RPf wt wl top lim) _ rfl rfl rfl (rangeAt_after hpd (by simp <;> omega)) Try.underlying65 rfl (by rw [hlen]; kernel_rfl) ?_; simp only [Act.put, List.setIfInBounds_toArray, List.set_cons_zero, List.set_cons_succ]) | go_big_quiet_step (fail) | quiet_step (fail))
  refine wpQuiet_nil ?_
  refine wpSegs_keep ?_
  refine wpList_store_sep HS.out.drew 1 rfl (RPf wt wl top lim) 65 _ _ rfl rfl rfl rfl (by rw [hlen]; rfl) (by rw [hlen]; kernel_rfl) honeP (fun wC hC fC => ?_)
  simp only [List.set_cons_zero, List.set_cons_succ] at hC
  have HC := Lib.hid hC; have HF := Lib.hid fC
  clear hC fC
  go_wp2_with fail
  refine ⟨⟨⟨_, (by exact HF.out)⟩, rfl⟩, ?_⟩
  refine wpSegs_hard ?_
  refine wpList_store_sep HC.out 0 rfl [.int .i64 R, sv] 95 _ _ rfl rfl rfl rfl rfl (by kernel_rfl) hone (fun wD hD _ => ?_)
  simp only [List.set_cons_zero, List.set_cons_succ] at hD
  have HDD := Lib.hid hD; clear hD
  go_wp2_with fail
  refine wpSegs_done ?_
  go_wp2_with fail
  exact bodyPost_ret (v := .tuple #[.agg (RPf wt wl top lim).toArray, .agg [Value.int .i64 R, sv].toArray]) (res_cell_cell Try.results50 rfl rfl (HDD.out.blk 1 rfl).range Try.underlying65 rfl (by rw [hlen]; kernel_rfl) (HDD.out.blk 0 rfl).range Try.underlying95 rfl (by kernel_rfl)) rfl ⟨_, rfl, HDD.out.tail.tail.tail.tail⟩
set_option maxRecDepth 100000 in
set_option maxHeartbeats 4000000 in
theorem rgive10_n2 {w0 w : World} {Rs : List Thing} (c : Cfg) (hok : Y.Ok c) (vn vl : Value) (hvn : vn.oneCell' = true) (hvl : vl.oneCell' = true) (wt wl top lim b : Int) (R : Nat) (sv : Value) (q : List (Int × Int)) (d1 : decide (lim ≥ limit c) = false) (d2 : decide (b < 0) = true) (h : Sep w0 w (refT sv q :: Rs)) :
    Calls Try.prog 50 #[.agg (rpL c vn vl wt wl top lim).toArray, .agg #[.int .i64 R, sv], .int .i64 b] w fun e w' => ∃ sv', e = .returned (.tuple #[.agg (rpL c vn vl wt wl top lim).toArray, .agg [Value.int .i64 R, sv'].toArray]) ∧ Sep w0 w' (refT sv' q :: Rs) := by
  have HLM : Hid (∀ w, Calls Try.prog 31 #[cfgV c] w fun e w' => e = .returned (.int .i64 (limit c)) ∧ Fr [] w w') := Lib.hid (fun w => rlimit_any w c hok)
  have HRF := Lib.hid (rff c vn vl)
  have HONE : Hid (∀ wt wl t l, ∀ u ∈ rpL c vn vl wt wl t l, u.oneCell' = true) := Lib.hid (HRF.out.one hvn hvl)
  have HSV := Lib.hid (fun (w' : World) (Ts : List Thing) (sv : Value) (q : List (Int × Int)) (i : Nat) (h : Sep w0 w' Ts) (hi : Ts[i]? = some (refT sv q)) => ref_one h i hi R)
  have hS := (((h.new 65 (rpL c vn vl wt wl top lim)).new 95 [.int .i64 R, sv]).new 65 z12).new 95 [.int .i64 0, .slice none 0 0]
  simp only [World.size_alloc] at hS
  unfold z12 at hS
  have HS := Lib.hid hS; clear hS h
  unfold cfgV at *
  generalize rpL c vn vl = RPf at *
  have hB := HS.out.blk 3 rfl
  have r1 := (hB.cell 1).trans (HRF.out.cb _ _ _ _)
  have r6 := (hB.cell 6).trans (HRF.out.nmd _ _ _ _)
  have r10 := (hB.cell 10).trans (HRF.out.top _ _ _ _)
  have r11 := (hB.cell 11).trans (HRF.out.lim _ _ _ _)
  have rl := hB.lt
  have rz := hB.froz
  go_enter Try.func50, Try.ntmps50
  go_wp2_with fail
  have hmd := HRF.out.pre _ _ _ _ _ _ (HS.out.blk 3 rfl)
  have hB0 := (HS.out.blk 3 rfl).drew
  have x11 := (hB0.cell 11).trans (HRF.out.lim _ _ _ _)
  have xl := hB0.lt
  refine wp_region_fr [(1, [0, 1, 2, 3]), (2, [4]), (0, [5, 6, 7, 8, 9, 10, 12, 13, 11]), (3, [14]), (0, [15, 16])] [] (by kernel_rfl) (by kernel_rfl) ?_
  simp only [theOps, nthOp, List.map_cons, List.map_nil, Array.getD_eq_getD_getElem?, List.getElem?_toArray, List.getElem?_cons_succ, List.getElem?_cons_zero, Option.getD_some]
  refine wpSegs_soft ?_
  repeat (first | (refine wpQuiet_load_mid 95 _ _ 0 [.int .i64 R, sv] _ rfl rfl rfl (rangeAt_after hsd (by simp <;> omega)) Try.underlying95 rfl (by kernel_rfl) ?_; simp only [Act.put, List.setIfInBounds_toArray, List.set_cons_zero, List.set_cons_succ]) | (refine wpQuiet_load_mid 24 _ _ 0 (cgL c) _ rfl rfl rfl (rangeAt_pre hmd (by simp <;> omega)) Try.underlying24 rfl (by kernel_rfl) ?_; simp only [Act.put, List.setIfInBounds_toArray, List.set_cons_zero, List.set_cons_succ]) | go_big_quiet_step (fail) | quiet_step (fail))
  refine wpQuiet_nil ?_
  refine wpSegs_keep ?_
  go_wp2_with fail
  refine (HLM.out _).mono ?_
  rintro e w4 ⟨rfl, hf⟩
  have HF := Lib.hid hf
  clear r1 r6 r10 r11 rl rz hB
  have HS := Lib.hid (HS.out.drew.fr0 hf); clear hf hmd hB0 x11 xl
  have hB := HS.out.blk 3 rfl
  have r1 := (hB.cell 1).trans (HRF.out.cb _ _ _ _)
  have r6 := (hB.cell 6).trans (HRF.out.nmd _ _ _ _)
  have r10 := (hB.cell 10).trans (HRF.out.top _ _ _ _)
  have r11 := (hB.cell 11).trans (HRF.out.lim _ _ _ _)
  have rl := hB.lt
  have rz := hB.froz
  go_wp2_with fail
  refine ⟨⟨⟨_, (by exact HF.out)⟩, rfl⟩, ?_⟩
  repeat (first | (refine wpSegs_hard ?_; go_wp2_with fail) | ((first | refine wpSegs_soft ?_ | refine wpSegs_pure ?_ | refine wpSegs_here ?_); (repeat (first | go_big_quiet_step (fail) | quiet_step (fail))); refine wpQuiet_nil ?_))
  refine wpSegs_done ?_
  go_wp2_with fail
  -- tumbler/tumblerref10.Give 2: function and region, 50: the function, sv: sv, RPf wt wl top lim: RP
  clear r1 r6 r10 r11 rl rz hB
  have hpd := (HS.out.blk 3 rfl).drew
  have hsd := (HS.out.blk 2 rfl).drew
  have hlen : (RPf wt wl top lim).length = 12 := HRF.out.len _ _ _ _
  have honeP : ∀ u ∈ (RPf wt wl top lim), u.oneCell' = true := HONE.out _ _ _ _
  have hone := HSV.out _ _ _ _ 4 HS.out rfl
  refine wp_region_fr [(1, [0, 1]), (2, [2]), (3, [3])] [w.heap.size + 1 + 1] (by kernel_rfl) (by kernel_rfl) ?_
  simp only [theOps, nthOp, List.map_cons, List.map_nil, Array.getD_eq_getD_getElem?, List.getElem?_toArray, List.getElem?_cons_succ, List.getElem?_cons_zero, Option.getD_some]
  refine wpSegs_soft ?_
  repeat (first | (refine wpQuiet_load_mid 95 _ _ 0 [.int .i64 R, sv] _ rfl rfl rfl (rangeAt_after hsd (by simp <;> omega)) Try.underlying95 rfl (by kernel_rfl) ?_; simp only [Act.put, List.setIfInBounds_toArray, List.set_cons_zero, List.set_cons_succ]) | (refine wpQuiet_load_mid 65 _ _ 0 (RPf wt wl top lim) _ rfl rfl rfl (rangeAt_after hpd (by simp <;> omega)) Try.underlying65 rfl (by rw [hlen]; kernel_rfl) ?_; simp only [Act.put, List.setIfInBounds_toArray, List.set_cons_zero, List.set_cons_succ]) | go_big_quiet_step (fail) | quiet_step (fail))
  refine wpQuiet_nil ?_
  refine wpSegs_keep ?_
  refine wpList_store_sep HS.out.drew 1 rfl (RPf wt wl top lim) 65 _ _ rfl rfl rfl rfl (by rw [hlen]; rfl) (by rw [hlen]; kernel_rfl) honeP (fun wC hC fC => ?_)
  simp only [List.set_cons_zero, List.set_cons_succ] at hC
  have HC := Lib.hid hC; have HF := Lib.hid fC
  clear hC fC
  go_wp2_with fail
  refine ⟨⟨⟨_, (by exact HF.out)⟩, rfl⟩, ?_⟩
  refine wpSegs_hard ?_
  refine wpList_store_sep HC.out 0 rfl [.int .i64 R, sv] 95 _ _ rfl rfl rfl rfl rfl (by kernel_rfl) hone (fun wD hD _ => ?_)
  simp only [List.set_cons_zero, List.set_cons_succ] at hD
  have HDD := Lib.hid hD; clear hD
  go_wp2_with fail
  refine wpSegs_done ?_
  go_wp2_with fail
  exact bodyPost_ret (v := .tuple #[.agg (RPf wt wl top lim).toArray, .agg [Value.int .i64 R, sv].toArray]) (res_cell_cell Try.results50 rfl rfl (HDD.out.blk 1 rfl).range Try.underlying65 rfl (by rw [hlen]; kernel_rfl) (HDD.out.blk 0 rfl).range Try.underlying95 rfl (by kernel_rfl)) rfl ⟨_, rfl, HDD.out.tail.tail.tail.tail⟩
set_option maxRecDepth 100000 in
set_option maxHeartbeats 4000000 in
theorem rgive10_n3 {w0 w : World} {Rs : List Thing} (c : Cfg) (hok : Y.Ok c) (vn vl : Value) (hvn : vn.oneCell' = true) (hvl : vl.oneCell' = true) (wt wl top lim b : Int) (R : Nat) (sv : Value) (q : List (Int × Int)) (d1 : decide (lim ≥ limit c) = false) (d2 : decide (b < 0) = false) (d3 : decide (b ≥ c.b) = true) (h : Sep w0 w (refT sv q :: Rs)) :
    Calls Try.prog 50 #[.agg (rpL c vn vl wt wl top lim).toArray, .agg #[.int .i64 R, sv], .int .i64 b] w fun e w' => ∃ sv', e = .returned (.tuple #[.agg (rpL c vn vl wt wl top lim).toArray, .agg [Value.int .i64 R, sv'].toArray]) ∧ Sep w0 w' (refT sv' q :: Rs) := by
  have HLM : Hid (∀ w, Calls Try.prog 31 #[cfgV c] w fun e w' => e = .returned (.int .i64 (limit c)) ∧ Fr [] w w') := Lib.hid (fun w => rlimit_any w c hok)
  have HRF := Lib.hid (rff c vn vl)
  have HONE : Hid (∀ wt wl t l, ∀ u ∈ rpL c vn vl wt wl t l, u.oneCell' = true) := Lib.hid (HRF.out.one hvn hvl)
  have HSV := Lib.hid (fun (w' : World) (Ts : List Thing) (sv : Value) (q : List (Int × Int)) (i : Nat) (h : Sep w0 w' Ts) (hi : Ts[i]? = some (refT sv q)) => ref_one h i hi R)
  have hS := (((h.new 65 (rpL c vn vl wt wl top lim)).new 95 [.int .i64 R, sv]).new 65 z12).new 95 [.int .i64 0, .slice none 0 0]
  simp only [World.size_alloc] at hS
  unfold z12 at hS
  have HS := Lib.hid hS; clear hS h
  unfold cfgV at *
  generalize rpL c vn vl = RPf at *
  have hB := HS.out.blk 3 rfl
  have r1 := (hB.cell 1).trans (HRF.out.cb _ _ _ _)
  have r6 := (hB.cell 6).trans (HRF.out.nmd _ _ _ _)
  have r10 := (hB.cell 10).trans (HRF.out.top _ _ _ _)
  have r11 := (hB.cell 11).trans (HRF.out.lim _ _ _ _)
  have rl := hB.lt
  have rz := hB.froz
  go_enter Try.func50, Try.ntmps50
  go_wp2_with fail
  have hmd := HRF.out.pre _ _ _ _ _ _ (HS.out.blk 3 rfl)
  have hB0 := (HS.out.blk 3 rfl).drew
  have x11 := (hB0.cell 11).trans (HRF.out.lim _ _ _ _)
  have xl := hB0.lt
  refine wp_region_fr [(1, [0, 1, 2, 3]), (2, [4]), (0, [5, 6, 7, 8, 9, 10, 12, 13, 11]), (3, [14]), (0, [15, 16])] [] (by kernel_rfl) (by kernel_rfl) ?_
  simp only [theOps, nthOp, List.map_cons, List.map_nil, Array.getD_eq_getD_getElem?, List.getElem?_toArray, List.getElem?_cons_succ, List.getElem?_cons_zero, Option.getD_some]
  refine wpSegs_soft ?_
  repeat (first | (refine wpQuiet_load_mid 95 _ _ 0 [.int .i64 R, sv] _ rfl rfl rfl (rangeAt_after hsd (by simp <;> omega)) Try.underlying95 rfl (by kernel_rfl) ?_; simp only [Act.put, List.setIfInBounds_toArray, List.set_cons_zero, List.set_cons_succ]) | (refine wpQuiet_load_mid 24 _ _ 0 (cgL c) _ rfl rfl rfl (rangeAt_pre hmd (by simp <;> omega)) Try.underlying24 rfl (by kernel_rfl) ?_; simp only [Act.put, List.setIfInBounds_toArray, List.set_cons_zero, List.set_cons_succ]) | go_big_quiet_step (fail) | quiet_step (fail))
  refine wpQuiet_nil ?_
  refine wpSegs_keep ?_
  go_wp2_with fail
  refine (HLM.out _).mono ?_
  rintro e w4 ⟨rfl, hf⟩
  have HF := Lib.hid hf
  clear r1 r6 r10 r11 rl rz hB
  have HS := Lib.hid (HS.out.drew.fr0 hf); clear hf hmd hB0 x11 xl
  have hB := HS.out.blk 3 rfl
  have r1 := (hB.cell 1).trans (HRF.out.cb _ _ _ _)
  have r6 := (hB.cell 6).trans (HRF.out.nmd _ _ _ _)
  have r10 := (hB.cell 10).trans (HRF.out.top _ _ _ _)
  have r11 := (hB.cell 11).trans (HRF.out.lim _ _ _ _)
  have rl := hB.lt
  have rz := hB.froz
  go_wp2_with fail
  refine ⟨⟨⟨_, (by exact HF.out)⟩, rfl⟩, ?_⟩
  repeat (first | (refine wpSegs_hard ?_; go_wp2_with fail) | ((first | refine wpSegs_soft ?_ | refine wpSegs_pure ?_ | refine wpSegs_here ?_); (repeat (first | go_big_quiet_step (fail) | quiet_step (fail))); refine wpQuiet_nil ?_))
  refine wpSegs_done ?_
  go_wp2_with fail
  -- tumbler/tumblerref10.Give 2: function and region, 50: the function, sv: sv, RPf wt wl top lim: RP
  clear r1 r6 r10 r11 rl rz hB
  have hpd := (HS.out.blk 3 rfl).drew
  have hsd := (HS.out.blk 2 rfl).drew
  have hlen : (RPf wt wl top lim).length = 12 := HRF.out.len _ _ _ _
  have honeP : ∀ u ∈ (RPf wt wl top lim), u.oneCell' = true := HONE.out _ _ _ _
  have hone := HSV.out _ _ _ _ 4 HS.out rfl
  refine wp_region_fr [(1, [0, 1]), (2, [2]), (3, [3])] [w.heap.size + 1 + 1] (by kernel_rfl) (by kernel_rfl) ?_
  simp only [theOps, nthOp, List.map_cons, List.map_nil, Array.getD_eq_getD_getElem?, List.getElem?_toArray, List.getElem?_cons_succ, List.getElem?_cons_zero, Option.getD_some]
  refine wpSegs_soft ?_
  repeat (first | (refine wpQuiet_load_mid 95 _ _ 0 [.int .i64 R, sv] _ rfl rfl rfl (rangeAt_after hsd (by simp <;> omega)) Try.underlying95 rfl (by kernel_rfl) ?_; simp only [Act.put, List.setIfInBounds_toArray, List.set_cons_zero, List.set_cons_succ]) | (refine wpQuiet_load_mid 65 _ _ 0 (RPf wt wl top lim) _ rfl rfl rfl (rangeAt_after hpd (by simp <;> omega)) Try.underlying65 rfl (by rw [hlen]; kernel_rfl) ?_; simp only [Act.put, List.setIfInBounds_toArray, List.set_cons_zero, List.set_cons_succ]) | go_big_quiet_step (fail) | quiet_step (fail))
  refine wpQuiet_nil ?_
  refine wpSegs_keep ?_
  refine wpList_store_sep HS.out.drew 1 rfl (RPf wt wl top lim) 65 _ _ rfl rfl rfl rfl (by rw [hlen]; rfl) (by rw [hlen]; kernel_rfl) honeP (fun wC hC fC => ?_)
  simp only [List.set_cons_zero, List.set_cons_succ] at hC
  have HC := Lib.hid hC; have HF := Lib.hid fC
  clear hC fC
  go_wp2_with fail
  refine ⟨⟨⟨_, (by exact HF.out)⟩, rfl⟩, ?_⟩
  refine wpSegs_hard ?_
  refine wpList_store_sep HC.out 0 rfl [.int .i64 R, sv] 95 _ _ rfl rfl rfl rfl rfl (by kernel_rfl) hone (fun wD hD _ => ?_)
  simp only [List.set_cons_zero, List.set_cons_succ] at hD
  have HDD := Lib.hid hD; clear hD
  go_wp2_with fail
  refine wpSegs_done ?_
  go_wp2_with fail
  exact bodyPost_ret (v := .tuple #[.agg (RPf wt wl top lim).toArray, .agg [Value.int .i64 R, sv].toArray]) (res_cell_cell Try.results50 rfl rfl (HDD.out.blk 1 rfl).range Try.underlying65 rfl (by rw [hlen]; kernel_rfl) (HDD.out.blk 0 rfl).range Try.underlying95 rfl (by kernel_rfl)) rfl ⟨_, rfl, HDD.out.tail.tail.tail.tail⟩
set_option maxRecDepth 100000 in
set_option maxHeartbeats 8000000 in
theorem rgive10_y {w0 w : World} {Rs : List Thing} (c : Cfg) (hok : Y.Ok c) (vn vl : Value) (hvn : vn.oneCell' = true) (hvl : vl.oneCell' = true) (wt wl top lim b : Int) (hl : 0 ≤ lim ∧ lim ≤ 1000) (R : Nat) (hR : R ≤ 65536) (sv : Value) (q : List (Int × Int)) (hq : q.length ≤ 100000) (d1 : decide (lim ≥ limit c) = false) (d2 : decide (b < 0) = false) (d3 : decide (b ≥ c.b) = false) (h : Sep w0 w (refT sv q :: Rs)) :
    Calls Try.prog 50 #[.agg (rpL c vn vl wt wl top lim).toArray, .agg #[.int .i64 R, sv], .int .i64 b] w fun e w' => ∃ sv', e = .returned (.tuple #[.agg (rpL c vn vl wt wl top (lim + 1)).toArray, .agg [Value.int .i64 R, sv'].toArray]) ∧ Sep w0 w' (refT sv' (P.rp1 R (P.rp1 R q (at_ c 11 b 0) 2) (at_ c 15 lim 0) b) :: Rs) := by
  have HLM : Hid (∀ w, Calls Try.prog 31 #[cfgV c] w fun e w' => e = .returned (.int .i64 (limit c)) ∧ Fr [] w w') := Lib.hid (fun w => rlimit_any w c hok)
  have HA := Lib.hid (fun w => rat_any w c hok 11 b 0)
  have HA2 := Lib.hid (fun w => rat_any w c hok 15 lim 0)
  have hb2 : 0 ≤ b ∧ b < c.b := by simp at d2 d3; omega
  have hb64 := hok.b64
  have hwb : IntKind.u64.wrap b = b := by rw [IntKind.wrap_u64]; omega
  have hwn : IntKind.i64.wrap (lim + 1) = lim + 1 := wrap_i64_id _ (by omega) (by omega)
  have hp1 := P.rp1_len R q (at_ c 11 b 0) 2
  obtain ⟨q1, hq1⟩ : ∃ q1, P.rp1 R q (at_ c 11 b 0) 2 = q1 := ⟨_, rfl⟩
  rw [hq1] at hp1 ⊢
  have HQ1 := Lib.hid hq1; clear hq1 hb2 hb64
  have HRF := Lib.hid (rff c vn vl)
  have HONE : Hid (∀ wt wl t l, ∀ u ∈ rpL c vn vl wt wl t l, u.oneCell' = true) := Lib.hid (HRF.out.one hvn hvl)
  have HSV := Lib.hid (fun (w' : World) (Ts : List Thing) (sv : Value) (q : List (Int × Int)) (i : Nat) (h : Sep w0 w' Ts) (hi : Ts[i]? = some (refT sv q)) => ref_one h i hi R)
  have hS := (((h.new 65 (rpL c vn vl wt wl top lim)).new 95 [.int .i64 R, sv]).new 65 z12).new 95 [.int .i64 0, .slice none 0 0]
  simp only [World.size_alloc] at hS
  unfold z12 at hS
  have HS := Lib.hid hS; clear hS h
  unfold cfgV at *
  generalize rpL c vn vl = RPf at *
  have hB := HS.out.blk 3 rfl
  have r1 := (hB.cell 1).trans (HRF.out.cb _ _ _ _)
  have r6 := (hB.cell 6).trans (HRF.out.nmd _ _ _ _)
  have r10 := (hB.cell 10).trans (HRF.out.top _ _ _ _)
  have r11 := (hB.cell 11).trans (HRF.out.lim _ _ _ _)
  have rl := hB.lt
  have rz := hB.froz
  go_enter Try.func50, Try.ntmps50
  go_wp2_with fail
  have hmd := HRF.out.pre _ _ _ _ _ _ (HS.out.blk 3 rfl)
  have hB0 := (HS.out.blk 3 rfl).drew
  have x11 := (hB0.cell 11).trans (HRF.out.lim _ _ _ _)
  have xl := hB0.lt
  refine wp_region_fr [(1, [0, 1, 2, 3]), (2, [4]), (0, [5, 6, 7, 8, 9, 10, 12, 13, 11]), (3, [14]), (0, [15, 16])] [] (by kernel_rfl) (by kernel_rfl) ?_
  simp only [theOps, nthOp, List.map_cons, List.map_nil, Array.getD_eq_getD_getElem?, List.getElem?_toArray, List.getElem?_cons_succ, List.getElem?_cons_zero, Option.getD_some]
  refine wpSegs_soft ?_
  repeat (first | (refine wpQuiet_load_mid 95 _ _ 0 [.int .i64 R, sv] _ rfl rfl rfl (rangeAt_after hsd (by simp <;> omega)) Try.underlying95 rfl (by kernel_rfl) ?_; simp only [Act.put, List.setIfInBounds_toArray, List.set_cons_zero, List.set_cons_succ]) | (refine wpQuiet_load_mid 24 _ _ 0 (cgL c) _ rfl rfl rfl (rangeAt_pre hmd (by simp <;> omega)) Try.underlying24 rfl (by kernel_rfl) ?_; simp only [Act.put, List.setIfInBounds_toArray, List.set_cons_zero, List.set_cons_succ]) | go_big_quiet_step (fail) | quiet_step (fail))
  refine wpQuiet_nil ?_
  refine wpSegs_keep ?_
  go_wp2_with fail
  refine (HLM.out _).mono ?_
  rintro e w4 ⟨rfl, hf⟩
  have HF := Lib.hid hf
  clear r1 r6 r10 r11 rl rz hB
  have HS := Lib.hid (HS.out.drew.fr0 hf); clear hf hmd hB0 x11 xl
  have hB := HS.out.blk 3 rfl
  have r1 := (hB.cell 1).trans (HRF.out.cb _ _ _ _)
  have r6 := (hB.cell 6).trans (HRF.out.nmd _ _ _ _)
  have r10 := (hB.cell 10).trans (HRF.out.top _ _ _ _)
  have r11 := (hB.cell 11).trans (HRF.out.lim _ _ _ _)
  have rl := hB.lt
  have rz := hB.froz
  go_wp2_with fail
  refine ⟨⟨⟨_, (by exact HF.out)⟩, rfl⟩, ?_⟩
  repeat (first | (refine wpSegs_hard ?_; go_wp2_with fail) | ((first | refine wpSegs_soft ?_ | refine wpSegs_pure ?_ | refine wpSegs_here ?_); (repeat (first | go_big_quiet_step (fail) | quiet_step (fail))); refine wpQuiet_nil ?_))
  refine wpSegs_done ?_
  go_wp2_with fail
  -- tumbler/tumblerref10.Give 3: function and region, HA.out _: where, sv: sv, q: q, sv1: sv', (RPf wt wl top lim): RP, (at_ c 11 b 0): the place, 2: the value
  have hmd := HRF.out.pre _ _ _ _ _ _ (HS.out.blk 3 rfl)
  have hsd := (HS.out.blk 2 rfl).drew
  refine wp_region_fr [(1, [0, 1, 2, 3]), (2, [4]), (3, [5]), (3, [6])] [] (by kernel_rfl) (by kernel_rfl) ?_
  simp only [theOps, nthOp, List.map_cons, List.map_nil, Array.getD_eq_getD_getElem?, List.getElem?_toArray, List.getElem?_cons_succ, List.getElem?_cons_zero, Option.getD_some]
  refine wpSegs_soft ?_
  repeat (first | (refine wpQuiet_load_mid 95 _ _ 0 [.int .i64 R, sv] _ rfl rfl rfl (rangeAt_after hsd (by simp <;> omega)) Try.underlying95 rfl (by kernel_rfl) ?_; simp only [Act.put, List.setIfInBounds_toArray, List.set_cons_zero, List.set_cons_succ]) | (refine wpQuiet_load_mid 24 _ _ 0 (cgL c) _ rfl rfl rfl (rangeAt_pre hmd (by simp <;> omega)) Try.underlying24 rfl (by kernel_rfl) ?_; simp only [Act.put, List.setIfInBounds_toArray, List.set_cons_zero, List.set_cons_succ]) | go_big_quiet_step (fail) | quiet_step (fail))
  refine wpQuiet_nil ?_
  refine wpSegs_keep ?_
  go_wp2_with fail
  refine (HA.out _).mono ?_
  rintro e w4 ⟨rfl, hf⟩
  have HF := Lib.hid hf
  clear r1 r6 r10 r11 rl rz hB
  have HS := Lib.hid (HS.out.drew.fr0 hf); clear hf hmd hsd
  have hB := HS.out.blk 3 rfl
  have r1 := (hB.cell 1).trans (HRF.out.cb _ _ _ _)
  have r6 := (hB.cell 6).trans (HRF.out.nmd _ _ _ _)
  have r10 := (hB.cell 10).trans (HRF.out.top _ _ _ _)
  have r11 := (hB.cell 11).trans (HRF.out.lim _ _ _ _)
  have rl := hB.lt
  have rz := hB.froz
  go_wp2_with fail
  refine ⟨⟨⟨_, (by exact HF.out)⟩, rfl⟩, ?_⟩
  repeat ((first | refine wpSegs_soft ?_ | refine wpSegs_pure ?_ | refine wpSegs_here ?_); (repeat (first | go_big_quiet_step (fail) | quiet_step (fail))); refine wpQuiet_nil ?_)
  refine wpSegs_hard ?_
  go_wp2_with fail
  clear r1 r6 r10 r11 rl rz hB
  refine (rput10_sep R sv q (at_ c 11 b 0) 2 (by omega) hR (HS.out.pull 4 rfl)).mono ?_
  rintro e w5 ⟨sv1, rfl, h5⟩
  have h6 : Sep w0 w5 (blkT (w.heap.size + 1 + 1 + 1) 95 [.int .i64 0, .slice none 0 0] :: blkT (w.heap.size + 1 + 1) 65 [.int .i64 0, .int .i64 0, .int .i64 0, .int .i64 0, .int .u64 0, .int .u64 0, .slice none 0 0, .slice none 0 0, .int .i64 0, .int .i64 0, .int .i64 0, .int .i64 0] :: blkT (w.heap.size + 1) 95 [.int .i64 R, sv] :: blkT w.heap.size 65 (RPf wt wl top lim) :: refT sv1 (P.rp1 R q (at_ c 11 b 0) 2) :: Rs) := (((h5.pull 4 rfl).pull 4 rfl).pull 4 rfl).pull 4 rfl
  clear h5
  have hone := HSV.out _ _ _ _ 4 h6 rfl
  have HS5 := Lib.hid h6; clear h6
  go_wp2_with fail
  refine wpSegs_hard ?_
  refine wpList_store_sep HS5.out 2 rfl [.int .i64 R, sv1] 95 _ _ rfl rfl rfl rfl rfl (by kernel_rfl) hone (fun wA hA fA => ?_)
  simp only [List.set_cons_zero, List.set_cons_succ] at hA
  have HS := Lib.hid hA; clear hA fA HS5
  simp only [Act.put, List.setIfInBounds_toArray, List.set_cons_zero, List.set_cons_succ]
  go_wp2_with fail
  repeat ((first | refine wpSegs_soft ?_ | refine wpSegs_pure ?_ | refine wpSegs_here ?_); (repeat (first | go_big_quiet_step (fail) | quiet_step (fail))); refine wpQuiet_nil ?_)
  refine wpSegs_done ?_
  have hB := HS.out.blk 3 rfl
  have r1 := (hB.cell 1).trans (HRF.out.cb _ _ _ _)
  have r6 := (hB.cell 6).trans (HRF.out.nmd _ _ _ _)
  have r10 := (hB.cell 10).trans (HRF.out.top _ _ _ _)
  have r11 := (hB.cell 11).trans (HRF.out.lim _ _ _ _)
  have rl := hB.lt
  have rz := hB.froz
  rw [HQ1.out] at HS
  go_wp2_with fail
  -- tumbler/tumblerref10.Give 4: function and region, HA2.out _: where, sv1: sv, q1: q, sv2: sv', (RPf wt wl top lim): RP, (at_ c 15 lim 0): the place, b: the value
  have hmd := HRF.out.pre _ _ _ _ _ _ (HS.out.blk 3 rfl)
  have hsd := (HS.out.blk 2 rfl).drew
  refine wp_region_fr [(1, [0, 1, 2, 3, 4, 6, 7]), (2, [5]), (3, [8]), (3, [9])] [] (by kernel_rfl) (by kernel_rfl) ?_
  simp only [theOps, nthOp, List.map_cons, List.map_nil, Array.getD_eq_getD_getElem?, List.getElem?_toArray, List.getElem?_cons_succ, List.getElem?_cons_zero, Option.getD_some]
  refine wpSegs_soft ?_
  repeat (first | (refine wpQuiet_load_mid 95 _ _ 0 [.int .i64 R, sv1] _ rfl rfl rfl (rangeAt_after hsd (by simp <;> omega)) Try.underlying95 rfl (by kernel_rfl) ?_; simp only [Act.put, List.setIfInBounds_toArray, List.set_cons_zero, List.set_cons_succ]) | (refine wpQuiet_load_mid 24 _ _ 0 (cgL c) _ rfl rfl rfl (rangeAt_pre hmd (by simp <;> omega)) Try.underlying24 rfl (by kernel_rfl) ?_; simp only [Act.put, List.setIfInBounds_toArray, List.set_cons_zero, List.set_cons_succ]) | go_big_quiet_step (fail) | quiet_step (fail))
  refine wpQuiet_nil ?_
  refine wpSegs_keep ?_
  go_wp2_with fail
  refine (HA2.out _).mono ?_
  rintro e w4 ⟨rfl, hf⟩
  have HF := Lib.hid hf
  clear r1 r6 r10 r11 rl rz hB
  have HS := Lib.hid (HS.out.drew.fr0 hf); clear hf hmd hsd
  have hB := HS.out.blk 3 rfl
  have r1 := (hB.cell 1).trans (HRF.out.cb _ _ _ _)
  have r6 := (hB.cell 6).trans (HRF.out.nmd _ _ _ _)
  have r10 := (hB.cell 10).trans (HRF.out.top _ _ _ _)
  have r11 := (hB.cell 11).trans (HRF.out.lim _ _ _ _)
  have rl := hB.lt
  have rz := hB.froz
  go_wp2_with fail
  refine ⟨⟨⟨_, (by exact HF.out)⟩, rfl⟩, ?_⟩
  repeat ((first | refine wpSegs_soft ?_ | refine wpSegs_pure ?_ | refine wpSegs_here ?_); (repeat (first | go_big_quiet_step (fail) | quiet_step (fail))); refine wpQuiet_nil ?_)
  refine wpSegs_hard ?_
  go_wp2_with fail
  clear r1 r6 r10 r11 rl rz hB
  refine (rput10_sep R sv1 q1 (at_ c 15 lim 0) b (by omega) hR (HS.out.pull 4 rfl)).mono ?_
  rintro e w5 ⟨sv2, rfl, h5⟩
  have h6 : Sep w0 w5 (blkT (w.heap.size + 1 + 1 + 1) 95 [.int .i64 0, .slice none 0 0] :: blkT (w.heap.size + 1 + 1) 65 [.int .i64 0, .int .i64 0, .int .i64 0, .int .i64 0, .int .u64 0, .int .u64 0, .slice none 0 0, .slice none 0 0, .int .i64 0, .int .i64 0, .int .i64 0, .int .i64 0] :: blkT (w.heap.size + 1) 95 [.int .i64 R, sv1] :: blkT w.heap.size 65 (RPf wt wl top lim) :: refT sv2 (P.rp1 R q1 (at_ c 15 lim 0) b) :: Rs) := (((h5.pull 4 rfl).pull 4 rfl).pull 4 rfl).pull 4 rfl
  clear h5
  have hone := HSV.out _ _ _ _ 4 h6 rfl
  have HS5 := Lib.hid h6; clear h6
  go_wp2_with fail
  refine wpSegs_hard ?_
  refine wpList_store_sep HS5.out 2 rfl [.int .i64 R, sv2] 95 _ _ rfl rfl rfl rfl rfl (by kernel_rfl) hone (fun wA hA fA => ?_)
  simp only [List.set_cons_zero, List.set_cons_succ] at hA
  have HS := Lib.hid hA; clear hA fA HS5
  simp only [Act.put, List.setIfInBounds_toArray, List.set_cons_zero, List.set_cons_succ]
  go_wp2_with fail
  repeat ((first | refine wpSegs_soft ?_ | refine wpSegs_pure ?_ | refine wpSegs_here ?_); (repeat (first | go_big_quiet_step (fail) | quiet_step (fail))); refine wpQuiet_nil ?_)
  refine wpSegs_done ?_
  have hB := HS.out.blk 3 rfl
  have r1 := (hB.cell 1).trans (HRF.out.cb _ _ _ _)
  have r6 := (hB.cell 6).trans (HRF.out.nmd _ _ _ _)
  have r10 := (hB.cell 10).trans (HRF.out.top _ _ _ _)
  have r11 := (hB.cell 11).trans (HRF.out.lim _ _ _ _)
  have rl := hB.lt
  have rz := hB.froz
  go_wp2_with (refine wpList_store_cell HS.out 3 rfl 11 (.int .i64 (lim + 1)) 3 _ _ rfl rfl rfl rfl (by rw [HRF.out.len]; decide) (by kernel_rfl) rfl (fun wA hA _ => ?_); simp only [List.set_cons_zero, List.set_cons_succ, HRF.out.slim] at hA; have HA3 := Lib.hid hA; clear hA)
  clear r1 r6 r10 r11 rl rz hB
  have HS := HA3
  have hB := HS.out.blk 3 rfl
  have r1 := (hB.cell 1).trans (HRF.out.cb _ _ _ _)
  have r6 := (hB.cell 6).trans (HRF.out.nmd _ _ _ _)
  have r10 := (hB.cell 10).trans (HRF.out.top _ _ _ _)
  have r11 := (hB.cell 11).trans (HRF.out.lim _ _ _ _)
  have rl := hB.lt
  have rz := hB.froz
  -- tumbler/tumblerref10.Give 6: function and region, 50: the function, sv2: sv, RPf wt wl top (lim + 1): RP
  clear r1 r6 r10 r11 rl rz hB
  have hpd := (HS.out.blk 3 rfl).drew
  have hsd := (HS.out.blk 2 rfl).drew
  have hlen : (RPf wt wl top (lim + 1)).length = 12 := HRF.out.len _ _ _ _
  have honeP : ∀ u ∈ (RPf wt wl top (lim + 1)), u.oneCell' = true := HONE.out _ _ _ _
  have hone := HSV.out _ _ _ _ 4 HS.out rfl
  refine wp_region_fr [(1, [0, 1]), (2, [2]), (3, [3])] [w.heap.size + 1 + 1] (by kernel_rfl) (by kernel_rfl) ?_
  simp only [theOps, nthOp, List.map_cons, List.map_nil, Array.getD_eq_getD_getElem?, List.getElem?_toArray, List.getElem?_cons_succ, List.getElem?_cons_zero, Option.getD_some]
  refine wpSegs_soft ?_
  repeat (first | (refine wpQuiet_load_mid 95 _ _ 0 [.int .i64 R, sv2] _ rfl rfl rfl (rangeAt_after hsd (by simp <;> omega)) Try.underlying95 rfl (by kernel_rfl) ?_; simp only [Act.put, List.setIfInBounds_toArray, List.set_cons_zero, List.set_cons_succ]) | (refine wpQuiet_load_mid 65 _ _ 0 (RPf wt wl top (lim + 1)) _ rfl rfl rfl (rangeAt_after hpd (by simp <;> omega)) Try.underlying65 rfl (by rw [hlen]; kernel_rfl) ?_; simp only [Act.put, List.setIfInBounds_toArray, List.set_cons_zero, List.set_cons_succ]) | go_big_quiet_step (fail) | quiet_step (fail))
  refine wpQuiet_nil ?_
  refine wpSegs_keep ?_
  refine wpList_store_sep HS.out.drew 1 rfl (RPf wt wl top (lim + 1)) 65 _ _ rfl rfl rfl rfl (by rw [hlen]; rfl) (by rw [hlen]; kernel_rfl) honeP (fun wC hC fC => ?_)
  simp only [List.set_cons_zero, List.set_cons_succ] at hC
  have HC := Lib.hid hC; have HF := Lib.hid fC
  clear hC fC
  go_wp2_with fail
  refine ⟨⟨⟨_, (by exact HF.out)⟩, rfl⟩, ?_⟩
  refine wpSegs_hard ?_
  refine wpList_store_sep HC.out 0 rfl [.int .i64 R, sv2] 95 _ _ rfl rfl rfl rfl rfl (by kernel_rfl) hone (fun wD hD _ => ?_)
  simp only [List.set_cons_zero, List.set_cons_succ] at hD
  have HDD := Lib.hid hD; clear hD
  go_wp2_with fail
  refine wpSegs_done ?_
  go_wp2_with fail
  exact bodyPost_ret (v := .tuple #[.agg (RPf wt wl top (lim + 1)).toArray, .agg [Value.int .i64 R, sv2].toArray]) (res_cell_cell Try.results50 rfl rfl (HDD.out.blk 1 rfl).range Try.underlying65 rfl (by rw [hlen]; kernel_rfl) (HDD.out.blk 0 rfl).range Try.underlying95 rfl (by kernel_rfl)) rfl ⟨_, rfl, HDD.out.tail.tail.tail.tail⟩
theorem rgive10_any {w0 w : World} {Rs : List Thing} (c : Cfg) (hok : Y.Ok c) (vn vl : Value) (hvn : vn.oneCell' = true) (hvl : vl.oneCell' = true) (wt wl top lim b : Int) (hl : 0 ≤ lim ∧ lim ≤ 1000) (R : Nat) (hR : R ≤ 65536) (sv : Value) (q : List (Int × Int)) (hq : q.length ≤ 100000) (h : Sep w0 w (refT sv q :: Rs)) :
    Calls Try.prog 50 #[.agg (rpL c vn vl wt wl top lim).toArray, .agg #[.int .i64 R, sv], .int .i64 b] w fun e w' => ∃ sv', e = .returned (.tuple #[.agg (rpL c vn vl wt wl top (P.rgiveP c b R lim q).1).toArray, .agg [Value.int .i64 R, sv'].toArray]) ∧ Sep w0 w' (refT sv' (P.rgiveP c b R lim q).2 :: Rs) := by
  unfold P.rgiveP
  by_cases h1 : limit c ≤ lim
  · rw [if_pos (.inl h1)]; exact rgive10_n1 c hok vn vl hvn hvl wt wl top lim b R sv q (by simpa using h1) h
  by_cases h2 : b < 0
  · rw [if_pos (.inr (.inl h2))]; exact rgive10_n2 c hok vn vl hvn hvl wt wl top lim b R sv q (by simpa using h1) (by simpa using h2) h
  by_cases h3 : c.b ≤ b
  · rw [if_pos (.inr (.inr h3))]; exact rgive10_n3 c hok vn vl hvn hvl wt wl top lim b R sv q (by simpa using h1) (by simpa using h2) (by simpa using h3) h
  rw [if_neg (by rintro (h | h | h) <;> contradiction)]
  dsimp only
  exact rgive10_y c hok vn vl hvn hvl wt wl top lim b hl R hR sv q hq (by simpa using h1) (by simpa using h2) (by simpa using h3) h
end Go.Proofs.Ytccioehckfdjdaa
