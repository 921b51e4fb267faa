/- Chapter 9: what the laws share: begin, right. -/
import Derived.Test.YtccioehckfdjdaaVw2
import Derived.Test.YtccioehckfdjdaaVask
import Derived.Test.YtccioehckfdjdaaYof
import Derived.Test.YtccioehckfdjdaaYrat
set_option linter.unusedSimpArgs false
set_option linter.unusedVariables false
namespace Go.Tum
theorem Sep.first {w0 w : World} {T : Thing} : ∀ {R : List Thing}, Sep w0 w (T :: R) → Sep w0 w [T]
  | [], h => h
  | U :: R, h => (show Sep w0 w (T :: R) from (h.pull 1 rfl).tail).first
theorem res_ctc {P : Program} {fn : Func} {tmps : Array Value} {w : World} {a t j e u b b' : Nat} {cs cs' : List Value} {d d' : TypeDesc} {v2 : Value} (hr : fn.results = #[.cell a t, .tmp j, .cell e u]) (ha : tmps.getD a undef = .pointer (some ⟨b, 0, none⟩)) (hj : tmps.getD j undef = v2) (he : tmps.getD e undef = .pointer (some ⟨b', 0, none⟩))
    (hc : w.rangeAt b 0 cs) (hu : P.underlying t = some d) (hd : d.isRow = true) (hi : (P.info? t).map (·.size) = some cs.length)
    (hc' : w.rangeAt b' 0 cs') (hu' : P.underlying u = some d') (hd' : d'.isRow = true) (hi' : (P.info? u).map (·.size) = some cs'.length) : (results fn tmps).run P w = .ok (.tuple #[.agg cs.toArray, v2, .agg cs'.toArray]) w := by
  have h1 := run_loadVar_mid (P := P) w b 0 t cs d hc hu hd hi
  have h2 := run_loadVar_mid (P := P) w b' 0 u cs' d' hc' hu' hd' hi'
  rw [Array.getD_eq_getD_getElem?] at ha hj he
  simp [results, hr, ha, hj, he, asAddr, Sem.run_bind, h1, h2]
end Go.Tum
namespace Go.Tum.Vw
open Go.Tum.Y
/-- A reading is begun. -/
def beg (c : Cfg) (kind a block : Int) (v : V) : V := if kind = 0 then cell c a v else if kind = 1 then word c block a v else if kind = 2 then live c block v else cell c (Y.at_ c 10 (bits .and .i64 a 15) 0) v
/-- The document's view, as it stands in memory. -/
def xL (c : Cfg) (who seq held : Int) (stale : Bool) : List Value := [.int .i64 c.t, .int .i64 c.b, .int .i64 c.w, .int .i64 c.f, .int .u64 c.fi, .int .u64 c.la, .int .i64 who, .int .u64 seq, .int .i64 held, .bool stale]
theorem xL_one (c : Cfg) (who seq held : Int) (stale : Bool) : ∀ u ∈ xL c who seq held stale, u.oneCell' = true := by simp [xL, Value.oneCell']
def vNew : V := ⟨-1, 0, 0, 0, 0, 1⟩
end Go.Tum.Vw
namespace Go.Proofs.Ytccioehckfdjdaa
open Go.RowKit Go.Tum Go.Tum.Y Go.Tum.Vw
theorem oneMapV (c : Cfg) : ∀ v ∈ mapCells c, v.oneCell' = true := by simp [mapCells, Value.oneCell']
set_option maxRecDepth 100000 in
set_option maxHeartbeats 4000000 in
theorem rnew_any (w : World) (c : Cfg) (who seq : Int) :
    Calls Try.prog 93 #[.agg (cfgL c).toArray, .int .i64 who, .int .u64 seq] w fun e w' => e = .returned (.agg (xL c who seq (-1) false).toArray) ∧ Fr [] w w' := by
  obtain ⟨ct, cb, cw, cf, cfi, cla⟩ := c
  rw [show cfgL ⟨ct, cb, cw, cf, cfi, cla⟩ = [Value.int .i64 ct, .int .i64 cb, .int .i64 cw, .int .i64 cf, .int .u64 cfi, .int .u64 cla] from rfl]
  have hone : ∀ u ∈ [Value.int .i64 ct, .int .i64 cb, .int .i64 cw, .int .i64 cf, .int .u64 cfi, .int .u64 cla, .int .i64 who, .int .u64 seq, .int .i64 (-1), .bool false], u.oneCell' = true := by simp [Value.oneCell']
  rw [show xL ⟨ct, cb, cw, cf, cfi, cla⟩ who seq (-1) false = [Value.int .i64 ct, .int .i64 cb, .int .i64 cw, .int .i64 cf, .int .u64 cfi, .int .u64 cla, .int .i64 who, .int .u64 seq, .int .i64 (-1), .bool false] from rfl]
  have hS := ((Sep.nil (Fr.refl [] w)).new 24 [Value.int .i64 ct, .int .i64 cb, .int .i64 cw, .int .i64 cf, .int .u64 cfi, .int .u64 cla]).new 34 [Value.int .i64 0, Value.int .i64 0, Value.int .i64 0, Value.int .i64 0, Value.int .u64 0, Value.int .u64 0, Value.int .i64 0, Value.int .u64 0, Value.int .i64 0, Value.bool false]
  simp only [World.size_alloc] at hS
  have HS := Lib.hid hS; clear hS
  go_enter Try.func93, Try.ntmps93
  go_wp2_with (first | (refine wpList_load_any 24 _ rfl rfl _ 0 rfl [Value.int .i64 ct, .int .i64 cb, .int .i64 cw, .int .i64 cf, .int .u64 cfi, .int .u64 cla] _ (HS.out.blk 1 rfl).range Try.underlying24 rfl (by kernel_rfl) ?_) | (refine wpList_store_sep HS.out 0 rfl [Value.int .i64 ct, .int .i64 cb, .int .i64 cw, .int .i64 cf, .int .u64 cfi, .int .u64 cla, .int .i64 who, .int .u64 seq, .int .i64 (-1), .bool false] 34 _ _ rfl rfl rfl rfl rfl (by kernel_rfl) hone (fun wA hA _ => ?_); have HA := Lib.hid hA; clear hA))
  exact bodyPost_ret (v := .agg [Value.int .i64 ct, .int .i64 cb, .int .i64 cw, .int .i64 cf, .int .u64 cfi, .int .u64 cla, .int .i64 who, .int .u64 seq, .int .i64 (-1), .bool false].toArray) (res_cell Try.results93 rfl (HA.out.blk 0 rfl).range Try.underlying34 rfl (by kernel_rfl)) rfl ⟨rfl, HA.out.fr⟩
set_option maxHeartbeats 4000000 in
theorem begin_law {w0 w : World} {R : List Thing} (b : Nat) (c : Cfg) (hok : Ok c) (who seq : Int) (v : V) (kind a block : Int) (hS : Sep w0 w (blkT b 152 (vwL (mapCells c) who seq v) :: R)) :
    Calls Try.prog 18 #[.pointer (some ⟨b, 0, none⟩), cfgV c, .agg #[.int .i64 kind, .int .i64 a, .int .i64 block]] w fun e w' => e = .returned (.tuple #[]) ∧ Sep w0 w' (blkT b 152 (vwL (mapCells c) who seq (beg c kind a block v)) :: R) := by
  unfold beg
  by_cases h0 : kind = 0
  · rw [if_pos h0]
    have HB := Lib.hid (fun w R (hS : Sep w0 w (blkT b 152 (vwL (mapCells c) who seq v) :: R)) => vcell_any b c hok who seq v a hS)
    generalize cell c a v = u at HB ⊢
    subst h0
    have hS0 := (hS.new 24 (cfgL c)).new 38 [.int .i64 0, .int .i64 a, .int .i64 block]
    simp only [World.size_alloc] at hS0
    have q0 := (hS0.blk 0 rfl).cell 0
    have q1 := (hS0.blk 0 rfl).cell 1
    have q2 := (hS0.blk 0 rfl).cell 2
    simp only [List.getElem?_cons_zero, List.getElem?_cons_succ] at q0 q1 q2
    have ql := (hS0.blk 0 rfl).lt
    have HS := Lib.hid hS0
    have hsz6 : (cfgL c).length = 6 := rfl
    rw [show cfgV c = .agg (cfgL c).toArray from rfl]
    generalize cfgL c = cl at *
    clear hS hS0
    go_enter Try.func18, Try.ntmps18
    go_wp2_with fail
    refine (HB.out _ _ HS.out.tail.tail).mono ?_
    rintro e w2 ⟨rfl, hS⟩
    go_wp2_with fail
    go_end0
    exact ⟨rfl, hS⟩
  · rw [if_neg h0]
    have g0 : (kind == 0) = false := by simpa using h0
    clear h0
    by_cases h1 : kind = 1
    · rw [if_pos h1]
      have HB := Lib.hid (fun w R (hS : Sep w0 w (blkT b 152 (vwL (mapCells c) who seq v) :: R)) => vword_any b c hok who seq v block a hS)
      generalize word c block a v = u at HB ⊢
      subst h1
      have hS0 := (hS.new 24 (cfgL c)).new 38 [.int .i64 1, .int .i64 a, .int .i64 block]
      simp only [World.size_alloc] at hS0
      have q0 := (hS0.blk 0 rfl).cell 0
      have q1 := (hS0.blk 0 rfl).cell 1
      have q2 := (hS0.blk 0 rfl).cell 2
      simp only [List.getElem?_cons_zero, List.getElem?_cons_succ] at q0 q1 q2
      have ql := (hS0.blk 0 rfl).lt
      have HS := Lib.hid hS0
      have hsz6 : (cfgL c).length = 6 := rfl
      rw [show cfgV c = .agg (cfgL c).toArray from rfl]
      generalize cfgL c = cl at *
      clear hS hS0
      go_enter Try.func18, Try.ntmps18
      go_wp2_with fail
      refine (HB.out _ _ HS.out.tail.tail).mono ?_
      rintro e w2 ⟨rfl, hS⟩
      go_wp2_with fail
      go_end0
      exact ⟨rfl, hS⟩
    · rw [if_neg h1]
      have g1 : (kind == 1) = false := by simpa using h1
      clear h1
      by_cases h2 : kind = 2
      · rw [if_pos h2]
        have HB := Lib.hid (fun w R (hS : Sep w0 w (blkT b 152 (vwL (mapCells c) who seq v) :: R)) => vlive_any b c hok who seq v block hS)
        generalize live c block v = u at HB ⊢
        subst h2
        have hS0 := (hS.new 24 (cfgL c)).new 38 [.int .i64 2, .int .i64 a, .int .i64 block]
        simp only [World.size_alloc] at hS0
        have q0 := (hS0.blk 0 rfl).cell 0
        have q1 := (hS0.blk 0 rfl).cell 1
        have q2 := (hS0.blk 0 rfl).cell 2
        simp only [List.getElem?_cons_zero, List.getElem?_cons_succ] at q0 q1 q2
        have ql := (hS0.blk 0 rfl).lt
        have HS := Lib.hid hS0
        have hsz6 : (cfgL c).length = 6 := rfl
        rw [show cfgV c = .agg (cfgL c).toArray from rfl]
        generalize cfgL c = cl at *
        clear hS hS0
        go_enter Try.func18, Try.ntmps18
        go_wp2_with fail
        refine (HB.out _ _ HS.out.tail.tail).mono ?_
        rintro e w2 ⟨rfl, hS⟩
        go_wp2_with fail
        go_end0
        exact ⟨rfl, hS⟩
      · rw [if_neg h2]
        have g2 : (kind == 2) = false := by simpa using h2
        clear h2
        have HRA := Lib.hid (fun w => rat_any w c hok 10 (bits .and .i64 a 15) 0)
        generalize Y.at_ c 10 (bits .and .i64 a 15) 0 = p at HRA ⊢
        have HB := Lib.hid (fun w R (hS : Sep w0 w (blkT b 152 (vwL (mapCells c) who seq v) :: R)) => vcell_any b c hok who seq v p hS)
        generalize cell c p v = u at HB ⊢
        rw [show cfgV c = .agg (cfgL c).toArray from rfl] at HRA
        have hS0 := (hS.new 24 (cfgL c)).new 38 [.int .i64 kind, .int .i64 a, .int .i64 block]
        simp only [World.size_alloc] at hS0
        have q0 := (hS0.blk 0 rfl).cell 0
        have q1 := (hS0.blk 0 rfl).cell 1
        have q2 := (hS0.blk 0 rfl).cell 2
        simp only [List.getElem?_cons_zero, List.getElem?_cons_succ] at q0 q1 q2
        have ql := (hS0.blk 0 rfl).lt
        have HS := Lib.hid hS0
        have hsz6 : (cfgL c).length = 6 := rfl
        rw [show cfgV c = .agg (cfgL c).toArray from rfl]
        generalize cfgL c = cl at *
        clear hS hS0
        go_enter Try.func18, Try.ntmps18
        go_wp2_with (first | (refine wpList_load_any 24 _ rfl rfl _ 0 rfl cl _ (HS.out.blk 1 rfl).range Try.underlying24 rfl (by rw [hsz6]; kernel_rfl) ?_))
        refine (HRA.out _).mono ?_
        rintro e w1 ⟨rfl, hf⟩
        have HS := Lib.hid (HS.out.fr0 hf); clear hf
        go_wp2_with fail
        refine (HB.out _ _ HS.out.tail.tail).mono ?_
        rintro e w2 ⟨rfl, hS⟩
        go_wp2_with fail
        go_end0
        exact ⟨rfl, hS⟩
set_option maxRecDepth 100000 in
set_option maxHeartbeats 8000000 in
theorem right_law (w : World) (c : Cfg) (hok : Ok c) (who seq q r : Int) (hbe : bits .and .i64 who 255 = q) (hr : Int.tmod q c.t = r) (hct : 1 ≤ c.t ∧ c.t ≤ 8) (hq0 : 0 ≤ q ∧ q ≤ 255) :
    Calls Try.prog 17 #[cfgV c, .int .i64 who, .int .u64 seq] w fun e w' => ∃ b, e = .returned (.tuple #[mapV c, .pointer (some ⟨b, 0, none⟩), .agg (xL c r seq (-1) false).toArray]) ∧ Sep w w' [blkT b 152 (vwL (mapCells c) r seq vNew)] := by
  have HOF : Hid (∀ w, Calls Try.prog 25 #[.agg (cfgL c).toArray] w fun e w' => e = .returned (.tuple #[mapV c, .int .i64 0]) ∧ Fr [] w w') := fun w => of_good w c hok
  have HNW := Lib.hid (fun w => vnew_any w (mapCells c) rfl r seq)
  have HRN := Lib.hid (fun w => rnew_any w c r seq)
  have hsz : (mapCells c).length = 24 := rfl
  have hone := oneMapV c
  have hoX := xL_one c r seq (-1) false
  have hlX : (xL c r seq (-1) false).length = 10 := rfl
  have hS := ((((Sep.nil (Fr.refl [] w)).new 24 (cfgL c)).new 31 zeroMap).new 34 [Value.int .i64 0, Value.int .i64 0, Value.int .i64 0, Value.int .i64 0, Value.int .u64 0, Value.int .u64 0, Value.int .i64 0, Value.int .u64 0, Value.int .i64 0, Value.bool false])
  simp only [World.size_alloc] at hS
  have HS := Lib.hid hS; clear hS
  have hsz6 : (cfgL c).length = 6 := rfl
  have g0 : (cfgL c)[0]? = some (.int .i64 c.t) := rfl
  rw [show cfgV c = .agg (cfgL c).toArray from rfl]
  unfold mapV vNew at *
  generalize mapCells c = cs at *
  generalize cfgL c = cl at *
  generalize xL c r seq (-1) false = xl at *
  go_enter Try.func17, Try.ntmps17
  go_wp2_with (first | (refine wpList_load_any 24 _ rfl rfl _ 0 rfl cl _ (HS.out.blk 2 rfl).range Try.underlying24 rfl (by rw [hsz6]; kernel_rfl) ?_))
  refine (HOF.out _).mono ?_
  rintro e w1 ⟨rfl, hf⟩
  have HS := Lib.hid ((HS.out.fr0 hf).new 31 cs); clear hf
  have c0 := ((HS.out.blk 3 rfl).cell 0).trans g0
  have cl0 := (HS.out.blk 3 rfl).lt
  go_wp2_with (first | (refine wpList_store_new 31 _ (cs).toArray rfl _ _ rfl rfl rfl (by rw [List.size_toArray, hsz]; kernel_rfl) (by simp [hsz]) (all_oneCell_toArray hone) ?_))
  have hmd := (HS.out.blk 0 rfl).drew
  have hmc := (HS.out.blk 3 rfl).drew
  have HF := Lib.hid (Fr.refl [] (w1.alloc (.cells cs.toArray 31)).drew)
  have HS := Lib.hid HS.out.drew
  refine wp_region_fr [(1, [0, 1, 2, 3, 5, 6, 7]), (2, [4]), (2, [8]), (3, [9]), (0, [10]), (3, [11])] [] (by kernel_rfl) (by kernel_rfl) ?_
  simp only [theOps, nthOp, List.map_cons, List.map_nil, Array.getD_eq_getD_getElem?, List.getElem?_toArray, List.getElem?_cons_succ, List.getElem?_cons_zero, Option.getD_some]
  refine wpSegs_soft ?_
  repeat (first | (refine wpQuiet_load_mid 31 _ _ 0 cs _ rfl rfl rfl (rangeAt_after hmd (by simp)) Try.underlying31 rfl (by rw [hsz]; kernel_rfl) ?_; simp only [Act.put, List.setIfInBounds_toArray, List.set_cons_zero, List.set_cons_succ]) | (refine wpQuiet_load_mid 24 _ _ 0 cl _ rfl rfl rfl (rangeAt_after hmc (by simp)) Try.underlying24 rfl (by rw [hsz6]; kernel_rfl) ?_; simp only [Act.put, List.setIfInBounds_toArray, List.set_cons_zero, List.set_cons_succ]) | go_big_quiet_step (fail) | quiet_step (fail))
  refine wpQuiet_nil ?_
  refine wpSegs_keep ?_
  go_wp2_with fail
  refine (HNW.out _).mono ?_
  rintro e w2 ⟨b, rfl, hN⟩
  have HF := Lib.hid (HF.out.trans hN.fr)
  have hS := HS.out.append hN
  simp only [List.cons_append, List.nil_append] at hS
  have HS := Lib.hid hS; clear hS hN
  go_wp2_with fail
  refine ⟨⟨⟨_, (by exact HF.out)⟩, rfl⟩, ?_⟩
  refine wpSegs_keep ?_
  go_wp2_with fail
  refine (HRN.out _).mono ?_
  rintro e w3 ⟨rfl, hf⟩
  have HF := Lib.hid (HF.out.trans hf)
  have HS := Lib.hid (HS.out.fr0 hf); clear hf
  go_wp2_with fail
  refine ⟨⟨⟨_, (by exact HF.out)⟩, rfl⟩, ?_⟩
  refine wpSegs_hard ?_
  refine wpList_store_sep HS.out 3 rfl cs 31 _ _ rfl rfl rfl rfl (by rw [hsz]; rfl) (by rw [hsz]; kernel_rfl) hone (fun wA hA _ => ?_)
  have HS := Lib.hid hA; clear hA
  go_wp2_with fail
  repeat ((first | refine wpSegs_soft ?_ | refine wpSegs_pure ?_ | refine wpSegs_here ?_); (repeat (first | go_big_quiet_step (fail) | quiet_step (fail))); refine wpQuiet_nil ?_)
  refine wpSegs_hard ?_
  refine wpList_store_sep HS.out 2 rfl xl 34 _ _ rfl rfl rfl rfl (by rw [hlX]; rfl) (by rw [hlX]; kernel_rfl) hoX (fun wB hB _ => ?_)
  have HS := Lib.hid hB; clear hB
  go_wp2_with fail
  refine wpSegs_done ?_
  go_wp2_with fail
  exact bodyPost_ret (v := .tuple #[.agg cs.toArray, .pointer (some ⟨b, 0, none⟩), .agg xl.toArray]) (res_ctc Try.results17 rfl rfl rfl (HS.out.blk 3 rfl).range Try.underlying31 rfl (by rw [hsz]; kernel_rfl) (HS.out.blk 2 rfl).range Try.underlying34 rfl (by rw [hlX]; kernel_rfl)) rfl ⟨b, rfl, HS.out.first⟩
end Go.Proofs.Ytccioehckfdjdaa
