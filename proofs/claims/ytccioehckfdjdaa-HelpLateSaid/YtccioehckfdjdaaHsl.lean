/- The law HelpSlots, walked. -/
import Derived.Test.YtccioehckfdjdaaHsteps
set_option linter.unusedSimpArgs false
set_option linter.unusedVariables false
namespace Go.Tum.H
open Go.Tum.Y Go.Tum.Sc
theorem read_n (h : H) : (read h).n = h.n := rfl
theorem tell_n {c : Cfg} (hok : Ok c) {seq : Int} {h : H} (hn : h.n ≤ cap c) (v s : Int) : (tell c seq v s h).n ≤ cap c := by
  unfold tell
  repeat (first
    | (split)
    | (simp only [read_n, (unl_keeps _ _).2.1, (entry_keeps _ _ _).2.1]; omega)
    | omega)
def SInv (c : Cfg) (seq : Int) (h : H) (z : Seen) : Prop := Inv c h ∧ h.n ≤ cap c ∧ Fits c seq h z
theorem sinv_new {c : Cfg} (hok : Ok c) (seq : Int) : SInv c seq Go.Proofs.Ytccioehckfdjdaa.H.hNew ⟨-1, false, 0, 0⟩ :=
  ⟨Go.Proofs.Ytccioehckfdjdaa.H.inv_new c, by have := cap_bd hok; simp [Go.Proofs.Ytccioehckfdjdaa.H.hNew]; omega, .inr (.inl rfl), by simp [Go.Proofs.Ytccioehckfdjdaa.H.hNew], by simp [Go.Proofs.Ytccioehckfdjdaa.H.hNew], by simp [Go.Proofs.Ytccioehckfdjdaa.H.hNew]⟩
theorem sinv_own {c : Cfg} (hok : Ok c) (seq : Int) (L : List (Int × Int)) (hl : L.length ≤ 100000) : SInv c seq (Go.Proofs.Ytccioehckfdjdaa.H.hOwn c L) ⟨-1, false, 0, 0⟩ :=
  ⟨Go.Proofs.Ytccioehckfdjdaa.H.inv_own c L hl, by have := cap_bd hok; unfold Go.Proofs.Ytccioehckfdjdaa.H.hOwn; rw [(entry_keeps _ _ _).2.1]; dsimp only; omega, fits_entry (.inl rfl) 0⟩
/-- What a step that is asked for may be, for a watcher. -/
theorem slot_cases {c : Cfg} (hok : Ok c) {who owner seq : Int} {h : H} {z : Seen} (hw : 0 ≤ who ∧ who < c.t) (ho : 0 ≤ owner ∧ owner < c.t) (hi : SInv c seq h z) (h8 : h.next ≠ 8) {o : P6} (hoo : (ask c who owner seq h).1 = o) :
    (o.k = 0 ∧ (whA c o.a).1 = 4 ∧ (whA c o.a).2.1 = owner) ∨ (o.k = 0 ∧ (whA c o.a).1 ≠ 4 ∧ (whA c o.a).1 ≠ 16) ∨ (o.k = 0 ∧ (whA c o.a).1 = 16 ∧ (whA c o.a).2.1 = z.named ∧ z.seen = true) ∨
    (o.k = 1 ∧ (whA c o.a).1 = 3 ∧ (whA c o.a).2.1 = who) ∨ (o.k = 2 ∧ (whA c o.a).1 = 4 ∧ (whA c o.a).2.1 = owner) ∨
    (o.k = 2 ∧ (whA c o.a).1 ≠ 4 ∧ (whA c o.a).1 ≠ 16 ∧ o.ov = z.lv ∧ o.os = z.ls ∧ z.ls < seq ∧ o.ns = seq) ∨
    (o.k = 2 ∧ (whA c o.a).1 = 16 ∧ (whA c o.a).2.1 = z.named ∧ z.seen = true ∧ o.ov = z.lv ∧ o.os = z.ls ∧ z.ls < seq ∧ o.ns = seq) := by
  have hb := (slots_step hok hw ho hi.1 hi.2.1 h8 hi.2.2 0 0).1
  have ha := asks (seq := seq) hok hw ho hi.1 hi.2.1 h8
  rw [hoo] at ha hb
  unfold bad at hb
  have hb1 := fun x => hb (.inl x)
  have hb2 := fun x => hb (.inr (.inl x))
  have hb3 := fun x => hb (.inr (.inr x))
  clear hb
  have hsn : z.seen = true ∨ z.seen = false := by cases z.seen <;> simp
  cases ha with
  | own kd i k hk hs hnx =>
    have e := what_is hok hs
    dsimp only
    rw [e]
    dsimp only
    clear hb1 hb2 hb3
    rcases hnx with ⟨_, rfl⟩ | ⟨_, rfl⟩ | ⟨_, rfl, rfl⟩
    · exact .inr (.inl ⟨rfl, by decide, by decide⟩)
    · exact .inr (.inl ⟨rfl, by decide, by decide⟩)
    · exact .inl ⟨rfl, rfl, rfl⟩
  | slot hnx hs =>
    have e := what_is hok hs
    dsimp only
    rw [e]
    exact .inr (.inr (.inr (.inl ⟨rfl, rfl, rfl⟩)))
  | load hnx hk =>
    dsimp only at hb2 ⊢
    by_cases h16 : (whA c (nth h h.k.toNat).1).1 = 16
    · refine .inr (.inr (.inl ⟨rfl, h16, ?_, ?_⟩))
      · exact Classical.byContradiction fun hx => hb2 ⟨h16, .inl hx⟩
      · exact hsn.resolve_right fun hx => hb2 ⟨h16, .inr hx⟩
    · exact .inr (.inl ⟨rfl, by omega, h16⟩)
  | swap hnx hk =>
    dsimp only at hb2 hb3 ⊢
    have h4 : (whA c (nth h h.k.toNat).1).1 ≠ 4 := by omega
    have g1 : h.cv = z.lv := Classical.byContradiction fun hx => hb3 ⟨rfl, h4, .inl hx⟩
    have g2 : h.cs = z.ls := Classical.byContradiction fun hx => hb3 ⟨rfl, h4, .inr (.inl hx)⟩
    have g3 : z.ls < seq := Classical.byContradiction fun hx => hb3 ⟨rfl, h4, .inr (.inr (.inl (by omega)))⟩
    by_cases h16 : (whA c (nth h h.k.toNat).1).1 = 16
    · refine .inr (.inr (.inr (.inr (.inr (.inr ⟨rfl, h16, ?_, ?_, g1, g2, g3, rfl⟩)))))
      · exact Classical.byContradiction fun hx => hb2 ⟨h16, .inl hx⟩
      · exact hsn.resolve_right fun hx => hb2 ⟨h16, .inr hx⟩
    · exact .inr (.inr (.inr (.inr (.inr (.inl ⟨rfl, h4, h16, g1, g2, g3, rfl⟩)))))
  | shut hnx hs =>
    have e := what_is hok hs
    dsimp only
    rw [e]
    exact .inr (.inr (.inr (.inr (.inl ⟨rfl, rfl, rfl⟩))))
theorem sinv_tell {c : Cfg} (hok : Ok c) {who owner seq : Int} {h : H} {z : Seen} (hw : 0 ≤ who ∧ who < c.t) (ho : 0 ≤ owner ∧ owner < c.t) (hi : SInv c seq h z) (h8 : h.next ≠ 8) (v s : Int) (hv : 0 ≤ v) :
    SInv c seq (tell c seq v s h) (watch c owner seq (ask c who owner seq h).1 v s z) :=
  ⟨tell_inv hok hi.1 v s hv, tell_n hok hi.2.1 v s, (slots_step hok hw ho hi.1 hi.2.1 h8 hi.2.2 v s).2⟩
end Go.Tum.H
namespace Go.Proofs.Ytccioehckfdjdaa
open Go.RowKit Go.Tum Go.Tum.Y Go.Tum.Sc
set_option maxHeartbeats 2000000 in
theorem neq_cell_self (w : World) (a b : Int) : (binOp .neq 41 (.agg #[.int .u64 a, .int .u64 b]) (.agg #[.int .u64 a, .int .u64 b])).run Try.prog w = .ok (.bool false) w := by
  have h2 := Try.underlying41
  have h4 := Try.underlying22
  have p2 : Try.prog.stoodInHeld 41 = false := by kernel_rfl
  simp only [run_neq_struct]
  rw [run_equalIn_struct w 9999 41 _ _ (by unfold Program.fieldsOf; rw [h2]) p2]
  simp [Program.fieldsOf, h2, h4, p2, Op.eqFields, go_sem]
theorem outHd {w : World} {b : Nat} {T : TypeId} {x y z : Value} (h : Blk w b T [x, y, z]) : w.rangeAt b 0 [x, y] := by
  intro j u hj
  rw [h.cell]
  have hl : j < 2 := (List.getElem?_eq_some_iff.1 hj).1
  rcases (show j = 0 ∨ j = 1 by omega) with rfl | rfl <;> exact hj
theorem opOld {w : World} {b : Nat} {T : TypeId} {o0 o1 o2 o3 o4 o5 : Int} (h : Blk w b T (enP ⟨o0, o1, o2, o3, o4, o5⟩)) : w.rangeAt b 2 [.int .u64 o2, .int .u64 o3] := by
  intro j u hj
  rw [h.cell]
  have hl : j < 2 := (List.getElem?_eq_some_iff.1 hj).1
  rcases (show j = 0 ∨ j = 1 by omega) with rfl | rfl <;> exact hj
set_option maxRecDepth 100000 in
set_option maxHeartbeats 4000000 in
theorem hslots_s0 (w : World) (c : Cfg) (who owner seq : Int) (a oa : Option Addr) (m lc n oc : Nat) (own : Bool) (hrc : right c = false) : Calls Try.prog 10 #[cfgV c, .int .i64 who, .int .i64 owner, .int .u64 seq, .slice a m lc, .slice oa n oc, .bool own] w fun e w' => e = .returned (.bool true) ∧ Fr [] w w' := by
  have HS := Lib.hid ((Sep.nil (Fr.refl [] w)).new 24 (cfgL c))
  have HR := Lib.hid (fun w => rright12_any w c)
  have hsz6 : (cfgL c).length = 6 := rfl
  have g0 : (cfgL c)[0]? = some (.int .i64 c.t) := rfl
  rw [show cfgV c = .agg (cfgL c).toArray from rfl]
  generalize cfgL c = cl at *
  go_enter Try.func10, Try.ntmps10
  go_wp2_with fail
  refine (alive12_any _).mono ?_
  rintro e w1 ⟨rfl, hf⟩
  have HS := Lib.hid (HS.out.fr0 hf)
  clear hf
  go_wp2_with (first | (refine wpList_load_any 24 _ rfl rfl _ 0 rfl cl _ (HS.out.blk 0 rfl).range Try.underlying24 rfl (by rw [hsz6]; kernel_rfl) ?_))
  refine (HR.out _).mono ?_
  rintro e w1 ⟨rfl, hf⟩
  have HS := Lib.hid (HS.out.fr0 hf)
  clear hf
  rw [hrc]
  go_wp2_with fail
  go_ret
  exact ⟨rfl, HS.out.fr⟩
set_option maxRecDepth 100000 in
set_option maxHeartbeats 4000000 in
theorem hslots_s1 (w : World) (c : Cfg) (who owner seq : Int) (a oa : Option Addr) (m lc n oc : Nat) (own : Bool) (hrc : right c = true) (d1 : decide ((n : Int) > 60) = true) : Calls Try.prog 10 #[cfgV c, .int .i64 who, .int .i64 owner, .int .u64 seq, .slice a m lc, .slice oa n oc, .bool own] w fun e w' => e = .returned (.bool true) ∧ Fr [] w w' := by
  have HS := Lib.hid ((Sep.nil (Fr.refl [] w)).new 24 (cfgL c))
  have HR := Lib.hid (fun w => rright12_any w c)
  have hsz6 : (cfgL c).length = 6 := rfl
  have g0 : (cfgL c)[0]? = some (.int .i64 c.t) := rfl
  rw [show cfgV c = .agg (cfgL c).toArray from rfl]
  generalize cfgL c = cl at *
  go_enter Try.func10, Try.ntmps10
  go_wp2_with fail
  refine (alive12_any _).mono ?_
  rintro e w1 ⟨rfl, hf⟩
  have HS := Lib.hid (HS.out.fr0 hf)
  clear hf
  go_wp2_with (first | (refine wpList_load_any 24 _ rfl rfl _ 0 rfl cl _ (HS.out.blk 0 rfl).range Try.underlying24 rfl (by rw [hsz6]; kernel_rfl) ?_))
  refine (HR.out _).mono ?_
  rintro e w1 ⟨rfl, hf⟩
  have HS := Lib.hid (HS.out.fr0 hf)
  clear hf
  rw [hrc]
  go_wp2_with fail
  go_ret
  exact ⟨rfl, HS.out.fr⟩
set_option maxRecDepth 100000 in
set_option maxHeartbeats 4000000 in
theorem hslots_s2 (w : World) (c : Cfg) (who owner seq : Int) (a oa : Option Addr) (m lc n oc : Nat) (own : Bool) (hrc : right c = true) (d1 : decide ((n : Int) > 60) = false) (d2 : decide ((m : Int) > 30) = true) : Calls Try.prog 10 #[cfgV c, .int .i64 who, .int .i64 owner, .int .u64 seq, .slice a m lc, .slice oa n oc, .bool own] w fun e w' => e = .returned (.bool true) ∧ Fr [] w w' := by
  have HS := Lib.hid ((Sep.nil (Fr.refl [] w)).new 24 (cfgL c))
  have HR := Lib.hid (fun w => rright12_any w c)
  have hsz6 : (cfgL c).length = 6 := rfl
  have g0 : (cfgL c)[0]? = some (.int .i64 c.t) := rfl
  rw [show cfgV c = .agg (cfgL c).toArray from rfl]
  generalize cfgL c = cl at *
  go_enter Try.func10, Try.ntmps10
  go_wp2_with fail
  refine (alive12_any _).mono ?_
  rintro e w1 ⟨rfl, hf⟩
  have HS := Lib.hid (HS.out.fr0 hf)
  clear hf
  go_wp2_with (first | (refine wpList_load_any 24 _ rfl rfl _ 0 rfl cl _ (HS.out.blk 0 rfl).range Try.underlying24 rfl (by rw [hsz6]; kernel_rfl) ?_))
  refine (HR.out _).mono ?_
  rintro e w1 ⟨rfl, hf⟩
  have HS := Lib.hid (HS.out.fr0 hf)
  clear hf
  rw [hrc]
  go_wp2_with fail
  go_ret
  exact ⟨rfl, HS.out.fr⟩
set_option maxRecDepth 100000 in
set_option maxHeartbeats 40000000 in
theorem hslots_f (w : World) (c : Cfg) (h : Ok c) (who owner seq : Int) (a oa : Option Addr) (m lc n oc : Nat) (L : List (Int × Int)) (O : List O3) (hLm : m = L.length) (hL : ArgE enE 2 w (.slice a m lc) L) (hnil : NilA a m lc) (hm : m ≤ 30) (hO : ArgE enO 3 w (.slice oa n oc) O) (hG : ∀ x ∈ O, goodO x) (hOn : O.length = n) (hn : n ≤ 60) (hrc : right c = true) :
    Calls Try.prog 10 #[cfgV c, .int .i64 who, .int .i64 owner, .int .u64 seq, .slice a m lc, .slice oa n oc, .bool false] w fun e w' => e = .returned (.bool true) ∧ Fr [] w w' := by
  have HST := Lib.hid (H.sinv_new h seq)
  have d1 : decide ((n : Int) > 60) = false := by simp; omega
  have d2 : decide ((m : Int) > 30) = false := by simp; omega
  have ht1 := h.t1
  have ht8 := h.t8
  obtain ⟨b1, hb1, hbe1⟩ := and_i64_low who 8 (by decide)
  obtain ⟨q1, hq1⟩ : ∃ q : Int, q = (b1 : Int) := ⟨_, rfl⟩
  have hbe1' : bits .and .i64 who 255 = q1 := by rw [hq1]; exact hbe1
  have hq10 : 0 ≤ q1 ∧ q1 ≤ 255 := by rw [hq1]; omega
  obtain ⟨r1, hr1⟩ : ∃ r, Int.tmod q1 c.t = r := ⟨_, rfl⟩
  have hr10 := tmod_in hr1 hq10.1 ht1
  obtain ⟨b2, hb2, hbe2⟩ := and_i64_low owner 8 (by decide)
  obtain ⟨q2, hq2⟩ : ∃ q : Int, q = (b2 : Int) := ⟨_, rfl⟩
  have hbe2' : bits .and .i64 owner 255 = q2 := by rw [hq2]; exact hbe2
  have hq20 : 0 ≤ q2 ∧ q2 ≤ 255 := by rw [hq2]; omega
  obtain ⟨r2, hr2⟩ : ∃ r, Int.tmod q2 c.t = r := ⟨_, rfl⟩
  have hr20 := tmod_in hr2 hq20.1 ht1
  clear hbe1 hbe2 hb1 hb2 hq1 hq2
  have HOF : Hid (∀ w, Calls Try.prog 25 #[.agg (cfgL c).toArray] w fun e w' => e = .returned (.tuple #[mapV c, .int .i64 0]) ∧ Fr [] w w') := fun w => of_good w c h
  have HNW := Lib.hid (fun w => hnew_of w c r1 r2 seq)
  have HWH := Lib.hid (fun p => what_all h p)
  unfold Tells at HWH
  have HAK := Lib.hid (fun (w0 w : World) (R : List Thing) (b : Nat) (hh : H.H) (hg : H.Good c hh) (hS : Sep w0 w (helpT c r1 r2 seq b hh :: R)) => hask_of b c h r1 r2 seq hh hg hS)
  have HTL := Lib.hid (fun (w0 w : World) (R : List Thing) (b : Nat) (hh : H.H) (x s : Int) (ok : Bool) hx hs hg hr (hS : Sep w0 w (helpT c r1 r2 seq b hh :: R)) => htell_any b c h r1 r2 seq hh x s ok hx hs hg hr hS)
  have HDN := Lib.hid (fun (w0 w : World) (R : List Thing) (b : Nat) (hh : H.H) (hS : Sep w0 w (helpT c r1 r2 seq b hh :: R)) => hdone_of b c r1 r2 seq hh hS)
  have HATT := Lib.hid (fun (hh : H.H) (z : H.Seen) (hi : H.SInv c seq hh z) (h8 : hh.next ≠ 8) (v s : Int) (hv : 0 ≤ v) => H.sinv_tell h hr10 (show 0 ≤ r2 ∧ r2 < c.t from hr20) hi h8 v s hv)
  have HAC := Lib.hid (fun (hh : H.H) (z : H.Seen) (hi : H.SInv c seq hh z) (h8 : hh.next ≠ 8) (o : P6) (hoo : (H.ask c r1 r2 seq hh).1 = o) => H.slot_cases h hr10 (show 0 ≤ r2 ∧ r2 < c.t from hr20) hi h8 hoo)
  have HAD := Lib.hid (fun (hh : H.H) (hi : H.Inv c hh) => H.ask_done (c := c) (who := r1) (owner := r2) (seq := seq) hi.rng)
  have hsz : (mapCells c).length = 24 := rfl
  have hone : ∀ v ∈ mapCells c, v.oneCell' = true := by simp [mapCells, Value.oneCell']
  unfold mapV at *
  generalize mapCells c = cs at *
  have HS := Lib.hid ((Sep.nil (Fr.refl [] w)).new 24 (cfgL c))
  have HR := Lib.hid (fun w => rright12_any w c)
  have hsz6 : (cfgL c).length = 6 := rfl
  have g0 : (cfgL c)[0]? = some (.int .i64 c.t) := rfl
  rw [show cfgV c = .agg (cfgL c).toArray from rfl]
  generalize cfgL c = cl at *
  go_enter Try.func10, Try.ntmps10
  go_wp2_with fail
  refine (alive12_any _).mono ?_
  rintro e w1 ⟨rfl, hf⟩
  have HS := Lib.hid (HS.out.fr0 hf)
  clear hf
  go_wp2_with (first | (refine wpList_load_any 24 _ rfl rfl _ 0 rfl cl _ (HS.out.blk 0 rfl).range Try.underlying24 rfl (by rw [hsz6]; kernel_rfl) ?_))
  refine (HR.out _).mono ?_
  rintro e w1 ⟨rfl, hf⟩
  have HS := Lib.hid (HS.out.fr0 hf)
  clear hf
  rw [hrc]
  go_wp2_with (first | (refine wpList_load_any 24 _ rfl rfl _ 0 rfl cl _ (HS.out.blk 0 rfl).range Try.underlying24 rfl (by rw [hsz6]; kernel_rfl) ?_))
  refine (HOF.out _).mono ?_
  rintro e w2 ⟨rfl, hf⟩
  have HS := Lib.hid ((HS.out.fr0 hf).new 31 cs); clear hf
  have c0 := ((HS.out.blk 1 rfl).cell 0).trans g0
  have cl0 := (HS.out.blk 1 rfl).lt
  go_wp2_with (first | (refine wpList_store_new 31 _ (cs).toArray rfl _ _ rfl rfl rfl (by rw [List.size_toArray, hsz]; kernel_rfl) (by simp [hsz]) (all_oneCell_toArray hone) ?_))
  refine wp_region_fr [(1, [0, 1, 2, 3, 4, 5, 6, 7, 8, 9, 10, 11])] [] (by kernel_rfl) (by kernel_rfl) ?_
  simp only [theOps, nthOp, List.map_cons, List.map_nil, Array.getD_eq_getD_getElem?, List.getElem?_toArray, List.getElem?_cons_succ, List.getElem?_cons_zero, Option.getD_some]
  repeat ((first | refine wpSegs_soft ?_ | refine wpSegs_pure ?_ | refine wpSegs_here ?_); (repeat (first | go_big_quiet_step (fail) | quiet_step (fail))); refine wpQuiet_nil ?_)
  refine wpSegs_done ?_
  have HS := Lib.hid HS.out.drew
  go_wp2_with (refine wpList_load_any 31 _ rfl rfl _ 0 rfl cs _ (HS.out.blk 0 rfl).range Try.underlying31 rfl (by rw [hsz]; kernel_rfl) ?_)
  refine (HNW.out _).mono ?_
  rintro e w3 ⟨b, rfl, hN⟩
  have hS := HS.out.append hN
  simp only [List.cons_append, List.nil_append] at hS
  have HS := Lib.hid hS; clear hS hN
  clear c0 cl0 hr1 hr2 hbe1' hbe2' hq10 hq20 g0
  have hnn : (n : Int) ≤ 60 := by omega
  have hone0 : ∀ v ∈ [Value.int .u64 0, .int .u64 0], v.oneCell' = true := by simp [Value.oneCell']
  have HS := Lib.hid ((HS.out.new 41 [.int .u64 0, .int .u64 0]).sub (Ts' := [_, _, _, _]) [1, 0, 2, 3] rfl (by decide))
  go_wp2_with (refine wpList_store_new 41 _ ([Value.int .u64 0, .int .u64 0]).toArray rfl _ _ rfl rfl rfl (by kernel_rfl) (by simp) (all_oneCell_toArray hone0) ?_)
  generalize hlb : w3.heap.size = lb at HS ⊢
  go_wp2_with fail
  go_loopg [18, 19, 73] n (fun g vn vs vi wr => ∃ (k : Nat) (hh : H.H) (z : H.Seen), g + k = n ∧ vn = .int .i64 z.named ∧ vs = .bool z.seen ∧ vi = .int .i64 (k : Int) ∧ H.SInv c seq hh z ∧ Sep w wr [helpT c r1 r2 seq b hh, blkT lb 41 [.int .u64 z.lv, .int .u64 z.ls], blkT w2.heap.size 31 cs, blkT w.heap.size 24 cl])
  case atStart => exact ⟨0, _, _, by omega, rfl, rfl, rfl, HST.out, HS.out⟩
  case round =>
    clear HS HST
    obtain ⟨k, hh, z, hg, rfl, rfl, rfl, hAt, hS⟩ := hrel
    by_cases hk : k < n
    · have hki : (k : Int) < (n : Int) := by omega
      have hkO : k < O.length := by omega
      obtain ⟨x, rfl, hx, e0, e1⟩ := (hO.fr hS.fr).at hkO
      have hgo := hG _ (List.getElem_mem hkO)
      generalize O[k] = oo at *
      obtain ⟨ov, os, ook⟩ := oo
      obtain ⟨hv0, hv1, hs0, hs1⟩ := hgo
      dsimp only at hv0 hv1 hs0 hs1
      have y0 := e0 _ rfl
      have y1 := e1 0 _ rfl
      have y2 := e1 1 _ rfl
      clear e0 e1
      have hne : ¬ lb = wr.heap.size := by have := (hS.blk 1 rfl).lt; omega
      have hne2 : ¬ wr.heap.size = lb := fun e => hne e.symm
      have HS := Lib.hid (hS.new 55 [.int .u64 ov, .int .u64 os, .bool ook]); clear hS
      have HAT2 := Lib.hid hAt
      go_wp2_with fail
      refine (HAK.out _ _ _ b hh hAt.1.good (HS.out.pull 1 rfl)).mono ?_
      rintro e w4 ⟨rfl, hf⟩
      rw [HAD.out hh hAt.1]
      generalize hoo : (H.ask c r1 r2 seq hh).1 = o
      have hS := (HS.out.fr0 hf).new 43 (enP o)
      have HS := Lib.hid hS; clear hS hf hAt
      have HOO := Lib.hid hoo; clear hoo
      have honeO := enP_one o
      clear y0 y1 y2
      by_cases h8 : hh.next = 8
      · rw [decide_eq_true h8]
        have HH8 := Lib.hid h8; clear h8
        go_wp2_with (refine wpList_store_new 43 _ (enP o).toArray rfl _ _ rfl rfl rfl (by kernel_rfl) (by simp [enP]) (all_oneCell_toArray honeO) ?_)
        refine (HDN.out _ _ _ b hh (HS.out.pull 2 rfl)).mono ?_
        rintro e w5 ⟨rfl, hf⟩
        rw [decide_eq_true HH8.out]
        go_wp2_with fail
        go_ret
        exact ⟨rfl, (HS.out.fr0 hf).fr⟩
      · rw [decide_eq_false h8]
        have HH8 := Lib.hid h8; clear h8
        have HAT3 := Lib.hid (HATT.out hh z HAT2.out HH8.out ov os hv0)
        rw [HOO.out] at HAT3
        have hac := HAC.out hh z HAT2.out HH8.out o HOO.out
        have HW := Lib.hid (HWH.out o.a)
        have hwt : H.watch c r2 seq o ov os z = H.watch c r2 seq o ov os z := rfl
        conv at hwt => rhs; unfold H.watch
        obtain ⟨o0, o1, o2, o3, o4, o5⟩ := o
        dsimp only at hac HW hwt
        generalize whA c o1 = wa at hac HW hwt
        obtain ⟨wa1, wa2, wa3⟩ := wa
        dsimp only at hac HW hwt
        obtain ⟨zn, zs, zv, zz⟩ := z
        dsimp only at hac hwt HS
        have HWT := Lib.hid hwt; clear hwt
        have hone2 : ∀ v ∈ [Value.int .u64 ov, .int .u64 os], v.oneCell' = true := by simp [Value.oneCell']
        have HEQ : ∀ w, (binOp .eql 41 (.agg #[.int .u64 ov, .int .u64 os]) (.agg #[.int .u64 1, .int .u64 seq])).run Try.prog w = .ok (.bool (decide (ov = 1 ∧ os = seq))) w := fun w => eql_cell w ov os 1 seq
        have q1 := (HS.out.blk 0 rfl).cell 1
        rw [show (enP ⟨o0, o1, o2, o3, o4, o5⟩)[1]? = some (.int .i64 o1) from rfl] at q1
        have ql := (HS.out.blk 0 rfl).lt
        go_wp2_with (first | (refine wpList_store_new 43 _ (enP ⟨o0, o1, o2, o3, o4, o5⟩).toArray rfl _ _ rfl rfl rfl (by kernel_rfl) (by simp [enP]) (all_oneCell_toArray honeO) ?_) | (refine wpList_load_any 31 _ rfl rfl _ 0 rfl cs _ (HS.out.blk 4 rfl).range Try.underlying31 rfl (by rw [hsz]; kernel_rfl) ?_))
        refine (HW.out _).mono ?_
        rintro e w6 ⟨rfl, hf⟩
        have HS := Lib.hid (HS.out.fr0 hf); clear hf q1 ql
        have z0 := (HS.out.blk 1 rfl).cell 0
        have z1 := (HS.out.blk 1 rfl).cell 1
        have z2 := (HS.out.blk 1 rfl).cell 2
        simp only [List.getElem?_cons_zero, List.getElem?_cons_succ] at z0 z1 z2
        have zl := (HS.out.blk 1 rfl).lt
        have q0 := (HS.out.blk 0 rfl).cell 0
        have q2 := (HS.out.blk 0 rfl).cell 2
        have q3 := (HS.out.blk 0 rfl).cell 3
        rw [show (enP ⟨o0, o1, o2, o3, o4, o5⟩)[2]? = some (.int .u64 o2) from rfl] at q2
        rw [show (enP ⟨o0, o1, o2, o3, o4, o5⟩)[3]? = some (.int .u64 o3) from rfl] at q3
        have q4 := (HS.out.blk 0 rfl).cell 4
        have q5 := (HS.out.blk 0 rfl).cell 5
        rw [show (enP ⟨o0, o1, o2, o3, o4, o5⟩)[0]? = some (.int .i64 o0) from rfl] at q0
        rw [show (enP ⟨o0, o1, o2, o3, o4, o5⟩)[4]? = some (.int .u64 o4) from rfl] at q4
        rw [show (enP ⟨o0, o1, o2, o3, o4, o5⟩)[5]? = some (.int .u64 o5) from rfl] at q5
        have p0 := (HS.out.blk 3 rfl).cell 0
        have p1 := (HS.out.blk 3 rfl).cell 1
        simp only [List.getElem?_cons_zero, List.getElem?_cons_succ] at p0 p1
        have ql := (HS.out.blk 0 rfl).lt
        have pl := (HS.out.blk 3 rfl).lt
        rcases hac with ⟨rfl, rfl, rfl⟩ | ⟨rfl, hw4, hw16⟩ | ⟨rfl, rfl, rfl, rfl⟩ | ⟨rfl, rfl, rfl⟩ | ⟨rfl, rfl, rfl⟩ | ⟨rfl, hw4, hw16, rfl, rfl, hls, rfl⟩ | ⟨rfl, rfl, rfl, rfl, rfl, rfl, hls, rfl⟩
        · have hwt := HWT.out
          rw [if_neg (show ¬ (0 : Int) = 1 by decide), if_pos ⟨rfl, rfl, rfl⟩] at hwt
          rw [hwt] at HAT3
          have f0 := (HS.out.blk 3 rfl).froz 0
          have f1 := (HS.out.blk 3 rfl).froz 1
          go_wp2_with fail
          have hA := (HS.out.set 3 rfl 0 (.int .u64 ov)).set 3 rfl 1 (.int .u64 os)
          generalize World.setCell (World.setCell w6 _ _) _ _ = w7 at hA ⊢
          have HA := Lib.hid hA; clear hA
          refine (HTL.out _ _ _ b hh ov os ook ⟨hv0, hv1⟩ hs0 HAT2.out.1.good HAT2.out.1.rng (HA.out.pull 2 rfl)).mono ?_
          rintro e w9 ⟨rfl, hS⟩
          have HS := Lib.hid hS; clear hS
          go_wp2_with fail
          go_roundg (n - (k + 1))
          case measure => omega
          case rel => exact ⟨k + 1, _, _, by omega, by first | rfl | simp only [IntWalk.i64_left], by first | rfl | simp, by go_num, HAT3.out, HS.out.sub [0, 3, 4, 5] rfl (by decide)⟩
        · have hwt := HWT.out
          rw [if_neg (show ¬ (0 : Int) = 1 by decide), if_neg (fun h => hw4 h.1)] at hwt
          rw [hwt] at HAT3
          have dw : (wa1 == 4) = false := by simpa using hw4
          have dw2 : (wa1 == 16) = false := by simpa using hw16
          clear hw4 hw16
          have f0 := (HS.out.blk 3 rfl).froz 0
          have f1 := (HS.out.blk 3 rfl).froz 1
          go_wp2_with fail
          have hA := (HS.out.set 3 rfl 0 (.int .u64 ov)).set 3 rfl 1 (.int .u64 os)
          generalize World.setCell (World.setCell w6 _ _) _ _ = w7 at hA ⊢
          have HA := Lib.hid hA; clear hA
          refine (HTL.out _ _ _ b hh ov os ook ⟨hv0, hv1⟩ hs0 HAT2.out.1.good HAT2.out.1.rng (HA.out.pull 2 rfl)).mono ?_
          rintro e w9 ⟨rfl, hS⟩
          have HS := Lib.hid hS; clear hS
          go_wp2_with fail
          go_roundg (n - (k + 1))
          case measure => omega
          case rel => exact ⟨k + 1, _, _, by omega, by first | rfl | simp only [IntWalk.i64_left], by first | rfl | simp, by go_num, HAT3.out, HS.out.sub [0, 3, 4, 5] rfl (by decide)⟩
        · have hwt := HWT.out
          rw [if_neg (show ¬ (0 : Int) = 1 by decide), if_neg (fun h => absurd h.1 (by decide))] at hwt
          rw [hwt] at HAT3
          have f0 := (HS.out.blk 3 rfl).froz 0
          have f1 := (HS.out.blk 3 rfl).froz 1
          go_wp2_with fail
          have hA := (HS.out.set 3 rfl 0 (.int .u64 ov)).set 3 rfl 1 (.int .u64 os)
          generalize World.setCell (World.setCell w6 _ _) _ _ = w7 at hA ⊢
          have HA := Lib.hid hA; clear hA
          refine (HTL.out _ _ _ b hh ov os ook ⟨hv0, hv1⟩ hs0 HAT2.out.1.good HAT2.out.1.rng (HA.out.pull 2 rfl)).mono ?_
          rintro e w9 ⟨rfl, hS⟩
          have HS := Lib.hid hS; clear hS
          go_wp2_with fail
          go_roundg (n - (k + 1))
          case measure => omega
          case rel => exact ⟨k + 1, _, _, by omega, by first | rfl | simp only [IntWalk.i64_left], by first | rfl | simp, by go_num, HAT3.out, HS.out.sub [0, 3, 4, 5] rfl (by decide)⟩
        · have hwt := HWT.out
          rw [if_pos rfl] at hwt
          rw [hwt] at HAT3
          have f0 := (HS.out.blk 3 rfl).froz 0
          have f1 := (HS.out.blk 3 rfl).froz 1
          go_wp2_with fail
          have hA := (HS.out.set 3 rfl 0 (.int .u64 ov)).set 3 rfl 1 (.int .u64 os)
          generalize World.setCell (World.setCell w6 _ _) _ _ = w7 at hA ⊢
          have HA := Lib.hid hA; clear hA
          refine (HTL.out _ _ _ b hh ov os ook ⟨hv0, hv1⟩ hs0 HAT2.out.1.good HAT2.out.1.rng (HA.out.pull 2 rfl)).mono ?_
          rintro e w9 ⟨rfl, hS⟩
          have HS := Lib.hid hS; clear hS
          go_wp2_with fail
          go_roundg (n - (k + 1))
          case measure => omega
          case rel => exact ⟨k + 1, _, _, by omega, by first | rfl | simp only [IntWalk.i64_left], by first | rfl | simp, by go_num, HAT3.out, HS.out.sub [0, 3, 4, 5] rfl (by decide)⟩
        · have hwt := HWT.out
          rw [if_neg (show ¬ (2 : Int) = 1 by decide), if_neg (fun h => absurd h.2.2 (by decide))] at hwt
          rw [hwt] at HAT3
          have f0 := (HS.out.blk 3 rfl).froz 0
          have f1 := (HS.out.blk 3 rfl).froz 1
          go_wp2_with fail
          have hA := (HS.out.set 3 rfl 0 (.int .u64 ov)).set 3 rfl 1 (.int .u64 os)
          generalize World.setCell (World.setCell w6 _ _) _ _ = w7 at hA ⊢
          have HA := Lib.hid hA; clear hA
          refine (HTL.out _ _ _ b hh ov os ook ⟨hv0, hv1⟩ hs0 HAT2.out.1.good HAT2.out.1.rng (HA.out.pull 2 rfl)).mono ?_
          rintro e w9 ⟨rfl, hS⟩
          have HS := Lib.hid hS; clear hS
          go_wp2_with fail
          go_roundg (n - (k + 1))
          case measure => omega
          case rel => exact ⟨k + 1, _, _, by omega, by first | rfl | simp only [IntWalk.i64_left], by first | rfl | simp, by go_num, HAT3.out, HS.out.sub [0, 3, 4, 5] rfl (by decide)⟩
        · have hwt := HWT.out
          rw [if_neg (show ¬ (2 : Int) = 1 by decide), if_neg (fun h => absurd h.2.2 (by decide))] at hwt
          rw [hwt] at HAT3
          have dw : (wa1 != 4) = true := by simpa using hw4
          have dw1 : (wa1 == 4) = false := by simpa using hw4
          have dw2 : (wa1 == 16) = false := by simpa using hw16
          have dls : decide (o3 ≥ o5) = false := by simp; omega
          have HNE : ∀ w, (binOp .neq 41 (.agg #[.int .u64 o2, .int .u64 o3]) (.agg #[.int .u64 o2, .int .u64 o3])).run Try.prog w = .ok (.bool false) w := fun w => neq_cell_self w o2 o3
          clear hw4 hw16 hls
          have f0 := (HS.out.blk 3 rfl).froz 0
          have f1 := (HS.out.blk 3 rfl).froz 1
          go_wp2_with fail
          have hA := (HS.out.set 3 rfl 0 (.int .u64 ov)).set 3 rfl 1 (.int .u64 os)
          generalize World.setCell (World.setCell w6 _ _) _ _ = w7 at hA ⊢
          have HA := Lib.hid hA; clear hA
          refine (HTL.out _ _ _ b hh ov os ook ⟨hv0, hv1⟩ hs0 HAT2.out.1.good HAT2.out.1.rng (HA.out.pull 2 rfl)).mono ?_
          rintro e w9 ⟨rfl, hS⟩
          have HS := Lib.hid hS; clear hS
          go_wp2_with fail
          go_roundg (n - (k + 1))
          case measure => omega
          case rel => exact ⟨k + 1, _, _, by omega, by first | rfl | simp only [IntWalk.i64_left], by first | rfl | simp, by go_num, HAT3.out, HS.out.sub [0, 3, 4, 5] rfl (by decide)⟩
        · have hwt := HWT.out
          rw [if_neg (show ¬ (2 : Int) = 1 by decide), if_neg (fun h => absurd h.2.2 (by decide))] at hwt
          rw [hwt] at HAT3
          have dls : decide (o3 ≥ o5) = false := by simp; omega
          have HNE : ∀ w, (binOp .neq 41 (.agg #[.int .u64 o2, .int .u64 o3]) (.agg #[.int .u64 o2, .int .u64 o3])).run Try.prog w = .ok (.bool false) w := fun w => neq_cell_self w o2 o3
          clear hls
          have f0 := (HS.out.blk 3 rfl).froz 0
          have f1 := (HS.out.blk 3 rfl).froz 1
          go_wp2_with fail
          have hA := (HS.out.set 3 rfl 0 (.int .u64 ov)).set 3 rfl 1 (.int .u64 os)
          generalize World.setCell (World.setCell w6 _ _) _ _ = w7 at hA ⊢
          have HA := Lib.hid hA; clear hA
          refine (HTL.out _ _ _ b hh ov os ook ⟨hv0, hv1⟩ hs0 HAT2.out.1.good HAT2.out.1.rng (HA.out.pull 2 rfl)).mono ?_
          rintro e w9 ⟨rfl, hS⟩
          have HS := Lib.hid hS; clear hS
          go_wp2_with fail
          go_roundg (n - (k + 1))
          case measure => omega
          case rel => exact ⟨k + 1, _, _, by omega, by first | rfl | simp only [IntWalk.i64_left], by first | rfl | simp, by go_num, HAT3.out, HS.out.sub [0, 3, 4, 5] rfl (by decide)⟩
    · obtain rfl : k = n := by omega
      have HS := Lib.hid hS; clear hS
      go_wp2_with fail
      go_ret
      exact ⟨rfl, HS.out.fr⟩
set_option maxRecDepth 100000 in
set_option maxHeartbeats 40000000 in
theorem hslots_t (w : World) (c : Cfg) (h : Ok c) (who owner seq : Int) (a oa : Option Addr) (m lc n oc : Nat) (L : List (Int × Int)) (O : List O3) (hLm : m = L.length) (hL : ArgE enE 2 w (.slice a m lc) L) (hnil : NilA a m lc) (hm : m ≤ 30) (hO : ArgE enO 3 w (.slice oa n oc) O) (hG : ∀ x ∈ O, goodO x) (hOn : O.length = n) (hn : n ≤ 60) (hrc : right c = true) :
    Calls Try.prog 10 #[cfgV c, .int .i64 who, .int .i64 owner, .int .u64 seq, .slice a m lc, .slice oa n oc, .bool true] w fun e w' => e = .returned (.bool true) ∧ Fr [] w w' := by
  have HST := Lib.hid (H.sinv_own h seq L (by omega))
  unfold H.hOwn at HST
  have HOW := Lib.hid (fun w r1 hA => hown_any w c h r1 seq a m lc L hLm hA hnil (by omega))
  clear hLm
  have d1 : decide ((n : Int) > 60) = false := by simp; omega
  have d2 : decide ((m : Int) > 30) = false := by simp; omega
  have ht1 := h.t1
  have ht8 := h.t8
  obtain ⟨b1, hb1, hbe1⟩ := and_i64_low who 8 (by decide)
  obtain ⟨q1, hq1⟩ : ∃ q : Int, q = (b1 : Int) := ⟨_, rfl⟩
  have hbe1' : bits .and .i64 who 255 = q1 := by rw [hq1]; exact hbe1
  have hq10 : 0 ≤ q1 ∧ q1 ≤ 255 := by rw [hq1]; omega
  obtain ⟨r1, hr1⟩ : ∃ r, Int.tmod q1 c.t = r := ⟨_, rfl⟩
  have hr10 := tmod_in hr1 hq10.1 ht1
  obtain ⟨b2, hb2, hbe2⟩ := and_i64_low owner 8 (by decide)
  obtain ⟨q2, hq2⟩ : ∃ q : Int, q = (b2 : Int) := ⟨_, rfl⟩
  have hbe2' : bits .and .i64 owner 255 = q2 := by rw [hq2]; exact hbe2
  have hq20 : 0 ≤ q2 ∧ q2 ≤ 255 := by rw [hq2]; omega
  obtain ⟨r2, hr2⟩ : ∃ r, Int.tmod q2 c.t = r := ⟨_, rfl⟩
  have hr20 := tmod_in hr2 hq20.1 ht1
  clear hbe1 hbe2 hb1 hb2 hq1 hq2
  have HOF : Hid (∀ w, Calls Try.prog 25 #[.agg (cfgL c).toArray] w fun e w' => e = .returned (.tuple #[mapV c, .int .i64 0]) ∧ Fr [] w w') := fun w => of_good w c h
  have HNW := Lib.hid (fun w => hnew_of w c r1 r2 seq)
  have HWH := Lib.hid (fun p => what_all h p)
  unfold Tells at HWH
  have HAK := Lib.hid (fun (w0 w : World) (R : List Thing) (b : Nat) (hh : H.H) (hg : H.Good c hh) (hS : Sep w0 w (helpT c r1 r1 seq b hh :: R)) => hask_of b c h r1 r1 seq hh hg hS)
  have HTL := Lib.hid (fun (w0 w : World) (R : List Thing) (b : Nat) (hh : H.H) (x s : Int) (ok : Bool) hx hs hg hr (hS : Sep w0 w (helpT c r1 r1 seq b hh :: R)) => htell_any b c h r1 r1 seq hh x s ok hx hs hg hr hS)
  have HDN := Lib.hid (fun (w0 w : World) (R : List Thing) (b : Nat) (hh : H.H) (hS : Sep w0 w (helpT c r1 r1 seq b hh :: R)) => hdone_of b c r1 r1 seq hh hS)
  have HATT := Lib.hid (fun (hh : H.H) (z : H.Seen) (hi : H.SInv c seq hh z) (h8 : hh.next ≠ 8) (v s : Int) (hv : 0 ≤ v) => H.sinv_tell h hr10 (show 0 ≤ r1 ∧ r1 < c.t from hr10) hi h8 v s hv)
  have HAC := Lib.hid (fun (hh : H.H) (z : H.Seen) (hi : H.SInv c seq hh z) (h8 : hh.next ≠ 8) (o : P6) (hoo : (H.ask c r1 r1 seq hh).1 = o) => H.slot_cases h hr10 (show 0 ≤ r1 ∧ r1 < c.t from hr10) hi h8 hoo)
  have HAD := Lib.hid (fun (hh : H.H) (hi : H.Inv c hh) => H.ask_done (c := c) (who := r1) (owner := r1) (seq := seq) hi.rng)
  have hsz : (mapCells c).length = 24 := rfl
  have hone : ∀ v ∈ mapCells c, v.oneCell' = true := by simp [mapCells, Value.oneCell']
  unfold mapV at *
  generalize mapCells c = cs at *
  have HS := Lib.hid ((Sep.nil (Fr.refl [] w)).new 24 (cfgL c))
  have HR := Lib.hid (fun w => rright12_any w c)
  have hsz6 : (cfgL c).length = 6 := rfl
  have g0 : (cfgL c)[0]? = some (.int .i64 c.t) := rfl
  rw [show cfgV c = .agg (cfgL c).toArray from rfl]
  generalize cfgL c = cl at *
  go_enter Try.func10, Try.ntmps10
  go_wp2_with fail
  refine (alive12_any _).mono ?_
  rintro e w1 ⟨rfl, hf⟩
  have HS := Lib.hid (HS.out.fr0 hf)
  clear hf
  go_wp2_with (first | (refine wpList_load_any 24 _ rfl rfl _ 0 rfl cl _ (HS.out.blk 0 rfl).range Try.underlying24 rfl (by rw [hsz6]; kernel_rfl) ?_))
  refine (HR.out _).mono ?_
  rintro e w1 ⟨rfl, hf⟩
  have HS := Lib.hid (HS.out.fr0 hf)
  clear hf
  rw [hrc]
  go_wp2_with (first | (refine wpList_load_any 24 _ rfl rfl _ 0 rfl cl _ (HS.out.blk 0 rfl).range Try.underlying24 rfl (by rw [hsz6]; kernel_rfl) ?_))
  refine (HOF.out _).mono ?_
  rintro e w2 ⟨rfl, hf⟩
  have HS := Lib.hid ((HS.out.fr0 hf).new 31 cs); clear hf
  have c0 := ((HS.out.blk 1 rfl).cell 0).trans g0
  have cl0 := (HS.out.blk 1 rfl).lt
  go_wp2_with (first | (refine wpList_store_new 31 _ (cs).toArray rfl _ _ rfl rfl rfl (by rw [List.size_toArray, hsz]; kernel_rfl) (by simp [hsz]) (all_oneCell_toArray hone) ?_))
  refine wp_region_fr [(1, [0, 1, 2, 3, 4, 5, 6, 7, 8, 9, 10, 11])] [] (by kernel_rfl) (by kernel_rfl) ?_
  simp only [theOps, nthOp, List.map_cons, List.map_nil, Array.getD_eq_getD_getElem?, List.getElem?_toArray, List.getElem?_cons_succ, List.getElem?_cons_zero, Option.getD_some]
  repeat ((first | refine wpSegs_soft ?_ | refine wpSegs_pure ?_ | refine wpSegs_here ?_); (repeat (first | go_big_quiet_step (fail) | quiet_step (fail))); refine wpQuiet_nil ?_)
  refine wpSegs_done ?_
  have HS := Lib.hid HS.out.drew
  go_wp2_with (refine wpList_load_any 31 _ rfl rfl _ 0 rfl cs _ (HS.out.blk 0 rfl).range Try.underlying31 rfl (by rw [hsz]; kernel_rfl) ?_)
  refine (HNW.out _).mono ?_
  rintro e w3 ⟨b, rfl, hN⟩
  have hS := HS.out.append hN
  simp only [List.cons_append, List.nil_append] at hS
  have HS := Lib.hid hS; clear hS hN
  clear c0 cl0 hr1 hr2 hbe1' hbe2' hq10 hq20 g0
  have hnn : (n : Int) ≤ 60 := by omega
  have hone0 : ∀ v ∈ [Value.int .u64 0, .int .u64 0], v.oneCell' = true := by simp [Value.oneCell']
  go_wp2_with (refine wpList_load_any 31 _ rfl rfl _ 0 rfl cs _ (HS.out.blk 1 rfl).range Try.underlying31 rfl (by rw [hsz]; kernel_rfl) ?_)
  refine (HOW.out _ r1 (hL.fr HS.out.fr)).mono ?_
  rintro e w4 ⟨b, rfl, hN⟩
  have hS := HS.out.append hN
  simp only [List.cons_append, List.nil_append] at hS
  have HS := Lib.hid hS; clear hS hN
  have HS := Lib.hid ((HS.out.new 41 [.int .u64 0, .int .u64 0]).sub (Ts' := [_, _, _, _]) [1, 0, 3, 4] rfl (by decide))
  clear HOW
  generalize H.entry c ⟨L, 0, 0, -1, 0, 0, 0⟩ 0 = hh0 at HS HST
  go_wp2_with (refine wpList_store_new 41 _ ([Value.int .u64 0, .int .u64 0]).toArray rfl _ _ rfl rfl rfl (by kernel_rfl) (by simp) (all_oneCell_toArray hone0) ?_)
  generalize hlb : w4.heap.size = lb at HS ⊢
  go_wp2_with fail
  go_loopg [18, 19, 73] n (fun g vn vs vi wr => ∃ (k : Nat) (hh : H.H) (z : H.Seen), g + k = n ∧ vn = .int .i64 z.named ∧ vs = .bool z.seen ∧ vi = .int .i64 (k : Int) ∧ H.SInv c seq hh z ∧ Sep w wr [helpT c r1 r1 seq b hh, blkT lb 41 [.int .u64 z.lv, .int .u64 z.ls], blkT w2.heap.size 31 cs, blkT w.heap.size 24 cl])
  case atStart => exact ⟨0, _, _, by omega, rfl, rfl, rfl, HST.out, HS.out⟩
  case round =>
    clear HS HST
    obtain ⟨k, hh, z, hg, rfl, rfl, rfl, hAt, hS⟩ := hrel
    by_cases hk : k < n
    · have hki : (k : Int) < (n : Int) := by omega
      have hkO : k < O.length := by omega
      obtain ⟨x, rfl, hx, e0, e1⟩ := (hO.fr hS.fr).at hkO
      have hgo := hG _ (List.getElem_mem hkO)
      generalize O[k] = oo at *
      obtain ⟨ov, os, ook⟩ := oo
      obtain ⟨hv0, hv1, hs0, hs1⟩ := hgo
      dsimp only at hv0 hv1 hs0 hs1
      have y0 := e0 _ rfl
      have y1 := e1 0 _ rfl
      have y2 := e1 1 _ rfl
      clear e0 e1
      have hne : ¬ lb = wr.heap.size := by have := (hS.blk 1 rfl).lt; omega
      have hne2 : ¬ wr.heap.size = lb := fun e => hne e.symm
      have HS := Lib.hid (hS.new 55 [.int .u64 ov, .int .u64 os, .bool ook]); clear hS
      have HAT2 := Lib.hid hAt
      go_wp2_with fail
      refine (HAK.out _ _ _ b hh hAt.1.good (HS.out.pull 1 rfl)).mono ?_
      rintro e w4 ⟨rfl, hf⟩
      rw [HAD.out hh hAt.1]
      generalize hoo : (H.ask c r1 r1 seq hh).1 = o
      have hS := (HS.out.fr0 hf).new 43 (enP o)
      have HS := Lib.hid hS; clear hS hf hAt
      have HOO := Lib.hid hoo; clear hoo
      have honeO := enP_one o
      clear y0 y1 y2
      by_cases h8 : hh.next = 8
      · rw [decide_eq_true h8]
        have HH8 := Lib.hid h8; clear h8
        go_wp2_with (refine wpList_store_new 43 _ (enP o).toArray rfl _ _ rfl rfl rfl (by kernel_rfl) (by simp [enP]) (all_oneCell_toArray honeO) ?_)
        refine (HDN.out _ _ _ b hh (HS.out.pull 2 rfl)).mono ?_
        rintro e w5 ⟨rfl, hf⟩
        rw [decide_eq_true HH8.out]
        go_wp2_with fail
        go_ret
        exact ⟨rfl, (HS.out.fr0 hf).fr⟩
      · rw [decide_eq_false h8]
        have HH8 := Lib.hid h8; clear h8
        have HAT3 := Lib.hid (HATT.out hh z HAT2.out HH8.out ov os hv0)
        rw [HOO.out] at HAT3
        have hac := HAC.out hh z HAT2.out HH8.out o HOO.out
        have HW := Lib.hid (HWH.out o.a)
        have hwt : H.watch c r1 seq o ov os z = H.watch c r1 seq o ov os z := rfl
        conv at hwt => rhs; unfold H.watch
        obtain ⟨o0, o1, o2, o3, o4, o5⟩ := o
        dsimp only at hac HW hwt
        generalize whA c o1 = wa at hac HW hwt
        obtain ⟨wa1, wa2, wa3⟩ := wa
        dsimp only at hac HW hwt
        obtain ⟨zn, zs, zv, zz⟩ := z
        dsimp only at hac hwt HS
        have HWT := Lib.hid hwt; clear hwt
        have hone2 : ∀ v ∈ [Value.int .u64 ov, .int .u64 os], v.oneCell' = true := by simp [Value.oneCell']
        have HEQ : ∀ w, (binOp .eql 41 (.agg #[.int .u64 ov, .int .u64 os]) (.agg #[.int .u64 1, .int .u64 seq])).run Try.prog w = .ok (.bool (decide (ov = 1 ∧ os = seq))) w := fun w => eql_cell w ov os 1 seq
        have q1 := (HS.out.blk 0 rfl).cell 1
        rw [show (enP ⟨o0, o1, o2, o3, o4, o5⟩)[1]? = some (.int .i64 o1) from rfl] at q1
        have ql := (HS.out.blk 0 rfl).lt
        go_wp2_with (first | (refine wpList_store_new 43 _ (enP ⟨o0, o1, o2, o3, o4, o5⟩).toArray rfl _ _ rfl rfl rfl (by kernel_rfl) (by simp [enP]) (all_oneCell_toArray honeO) ?_) | (refine wpList_load_any 31 _ rfl rfl _ 0 rfl cs _ (HS.out.blk 4 rfl).range Try.underlying31 rfl (by rw [hsz]; kernel_rfl) ?_))
        refine (HW.out _).mono ?_
        rintro e w6 ⟨rfl, hf⟩
        have HS := Lib.hid (HS.out.fr0 hf); clear hf q1 ql
        have z0 := (HS.out.blk 1 rfl).cell 0
        have z1 := (HS.out.blk 1 rfl).cell 1
        have z2 := (HS.out.blk 1 rfl).cell 2
        simp only [List.getElem?_cons_zero, List.getElem?_cons_succ] at z0 z1 z2
        have zl := (HS.out.blk 1 rfl).lt
        have q0 := (HS.out.blk 0 rfl).cell 0
        have q2 := (HS.out.blk 0 rfl).cell 2
        have q3 := (HS.out.blk 0 rfl).cell 3
        rw [show (enP ⟨o0, o1, o2, o3, o4, o5⟩)[2]? = some (.int .u64 o2) from rfl] at q2
        rw [show (enP ⟨o0, o1, o2, o3, o4, o5⟩)[3]? = some (.int .u64 o3) from rfl] at q3
        have q4 := (HS.out.blk 0 rfl).cell 4
        have q5 := (HS.out.blk 0 rfl).cell 5
        rw [show (enP ⟨o0, o1, o2, o3, o4, o5⟩)[0]? = some (.int .i64 o0) from rfl] at q0
        rw [show (enP ⟨o0, o1, o2, o3, o4, o5⟩)[4]? = some (.int .u64 o4) from rfl] at q4
        rw [show (enP ⟨o0, o1, o2, o3, o4, o5⟩)[5]? = some (.int .u64 o5) from rfl] at q5
        have p0 := (HS.out.blk 3 rfl).cell 0
        have p1 := (HS.out.blk 3 rfl).cell 1
        simp only [List.getElem?_cons_zero, List.getElem?_cons_succ] at p0 p1
        have ql := (HS.out.blk 0 rfl).lt
        have pl := (HS.out.blk 3 rfl).lt
        rcases hac with ⟨rfl, rfl, rfl⟩ | ⟨rfl, hw4, hw16⟩ | ⟨rfl, rfl, rfl, rfl⟩ | ⟨rfl, rfl, rfl⟩ | ⟨rfl, rfl, rfl⟩ | ⟨rfl, hw4, hw16, rfl, rfl, hls, rfl⟩ | ⟨rfl, rfl, rfl, rfl, rfl, rfl, hls, rfl⟩
        · have hwt := HWT.out
          rw [if_neg (show ¬ (0 : Int) = 1 by decide), if_pos ⟨rfl, rfl, rfl⟩] at hwt
          rw [hwt] at HAT3
          have f0 := (HS.out.blk 3 rfl).froz 0
          have f1 := (HS.out.blk 3 rfl).froz 1
          go_wp2_with fail
          have hA := (HS.out.set 3 rfl 0 (.int .u64 ov)).set 3 rfl 1 (.int .u64 os)
          generalize World.setCell (World.setCell w6 _ _) _ _ = w7 at hA ⊢
          have HA := Lib.hid hA; clear hA
          refine (HTL.out _ _ _ b hh ov os ook ⟨hv0, hv1⟩ hs0 HAT2.out.1.good HAT2.out.1.rng (HA.out.pull 2 rfl)).mono ?_
          rintro e w9 ⟨rfl, hS⟩
          have HS := Lib.hid hS; clear hS
          go_wp2_with fail
          go_roundg (n - (k + 1))
          case measure => omega
          case rel => exact ⟨k + 1, _, _, by omega, by first | rfl | simp only [IntWalk.i64_left], by first | rfl | simp, by go_num, HAT3.out, HS.out.sub [0, 3, 4, 5] rfl (by decide)⟩
        · have hwt := HWT.out
          rw [if_neg (show ¬ (0 : Int) = 1 by decide), if_neg (fun h => hw4 h.1)] at hwt
          rw [hwt] at HAT3
          have dw : (wa1 == 4) = false := by simpa using hw4
          have dw2 : (wa1 == 16) = false := by simpa using hw16
          clear hw4 hw16
          have f0 := (HS.out.blk 3 rfl).froz 0
          have f1 := (HS.out.blk 3 rfl).froz 1
          go_wp2_with fail
          have hA := (HS.out.set 3 rfl 0 (.int .u64 ov)).set 3 rfl 1 (.int .u64 os)
          generalize World.setCell (World.setCell w6 _ _) _ _ = w7 at hA ⊢
          have HA := Lib.hid hA; clear hA
          refine (HTL.out _ _ _ b hh ov os ook ⟨hv0, hv1⟩ hs0 HAT2.out.1.good HAT2.out.1.rng (HA.out.pull 2 rfl)).mono ?_
          rintro e w9 ⟨rfl, hS⟩
          have HS := Lib.hid hS; clear hS
          go_wp2_with fail
          go_roundg (n - (k + 1))
          case measure => omega
          case rel => exact ⟨k + 1, _, _, by omega, by first | rfl | simp only [IntWalk.i64_left], by first | rfl | simp, by go_num, HAT3.out, HS.out.sub [0, 3, 4, 5] rfl (by decide)⟩
        · have hwt := HWT.out
          rw [if_neg (show ¬ (0 : Int) = 1 by decide), if_neg (fun h => absurd h.1 (by decide))] at hwt
          rw [hwt] at HAT3
          have f0 := (HS.out.blk 3 rfl).froz 0
          have f1 := (HS.out.blk 3 rfl).froz 1
          go_wp2_with fail
          have hA := (HS.out.set 3 rfl 0 (.int .u64 ov)).set 3 rfl 1 (.int .u64 os)
          generalize World.setCell (World.setCell w6 _ _) _ _ = w7 at hA ⊢
          have HA := Lib.hid hA; clear hA
          refine (HTL.out _ _ _ b hh ov os ook ⟨hv0, hv1⟩ hs0 HAT2.out.1.good HAT2.out.1.rng (HA.out.pull 2 rfl)).mono ?_
          rintro e w9 ⟨rfl, hS⟩
          have HS := Lib.hid hS; clear hS
          go_wp2_with fail
          go_roundg (n - (k + 1))
          case measure => omega
          case rel => exact ⟨k + 1, _, _, by omega, by first | rfl | simp only [IntWalk.i64_left], by first | rfl | simp, by go_num, HAT3.out, HS.out.sub [0, 3, 4, 5] rfl (by decide)⟩
        · have hwt := HWT.out
          rw [if_pos rfl] at hwt
          rw [hwt] at HAT3
          have f0 := (HS.out.blk 3 rfl).froz 0
          have f1 := (HS.out.blk 3 rfl).froz 1
          go_wp2_with fail
          have hA := (HS.out.set 3 rfl 0 (.int .u64 ov)).set 3 rfl 1 (.int .u64 os)
          generalize World.setCell (World.setCell w6 _ _) _ _ = w7 at hA ⊢
          have HA := Lib.hid hA; clear hA
          refine (HTL.out _ _ _ b hh ov os ook ⟨hv0, hv1⟩ hs0 HAT2.out.1.good HAT2.out.1.rng (HA.out.pull 2 rfl)).mono ?_
          rintro e w9 ⟨rfl, hS⟩
          have HS := Lib.hid hS; clear hS
          go_wp2_with fail
          go_roundg (n - (k + 1))
          case measure => omega
          case rel => exact ⟨k + 1, _, _, by omega, by first | rfl | simp only [IntWalk.i64_left], by first | rfl | simp, by go_num, HAT3.out, HS.out.sub [0, 3, 4, 5] rfl (by decide)⟩
        · have hwt := HWT.out
          rw [if_neg (show ¬ (2 : Int) = 1 by decide), if_neg (fun h => absurd h.2.2 (by decide))] at hwt
          rw [hwt] at HAT3
          have f0 := (HS.out.blk 3 rfl).froz 0
          have f1 := (HS.out.blk 3 rfl).froz 1
          go_wp2_with fail
          have hA := (HS.out.set 3 rfl 0 (.int .u64 ov)).set 3 rfl 1 (.int .u64 os)
          generalize World.setCell (World.setCell w6 _ _) _ _ = w7 at hA ⊢
          have HA := Lib.hid hA; clear hA
          refine (HTL.out _ _ _ b hh ov os ook ⟨hv0, hv1⟩ hs0 HAT2.out.1.good HAT2.out.1.rng (HA.out.pull 2 rfl)).mono ?_
          rintro e w9 ⟨rfl, hS⟩
          have HS := Lib.hid hS; clear hS
          go_wp2_with fail
          go_roundg (n - (k + 1))
          case measure => omega
          case rel => exact ⟨k + 1, _, _, by omega, by first | rfl | simp only [IntWalk.i64_left], by first | rfl | simp, by go_num, HAT3.out, HS.out.sub [0, 3, 4, 5] rfl (by decide)⟩
        · have hwt := HWT.out
          rw [if_neg (show ¬ (2 : Int) = 1 by decide), if_neg (fun h => absurd h.2.2 (by decide))] at hwt
          rw [hwt] at HAT3
          have dw : (wa1 != 4) = true := by simpa using hw4
          have dw1 : (wa1 == 4) = false := by simpa using hw4
          have dw2 : (wa1 == 16) = false := by simpa using hw16
          have dls : decide (o3 ≥ o5) = false := by simp; omega
          have HNE : ∀ w, (binOp .neq 41 (.agg #[.int .u64 o2, .int .u64 o3]) (.agg #[.int .u64 o2, .int .u64 o3])).run Try.prog w = .ok (.bool false) w := fun w => neq_cell_self w o2 o3
          clear hw4 hw16 hls
          have f0 := (HS.out.blk 3 rfl).froz 0
          have f1 := (HS.out.blk 3 rfl).froz 1
          go_wp2_with fail
          have hA := (HS.out.set 3 rfl 0 (.int .u64 ov)).set 3 rfl 1 (.int .u64 os)
          generalize World.setCell (World.setCell w6 _ _) _ _ = w7 at hA ⊢
          have HA := Lib.hid hA; clear hA
          refine (HTL.out _ _ _ b hh ov os ook ⟨hv0, hv1⟩ hs0 HAT2.out.1.good HAT2.out.1.rng (HA.out.pull 2 rfl)).mono ?_
          rintro e w9 ⟨rfl, hS⟩
          have HS := Lib.hid hS; clear hS
          go_wp2_with fail
          go_roundg (n - (k + 1))
          case measure => omega
          case rel => exact ⟨k + 1, _, _, by omega, by first | rfl | simp only [IntWalk.i64_left], by first | rfl | simp, by go_num, HAT3.out, HS.out.sub [0, 3, 4, 5] rfl (by decide)⟩
        · have hwt := HWT.out
          rw [if_neg (show ¬ (2 : Int) = 1 by decide), if_neg (fun h => absurd h.2.2 (by decide))] at hwt
          rw [hwt] at HAT3
          have dls : decide (o3 ≥ o5) = false := by simp; omega
          have HNE : ∀ w, (binOp .neq 41 (.agg #[.int .u64 o2, .int .u64 o3]) (.agg #[.int .u64 o2, .int .u64 o3])).run Try.prog w = .ok (.bool false) w := fun w => neq_cell_self w o2 o3
          clear hls
          have f0 := (HS.out.blk 3 rfl).froz 0
          have f1 := (HS.out.blk 3 rfl).froz 1
          go_wp2_with fail
          have hA := (HS.out.set 3 rfl 0 (.int .u64 ov)).set 3 rfl 1 (.int .u64 os)
          generalize World.setCell (World.setCell w6 _ _) _ _ = w7 at hA ⊢
          have HA := Lib.hid hA; clear hA
          refine (HTL.out _ _ _ b hh ov os ook ⟨hv0, hv1⟩ hs0 HAT2.out.1.good HAT2.out.1.rng (HA.out.pull 2 rfl)).mono ?_
          rintro e w9 ⟨rfl, hS⟩
          have HS := Lib.hid hS; clear hS
          go_wp2_with fail
          go_roundg (n - (k + 1))
          case measure => omega
          case rel => exact ⟨k + 1, _, _, by omega, by first | rfl | simp only [IntWalk.i64_left], by first | rfl | simp, by go_num, HAT3.out, HS.out.sub [0, 3, 4, 5] rfl (by decide)⟩
    · obtain rfl : k = n := by omega
      have HS := Lib.hid hS; clear hS
      go_wp2_with fail
      go_ret
      exact ⟨rfl, HS.out.fr⟩
theorem hslots_any (w : World) (c : Cfg) (who owner seq : Int) (a oa : Option Addr) (m lc n oc : Nat) (own : Bool) (L : List (Int × Int)) (O : List O3) (hL : ArgE enE 2 w (.slice a m lc) L) (hnil : NilA a m lc) (hO : ArgE enO 3 w (.slice oa n oc) O) (hG : ∀ x ∈ O, goodO x) (hLm : m = L.length) (hOn : n = O.length) :
    Calls Try.prog 10 #[cfgV c, .int .i64 who, .int .i64 owner, .int .u64 seq, .slice a m lc, .slice oa n oc, .bool own] w fun e w' => e = .returned (.bool true) ∧ Fr [] w w' := by
  by_cases h0 : right c = true
  · by_cases h1 : n > 60
    · exact hslots_s1 w c who owner seq a oa m lc n oc own h0 (by simp; omega)
    · by_cases h2 : m > 30
      · exact hslots_s2 w c who owner seq a oa m lc n oc own h0 (by simp; omega) (by simp; omega)
      · have hok : Ok c := by unfold right at h0; simpa using h0
        cases own
        · exact hslots_f w c hok who owner seq a oa m lc n oc L O hLm hL hnil (by omega) hO hG hOn.symm (by omega) h0
        · exact hslots_t w c hok who owner seq a oa m lc n oc L O hLm hL hnil (by omega) hO hG hOn.symm (by omega) h0
  · exact hslots_s0 w c who owner seq a oa m lc n oc own (by simpa using h0)
/-- Entries that came in. -/
def ArgH (w : World) (v : Value) (l : List (Int × Int)) : Prop := ArgG goodE enE 2 w v l ∧ ∀ a m cap, v = .slice a m cap → NilA a m cap
theorem hslots_row (a b d f g l who owner seq : Int) (v v' : Value) (own : Bool) (L : List (Int × Int)) (O : List O3) (w : World) (hL : ArgH w v L) (hO : ArgG goodO enO 3 w v' O) (_ : L.length ≤ maxLen) (_ : O.length ≤ maxLen) :
    Calls Try.prog 10 #[.agg #[.int .i64 a, .int .i64 b, .int .i64 d, .int .i64 f, .int .u64 g, .int .u64 l], .int .i64 who, .int .i64 owner, .int .u64 seq, v, v', .bool own] w fun e w' => e = .returned (.bool true) ∧ Fr [] w w' := by
  obtain ⟨a1, c1, rfl, _⟩ := id hL.1.1
  obtain ⟨a2, c2, rfl, _⟩ := id hO.1
  exact hslots_any w ⟨a, b, d, f, g, l⟩ who owner seq a1 a2 _ c1 _ c2 own L O hL.1.1 (hL.2 _ _ _ rfl) hO.1 hO.2 rfl rfl
open Go.ChangeShapes Go.WideShapes Go.Deep in
theorem argHn_of {H : Type} {enc : TypeId × Value → H} {W : World} {base : Nat} {spare : Nat → Bool} {held : Bool} {fuel : Nat} {a : Option Addr} {len cap : Nat} {x : DataW H × List MemPlace}
    (h : DataW.trod enc Try.prog W base spare held fuel 113 (Value.slice a len cap).cells.toList = some x) :
    ∃ l : List (Int × Int), ArgH W (.slice a len cap) l ∧ len = l.length ∧ l.length ≤ maxLen := by
  obtain ⟨l, h1, h2, h3⟩ := argEn_of h
  refine ⟨l, ⟨h1, ?_⟩, h2, h3⟩
  intro a' m' cap' e
  obtain ⟨rfl, rfl, rfl⟩ : a = a' ∧ len = m' ∧ cap = cap' := by simpa using e
  exact argNil_of Try.underlying113 h
end Go.Proofs.Ytccioehckfdjdaa
