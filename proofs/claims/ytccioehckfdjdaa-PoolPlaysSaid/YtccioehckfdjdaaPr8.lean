/- The document's Read of chapter 10. -/
import Derived.Test.YtccioehckfdjdaaPr7
import Derived.Test.YtccioehckfdjdaaMTp
import Derived.Test.YtccioehckfdjdaaMArg
set_option linter.unusedSimpArgs false
set_option linter.unusedVariables false
namespace Go.Tum.P
open Go.Tum.Y Go.Tum
/-- What the document's Read comes to, case by case. -/
theorem rread_eq {c : Cfg} {seq : Int} {l : List O3} {xt t1 t2 : Tp} {xn : List Int} {o1 o2 : O3} (hx : rslots c l c.t.toNat = (xt, xn)) (h1 : xt.step l.length (ldP (at_ c 12 0 0)) = t1) (ho1 : xt.out l = o1) (h2 : t1.step l.length (ldP (at_ c 14 0 0)) = t2) (ho2 : t1.out l = o2) :
    (t1.need = true → rread c seq l = (⟨xn, [], 0, 0, 0, 0⟩, t1, 0)) ∧
    (t1.need = false → seq < o1.s → rread c seq l = (⟨xn, [], 0, 0, 0, 0⟩, t1, 2)) ∧
    (t1.need = false → ¬ seq < o1.s → t2.need = true → rread c seq l = (⟨xn, [], 0, 0, 0, 0⟩, t2, 0)) ∧
    (t1.need = false → ¬ seq < o1.s → t2.need = false → seq < o2.s → rread c seq l = (⟨xn, [], 0, 0, 0, 0⟩, t2, 2)) ∧
    (t1.need = false → ¬ seq < o1.s → t2.need = false → ¬ seq < o2.s → ∀ z, rlims c seq l (min o2.v (limit c)).toNat 0 t2 [] = z → rread c seq l = (⟨xn, z.1, min o1.v c.b, min o2.v (limit c), min o1.v c.b, min o2.v (limit c)⟩, z.2.1, z.2.2)) := by
  subst h2 ho2 h1 ho1
  unfold rread
  rw [hx]
  dsimp only
  refine ⟨fun a => ?_, fun a b => ?_, fun a b d => ?_, fun a b d e => ?_, fun a b d e z hz => ?_⟩
  · rw [if_pos a]
  · rw [if_neg (by rw [a]; simp), if_pos b]
  · rw [if_neg (by rw [a]; simp), if_neg b, if_pos d]
  · rw [if_neg (by rw [a]; simp), if_neg b, if_neg (by rw [d]; simp), if_pos e]
  · rw [if_neg (by rw [a]; simp), if_neg b, if_neg (by rw [d]; simp), if_neg e, hz]
theorem rslots_at (c : Cfg) (l : List O3) : ∀ u, (rslots c l u).1.at_ ≤ u ∧ (rslots c l u).2.length = u
  | 0 => ⟨Nat.le_refl _, rfl⟩
  | u + 1 => by
    obtain ⟨h1, h2⟩ := rslots_at c l u
    have := tstep_at l.length (rslots c l u).1 (ldP (at_ c 3 u 0))
    unfold rslots
    exact ⟨by dsimp only; omega, by simp [h2]⟩
end Go.Tum.P
namespace Go.Proofs.Ytccioehckfdjdaa
open Go.RowKit Go.Tum Go.Tum.Y Go.Tum.W
theorem joinA {A : Prop} {G S : Nat → World → Prop} (h : (∀ X wF, S X wF → G X wF) → A) (x : ∀ X wF, S X wF → G X wF) : A := h x
theorem joinB {A : Prop} {G S : Nat → Nat → World → Prop} (h : (∀ X Y wF, S X Y wF → G X Y wF) → A) (x : ∀ X Y wF, S X Y wF → G X Y wF) : A := h x
theorem out_goodP {l : List O3} (hG : ∀ x ∈ l, goodO x) (t : Tp) : goodO (t.out l) := by
  unfold Tp.out
  split
  · simp [goodO]
  · by_cases h : t.at_ < l.length
    · rw [List.getElem?_eq_getElem h]; exact hG _ (List.getElem_mem h)
    · rw [List.getElem?_eq_none (by omega)]; simp [goodO]
theorem res_cct8 {P : Program} {fn : Func} {tmps : Array Value} {w : World} {a t j u k b b' : Nat} {cs cs' : List Value} {d d' : TypeDesc} {v3 : Value} (hr : fn.results = #[.cell a t, .cell j u, .tmp k]) (ha : tmps.getD a undef = .pointer (some ⟨b, 0, none⟩)) (hj : tmps.getD j undef = .pointer (some ⟨b', 0, none⟩)) (hk : tmps.getD k undef = v3)
    (hc : w.rangeAt b 0 cs) (hu : P.underlying t = some d) (hd : d.isRow = true) (hi : (P.info? t).map (·.size) = some cs.length)
    (hc' : w.rangeAt b' 0 cs') (hu' : P.underlying u = some d') (hd' : d'.isRow = true) (hi' : (P.info? u).map (·.size) = some cs'.length) : (results fn tmps).run P w = .ok (.tuple #[.agg cs.toArray, .agg cs'.toArray, v3]) w := by
  have h1 := run_loadVar_mid (P := P) w b 0 t cs d hc hu hd hi
  have h2 := run_loadVar_mid (P := P) w b' 0 u cs' d' hc' hu' hd' hi'
  rw [Array.getD_eq_getD_getElem?] at ha hj hk
  simp [results, hr, ha, hj, hk, asAddr, Sem.run_bind, h1, h2]
structure RQf (f : Value → Value → Int → Int → Int → Int → List Value) : Prop where
  len : ∀ vn vl wt wl t l, (f vn vl wt wl t l).length = 12
  nmd : ∀ vn vl wt wl t l, (f vn vl wt wl t l)[6]? = some vn
  lmb : ∀ vn vl wt wl t l, (f vn vl wt wl t l)[7]? = some vl
  wt : ∀ vn vl wt wl t l, (f vn vl wt wl t l)[8]? = some (.int .i64 wt)
  wl : ∀ vn vl wt wl t l, (f vn vl wt wl t l)[9]? = some (.int .i64 wl)
  lim : ∀ vn vl wt wl t l, (f vn vl wt wl t l)[11]? = some (.int .i64 l)
  s6 : ∀ vn vl wt wl t l x, (f vn vl wt wl t l).set 6 x = f x vl wt wl t l
  s7 : ∀ vn vl wt wl t l x, (f vn vl wt wl t l).set 7 x = f vn x wt wl t l
  s8 : ∀ vn vl wt wl t l x, (f vn vl wt wl t l).set 8 (.int .i64 x) = f vn vl x wl t l
  s9 : ∀ vn vl wt wl t l x, (f vn vl wt wl t l).set 9 (.int .i64 x) = f vn vl wt x t l
  s10 : ∀ vn vl wt wl t l x, (f vn vl wt wl t l).set 10 (.int .i64 x) = f vn vl wt wl x l
  s11 : ∀ vn vl wt wl t l x, (f vn vl wt wl t l).set 11 (.int .i64 x) = f vn vl wt wl t x
  one : ∀ vn vl, vn.oneCell' = true → vl.oneCell' = true → ∀ wt wl t l, ∀ u ∈ f vn vl wt wl t l, u.oneCell' = true
theorem rqf (c : Cfg) : RQf (rpL c) :=
  ⟨fun _ _ _ _ _ _ => rfl, fun _ _ _ _ _ _ => rfl, fun _ _ _ _ _ _ => rfl, fun _ _ _ _ _ _ => rfl, fun _ _ _ _ _ _ => rfl, fun _ _ _ _ _ _ => rfl, fun _ _ _ _ _ _ _ => rfl, fun _ _ _ _ _ _ _ => rfl, fun _ _ _ _ _ _ _ => rfl, fun _ _ _ _ _ _ _ => rfl, fun _ _ _ _ _ _ _ => rfl, fun _ _ _ _ _ _ _ => rfl, fun vn vl h1 h2 wt wl t l => (rff c vn vl).one h1 h2 wt wl t l⟩
set_option maxRecDepth 100000 in
set_option maxHeartbeats 16000000 in
theorem rread10_any (w : World) (c : Cfg) (h : Ok c) (seq : Int) (oa : Option Addr) (n oc : Nat) (hn : n ≤ 1000) (l : List O3) (hl : l.length = n) (hO : ArgE enO 3 w (.slice oa n oc) l) (hG : ∀ x ∈ l, goodO x) (Z : P.RP × Tp × Int) (hZ : P.rread c seq l = Z) :
    Calls Try.prog 28 #[cfgV c, .int .u64 seq, .agg (tapeL (.slice oa n oc) P.tp0).toArray] w fun e w' => ∃ vn vl, e = .returned (.tuple #[.agg (rpL c vn vl Z.1.wt Z.1.wl Z.1.top Z.1.nl).toArray, .agg (tapeL (.slice oa n oc) Z.2.1).toArray, .int .i64 Z.2.2]) ∧ vn.oneCell' = true ∧ vl.oneCell' = true ∧ Sep w w' [rowT 0 22 1 vn Z.1.ns.length (Z.1.ns.map (Value.int .u64)), rowT 0 22 1 vl Z.1.lim.length (Z.1.lim.map (Value.int .u64))] := by
  have HA3k : Hid (∀ w (k : Int), Calls Try.prog 94 #[cfgV c, .int .i64 3, .int .i64 k, .int .i64 0] w fun e w' => e = .returned (.int .i64 (at_ c 3 k 0)) ∧ Fr [] w w') := fun w k => rat_any w c h 3 k 0
  have HA15k : Hid (∀ w (k : Int), Calls Try.prog 94 #[cfgV c, .int .i64 15, .int .i64 k, .int .i64 0] w fun e w' => e = .returned (.int .i64 (at_ c 15 k 0)) ∧ Fr [] w w') := fun w k => rat_any w c h 15 k 0
  have HA12 : Hid (∀ w, Calls Try.prog 94 #[cfgV c, .int .i64 12, .int .i64 0, .int .i64 0] w fun e w' => e = .returned (.int .i64 (at_ c 12 0 0)) ∧ Fr [] w w') := fun w => rat_any w c h 12 0 0
  have HA14 : Hid (∀ w, Calls Try.prog 94 #[cfgV c, .int .i64 14, .int .i64 0, .int .i64 0] w fun e w' => e = .returned (.int .i64 (at_ c 14 0 0)) ∧ Fr [] w w') := fun w => rat_any w c h 14 0 0
  have HLM : Hid (∀ w, Calls Try.prog 31 #[cfgV c] w fun e w' => e = .returned (.int .i64 (limit c)) ∧ Fr [] w w') := fun w => rlimit_any w c h
  have HLDA : Hid (∀ (tt : Tp) (p : Int) (w' : World), tt.at_ ≤ 200000 → Fr [] w w' → Calls Try.prog 103 #[.agg (tapeL (.slice oa n oc) tt).toArray, .int .i64 p] w' fun e w'' => e = .returned (.tuple #[.agg (tapeL (.slice oa n oc) (tt.step n (P.ldP p))).toArray, .agg [Value.int .u64 (tt.out l).v, .int .u64 (tt.out l).s].toArray]) ∧ Fr [] w' w'') := fun tt p w' htt f => hload_any w' oa n oc tt p (by omega) htt l hl (hO.fr f)
  have HOG := Lib.hid (fun tt => out_goodP hG tt)
  obtain ⟨i0, hi0, hz0, hz1, hz2⟩ := info_parts P_infoU
  have HTF := Lib.hid (fun tt => tft oa n oc tt)
  have HSA := Lib.hid (fun (t : Tp) (op : P6) => tstep_at n t op)
  have HRQ := Lib.hid (rqf c)
  have hb1 := h.b1
  have hb64 := h.b64
  have hlim := limit_pos h
  obtain ⟨tn, htn⟩ : ∃ tn : Nat, c.t = (tn : Int) := ⟨c.t.toNat, by have := h.t1; omega⟩
  have ht8 : tn ≤ 8 := by have := h.t8; omega
  have HTN := Lib.hid htn
  clear htn
  have HRS := Lib.hid (fun u => P.rslots_at c l u)
  have HR1 : Hid (∀ u, P.rslots c l (u + 1) = ((P.rslots c l u).1.step n (P.ldP (at_ c 3 u 0)), (P.rslots c l u).2 ++ [((P.rslots c l u).1.out l).v])) := Lib.hid fun u => by rw [P.rslots, hl]
  have HRES : Hid (∀ (vn vl : Value) (a : P.RP) (T : Tp) (s : Int) (N1 N2 : Nat), vn.oneCell' = true → vl.oneCell' = true → Z = (a, T, s) → a.ns.length = N1 → a.lim.length = N2 → ∀ w', Sep w w' [rowT 0 22 1 vn N1 (a.ns.map (Value.int .u64)), rowT 0 22 1 vl N2 (a.lim.map (Value.int .u64))] → ∃ vn' vl', Ending.returned (.tuple #[.agg (rpL c vn vl a.wt a.wl a.top a.nl).toArray, .agg (tapeL (.slice oa n oc) T).toArray, .int .i64 s]) = .returned (.tuple #[.agg (rpL c vn' vl' Z.1.wt Z.1.wl Z.1.top Z.1.nl).toArray, .agg (tapeL (.slice oa n oc) Z.2.1).toArray, .int .i64 Z.2.2]) ∧ vn'.oneCell' = true ∧ vl'.oneCell' = true ∧ Sep w w' [rowT 0 22 1 vn' Z.1.ns.length (Z.1.ns.map (Value.int .u64)), rowT 0 22 1 vl' Z.1.lim.length (Z.1.lim.map (Value.int .u64))]) := Lib.hid fun vn vl a T s N1 N2 h1 h2 hz hn1 hn2 w' hS => by
    subst hz hn1 hn2
    exact ⟨vn, vl, rfl, h1, h2, hS⟩
  have HZ := Lib.hid hZ
  clear hZ hO hG
  have hS := ((((Sep.nil (Fr.refl [] w)).new 24 [.int .i64 c.t, .int .i64 c.b, .int .i64 c.w, .int .i64 c.f, .int .u64 c.fi, .int .u64 c.la]).new 47 (tapeL (.slice oa n oc) P.tp0)).new 65 [.int .i64 0, .int .i64 0, .int .i64 0, .int .i64 0, .int .u64 0, .int .u64 0, .slice none 0 0, .slice none 0 0, .int .i64 0, .int .i64 0, .int .i64 0, .int .i64 0]).new 47 [.slice none 0 0, .int .i64 0, .int .i64 0, .int .i64 0, .int .u64 0, .int .u64 0, .int .u64 0, .int .u64 0, .bool false]
  have hS5 := hS.new 65 [.int .i64 0, .int .i64 0, .int .i64 0, .int .i64 0, .int .u64 0, .int .u64 0, .slice none 0 0, .slice none 0 0, .int .i64 0, .int .i64 0, .int .i64 0, .int .i64 0]
  simp only [World.size_alloc] at hS hS5
  have HS4 := Lib.hid hS
  have HS5 := Lib.hid hS5; clear hS hS5
  have hone0 : ∀ u ∈ ([.int .i64 c.t, .int .i64 c.b, .int .i64 c.w, .int .i64 c.f, .int .u64 c.fi, .int .u64 c.la, .slice none 0 0, .slice none 0 0, .int .i64 0, .int .i64 0, .int .i64 0, .int .i64 0] : List Value), u.oneCell' = true := by simp [Value.oneCell']
  have e0 : ([.int .i64 c.t, .int .i64 c.b, .int .i64 c.w, .int .i64 c.f, .int .u64 c.fi, .int .u64 c.la, .slice none 0 0, .slice none 0 0, .int .i64 0, .int .i64 0, .int .i64 0, .int .i64 0] : List Value) = rpL c (.slice none 0 0) (.slice none 0 0) 0 0 0 0 := rfl
  have HE0 := Lib.hid e0; clear e0
  unfold cfgV at *
  generalize rpL c = RQ at *
  generalize tapeL (.slice oa n oc) = TL at *
  go_enter Try.func28, Try.ntmps28
  go_wp2_with (first | (refine wpList_load_any 24 _ rfl rfl _ 0 rfl [.int .i64 c.t, .int .i64 c.b, .int .i64 c.w, .int .i64 c.f, .int .u64 c.fi, .int .u64 c.la] _ (HS4.out.blk 3 rfl).range Try.underlying24 rfl (by kernel_rfl) ?_) | (refine wpList_store_sep HS5.out 0 rfl [.int .i64 c.t, .int .i64 c.b, .int .i64 c.w, .int .i64 c.f, .int .u64 c.fi, .int .u64 c.la, .slice none 0 0, .slice none 0 0, .int .i64 0, .int .i64 0, .int .i64 0, .int .i64 0] 65 _ _ rfl rfl rfl rfl rfl (by kernel_rfl) hone0 (fun wA hA _ => ?_); have HA0 := Lib.hid hA; clear hA))
  have hS := HA0.out
  simp only [List.set_cons_zero, List.set_cons_succ] at hS
  rw [HE0.out] at hS
  have h7 := (hS.nilRow8 0 22 1).nilRow8 0 22 1
  obtain ⟨cl, hcl⟩ : ∃ cl : List Value, cl = [.int .i64 c.t, .int .i64 c.b, .int .i64 c.w, .int .i64 c.f, .int .u64 c.fi, .int .u64 c.la] := ⟨_, rfl⟩
  rw [← hcl] at h7 HA3k HA15k HA12 HA14 HLM
  have k0 : cl[0]? = some (.int .i64 (tn : Int)) := by rw [hcl, ← HTN.out]; rfl
  have k1 : cl[1]? = some (.int .i64 c.b) := by rw [hcl]; rfl
  have hsz6 : cl.length = 6 := by rw [hcl]; rfl
  clear hcl
  have HS : Hid (Sep w wA [blkT (w.heap.size + 1 + 1 + 1 + 1) 65 (RQ (.slice none 0 0) (.slice none 0 0) 0 0 0 0), blkT (w.heap.size + 1 + 1 + 1) 47 [.slice none 0 0, .int .i64 0, .int .i64 0, .int .i64 0, .int .u64 0, .int .u64 0, .int .u64 0, .int .u64 0, .bool false], blkT (w.heap.size + 1 + 1) 65 [.int .i64 0, .int .i64 0, .int .i64 0, .int .i64 0, .int .u64 0, .int .u64 0, .slice none 0 0, .slice none 0 0, .int .i64 0, .int .i64 0, .int .i64 0, .int .i64 0], blkT (w.heap.size + 1) 47 (TL P.tp0), blkT w.heap.size 24 cl, rowT 0 22 1 (.slice none 0 0) 0 [], rowT 0 22 1 (.slice none 0 0) 0 []]) := Lib.hid (h7.sub [2, 3, 4, 5, 6, 1, 0] rfl (by decide))
  clear h7 hS HA0 HS4 HS5 hone0
  go_wp2_with fail
  go_loopg [10] tn (fun g vi wr => ∃ (u : Nat) (ra : Option Addr) (rc : Nat), g + u = tn ∧ vi = .int .i64 (u : Int) ∧ Sep w wr [blkT (w.heap.size + 1 + 1 + 1 + 1) 65 (RQ (.slice ra u rc) (.slice none 0 0) 0 0 0 0), blkT (w.heap.size + 1 + 1 + 1) 47 [.slice none 0 0, .int .i64 0, .int .i64 0, .int .i64 0, .int .u64 0, .int .u64 0, .int .u64 0, .int .u64 0, .bool false], blkT (w.heap.size + 1 + 1) 65 [.int .i64 0, .int .i64 0, .int .i64 0, .int .i64 0, .int .u64 0, .int .u64 0, .slice none 0 0, .slice none 0 0, .int .i64 0, .int .i64 0, .int .i64 0, .int .i64 0], blkT (w.heap.size + 1) 47 (TL (P.rslots c l u).1), blkT w.heap.size 24 cl, rowT 0 22 1 (.slice ra u rc) (u) (((P.rslots c l u).2).map (Value.int .u64)), rowT 0 22 1 (.slice none 0 0) 0 []])
  case atStart => exact ⟨0, none, 0, by omega, rfl, HS.out⟩
  case round =>
    clear HS
    obtain ⟨u, ra, rc, hgu, rfl, hS⟩ := hrel
    have hru := HRS.out u
    have hr1 := HR1.out u
    obtain ⟨⟨tu, xu⟩, hxu⟩ : ∃ X, P.rslots c l u = X := ⟨_, rfl⟩
    rw [hxu] at hS hru hr1
    dsimp only at hS hru hr1
    have HX := Lib.hid hxu; clear hxu
    have T3 := Lib.hid (HTF.out tu)
    by_cases hu : u < tn
    · have hui : (u : Int) < (tn : Int) := by omega
      have HA3 := Lib.hid (fun w => HA3k.out w u)
      have hgo := HOG.out tu
      generalize at_ c 3 u 0 = p3 at *
      have HLD2 : Hid (∀ w', Fr [] w w' → _) := fun w' f => HLDA.out tu p3 w' (by omega) f
      have T4 := Lib.hid (HTF.out (tu.step n (P.ldP p3)))
      generalize tu.step n (P.ldP p3) = t4 at *
      generalize tu.out l = o4 at *
      obtain ⟨ev, es, ek⟩ := o4
      obtain ⟨q1, q2, q3, q4⟩ := hgo
      dsimp only at q1 q2 q3 q4 HLD2 hr1
      have HO4 := enO_hd2 ⟨ev, es, ek⟩
      dsimp only at HO4
      have HR2 := Lib.hid hr1
      have hxl := hru.2
      have HXL := Lib.hid hxl
      clear hr1 hxl hru
      have c0 := ((hS.blk 4 rfl).cell 0).trans k0
      have cl0 := (hS.blk 4 rfl).lt
      have HS := Lib.hid hS; clear hS
      go_wp2_with fail
      clear c0 cl0
      have hmt := (HS.out.blk 3 rfl).drew
      have hmc := (HS.out.blk 4 rfl).drew
      have hlt := T3.out.len
      refine step_start ([3, 4, 8, 9], [10, 11]) [] (by kernel_rfl) ?_
      refine step_reads (N := 9) [0, 1, 2] (by kernel_rfl) ⟨⟨_, Fr.refl _ _⟩, rfl⟩ ?_
      simp only [theOps, nthOp, List.map_cons, List.map_nil, Array.getD_eq_getD_getElem?, List.getElem?_toArray, List.getElem?_cons_succ, List.getElem?_cons_zero, Option.getD_some]
      refine wpQuiet_load_mid 47 _ (w.heap.size + 1) 0 (TL tu) _ rfl rfl rfl (rangeAt_after hmt (by simp <;> omega)) Try.underlying47 rfl (by rw [hlt]; kernel_rfl) ?_
      simp only [Act.put, List.setIfInBounds_toArray, List.set_cons_zero, List.set_cons_succ]
      refine wpQuiet_load_mid 24 _ w.heap.size 0 cl _ rfl rfl rfl (rangeAt_after hmc (by simp)) Try.underlying24 rfl (by rw [hsz6]; kernel_rfl) ?_
      simp only [Act.put, List.setIfInBounds_toArray, List.set_cons_zero, List.set_cons_succ]
      repeat (first | go_big_quiet_step (fail) | quiet_step (fail))
      refine wpQuiet_nil ?_
      have HS := Lib.hid HS.out.drew
      clear hmt hmc hlt
      generalize World.drew _ = wd at HS ⊢
      have HF := Lib.hid (Fr.refl [] wd)
      apply joinB (S := fun X2 Y2 wF => Sep w wF [blkT Y2 41 [.int .u64 ev, .int .u64 es], blkT X2 47 (TL t4), blkT (w.heap.size + 1 + 1 + 1 + 1) 65 (RQ (.slice ra u rc) (.slice none 0 0) 0 0 0 0), blkT (w.heap.size + 1 + 1 + 1) 47 [.slice none 0 0, .int .i64 0, .int .i64 0, .int .i64 0, .int .u64 0, .int .u64 0, .int .u64 0, .int .u64 0, .bool false], blkT (w.heap.size + 1 + 1) 65 [.int .i64 0, .int .i64 0, .int .i64 0, .int .i64 0, .int .u64 0, .int .u64 0, .slice none 0 0, .slice none 0 0, .int .i64 0, .int .i64 0, .int .i64 0, .int .i64 0], blkT (w.heap.size + 1) 47 (TL tu), blkT w.heap.size 24 cl, rowT 0 22 1 (.slice ra u rc) (u) ((xu).map (Value.int .u64)), rowT 0 22 1 (.slice none 0 0) 0 []])
      · intro HR
        refine step_three (N := 8) 3 8 9 (by kernel_rfl) rfl rfl rfl ?_ ?_ ?_
        · go_wp2_with fail
          refine (HA3.out _).mono ?_
          rintro e w9 ⟨rfl, hf⟩
          have HF := Lib.hid (HF.out.trans hf)
          have HS := Lib.hid (HS.out.fr0 hf); clear hf
          go_wp2_with fail
          refine ⟨⟨⟨_, (by exact HF.out)⟩, rfl⟩, ?_⟩
          refine step_three (N := 7) 4 8 9 (by kernel_rfl) rfl rfl rfl ?_ ?_ ?_
          · go_wp2_with fail
            refine (HLD2.out _ HS.out.fr).mono ?_
            rintro e w9 ⟨rfl, hf⟩
            have HF := Lib.hid (HF.out.trans hf)
            have HS := Lib.hid (HS.out.fr0 hf); clear hf
            go_wp2_with fail
            refine ⟨⟨⟨_, (by exact HF.out)⟩, rfl⟩, ?_⟩
            refine step_pures (N := 4) [5, 6, 7] (by kernel_rfl) ?_
            simp only [theOps, nthOp, List.map_cons, List.map_nil, Array.getD_eq_getD_getElem?, List.getElem?_toArray, List.getElem?_cons_succ, List.getElem?_cons_zero, Option.getD_some]
            repeat (first | go_big_quiet_step (fail) | quiet_step (fail))
            refine wpQuiet_nil ?_
            refine step_two (N := 3) 8 9 (by kernel_rfl) rfl rfl ?_ ?_
            · go_wp2_with fail
              have hf := Fr.alloc HF.out (.cells ([.slice none 0 0, .int .i64 0, .int .i64 0, .int .i64 0, .int .u64 0, .int .u64 0, .int .u64 0, .int .u64 0, .bool false]).toArray 47)
              have hS := HS.out.new 47 ([.slice none 0 0, .int .i64 0, .int .i64 0, .int .i64 0, .int .u64 0, .int .u64 0, .int .u64 0, .int .u64 0, .bool false])
              have HF := Lib.hid hf; have HS := Lib.hid hS; clear hf hS
              refine ⟨⟨⟨_, (by exact HF.out)⟩, rfl⟩, ?_⟩
              generalize World.alloc _ _ = wn1 at HF HS ⊢
              generalize w9.heap.size = X2 at HS ⊢
              refine step_keep (N := 2) 9 (by kernel_rfl) rfl ?_
              go_wp2_with fail
              have hf := Fr.alloc HF.out (.cells ([.int .u64 0, .int .u64 0]).toArray 41)
              have hS := HS.out.new 41 ([.int .u64 0, .int .u64 0])
              have HF := Lib.hid hf; have HS := Lib.hid hS; clear hf hS
              refine ⟨⟨⟨_, (by exact HF.out)⟩, rfl⟩, ?_⟩
              generalize World.alloc _ _ = wn2 at HF HS ⊢
              generalize wn1.heap.size = Y2 at HS ⊢
              refine step_hard (N := 1) 10 (by kernel_rfl) rfl ?_
              refine wpList_store_sep HS.out 1 rfl (TL t4) 47 _ _ rfl rfl rfl rfl (by rw [T4.out.len]; rfl) (by rw [T4.out.len]; kernel_rfl) T4.out.one (fun wA hA _ => ?_)
              have HS := Lib.hid hA; clear hA
              simp only [List.set_cons_zero, List.set_cons_succ] at HS
              go_wp2_with fail
              refine step_hard (N := 0) 11 (by kernel_rfl) rfl ?_
              refine wpList_store_sep HS.out 0 rfl [.int .u64 ev, .int .u64 es] 41 _ _ rfl rfl rfl rfl rfl (by kernel_rfl) HO4 (fun wA hA _ => ?_)
              have HS := Lib.hid hA; clear hA
              simp only [List.set_cons_zero, List.set_cons_succ] at HS
              go_wp2_with fail
              refine step_done (by kernel_rfl) ?_
              exact HR X2 Y2 _ HS.out
            · go_wp2_with fail
              have hf := Fr.alloc HF.out (.cells ([.int .u64 0, .int .u64 0]).toArray 41)
              have hS := HS.out.new 41 ([.int .u64 0, .int .u64 0])
              have HF := Lib.hid hf; have HS := Lib.hid hS; clear hf hS
              refine ⟨⟨⟨_, (by exact HF.out)⟩, rfl⟩, ?_⟩
              generalize World.alloc _ _ = wn3 at HF HS ⊢
              generalize w9.heap.size = Y2 at HS ⊢
              refine step_keep (N := 2) 8 (by kernel_rfl) rfl ?_
              go_wp2_with fail
              have hf := Fr.alloc HF.out (.cells ([.slice none 0 0, .int .i64 0, .int .i64 0, .int .i64 0, .int .u64 0, .int .u64 0, .int .u64 0, .int .u64 0, .bool false]).toArray 47)
              have hS := HS.out.new 47 ([.slice none 0 0, .int .i64 0, .int .i64 0, .int .i64 0, .int .u64 0, .int .u64 0, .int .u64 0, .int .u64 0, .bool false])
              have HF := Lib.hid hf; have HS := Lib.hid hS; clear hf hS
              refine ⟨⟨⟨_, (by exact HF.out)⟩, rfl⟩, ?_⟩
              generalize World.alloc _ _ = wn4 at HF HS ⊢
              generalize wn3.heap.size = X2 at HS ⊢
              have HS := Lib.hid (HS.out.sub (Ts' := [_, _, _, _, _, _, _, _, _] ) [1, 0, 2, 3, 4, 5, 6, 7, 8] rfl (by decide))
              refine step_hard (N := 1) 10 (by kernel_rfl) rfl ?_
              refine wpList_store_sep HS.out 1 rfl (TL t4) 47 _ _ rfl rfl rfl rfl (by rw [T4.out.len]; rfl) (by rw [T4.out.len]; kernel_rfl) T4.out.one (fun wA hA _ => ?_)
              have HS := Lib.hid hA; clear hA
              simp only [List.set_cons_zero, List.set_cons_succ] at HS
              go_wp2_with fail
              refine step_hard (N := 0) 11 (by kernel_rfl) rfl ?_
              refine wpList_store_sep HS.out 0 rfl [.int .u64 ev, .int .u64 es] 41 _ _ rfl rfl rfl rfl rfl (by kernel_rfl) HO4 (fun wA hA _ => ?_)
              have HS := Lib.hid hA; clear hA
              simp only [List.set_cons_zero, List.set_cons_succ] at HS
              go_wp2_with fail
              refine step_done (by kernel_rfl) ?_
              exact HR X2 Y2 _ HS.out
          · go_wp2_with fail
            have hf := Fr.alloc HF.out (.cells ([.slice none 0 0, .int .i64 0, .int .i64 0, .int .i64 0, .int .u64 0, .int .u64 0, .int .u64 0, .int .u64 0, .bool false]).toArray 47)
            have hS := HS.out.new 47 ([.slice none 0 0, .int .i64 0, .int .i64 0, .int .i64 0, .int .u64 0, .int .u64 0, .int .u64 0, .int .u64 0, .bool false])
            have HF := Lib.hid hf; have HS := Lib.hid hS; clear hf hS
            refine ⟨⟨⟨_, (by exact HF.out)⟩, rfl⟩, ?_⟩
            generalize World.alloc _ _ = wn5 at HF HS ⊢
            generalize w9.heap.size = X2 at HS ⊢
            refine step_two (N := 6) 4 9 (by kernel_rfl) rfl rfl ?_ ?_
            · go_wp2_with fail
              refine (HLD2.out _ HS.out.fr).mono ?_
              rintro e w9 ⟨rfl, hf⟩
              have HF := Lib.hid (HF.out.trans hf)
              have HS := Lib.hid (HS.out.fr0 hf); clear hf
              go_wp2_with fail
              refine ⟨⟨⟨_, (by exact HF.out)⟩, rfl⟩, ?_⟩
              refine step_pures (N := 3) [5, 6, 7] (by kernel_rfl) ?_
              simp only [theOps, nthOp, List.map_cons, List.map_nil, Array.getD_eq_getD_getElem?, List.getElem?_toArray, List.getElem?_cons_succ, List.getElem?_cons_zero, Option.getD_some]
              repeat (first | go_big_quiet_step (fail) | quiet_step (fail))
              refine wpQuiet_nil ?_
              refine step_keep (N := 2) 9 (by kernel_rfl) rfl ?_
              go_wp2_with fail
              have hf := Fr.alloc HF.out (.cells ([.int .u64 0, .int .u64 0]).toArray 41)
              have hS := HS.out.new 41 ([.int .u64 0, .int .u64 0])
              have HF := Lib.hid hf; have HS := Lib.hid hS; clear hf hS
              refine ⟨⟨⟨_, (by exact HF.out)⟩, rfl⟩, ?_⟩
              generalize World.alloc _ _ = wn6 at HF HS ⊢
              generalize w9.heap.size = Y2 at HS ⊢
              refine step_hard (N := 1) 10 (by kernel_rfl) rfl ?_
              refine wpList_store_sep HS.out 1 rfl (TL t4) 47 _ _ rfl rfl rfl rfl (by rw [T4.out.len]; rfl) (by rw [T4.out.len]; kernel_rfl) T4.out.one (fun wA hA _ => ?_)
              have HS := Lib.hid hA; clear hA
              simp only [List.set_cons_zero, List.set_cons_succ] at HS
              go_wp2_with fail
              refine step_hard (N := 0) 11 (by kernel_rfl) rfl ?_
              refine wpList_store_sep HS.out 0 rfl [.int .u64 ev, .int .u64 es] 41 _ _ rfl rfl rfl rfl rfl (by kernel_rfl) HO4 (fun wA hA _ => ?_)
              have HS := Lib.hid hA; clear hA
              simp only [List.set_cons_zero, List.set_cons_succ] at HS
              go_wp2_with fail
              refine step_done (by kernel_rfl) ?_
              exact HR X2 Y2 _ HS.out
            · go_wp2_with fail
              have hf := Fr.alloc HF.out (.cells ([.int .u64 0, .int .u64 0]).toArray 41)
              have hS := HS.out.new 41 ([.int .u64 0, .int .u64 0])
              have HF := Lib.hid hf; have HS := Lib.hid hS; clear hf hS
              refine ⟨⟨⟨_, (by exact HF.out)⟩, rfl⟩, ?_⟩
              generalize World.alloc _ _ = wn7 at HF HS ⊢
              generalize wn5.heap.size = Y2 at HS ⊢
              refine step_keep (N := 5) 4 (by kernel_rfl) rfl ?_
              go_wp2_with fail
              refine (HLD2.out _ HS.out.fr).mono ?_
              rintro e w9 ⟨rfl, hf⟩
              have HF := Lib.hid (HF.out.trans hf)
              have HS := Lib.hid (HS.out.fr0 hf); clear hf
              go_wp2_with fail
              refine ⟨⟨⟨_, (by exact HF.out)⟩, rfl⟩, ?_⟩
              refine step_pures (N := 2) [5, 6, 7] (by kernel_rfl) ?_
              simp only [theOps, nthOp, List.map_cons, List.map_nil, Array.getD_eq_getD_getElem?, List.getElem?_toArray, List.getElem?_cons_succ, List.getElem?_cons_zero, Option.getD_some]
              repeat (first | go_big_quiet_step (fail) | quiet_step (fail))
              refine wpQuiet_nil ?_
              refine step_hard (N := 1) 10 (by kernel_rfl) rfl ?_
              refine wpList_store_sep HS.out 1 rfl (TL t4) 47 _ _ rfl rfl rfl rfl (by rw [T4.out.len]; rfl) (by rw [T4.out.len]; kernel_rfl) T4.out.one (fun wA hA _ => ?_)
              have HS := Lib.hid hA; clear hA
              simp only [List.set_cons_zero, List.set_cons_succ] at HS
              go_wp2_with fail
              refine step_hard (N := 0) 11 (by kernel_rfl) rfl ?_
              refine wpList_store_sep HS.out 0 rfl [.int .u64 ev, .int .u64 es] 41 _ _ rfl rfl rfl rfl rfl (by kernel_rfl) HO4 (fun wA hA _ => ?_)
              have HS := Lib.hid hA; clear hA
              simp only [List.set_cons_zero, List.set_cons_succ] at HS
              go_wp2_with fail
              refine step_done (by kernel_rfl) ?_
              exact HR X2 Y2 _ HS.out
          · go_wp2_with fail
            have hf := Fr.alloc HF.out (.cells ([.int .u64 0, .int .u64 0]).toArray 41)
            have hS := HS.out.new 41 ([.int .u64 0, .int .u64 0])
            have HF := Lib.hid hf; have HS := Lib.hid hS; clear hf hS
            refine ⟨⟨⟨_, (by exact HF.out)⟩, rfl⟩, ?_⟩
            generalize World.alloc _ _ = wn8 at HF HS ⊢
            generalize w9.heap.size = Y2 at HS ⊢
            refine step_two (N := 6) 4 8 (by kernel_rfl) rfl rfl ?_ ?_
            · go_wp2_with fail
              refine (HLD2.out _ HS.out.fr).mono ?_
              rintro e w9 ⟨rfl, hf⟩
              have HF := Lib.hid (HF.out.trans hf)
              have HS := Lib.hid (HS.out.fr0 hf); clear hf
              go_wp2_with fail
              refine ⟨⟨⟨_, (by exact HF.out)⟩, rfl⟩, ?_⟩
              refine step_pures (N := 3) [5, 6, 7] (by kernel_rfl) ?_
              simp only [theOps, nthOp, List.map_cons, List.map_nil, Array.getD_eq_getD_getElem?, List.getElem?_toArray, List.getElem?_cons_succ, List.getElem?_cons_zero, Option.getD_some]
              repeat (first | go_big_quiet_step (fail) | quiet_step (fail))
              refine wpQuiet_nil ?_
              refine step_keep (N := 2) 8 (by kernel_rfl) rfl ?_
              go_wp2_with fail
              have hf := Fr.alloc HF.out (.cells ([.slice none 0 0, .int .i64 0, .int .i64 0, .int .i64 0, .int .u64 0, .int .u64 0, .int .u64 0, .int .u64 0, .bool false]).toArray 47)
              have hS := HS.out.new 47 ([.slice none 0 0, .int .i64 0, .int .i64 0, .int .i64 0, .int .u64 0, .int .u64 0, .int .u64 0, .int .u64 0, .bool false])
              have HF := Lib.hid hf; have HS := Lib.hid hS; clear hf hS
              refine ⟨⟨⟨_, (by exact HF.out)⟩, rfl⟩, ?_⟩
              generalize World.alloc _ _ = wn9 at HF HS ⊢
              generalize w9.heap.size = X2 at HS ⊢
              have HS := Lib.hid (HS.out.sub (Ts' := [_, _, _, _, _, _, _, _, _] ) [1, 0, 2, 3, 4, 5, 6, 7, 8] rfl (by decide))
              refine step_hard (N := 1) 10 (by kernel_rfl) rfl ?_
              refine wpList_store_sep HS.out 1 rfl (TL t4) 47 _ _ rfl rfl rfl rfl (by rw [T4.out.len]; rfl) (by rw [T4.out.len]; kernel_rfl) T4.out.one (fun wA hA _ => ?_)
              have HS := Lib.hid hA; clear hA
              simp only [List.set_cons_zero, List.set_cons_succ] at HS
              go_wp2_with fail
              refine step_hard (N := 0) 11 (by kernel_rfl) rfl ?_
              refine wpList_store_sep HS.out 0 rfl [.int .u64 ev, .int .u64 es] 41 _ _ rfl rfl rfl rfl rfl (by kernel_rfl) HO4 (fun wA hA _ => ?_)
              have HS := Lib.hid hA; clear hA
              simp only [List.set_cons_zero, List.set_cons_succ] at HS
              go_wp2_with fail
              refine step_done (by kernel_rfl) ?_
              exact HR X2 Y2 _ HS.out
            · go_wp2_with fail
              have hf := Fr.alloc HF.out (.cells ([.slice none 0 0, .int .i64 0, .int .i64 0, .int .i64 0, .int .u64 0, .int .u64 0, .int .u64 0, .int .u64 0, .bool false]).toArray 47)
              have hS := HS.out.new 47 ([.slice none 0 0, .int .i64 0, .int .i64 0, .int .i64 0, .int .u64 0, .int .u64 0, .int .u64 0, .int .u64 0, .bool false])
              have HF := Lib.hid hf; have HS := Lib.hid hS; clear hf hS
              refine ⟨⟨⟨_, (by exact HF.out)⟩, rfl⟩, ?_⟩
              generalize World.alloc _ _ = wn10 at HF HS ⊢
              generalize wn8.heap.size = X2 at HS ⊢
              refine step_keep (N := 5) 4 (by kernel_rfl) rfl ?_
              go_wp2_with fail
              refine (HLD2.out _ HS.out.fr).mono ?_
              rintro e w9 ⟨rfl, hf⟩
              have HF := Lib.hid (HF.out.trans hf)
              have HS := Lib.hid (HS.out.fr0 hf); clear hf
              go_wp2_with fail
              refine ⟨⟨⟨_, (by exact HF.out)⟩, rfl⟩, ?_⟩
              refine step_pures (N := 2) [5, 6, 7] (by kernel_rfl) ?_
              simp only [theOps, nthOp, List.map_cons, List.map_nil, Array.getD_eq_getD_getElem?, List.getElem?_toArray, List.getElem?_cons_succ, List.getElem?_cons_zero, Option.getD_some]
              repeat (first | go_big_quiet_step (fail) | quiet_step (fail))
              refine wpQuiet_nil ?_
              have HS := Lib.hid (HS.out.sub (Ts' := [_, _, _, _, _, _, _, _, _] ) [1, 0, 2, 3, 4, 5, 6, 7, 8] rfl (by decide))
              refine step_hard (N := 1) 10 (by kernel_rfl) rfl ?_
              refine wpList_store_sep HS.out 1 rfl (TL t4) 47 _ _ rfl rfl rfl rfl (by rw [T4.out.len]; rfl) (by rw [T4.out.len]; kernel_rfl) T4.out.one (fun wA hA _ => ?_)
              have HS := Lib.hid hA; clear hA
              simp only [List.set_cons_zero, List.set_cons_succ] at HS
              go_wp2_with fail
              refine step_hard (N := 0) 11 (by kernel_rfl) rfl ?_
              refine wpList_store_sep HS.out 0 rfl [.int .u64 ev, .int .u64 es] 41 _ _ rfl rfl rfl rfl rfl (by kernel_rfl) HO4 (fun wA hA _ => ?_)
              have HS := Lib.hid hA; clear hA
              simp only [List.set_cons_zero, List.set_cons_succ] at HS
              go_wp2_with fail
              refine step_done (by kernel_rfl) ?_
              exact HR X2 Y2 _ HS.out
        · go_wp2_with fail
          have hf := Fr.alloc HF.out (.cells ([.slice none 0 0, .int .i64 0, .int .i64 0, .int .i64 0, .int .u64 0, .int .u64 0, .int .u64 0, .int .u64 0, .bool false]).toArray 47)
          have hS := HS.out.new 47 ([.slice none 0 0, .int .i64 0, .int .i64 0, .int .i64 0, .int .u64 0, .int .u64 0, .int .u64 0, .int .u64 0, .bool false])
          have HF := Lib.hid hf; have HS := Lib.hid hS; clear hf hS
          refine ⟨⟨⟨_, (by exact HF.out)⟩, rfl⟩, ?_⟩
          generalize World.alloc _ _ = wn11 at HF HS ⊢
          generalize wd.heap.size = X2 at HS ⊢
          refine step_two (N := 7) 3 9 (by kernel_rfl) rfl rfl ?_ ?_
          · go_wp2_with fail
            refine (HA3.out _).mono ?_
            rintro e w9 ⟨rfl, hf⟩
            have HF := Lib.hid (HF.out.trans hf)
            have HS := Lib.hid (HS.out.fr0 hf); clear hf
            go_wp2_with fail
            refine ⟨⟨⟨_, (by exact HF.out)⟩, rfl⟩, ?_⟩
            refine step_two (N := 6) 4 9 (by kernel_rfl) rfl rfl ?_ ?_
            · go_wp2_with fail
              refine (HLD2.out _ HS.out.fr).mono ?_
              rintro e w9 ⟨rfl, hf⟩
              have HF := Lib.hid (HF.out.trans hf)
              have HS := Lib.hid (HS.out.fr0 hf); clear hf
              go_wp2_with fail
              refine ⟨⟨⟨_, (by exact HF.out)⟩, rfl⟩, ?_⟩
              refine step_pures (N := 3) [5, 6, 7] (by kernel_rfl) ?_
              simp only [theOps, nthOp, List.map_cons, List.map_nil, Array.getD_eq_getD_getElem?, List.getElem?_toArray, List.getElem?_cons_succ, List.getElem?_cons_zero, Option.getD_some]
              repeat (first | go_big_quiet_step (fail) | quiet_step (fail))
              refine wpQuiet_nil ?_
              refine step_keep (N := 2) 9 (by kernel_rfl) rfl ?_
              go_wp2_with fail
              have hf := Fr.alloc HF.out (.cells ([.int .u64 0, .int .u64 0]).toArray 41)
              have hS := HS.out.new 41 ([.int .u64 0, .int .u64 0])
              have HF := Lib.hid hf; have HS := Lib.hid hS; clear hf hS
              refine ⟨⟨⟨_, (by exact HF.out)⟩, rfl⟩, ?_⟩
              generalize World.alloc _ _ = wn12 at HF HS ⊢
              generalize w9.heap.size = Y2 at HS ⊢
              refine step_hard (N := 1) 10 (by kernel_rfl) rfl ?_
              refine wpList_store_sep HS.out 1 rfl (TL t4) 47 _ _ rfl rfl rfl rfl (by rw [T4.out.len]; rfl) (by rw [T4.out.len]; kernel_rfl) T4.out.one (fun wA hA _ => ?_)
              have HS := Lib.hid hA; clear hA
              simp only [List.set_cons_zero, List.set_cons_succ] at HS
              go_wp2_with fail
              refine step_hard (N := 0) 11 (by kernel_rfl) rfl ?_
              refine wpList_store_sep HS.out 0 rfl [.int .u64 ev, .int .u64 es] 41 _ _ rfl rfl rfl rfl rfl (by kernel_rfl) HO4 (fun wA hA _ => ?_)
              have HS := Lib.hid hA; clear hA
              simp only [List.set_cons_zero, List.set_cons_succ] at HS
              go_wp2_with fail
              refine step_done (by kernel_rfl) ?_
              exact HR X2 Y2 _ HS.out
            · go_wp2_with fail
              have hf := Fr.alloc HF.out (.cells ([.int .u64 0, .int .u64 0]).toArray 41)
              have hS := HS.out.new 41 ([.int .u64 0, .int .u64 0])
              have HF := Lib.hid hf; have HS := Lib.hid hS; clear hf hS
              refine ⟨⟨⟨_, (by exact HF.out)⟩, rfl⟩, ?_⟩
              generalize World.alloc _ _ = wn13 at HF HS ⊢
              generalize w9.heap.size = Y2 at HS ⊢
              refine step_keep (N := 5) 4 (by kernel_rfl) rfl ?_
              go_wp2_with fail
              refine (HLD2.out _ HS.out.fr).mono ?_
              rintro e w9 ⟨rfl, hf⟩
              have HF := Lib.hid (HF.out.trans hf)
              have HS := Lib.hid (HS.out.fr0 hf); clear hf
              go_wp2_with fail
              refine ⟨⟨⟨_, (by exact HF.out)⟩, rfl⟩, ?_⟩
              refine step_pures (N := 2) [5, 6, 7] (by kernel_rfl) ?_
              simp only [theOps, nthOp, List.map_cons, List.map_nil, Array.getD_eq_getD_getElem?, List.getElem?_toArray, List.getElem?_cons_succ, List.getElem?_cons_zero, Option.getD_some]
              repeat (first | go_big_quiet_step (fail) | quiet_step (fail))
              refine wpQuiet_nil ?_
              refine step_hard (N := 1) 10 (by kernel_rfl) rfl ?_
              refine wpList_store_sep HS.out 1 rfl (TL t4) 47 _ _ rfl rfl rfl rfl (by rw [T4.out.len]; rfl) (by rw [T4.out.len]; kernel_rfl) T4.out.one (fun wA hA _ => ?_)
              have HS := Lib.hid hA; clear hA
              simp only [List.set_cons_zero, List.set_cons_succ] at HS
              go_wp2_with fail
              refine step_hard (N := 0) 11 (by kernel_rfl) rfl ?_
              refine wpList_store_sep HS.out 0 rfl [.int .u64 ev, .int .u64 es] 41 _ _ rfl rfl rfl rfl rfl (by kernel_rfl) HO4 (fun wA hA _ => ?_)
              have HS := Lib.hid hA; clear hA
              simp only [List.set_cons_zero, List.set_cons_succ] at HS
              go_wp2_with fail
              refine step_done (by kernel_rfl) ?_
              exact HR X2 Y2 _ HS.out
          · go_wp2_with fail
            have hf := Fr.alloc HF.out (.cells ([.int .u64 0, .int .u64 0]).toArray 41)
            have hS := HS.out.new 41 ([.int .u64 0, .int .u64 0])
            have HF := Lib.hid hf; have HS := Lib.hid hS; clear hf hS
            refine ⟨⟨⟨_, (by exact HF.out)⟩, rfl⟩, ?_⟩
            generalize World.alloc _ _ = wn14 at HF HS ⊢
            generalize wn11.heap.size = Y2 at HS ⊢
            refine step_keep (N := 6) 3 (by kernel_rfl) rfl ?_
            go_wp2_with fail
            refine (HA3.out _).mono ?_
            rintro e w9 ⟨rfl, hf⟩
            have HF := Lib.hid (HF.out.trans hf)
            have HS := Lib.hid (HS.out.fr0 hf); clear hf
            go_wp2_with fail
            refine ⟨⟨⟨_, (by exact HF.out)⟩, rfl⟩, ?_⟩
            refine step_keep (N := 5) 4 (by kernel_rfl) rfl ?_
            go_wp2_with fail
            refine (HLD2.out _ HS.out.fr).mono ?_
            rintro e w9 ⟨rfl, hf⟩
            have HF := Lib.hid (HF.out.trans hf)
            have HS := Lib.hid (HS.out.fr0 hf); clear hf
            go_wp2_with fail
            refine ⟨⟨⟨_, (by exact HF.out)⟩, rfl⟩, ?_⟩
            refine step_pures (N := 2) [5, 6, 7] (by kernel_rfl) ?_
            simp only [theOps, nthOp, List.map_cons, List.map_nil, Array.getD_eq_getD_getElem?, List.getElem?_toArray, List.getElem?_cons_succ, List.getElem?_cons_zero, Option.getD_some]
            repeat (first | go_big_quiet_step (fail) | quiet_step (fail))
            refine wpQuiet_nil ?_
            refine step_hard (N := 1) 10 (by kernel_rfl) rfl ?_
            refine wpList_store_sep HS.out 1 rfl (TL t4) 47 _ _ rfl rfl rfl rfl (by rw [T4.out.len]; rfl) (by rw [T4.out.len]; kernel_rfl) T4.out.one (fun wA hA _ => ?_)
            have HS := Lib.hid hA; clear hA
            simp only [List.set_cons_zero, List.set_cons_succ] at HS
            go_wp2_with fail
            refine step_hard (N := 0) 11 (by kernel_rfl) rfl ?_
            refine wpList_store_sep HS.out 0 rfl [.int .u64 ev, .int .u64 es] 41 _ _ rfl rfl rfl rfl rfl (by kernel_rfl) HO4 (fun wA hA _ => ?_)
            have HS := Lib.hid hA; clear hA
            simp only [List.set_cons_zero, List.set_cons_succ] at HS
            go_wp2_with fail
            refine step_done (by kernel_rfl) ?_
            exact HR X2 Y2 _ HS.out
        · go_wp2_with fail
          have hf := Fr.alloc HF.out (.cells ([.int .u64 0, .int .u64 0]).toArray 41)
          have hS := HS.out.new 41 ([.int .u64 0, .int .u64 0])
          have HF := Lib.hid hf; have HS := Lib.hid hS; clear hf hS
          refine ⟨⟨⟨_, (by exact HF.out)⟩, rfl⟩, ?_⟩
          generalize World.alloc _ _ = wn15 at HF HS ⊢
          generalize wd.heap.size = Y2 at HS ⊢
          refine step_two (N := 7) 3 8 (by kernel_rfl) rfl rfl ?_ ?_
          · go_wp2_with fail
            refine (HA3.out _).mono ?_
            rintro e w9 ⟨rfl, hf⟩
            have HF := Lib.hid (HF.out.trans hf)
            have HS := Lib.hid (HS.out.fr0 hf); clear hf
            go_wp2_with fail
            refine ⟨⟨⟨_, (by exact HF.out)⟩, rfl⟩, ?_⟩
            refine step_two (N := 6) 4 8 (by kernel_rfl) rfl rfl ?_ ?_
            · go_wp2_with fail
              refine (HLD2.out _ HS.out.fr).mono ?_
              rintro e w9 ⟨rfl, hf⟩
              have HF := Lib.hid (HF.out.trans hf)
              have HS := Lib.hid (HS.out.fr0 hf); clear hf
              go_wp2_with fail
              refine ⟨⟨⟨_, (by exact HF.out)⟩, rfl⟩, ?_⟩
              refine step_pures (N := 3) [5, 6, 7] (by kernel_rfl) ?_
              simp only [theOps, nthOp, List.map_cons, List.map_nil, Array.getD_eq_getD_getElem?, List.getElem?_toArray, List.getElem?_cons_succ, List.getElem?_cons_zero, Option.getD_some]
              repeat (first | go_big_quiet_step (fail) | quiet_step (fail))
              refine wpQuiet_nil ?_
              refine step_keep (N := 2) 8 (by kernel_rfl) rfl ?_
              go_wp2_with fail
              have hf := Fr.alloc HF.out (.cells ([.slice none 0 0, .int .i64 0, .int .i64 0, .int .i64 0, .int .u64 0, .int .u64 0, .int .u64 0, .int .u64 0, .bool false]).toArray 47)
              have hS := HS.out.new 47 ([.slice none 0 0, .int .i64 0, .int .i64 0, .int .i64 0, .int .u64 0, .int .u64 0, .int .u64 0, .int .u64 0, .bool false])
              have HF := Lib.hid hf; have HS := Lib.hid hS; clear hf hS
              refine ⟨⟨⟨_, (by exact HF.out)⟩, rfl⟩, ?_⟩
              generalize World.alloc _ _ = wn16 at HF HS ⊢
              generalize w9.heap.size = X2 at HS ⊢
              have HS := Lib.hid (HS.out.sub (Ts' := [_, _, _, _, _, _, _, _, _] ) [1, 0, 2, 3, 4, 5, 6, 7, 8] rfl (by decide))
              refine step_hard (N := 1) 10 (by kernel_rfl) rfl ?_
              refine wpList_store_sep HS.out 1 rfl (TL t4) 47 _ _ rfl rfl rfl rfl (by rw [T4.out.len]; rfl) (by rw [T4.out.len]; kernel_rfl) T4.out.one (fun wA hA _ => ?_)
              have HS := Lib.hid hA; clear hA
              simp only [List.set_cons_zero, List.set_cons_succ] at HS
              go_wp2_with fail
              refine step_hard (N := 0) 11 (by kernel_rfl) rfl ?_
              refine wpList_store_sep HS.out 0 rfl [.int .u64 ev, .int .u64 es] 41 _ _ rfl rfl rfl rfl rfl (by kernel_rfl) HO4 (fun wA hA _ => ?_)
              have HS := Lib.hid hA; clear hA
              simp only [List.set_cons_zero, List.set_cons_succ] at HS
              go_wp2_with fail
              refine step_done (by kernel_rfl) ?_
              exact HR X2 Y2 _ HS.out
            · go_wp2_with fail
              have hf := Fr.alloc HF.out (.cells ([.slice none 0 0, .int .i64 0, .int .i64 0, .int .i64 0, .int .u64 0, .int .u64 0, .int .u64 0, .int .u64 0, .bool false]).toArray 47)
              have hS := HS.out.new 47 ([.slice none 0 0, .int .i64 0, .int .i64 0, .int .i64 0, .int .u64 0, .int .u64 0, .int .u64 0, .int .u64 0, .bool false])
              have HF := Lib.hid hf; have HS := Lib.hid hS; clear hf hS
              refine ⟨⟨⟨_, (by exact HF.out)⟩, rfl⟩, ?_⟩
              generalize World.alloc _ _ = wn17 at HF HS ⊢
              generalize w9.heap.size = X2 at HS ⊢
              refine step_keep (N := 5) 4 (by kernel_rfl) rfl ?_
              go_wp2_with fail
              refine (HLD2.out _ HS.out.fr).mono ?_
              rintro e w9 ⟨rfl, hf⟩
              have HF := Lib.hid (HF.out.trans hf)
              have HS := Lib.hid (HS.out.fr0 hf); clear hf
              go_wp2_with fail
              refine ⟨⟨⟨_, (by exact HF.out)⟩, rfl⟩, ?_⟩
              refine step_pures (N := 2) [5, 6, 7] (by kernel_rfl) ?_
              simp only [theOps, nthOp, List.map_cons, List.map_nil, Array.getD_eq_getD_getElem?, List.getElem?_toArray, List.getElem?_cons_succ, List.getElem?_cons_zero, Option.getD_some]
              repeat (first | go_big_quiet_step (fail) | quiet_step (fail))
              refine wpQuiet_nil ?_
              have HS := Lib.hid (HS.out.sub (Ts' := [_, _, _, _, _, _, _, _, _] ) [1, 0, 2, 3, 4, 5, 6, 7, 8] rfl (by decide))
              refine step_hard (N := 1) 10 (by kernel_rfl) rfl ?_
              refine wpList_store_sep HS.out 1 rfl (TL t4) 47 _ _ rfl rfl rfl rfl (by rw [T4.out.len]; rfl) (by rw [T4.out.len]; kernel_rfl) T4.out.one (fun wA hA _ => ?_)
              have HS := Lib.hid hA; clear hA
              simp only [List.set_cons_zero, List.set_cons_succ] at HS
              go_wp2_with fail
              refine step_hard (N := 0) 11 (by kernel_rfl) rfl ?_
              refine wpList_store_sep HS.out 0 rfl [.int .u64 ev, .int .u64 es] 41 _ _ rfl rfl rfl rfl rfl (by kernel_rfl) HO4 (fun wA hA _ => ?_)
              have HS := Lib.hid hA; clear hA
              simp only [List.set_cons_zero, List.set_cons_succ] at HS
              go_wp2_with fail
              refine step_done (by kernel_rfl) ?_
              exact HR X2 Y2 _ HS.out
          · go_wp2_with fail
            have hf := Fr.alloc HF.out (.cells ([.slice none 0 0, .int .i64 0, .int .i64 0, .int .i64 0, .int .u64 0, .int .u64 0, .int .u64 0, .int .u64 0, .bool false]).toArray 47)
            have hS := HS.out.new 47 ([.slice none 0 0, .int .i64 0, .int .i64 0, .int .i64 0, .int .u64 0, .int .u64 0, .int .u64 0, .int .u64 0, .bool false])
            have HF := Lib.hid hf; have HS := Lib.hid hS; clear hf hS
            refine ⟨⟨⟨_, (by exact HF.out)⟩, rfl⟩, ?_⟩
            generalize World.alloc _ _ = wn18 at HF HS ⊢
            generalize wn15.heap.size = X2 at HS ⊢
            refine step_keep (N := 6) 3 (by kernel_rfl) rfl ?_
            go_wp2_with fail
            refine (HA3.out _).mono ?_
            rintro e w9 ⟨rfl, hf⟩
            have HF := Lib.hid (HF.out.trans hf)
            have HS := Lib.hid (HS.out.fr0 hf); clear hf
            go_wp2_with fail
            refine ⟨⟨⟨_, (by exact HF.out)⟩, rfl⟩, ?_⟩
            refine step_keep (N := 5) 4 (by kernel_rfl) rfl ?_
            go_wp2_with fail
            refine (HLD2.out _ HS.out.fr).mono ?_
            rintro e w9 ⟨rfl, hf⟩
            have HF := Lib.hid (HF.out.trans hf)
            have HS := Lib.hid (HS.out.fr0 hf); clear hf
            go_wp2_with fail
            refine ⟨⟨⟨_, (by exact HF.out)⟩, rfl⟩, ?_⟩
            refine step_pures (N := 2) [5, 6, 7] (by kernel_rfl) ?_
            simp only [theOps, nthOp, List.map_cons, List.map_nil, Array.getD_eq_getD_getElem?, List.getElem?_toArray, List.getElem?_cons_succ, List.getElem?_cons_zero, Option.getD_some]
            repeat (first | go_big_quiet_step (fail) | quiet_step (fail))
            refine wpQuiet_nil ?_
            have HS := Lib.hid (HS.out.sub (Ts' := [_, _, _, _, _, _, _, _, _] ) [1, 0, 2, 3, 4, 5, 6, 7, 8] rfl (by decide))
            refine step_hard (N := 1) 10 (by kernel_rfl) rfl ?_
            refine wpList_store_sep HS.out 1 rfl (TL t4) 47 _ _ rfl rfl rfl rfl (by rw [T4.out.len]; rfl) (by rw [T4.out.len]; kernel_rfl) T4.out.one (fun wA hA _ => ?_)
            have HS := Lib.hid hA; clear hA
            simp only [List.set_cons_zero, List.set_cons_succ] at HS
            go_wp2_with fail
            refine step_hard (N := 0) 11 (by kernel_rfl) rfl ?_
            refine wpList_store_sep HS.out 0 rfl [.int .u64 ev, .int .u64 es] 41 _ _ rfl rfl rfl rfl rfl (by kernel_rfl) HO4 (fun wA hA _ => ?_)
            have HS := Lib.hid hA; clear hA
            simp only [List.set_cons_zero, List.set_cons_succ] at HS
            go_wp2_with fail
            refine step_done (by kernel_rfl) ?_
            exact HR X2 Y2 _ HS.out
      · clear HS HF HA3 HLD2
        intro X2 Y2 wF hS
        have HS := Lib.hid hS; clear hS
        have hl4 := T4.out.len
        have ho4 := T4.out.one
        have hlk := T3.out.len
        go_wp2_with (first | (refine wpList_load_any 47 _ rfl rfl _ 0 rfl (TL t4) _ (HS.out.blk 1 rfl).range Try.underlying47 rfl (by rw [hl4]; kernel_rfl) ?_) | (refine wpList_store_sep HS.out 5 rfl (TL t4) 47 _ _ rfl rfl rfl rfl (by rw [hl4, hlk]) (by rw [hl4]; kernel_rfl) ho4 (fun wA hA _ => ?_); have e0 := (hA.blk 0 rfl).cell 0; have e0l := (hA.blk 0 rfl).lt; have r6 := ((hA.blk 2 rfl).cell 6).trans (HRQ.out.nmd _ _ _ _ _ _); have rl := (hA.blk 2 rfl).lt; simp only [List.set_cons_zero, List.set_cons_succ, List.getElem?_cons_zero, List.getElem?_cons_succ] at e0; have HB := Lib.hid (hA.new 22 [.int .u64 ev]); clear hA) | (at_builtin; go_must (refine wpList_push_blk _ rfl _ _ 63 rfl 0 22 i0 _ 1 8 Try.underlying63 hi0 hz0 hz1 hz2 rfl (by decide) (.slice ra u rc) u (xu.map (Value.int .u64)) rfl (HB.out.row 8 rfl) [.int .u64 ev] _ _ rfl (HB.out.blk 0 rfl) rfl (by simp [Value.oneCell']) (by unfold maxLen; omega) (by omega) (Nat.zero_le _) ?_)))
        intro g2 c2' w12 hown hg2 hgg hc1 hc2'
        have h3 := HB.out.grown 8 rfl hown hg2 (fun q e => by
          rcases hgg with h1 | h1
          · exact .inl (h1.trans e)
          · right; simp only [Value.ownBlock, Option.some.injEq] at e; rw [← e, h1]; simp)
        have h4 : Sep w w12 [blkT (w.heap.size + 1 + 1 + 1 + 1) 65 (RQ (.slice ra u rc) (.slice none 0 0) 0 0 0 0), blkT (w.heap.size + 1 + 1 + 1) 47 [.slice none 0 0, .int .i64 0, .int .i64 0, .int .i64 0, .int .u64 0, .int .u64 0, .int .u64 0, .int .u64 0, .bool false], blkT (w.heap.size + 1 + 1) 65 [.int .i64 0, .int .i64 0, .int .i64 0, .int .i64 0, .int .u64 0, .int .u64 0, .slice none 0 0, .slice none 0 0, .int .i64 0, .int .i64 0, .int .i64 0, .int .i64 0], blkT (w.heap.size + 1) 47 (TL t4), blkT w.heap.size 24 cl, rowT 0 22 1 (.slice (some ⟨g2, 0, none⟩) (u + 1) c2') (u + 1) ((xu ++ [ev]).map (Value.int .u64)), rowT 0 22 1 (.slice none 0 0) 0 []] := by
          rw [List.map_append]
          exact h3.sub [3, 4, 5, 6, 7, 8, 9] rfl (by decide)
        have HS := Lib.hid h4
        clear h3 h4 hown hg2 hgg HB e0 e0l r6 rl
        go_wp2_with (refine wpList_store_cell HS.out 0 rfl 6 (.slice (some ⟨g2, 0, none⟩) (u + 1) c2') 63 _ _ rfl rfl rfl rfl (by rw [HRQ.out.len]; decide) (by kernel_rfl) rfl (fun wB hB _ => ?_); simp only [List.set_cons_zero, List.set_cons_succ, HRQ.out.s6] at hB; have HC := Lib.hid hB; clear hB)
        go_roundg (tn - (u + 1))
        case measure => omega
        case rel =>
          refine ⟨u + 1, some ⟨g2, 0, none⟩, c2', by omega, by go_num, ?_⟩
          rw [HR2.out]
          exact HC.out
    · obtain rfl : u = tn := by omega
      have hx : P.rslots c l c.t.toNat = (tu, xu) := by rw [HTN.out, Int.toNat_natCast]; exact HX.out
      have HLD1 : Hid (∀ w', Fr [] w w' → _) := fun w' f => HLDA.out tu (at_ c 12 0 0) w' (by omega) f
      have hst1 := HSA.out tu (P.ldP (at_ c 12 0 0))
      obtain ⟨t1, ht1⟩ : ∃ t1, tu.step n (P.ldP (at_ c 12 0 0)) = t1 := ⟨_, rfl⟩
      have hgo1 := HOG.out tu
      obtain ⟨o1, ho1⟩ : ∃ o1, tu.out l = o1 := ⟨_, rfl⟩
      have HLD2 : Hid (∀ w', Fr [] w w' → _) := fun w' f => HLDA.out t1 (at_ c 14 0 0) w' (by rw [ht1] at hst1; omega) f
      have hst2 := HSA.out t1 (P.ldP (at_ c 14 0 0))
      obtain ⟨t2, ht2⟩ : ∃ t2, t1.step n (P.ldP (at_ c 14 0 0)) = t2 := ⟨_, rfl⟩
      have hgo2 := HOG.out t1
      obtain ⟨o2, ho2⟩ : ∃ o2, t1.out l = o2 := ⟨_, rfl⟩
      have ht1' : tu.step l.length (P.ldP (at_ c 12 0 0)) = t1 := by rw [hl]; exact ht1
      have ht2' : t1.step l.length (P.ldP (at_ c 14 0 0)) = t2 := by rw [hl]; exact ht2
      have hre := P.rread_eq (seq := seq) hx ht1' ho1 ht2' ho2
      clear ht1' ht2'
      rw [HZ.out] at hre
      rw [ht1, ho1] at HLD1
      rw [ht2, ho2] at HLD2
      rw [ht1] at hst1
      rw [ht2] at hst2
      rw [ho1] at hgo1
      rw [ho2] at hgo2
      clear ht1 ho1 ht2 ho2 hx
      have T1 := Lib.hid (HTF.out t1)
      have T2 := Lib.hid (HTF.out t2)
      obtain ⟨v1, s1, b1⟩ := o1
      obtain ⟨v2, s2, b2⟩ := o2
      obtain ⟨q1, q2, q3, q4⟩ := hgo1
      obtain ⟨q5, q6, q7, q8⟩ := hgo2
      dsimp only at q1 q2 q3 q4 q5 q6 q7 q8 HLD1 HLD2 hre
      have HO1 := enO_hd2 ⟨v1, s1, b1⟩
      have HO2 := enO_hd2 ⟨v2, s2, b2⟩
      dsimp only at HO1 HO2
      have HRE := Lib.hid hre
      have HXL := Lib.hid hru.2
      have ht2b : t2.at_ ≤ u + 2 := by omega
      clear hre hr1 hru hst1 hst2
      have hv1 : (Value.slice ra u rc).oneCell' = true := rfl
      have hv2 : (Value.slice none 0 0).oneCell' = true := rfl
      have hN2 : ([] : List Int).length = 0 := rfl
      generalize at_ c 12 0 0 = p12 at *
      generalize at_ c 14 0 0 = p14 at *
      have c0 := ((hS.blk 4 rfl).cell 0).trans k0
      have cl0 := (hS.blk 4 rfl).lt
      have HS := Lib.hid hS; clear hS
      go_wp2_with fail
      clear c0 cl0
      have hmt := (HS.out.blk 3 rfl).drew
      have hmc := (HS.out.blk 4 rfl).drew
      have hlt := T3.out.len
      refine step_start ([2, 3, 7], [8, 9]) [] (by kernel_rfl) ?_
      refine step_reads (N := 8) [0, 1] (by kernel_rfl) ⟨⟨_, Fr.refl _ _⟩, rfl⟩ ?_
      simp only [theOps, nthOp, List.map_cons, List.map_nil, Array.getD_eq_getD_getElem?, List.getElem?_toArray, List.getElem?_cons_succ, List.getElem?_cons_zero, Option.getD_some]
      refine wpQuiet_load_mid 47 _ (w.heap.size + 1) 0 (TL tu) _ rfl rfl rfl (rangeAt_after hmt (by simp <;> omega)) Try.underlying47 rfl (by rw [hlt]; kernel_rfl) ?_
      simp only [Act.put, List.setIfInBounds_toArray, List.set_cons_zero, List.set_cons_succ]
      refine wpQuiet_load_mid 24 _ w.heap.size 0 cl _ rfl rfl rfl (rangeAt_after hmc (by simp)) Try.underlying24 rfl (by rw [hsz6]; kernel_rfl) ?_
      simp only [Act.put, List.setIfInBounds_toArray, List.set_cons_zero, List.set_cons_succ]
      repeat (first | go_big_quiet_step (fail) | quiet_step (fail))
      refine wpQuiet_nil ?_
      have HS := Lib.hid HS.out.drew
      clear hmt hmc hlt
      generalize World.drew _ = wd at HS ⊢
      have HF := Lib.hid (Fr.refl [] wd)
      apply joinA (S := fun X2 wF => Sep w wF [blkT X2 41 [.int .u64 v1, .int .u64 s1], blkT (w.heap.size + 1 + 1 + 1 + 1) 65 (RQ (.slice ra u rc) (.slice none 0 0) 0 0 0 0), blkT (w.heap.size + 1 + 1 + 1) 47 [.slice none 0 0, .int .i64 0, .int .i64 0, .int .i64 0, .int .u64 0, .int .u64 0, .int .u64 0, .int .u64 0, .bool false], blkT (w.heap.size + 1 + 1) 65 [.int .i64 0, .int .i64 0, .int .i64 0, .int .i64 0, .int .u64 0, .int .u64 0, .slice none 0 0, .slice none 0 0, .int .i64 0, .int .i64 0, .int .i64 0, .int .i64 0], blkT (w.heap.size + 1) 47 (TL t1), blkT w.heap.size 24 cl, rowT 0 22 1 (.slice ra u rc) (u) ((xu).map (Value.int .u64)), rowT 0 22 1 (.slice none 0 0) 0 []])
      · intro HR
        refine step_two (N := 7) 2 7 (by kernel_rfl) rfl rfl ?_ ?_
        · go_wp2_with fail
          refine (HA12.out _).mono ?_
          rintro e w9 ⟨rfl, hf⟩
          have HF := Lib.hid (HF.out.trans hf)
          have HS := Lib.hid (HS.out.fr0 hf); clear hf
          go_wp2_with fail
          refine ⟨⟨⟨_, (by exact HF.out)⟩, rfl⟩, ?_⟩
          refine step_two (N := 6) 3 7 (by kernel_rfl) rfl rfl ?_ ?_
          · go_wp2_with fail
            refine (HLD1.out _ HS.out.fr).mono ?_
            rintro e w9 ⟨rfl, hf⟩
            have HF := Lib.hid (HF.out.trans hf)
            have HS := Lib.hid (HS.out.fr0 hf); clear hf
            go_wp2_with fail
            refine ⟨⟨⟨_, (by exact HF.out)⟩, rfl⟩, ?_⟩
            refine step_pures (N := 3) [4, 5, 6] (by kernel_rfl) ?_
            simp only [theOps, nthOp, List.map_cons, List.map_nil, Array.getD_eq_getD_getElem?, List.getElem?_toArray, List.getElem?_cons_succ, List.getElem?_cons_zero, Option.getD_some]
            repeat (first | go_big_quiet_step (fail) | quiet_step (fail))
            refine wpQuiet_nil ?_
            refine step_keep (N := 2) 7 (by kernel_rfl) rfl ?_
            go_wp2_with fail
            have hf := Fr.alloc HF.out (.cells ([.int .u64 0, .int .u64 0]).toArray 41)
            have hS := HS.out.new 41 ([.int .u64 0, .int .u64 0])
            have HF := Lib.hid hf; have HS := Lib.hid hS; clear hf hS
            refine ⟨⟨⟨_, (by exact HF.out)⟩, rfl⟩, ?_⟩
            generalize World.alloc _ _ = wn1 at HF HS ⊢
            generalize w9.heap.size = X2 at HS ⊢
            refine step_hard (N := 1) 8 (by kernel_rfl) rfl ?_
            refine wpList_store_sep HS.out 4 rfl (TL t1) 47 _ _ rfl rfl rfl rfl (by rw [T1.out.len, T3.out.len]) (by rw [T1.out.len]; kernel_rfl) T1.out.one (fun wA hA _ => ?_)
            have HS := Lib.hid hA; clear hA
            simp only [List.set_cons_zero, List.set_cons_succ] at HS
            go_wp2_with fail
            refine step_hard (N := 0) 9 (by kernel_rfl) rfl ?_
            refine wpList_store_sep HS.out 0 rfl [.int .u64 v1, .int .u64 s1] 41 _ _ rfl rfl rfl rfl rfl (by kernel_rfl) HO1 (fun wA hA _ => ?_)
            have HS := Lib.hid hA; clear hA
            simp only [List.set_cons_zero, List.set_cons_succ] at HS
            go_wp2_with fail
            refine step_done (by kernel_rfl) ?_
            exact HR X2 _ HS.out
          · go_wp2_with fail
            have hf := Fr.alloc HF.out (.cells ([.int .u64 0, .int .u64 0]).toArray 41)
            have hS := HS.out.new 41 ([.int .u64 0, .int .u64 0])
            have HF := Lib.hid hf; have HS := Lib.hid hS; clear hf hS
            refine ⟨⟨⟨_, (by exact HF.out)⟩, rfl⟩, ?_⟩
            generalize World.alloc _ _ = wn2 at HF HS ⊢
            generalize w9.heap.size = X2 at HS ⊢
            refine step_keep (N := 5) 3 (by kernel_rfl) rfl ?_
            go_wp2_with fail
            refine (HLD1.out _ HS.out.fr).mono ?_
            rintro e w9 ⟨rfl, hf⟩
            have HF := Lib.hid (HF.out.trans hf)
            have HS := Lib.hid (HS.out.fr0 hf); clear hf
            go_wp2_with fail
            refine ⟨⟨⟨_, (by exact HF.out)⟩, rfl⟩, ?_⟩
            refine step_pures (N := 2) [4, 5, 6] (by kernel_rfl) ?_
            simp only [theOps, nthOp, List.map_cons, List.map_nil, Array.getD_eq_getD_getElem?, List.getElem?_toArray, List.getElem?_cons_succ, List.getElem?_cons_zero, Option.getD_some]
            repeat (first | go_big_quiet_step (fail) | quiet_step (fail))
            refine wpQuiet_nil ?_
            refine step_hard (N := 1) 8 (by kernel_rfl) rfl ?_
            refine wpList_store_sep HS.out 4 rfl (TL t1) 47 _ _ rfl rfl rfl rfl (by rw [T1.out.len, T3.out.len]) (by rw [T1.out.len]; kernel_rfl) T1.out.one (fun wA hA _ => ?_)
            have HS := Lib.hid hA; clear hA
            simp only [List.set_cons_zero, List.set_cons_succ] at HS
            go_wp2_with fail
            refine step_hard (N := 0) 9 (by kernel_rfl) rfl ?_
            refine wpList_store_sep HS.out 0 rfl [.int .u64 v1, .int .u64 s1] 41 _ _ rfl rfl rfl rfl rfl (by kernel_rfl) HO1 (fun wA hA _ => ?_)
            have HS := Lib.hid hA; clear hA
            simp only [List.set_cons_zero, List.set_cons_succ] at HS
            go_wp2_with fail
            refine step_done (by kernel_rfl) ?_
            exact HR X2 _ HS.out
        · go_wp2_with fail
          have hf := Fr.alloc HF.out (.cells ([.int .u64 0, .int .u64 0]).toArray 41)
          have hS := HS.out.new 41 ([.int .u64 0, .int .u64 0])
          have HF := Lib.hid hf; have HS := Lib.hid hS; clear hf hS
          refine ⟨⟨⟨_, (by exact HF.out)⟩, rfl⟩, ?_⟩
          generalize World.alloc _ _ = wn3 at HF HS ⊢
          generalize wd.heap.size = X2 at HS ⊢
          refine step_keep (N := 6) 2 (by kernel_rfl) rfl ?_
          go_wp2_with fail
          refine (HA12.out _).mono ?_
          rintro e w9 ⟨rfl, hf⟩
          have HF := Lib.hid (HF.out.trans hf)
          have HS := Lib.hid (HS.out.fr0 hf); clear hf
          go_wp2_with fail
          refine ⟨⟨⟨_, (by exact HF.out)⟩, rfl⟩, ?_⟩
          refine step_keep (N := 5) 3 (by kernel_rfl) rfl ?_
          go_wp2_with fail
          refine (HLD1.out _ HS.out.fr).mono ?_
          rintro e w9 ⟨rfl, hf⟩
          have HF := Lib.hid (HF.out.trans hf)
          have HS := Lib.hid (HS.out.fr0 hf); clear hf
          go_wp2_with fail
          refine ⟨⟨⟨_, (by exact HF.out)⟩, rfl⟩, ?_⟩
          refine step_pures (N := 2) [4, 5, 6] (by kernel_rfl) ?_
          simp only [theOps, nthOp, List.map_cons, List.map_nil, Array.getD_eq_getD_getElem?, List.getElem?_toArray, List.getElem?_cons_succ, List.getElem?_cons_zero, Option.getD_some]
          repeat (first | go_big_quiet_step (fail) | quiet_step (fail))
          refine wpQuiet_nil ?_
          refine step_hard (N := 1) 8 (by kernel_rfl) rfl ?_
          refine wpList_store_sep HS.out 4 rfl (TL t1) 47 _ _ rfl rfl rfl rfl (by rw [T1.out.len, T3.out.len]) (by rw [T1.out.len]; kernel_rfl) T1.out.one (fun wA hA _ => ?_)
          have HS := Lib.hid hA; clear hA
          simp only [List.set_cons_zero, List.set_cons_succ] at HS
          go_wp2_with fail
          refine step_hard (N := 0) 9 (by kernel_rfl) rfl ?_
          refine wpList_store_sep HS.out 0 rfl [.int .u64 v1, .int .u64 s1] 41 _ _ rfl rfl rfl rfl rfl (by kernel_rfl) HO1 (fun wA hA _ => ?_)
          have HS := Lib.hid hA; clear hA
          simp only [List.set_cons_zero, List.set_cons_succ] at HS
          go_wp2_with fail
          refine step_done (by kernel_rfl) ?_
          exact HR X2 _ HS.out
      · clear HS HF HA12 HLD1
        intro X2 wF hS
        have n8 := ((hS.blk 4 rfl).cell 8).trans T1.out.need
        have nl8 := (hS.blk 4 rfl).lt
        have e1 := (hS.blk 0 rfl).cell 1
        have el := (hS.blk 0 rfl).lt
        simp only [List.getElem?_cons_zero, List.getElem?_cons_succ] at e1
        have HS := Lib.hid hS; clear hS
        by_cases hn1 : t1.need = true
        · rw [hn1] at n8
          have HZF := Lib.hid (HRE.out.1 hn1)
          have HS := Lib.hid HS.out.tail
          clear hn1
          go_wp2_with fail
          clear n8 nl8 e1 el
          -- 10: the region, RQ (.slice ra u rc) (.slice none 0 0) 0 0 0 0: the pool's cells, TL t1: the tape's cells, T1: the tape's facts, 0: how far, HZF.out: what remains
          have hmp := (HS.out.blk 0 rfl).drew
          have hmt := (HS.out.blk 3 rfl).drew
          have hlp : (RQ (.slice ra u rc) (.slice none 0 0) 0 0 0 0).length = 12 := HRQ.out.len _ _ _ _ _ _
          have hlt := (T1).out.len
          have hop : ∀ z9 ∈ (RQ (.slice ra u rc) (.slice none 0 0) 0 0 0 0), z9.oneCell' = true := HRQ.out.one _ _ hv1 hv2 _ _ _ _
          refine wp_region_fr [(1, [0, 1]), (2, [2]), (3, [3]), (0, [4])] [w.heap.size + 1 + 1] (by kernel_rfl) (by kernel_rfl) ?_
          simp only [theOps, nthOp, List.map_cons, List.map_nil, Array.getD_eq_getD_getElem?, List.getElem?_toArray, List.getElem?_cons_succ, List.getElem?_cons_zero, Option.getD_some]
          refine wpSegs_soft ?_
          refine wpQuiet_load_mid 65 _ (w.heap.size + 1 + 1 + 1 + 1) 0 (RQ (.slice ra u rc) (.slice none 0 0) 0 0 0 0) _ rfl rfl rfl (rangeAt_after hmp (by simp <;> omega)) Try.underlying65 rfl (by rw [hlp]; kernel_rfl) ?_
          simp only [Act.put, List.setIfInBounds_toArray, List.set_cons_zero, List.set_cons_succ]
          refine wpQuiet_load_mid 47 _ (w.heap.size + 1) 0 (TL t1) _ rfl rfl rfl (rangeAt_after hmt (by simp <;> omega)) Try.underlying47 rfl (by rw [hlt]; kernel_rfl) ?_
          simp only [Act.put, List.setIfInBounds_toArray, List.set_cons_zero, List.set_cons_succ]
          repeat (first | go_big_quiet_step (fail) | quiet_step (fail))
          refine wpQuiet_nil ?_
          refine wpSegs_keep ?_
          refine wpList_store_sep HS.out.drew 2 rfl (RQ (.slice ra u rc) (.slice none 0 0) 0 0 0 0) 65 _ _ rfl rfl rfl rfl (by rw [hlp]; rfl) (by rw [hlp]; kernel_rfl) hop (fun wC hC fC => ?_)
          simp only [List.set_cons_zero, List.set_cons_succ] at hC
          have HC := Lib.hid hC; have HFC := Lib.hid fC
          clear hC fC
          go_wp2_with fail
          refine ⟨⟨⟨_, (by exact HFC.out)⟩, rfl⟩, ?_⟩
          refine wpSegs_hard ?_
          refine wpList_store_sep HC.out 1 rfl (TL t1) 47 _ _ rfl rfl rfl rfl (by rw [hlt]; rfl) (by rw [hlt]; kernel_rfl) (T1).out.one (fun wD hD _ => ?_)
          simp only [List.set_cons_zero, List.set_cons_succ] at hD
          have HDD := Lib.hid hD; clear hD
          go_wp2_with fail
          repeat ((first | refine wpSegs_soft ?_ | refine wpSegs_pure ?_ | refine wpSegs_here ?_); (repeat (first | go_big_quiet_step (fail) | quiet_step (fail))); refine wpQuiet_nil ?_)
          refine wpSegs_done ?_
          go_wp2_with fail
          exact bodyPost_ret (v := .tuple #[.agg (RQ (.slice ra u rc) (.slice none 0 0) 0 0 0 0).toArray, .agg (TL t1).toArray, .int .i64 0]) (res_cct8 Try.results28 rfl rfl rfl (HDD.out.blk 2 rfl).range Try.underlying65 rfl (by rw [hlp]; kernel_rfl) (HDD.out.blk 1 rfl).range Try.underlying47 rfl (by rw [hlt]; kernel_rfl)) rfl (HRES.out _ _ _ _ _ _ _ hv1 hv2 (HZF.out) HXL.out hN2 _ HDD.out.tail.tail.tail.tail.tail)
        have hn1 : t1.need = false := by simpa using hn1
        rw [hn1] at n8
        by_cases hs1 : seq < s1
        · have d1 : decide (s1 > seq) = true := by simpa using hs1
          have HZF := Lib.hid (HRE.out.2.1 hn1 hs1)
          have HS := Lib.hid HS.out.tail
          clear hn1 hs1
          go_wp2_with fail
          clear n8 nl8 e1 el
          -- 12: the region, RQ (.slice ra u rc) (.slice none 0 0) 0 0 0 0: the pool's cells, TL t1: the tape's cells, T1: the tape's facts, 2: how far, HZF.out: what remains
          have hmp := (HS.out.blk 0 rfl).drew
          have hmt := (HS.out.blk 3 rfl).drew
          have hlp : (RQ (.slice ra u rc) (.slice none 0 0) 0 0 0 0).length = 12 := HRQ.out.len _ _ _ _ _ _
          have hlt := (T1).out.len
          have hop : ∀ z9 ∈ (RQ (.slice ra u rc) (.slice none 0 0) 0 0 0 0), z9.oneCell' = true := HRQ.out.one _ _ hv1 hv2 _ _ _ _
          refine wp_region_fr [(1, [0, 1]), (2, [2]), (3, [3]), (0, [4])] [w.heap.size + 1 + 1] (by kernel_rfl) (by kernel_rfl) ?_
          simp only [theOps, nthOp, List.map_cons, List.map_nil, Array.getD_eq_getD_getElem?, List.getElem?_toArray, List.getElem?_cons_succ, List.getElem?_cons_zero, Option.getD_some]
          refine wpSegs_soft ?_
          refine wpQuiet_load_mid 65 _ (w.heap.size + 1 + 1 + 1 + 1) 0 (RQ (.slice ra u rc) (.slice none 0 0) 0 0 0 0) _ rfl rfl rfl (rangeAt_after hmp (by simp <;> omega)) Try.underlying65 rfl (by rw [hlp]; kernel_rfl) ?_
          simp only [Act.put, List.setIfInBounds_toArray, List.set_cons_zero, List.set_cons_succ]
          refine wpQuiet_load_mid 47 _ (w.heap.size + 1) 0 (TL t1) _ rfl rfl rfl (rangeAt_after hmt (by simp <;> omega)) Try.underlying47 rfl (by rw [hlt]; kernel_rfl) ?_
          simp only [Act.put, List.setIfInBounds_toArray, List.set_cons_zero, List.set_cons_succ]
          repeat (first | go_big_quiet_step (fail) | quiet_step (fail))
          refine wpQuiet_nil ?_
          refine wpSegs_keep ?_
          refine wpList_store_sep HS.out.drew 2 rfl (RQ (.slice ra u rc) (.slice none 0 0) 0 0 0 0) 65 _ _ rfl rfl rfl rfl (by rw [hlp]; rfl) (by rw [hlp]; kernel_rfl) hop (fun wC hC fC => ?_)
          simp only [List.set_cons_zero, List.set_cons_succ] at hC
          have HC := Lib.hid hC; have HFC := Lib.hid fC
          clear hC fC
          go_wp2_with fail
          refine ⟨⟨⟨_, (by exact HFC.out)⟩, rfl⟩, ?_⟩
          refine wpSegs_hard ?_
          refine wpList_store_sep HC.out 1 rfl (TL t1) 47 _ _ rfl rfl rfl rfl (by rw [hlt]; rfl) (by rw [hlt]; kernel_rfl) (T1).out.one (fun wD hD _ => ?_)
          simp only [List.set_cons_zero, List.set_cons_succ] at hD
          have HDD := Lib.hid hD; clear hD
          go_wp2_with fail
          repeat ((first | refine wpSegs_soft ?_ | refine wpSegs_pure ?_ | refine wpSegs_here ?_); (repeat (first | go_big_quiet_step (fail) | quiet_step (fail))); refine wpQuiet_nil ?_)
          refine wpSegs_done ?_
          go_wp2_with fail
          exact bodyPost_ret (v := .tuple #[.agg (RQ (.slice ra u rc) (.slice none 0 0) 0 0 0 0).toArray, .agg (TL t1).toArray, .int .i64 2]) (res_cct8 Try.results28 rfl rfl rfl (HDD.out.blk 2 rfl).range Try.underlying65 rfl (by rw [hlp]; kernel_rfl) (HDD.out.blk 1 rfl).range Try.underlying47 rfl (by rw [hlt]; kernel_rfl)) rfl (HRES.out _ _ _ _ _ _ _ hv1 hv2 (HZF.out) HXL.out hN2 _ HDD.out.tail.tail.tail.tail.tail)
        have d1 : decide (s1 > seq) = false := by simpa using hs1
        have HRE2 := Lib.hid (And.intro (HRE.out.2.2.1 hn1 (by omega)) (And.intro (HRE.out.2.2.2.1 hn1 (by omega)) (HRE.out.2.2.2.2 hn1 (by omega))))
        clear hn1 hs1 HRE
        go_wp2_with fail
        clear n8 nl8 e1 el d1
        have hmt := (HS.out.blk 4 rfl).drew
        have hmc := (HS.out.blk 5 rfl).drew
        have hlt := T1.out.len
        refine step_start ([2, 3, 7], [8, 9]) [] (by kernel_rfl) ?_
        refine step_reads (N := 8) [0, 1] (by kernel_rfl) ⟨⟨_, Fr.refl _ _⟩, rfl⟩ ?_
        simp only [theOps, nthOp, List.map_cons, List.map_nil, Array.getD_eq_getD_getElem?, List.getElem?_toArray, List.getElem?_cons_succ, List.getElem?_cons_zero, Option.getD_some]
        refine wpQuiet_load_mid 47 _ (w.heap.size + 1) 0 (TL t1) _ rfl rfl rfl (rangeAt_after hmt (by simp <;> omega)) Try.underlying47 rfl (by rw [hlt]; kernel_rfl) ?_
        simp only [Act.put, List.setIfInBounds_toArray, List.set_cons_zero, List.set_cons_succ]
        refine wpQuiet_load_mid 24 _ w.heap.size 0 cl _ rfl rfl rfl (rangeAt_after hmc (by simp)) Try.underlying24 rfl (by rw [hsz6]; kernel_rfl) ?_
        simp only [Act.put, List.setIfInBounds_toArray, List.set_cons_zero, List.set_cons_succ]
        repeat (first | go_big_quiet_step (fail) | quiet_step (fail))
        refine wpQuiet_nil ?_
        have HS := Lib.hid HS.out.drew
        clear hmt hmc hlt
        generalize World.drew _ = wd at HS ⊢
        have HF := Lib.hid (Fr.refl [] wd)
        generalize X2 = X1 at HS ⊢
        apply joinA (S := fun X2 wF => Sep w wF [blkT X2 41 [.int .u64 v2, .int .u64 s2], blkT X1 41 [.int .u64 v1, .int .u64 s1], blkT (w.heap.size + 1 + 1 + 1 + 1) 65 (RQ (.slice ra u rc) (.slice none 0 0) 0 0 0 0), blkT (w.heap.size + 1 + 1 + 1) 47 [.slice none 0 0, .int .i64 0, .int .i64 0, .int .i64 0, .int .u64 0, .int .u64 0, .int .u64 0, .int .u64 0, .bool false], blkT (w.heap.size + 1 + 1) 65 [.int .i64 0, .int .i64 0, .int .i64 0, .int .i64 0, .int .u64 0, .int .u64 0, .slice none 0 0, .slice none 0 0, .int .i64 0, .int .i64 0, .int .i64 0, .int .i64 0], blkT (w.heap.size + 1) 47 (TL t2), blkT w.heap.size 24 cl, rowT 0 22 1 (.slice ra u rc) (u) ((xu).map (Value.int .u64)), rowT 0 22 1 (.slice none 0 0) 0 []])
        · intro HR
          refine step_two (N := 7) 2 7 (by kernel_rfl) rfl rfl ?_ ?_
          · go_wp2_with fail
            refine (HA14.out _).mono ?_
            rintro e w9 ⟨rfl, hf⟩
            have HF := Lib.hid (HF.out.trans hf)
            have HS := Lib.hid (HS.out.fr0 hf); clear hf
            go_wp2_with fail
            refine ⟨⟨⟨_, (by exact HF.out)⟩, rfl⟩, ?_⟩
            refine step_two (N := 6) 3 7 (by kernel_rfl) rfl rfl ?_ ?_
            · go_wp2_with fail
              refine (HLD2.out _ HS.out.fr).mono ?_
              rintro e w9 ⟨rfl, hf⟩
              have HF := Lib.hid (HF.out.trans hf)
              have HS := Lib.hid (HS.out.fr0 hf); clear hf
              go_wp2_with fail
              refine ⟨⟨⟨_, (by exact HF.out)⟩, rfl⟩, ?_⟩
              refine step_pures (N := 3) [4, 5, 6] (by kernel_rfl) ?_
              simp only [theOps, nthOp, List.map_cons, List.map_nil, Array.getD_eq_getD_getElem?, List.getElem?_toArray, List.getElem?_cons_succ, List.getElem?_cons_zero, Option.getD_some]
              repeat (first | go_big_quiet_step (fail) | quiet_step (fail))
              refine wpQuiet_nil ?_
              refine step_keep (N := 2) 7 (by kernel_rfl) rfl ?_
              go_wp2_with fail
              have hf := Fr.alloc HF.out (.cells ([.int .u64 0, .int .u64 0]).toArray 41)
              have hS := HS.out.new 41 ([.int .u64 0, .int .u64 0])
              have HF := Lib.hid hf; have HS := Lib.hid hS; clear hf hS
              refine ⟨⟨⟨_, (by exact HF.out)⟩, rfl⟩, ?_⟩
              generalize World.alloc _ _ = wn1 at HF HS ⊢
              generalize w9.heap.size = X2 at HS ⊢
              refine step_hard (N := 1) 8 (by kernel_rfl) rfl ?_
              refine wpList_store_sep HS.out 5 rfl (TL t2) 47 _ _ rfl rfl rfl rfl (by rw [T2.out.len, T1.out.len]) (by rw [T2.out.len]; kernel_rfl) T2.out.one (fun wA hA _ => ?_)
              have HS := Lib.hid hA; clear hA
              simp only [List.set_cons_zero, List.set_cons_succ] at HS
              go_wp2_with fail
              refine step_hard (N := 0) 9 (by kernel_rfl) rfl ?_
              refine wpList_store_sep HS.out 0 rfl [.int .u64 v2, .int .u64 s2] 41 _ _ rfl rfl rfl rfl rfl (by kernel_rfl) HO2 (fun wA hA _ => ?_)
              have HS := Lib.hid hA; clear hA
              simp only [List.set_cons_zero, List.set_cons_succ] at HS
              go_wp2_with fail
              refine step_done (by kernel_rfl) ?_
              exact HR X2 _ HS.out
            · go_wp2_with fail
              have hf := Fr.alloc HF.out (.cells ([.int .u64 0, .int .u64 0]).toArray 41)
              have hS := HS.out.new 41 ([.int .u64 0, .int .u64 0])
              have HF := Lib.hid hf; have HS := Lib.hid hS; clear hf hS
              refine ⟨⟨⟨_, (by exact HF.out)⟩, rfl⟩, ?_⟩
              generalize World.alloc _ _ = wn2 at HF HS ⊢
              generalize w9.heap.size = X2 at HS ⊢
              refine step_keep (N := 5) 3 (by kernel_rfl) rfl ?_
              go_wp2_with fail
              refine (HLD2.out _ HS.out.fr).mono ?_
              rintro e w9 ⟨rfl, hf⟩
              have HF := Lib.hid (HF.out.trans hf)
              have HS := Lib.hid (HS.out.fr0 hf); clear hf
              go_wp2_with fail
              refine ⟨⟨⟨_, (by exact HF.out)⟩, rfl⟩, ?_⟩
              refine step_pures (N := 2) [4, 5, 6] (by kernel_rfl) ?_
              simp only [theOps, nthOp, List.map_cons, List.map_nil, Array.getD_eq_getD_getElem?, List.getElem?_toArray, List.getElem?_cons_succ, List.getElem?_cons_zero, Option.getD_some]
              repeat (first | go_big_quiet_step (fail) | quiet_step (fail))
              refine wpQuiet_nil ?_
              refine step_hard (N := 1) 8 (by kernel_rfl) rfl ?_
              refine wpList_store_sep HS.out 5 rfl (TL t2) 47 _ _ rfl rfl rfl rfl (by rw [T2.out.len, T1.out.len]) (by rw [T2.out.len]; kernel_rfl) T2.out.one (fun wA hA _ => ?_)
              have HS := Lib.hid hA; clear hA
              simp only [List.set_cons_zero, List.set_cons_succ] at HS
              go_wp2_with fail
              refine step_hard (N := 0) 9 (by kernel_rfl) rfl ?_
              refine wpList_store_sep HS.out 0 rfl [.int .u64 v2, .int .u64 s2] 41 _ _ rfl rfl rfl rfl rfl (by kernel_rfl) HO2 (fun wA hA _ => ?_)
              have HS := Lib.hid hA; clear hA
              simp only [List.set_cons_zero, List.set_cons_succ] at HS
              go_wp2_with fail
              refine step_done (by kernel_rfl) ?_
              exact HR X2 _ HS.out
          · go_wp2_with fail
            have hf := Fr.alloc HF.out (.cells ([.int .u64 0, .int .u64 0]).toArray 41)
            have hS := HS.out.new 41 ([.int .u64 0, .int .u64 0])
            have HF := Lib.hid hf; have HS := Lib.hid hS; clear hf hS
            refine ⟨⟨⟨_, (by exact HF.out)⟩, rfl⟩, ?_⟩
            generalize World.alloc _ _ = wn3 at HF HS ⊢
            generalize wd.heap.size = X2 at HS ⊢
            refine step_keep (N := 6) 2 (by kernel_rfl) rfl ?_
            go_wp2_with fail
            refine (HA14.out _).mono ?_
            rintro e w9 ⟨rfl, hf⟩
            have HF := Lib.hid (HF.out.trans hf)
            have HS := Lib.hid (HS.out.fr0 hf); clear hf
            go_wp2_with fail
            refine ⟨⟨⟨_, (by exact HF.out)⟩, rfl⟩, ?_⟩
            refine step_keep (N := 5) 3 (by kernel_rfl) rfl ?_
            go_wp2_with fail
            refine (HLD2.out _ HS.out.fr).mono ?_
            rintro e w9 ⟨rfl, hf⟩
            have HF := Lib.hid (HF.out.trans hf)
            have HS := Lib.hid (HS.out.fr0 hf); clear hf
            go_wp2_with fail
            refine ⟨⟨⟨_, (by exact HF.out)⟩, rfl⟩, ?_⟩
            refine step_pures (N := 2) [4, 5, 6] (by kernel_rfl) ?_
            simp only [theOps, nthOp, List.map_cons, List.map_nil, Array.getD_eq_getD_getElem?, List.getElem?_toArray, List.getElem?_cons_succ, List.getElem?_cons_zero, Option.getD_some]
            repeat (first | go_big_quiet_step (fail) | quiet_step (fail))
            refine wpQuiet_nil ?_
            refine step_hard (N := 1) 8 (by kernel_rfl) rfl ?_
            refine wpList_store_sep HS.out 5 rfl (TL t2) 47 _ _ rfl rfl rfl rfl (by rw [T2.out.len, T1.out.len]) (by rw [T2.out.len]; kernel_rfl) T2.out.one (fun wA hA _ => ?_)
            have HS := Lib.hid hA; clear hA
            simp only [List.set_cons_zero, List.set_cons_succ] at HS
            go_wp2_with fail
            refine step_hard (N := 0) 9 (by kernel_rfl) rfl ?_
            refine wpList_store_sep HS.out 0 rfl [.int .u64 v2, .int .u64 s2] 41 _ _ rfl rfl rfl rfl rfl (by kernel_rfl) HO2 (fun wA hA _ => ?_)
            have HS := Lib.hid hA; clear hA
            simp only [List.set_cons_zero, List.set_cons_succ] at HS
            go_wp2_with fail
            refine step_done (by kernel_rfl) ?_
            exact HR X2 _ HS.out
        · clear HS HF HA14 HLD2
          intro X2 wF hS
          have n8 := ((hS.blk 5 rfl).cell 8).trans T2.out.need
          have nl8 := (hS.blk 5 rfl).lt
          have e1 := (hS.blk 0 rfl).cell 1
          have el := (hS.blk 0 rfl).lt
          simp only [List.getElem?_cons_zero, List.getElem?_cons_succ] at e1
          have HS := Lib.hid hS; clear hS
          by_cases hn2 : t2.need = true
          · rw [hn2] at n8
            have HZF := Lib.hid (HRE2.out.1 hn2)
            have HS := Lib.hid HS.out.tail.tail
            clear hn2
            go_wp2_with fail
            clear n8 nl8 e1 el
            -- 15: the region, RQ (.slice ra u rc) (.slice none 0 0) 0 0 0 0: the pool's cells, TL t2: the tape's cells, T2: the tape's facts, 0: how far, HZF.out: what remains
            have hmp := (HS.out.blk 0 rfl).drew
            have hmt := (HS.out.blk 3 rfl).drew
            have hlp : (RQ (.slice ra u rc) (.slice none 0 0) 0 0 0 0).length = 12 := HRQ.out.len _ _ _ _ _ _
            have hlt := (T2).out.len
            have hop : ∀ z9 ∈ (RQ (.slice ra u rc) (.slice none 0 0) 0 0 0 0), z9.oneCell' = true := HRQ.out.one _ _ hv1 hv2 _ _ _ _
            refine wp_region_fr [(1, [0, 1]), (2, [2]), (3, [3]), (0, [4])] [w.heap.size + 1 + 1] (by kernel_rfl) (by kernel_rfl) ?_
            simp only [theOps, nthOp, List.map_cons, List.map_nil, Array.getD_eq_getD_getElem?, List.getElem?_toArray, List.getElem?_cons_succ, List.getElem?_cons_zero, Option.getD_some]
            refine wpSegs_soft ?_
            refine wpQuiet_load_mid 65 _ (w.heap.size + 1 + 1 + 1 + 1) 0 (RQ (.slice ra u rc) (.slice none 0 0) 0 0 0 0) _ rfl rfl rfl (rangeAt_after hmp (by simp <;> omega)) Try.underlying65 rfl (by rw [hlp]; kernel_rfl) ?_
            simp only [Act.put, List.setIfInBounds_toArray, List.set_cons_zero, List.set_cons_succ]
            refine wpQuiet_load_mid 47 _ (w.heap.size + 1) 0 (TL t2) _ rfl rfl rfl (rangeAt_after hmt (by simp <;> omega)) Try.underlying47 rfl (by rw [hlt]; kernel_rfl) ?_
            simp only [Act.put, List.setIfInBounds_toArray, List.set_cons_zero, List.set_cons_succ]
            repeat (first | go_big_quiet_step (fail) | quiet_step (fail))
            refine wpQuiet_nil ?_
            refine wpSegs_keep ?_
            refine wpList_store_sep HS.out.drew 2 rfl (RQ (.slice ra u rc) (.slice none 0 0) 0 0 0 0) 65 _ _ rfl rfl rfl rfl (by rw [hlp]; rfl) (by rw [hlp]; kernel_rfl) hop (fun wC hC fC => ?_)
            simp only [List.set_cons_zero, List.set_cons_succ] at hC
            have HC := Lib.hid hC; have HFC := Lib.hid fC
            clear hC fC
            go_wp2_with fail
            refine ⟨⟨⟨_, (by exact HFC.out)⟩, rfl⟩, ?_⟩
            refine wpSegs_hard ?_
            refine wpList_store_sep HC.out 1 rfl (TL t2) 47 _ _ rfl rfl rfl rfl (by rw [hlt]; rfl) (by rw [hlt]; kernel_rfl) (T2).out.one (fun wD hD _ => ?_)
            simp only [List.set_cons_zero, List.set_cons_succ] at hD
            have HDD := Lib.hid hD; clear hD
            go_wp2_with fail
            repeat ((first | refine wpSegs_soft ?_ | refine wpSegs_pure ?_ | refine wpSegs_here ?_); (repeat (first | go_big_quiet_step (fail) | quiet_step (fail))); refine wpQuiet_nil ?_)
            refine wpSegs_done ?_
            go_wp2_with fail
            exact bodyPost_ret (v := .tuple #[.agg (RQ (.slice ra u rc) (.slice none 0 0) 0 0 0 0).toArray, .agg (TL t2).toArray, .int .i64 0]) (res_cct8 Try.results28 rfl rfl rfl (HDD.out.blk 2 rfl).range Try.underlying65 rfl (by rw [hlp]; kernel_rfl) (HDD.out.blk 1 rfl).range Try.underlying47 rfl (by rw [hlt]; kernel_rfl)) rfl (HRES.out _ _ _ _ _ _ _ hv1 hv2 (HZF.out) HXL.out hN2 _ HDD.out.tail.tail.tail.tail.tail)
          have hn2 : t2.need = false := by simpa using hn2
          rw [hn2] at n8
          by_cases hs2 : seq < s2
          · have d2 : decide (s2 > seq) = true := by simpa using hs2
            have HZF := Lib.hid (HRE2.out.2.1 hn2 hs2)
            have HS := Lib.hid HS.out.tail.tail
            clear hn2 hs2
            go_wp2_with fail
            clear n8 nl8 e1 el
            -- 17: the region, RQ (.slice ra u rc) (.slice none 0 0) 0 0 0 0: the pool's cells, TL t2: the tape's cells, T2: the tape's facts, 2: how far, HZF.out: what remains
            have hmp := (HS.out.blk 0 rfl).drew
            have hmt := (HS.out.blk 3 rfl).drew
            have hlp : (RQ (.slice ra u rc) (.slice none 0 0) 0 0 0 0).length = 12 := HRQ.out.len _ _ _ _ _ _
            have hlt := (T2).out.len
            have hop : ∀ z9 ∈ (RQ (.slice ra u rc) (.slice none 0 0) 0 0 0 0), z9.oneCell' = true := HRQ.out.one _ _ hv1 hv2 _ _ _ _
            refine wp_region_fr [(1, [0, 1]), (2, [2]), (3, [3]), (0, [4])] [w.heap.size + 1 + 1] (by kernel_rfl) (by kernel_rfl) ?_
            simp only [theOps, nthOp, List.map_cons, List.map_nil, Array.getD_eq_getD_getElem?, List.getElem?_toArray, List.getElem?_cons_succ, List.getElem?_cons_zero, Option.getD_some]
            refine wpSegs_soft ?_
            refine wpQuiet_load_mid 65 _ (w.heap.size + 1 + 1 + 1 + 1) 0 (RQ (.slice ra u rc) (.slice none 0 0) 0 0 0 0) _ rfl rfl rfl (rangeAt_after hmp (by simp <;> omega)) Try.underlying65 rfl (by rw [hlp]; kernel_rfl) ?_
            simp only [Act.put, List.setIfInBounds_toArray, List.set_cons_zero, List.set_cons_succ]
            refine wpQuiet_load_mid 47 _ (w.heap.size + 1) 0 (TL t2) _ rfl rfl rfl (rangeAt_after hmt (by simp <;> omega)) Try.underlying47 rfl (by rw [hlt]; kernel_rfl) ?_
            simp only [Act.put, List.setIfInBounds_toArray, List.set_cons_zero, List.set_cons_succ]
            repeat (first | go_big_quiet_step (fail) | quiet_step (fail))
            refine wpQuiet_nil ?_
            refine wpSegs_keep ?_
            refine wpList_store_sep HS.out.drew 2 rfl (RQ (.slice ra u rc) (.slice none 0 0) 0 0 0 0) 65 _ _ rfl rfl rfl rfl (by rw [hlp]; rfl) (by rw [hlp]; kernel_rfl) hop (fun wC hC fC => ?_)
            simp only [List.set_cons_zero, List.set_cons_succ] at hC
            have HC := Lib.hid hC; have HFC := Lib.hid fC
            clear hC fC
            go_wp2_with fail
            refine ⟨⟨⟨_, (by exact HFC.out)⟩, rfl⟩, ?_⟩
            refine wpSegs_hard ?_
            refine wpList_store_sep HC.out 1 rfl (TL t2) 47 _ _ rfl rfl rfl rfl (by rw [hlt]; rfl) (by rw [hlt]; kernel_rfl) (T2).out.one (fun wD hD _ => ?_)
            simp only [List.set_cons_zero, List.set_cons_succ] at hD
            have HDD := Lib.hid hD; clear hD
            go_wp2_with fail
            repeat ((first | refine wpSegs_soft ?_ | refine wpSegs_pure ?_ | refine wpSegs_here ?_); (repeat (first | go_big_quiet_step (fail) | quiet_step (fail))); refine wpQuiet_nil ?_)
            refine wpSegs_done ?_
            go_wp2_with fail
            exact bodyPost_ret (v := .tuple #[.agg (RQ (.slice ra u rc) (.slice none 0 0) 0 0 0 0).toArray, .agg (TL t2).toArray, .int .i64 2]) (res_cct8 Try.results28 rfl rfl rfl (HDD.out.blk 2 rfl).range Try.underlying65 rfl (by rw [hlp]; kernel_rfl) (HDD.out.blk 1 rfl).range Try.underlying47 rfl (by rw [hlt]; kernel_rfl)) rfl (HRES.out _ _ _ _ _ _ _ hv1 hv2 (HZF.out) HXL.out hN2 _ HDD.out.tail.tail.tail.tail.tail)
          have d2 : decide (s2 > seq) = false := by simpa using hs2
          have HRE3 := Lib.hid (HRE2.out.2.2 hn2 (by omega))
          clear hn2 hs2 HRE2
          have f0 := (HS.out.blk 1 rfl).cell 0
          have f0l := (HS.out.blk 1 rfl).lt
          have kb := ((HS.out.blk 6 rfl).cell 1).trans k1
          have kbl := (HS.out.blk 6 rfl).lt
          simp only [List.getElem?_cons_zero, List.getElem?_cons_succ] at f0
          go_wp2_with fail
          refine (held10_any _ v1 c.b ⟨q1, q2⟩ ⟨by omega, by omega⟩).mono ?_
          rintro e w3 ⟨rfl, rfl⟩
          clear n8 nl8 e1 el d2 f0 f0l kb kbl
          have hwt : 0 ≤ min v1 c.b := by omega
          generalize min v1 c.b = wt at *
          go_wp2_with (refine wpList_store_cell HS.out 2 rfl 8 (.int .i64 wt) 3 _ _ rfl rfl rfl rfl (by rw [HRQ.out.len]; decide) (by kernel_rfl) rfl (fun wB hB _ => ?_); simp only [List.set_cons_zero, List.set_cons_succ, HRQ.out.s8] at hB; have HC := Lib.hid hB; clear hB)
          have HS := HC
          have hmc := (HS.out.blk 6 rfl).drew
          have f0 := (HS.out.blk 0 rfl).drew.cell 0
          have f0l := (HS.out.blk 0 rfl).drew.lt
          simp only [List.getElem?_cons_zero] at f0
          refine wp_region_fr [(1, [0, 1, 2]), (2, [3]), (3, [4]), (0, [5]), (3, [6])] [] (by kernel_rfl) (by kernel_rfl) ?_
          simp only [theOps, nthOp, List.map_cons, List.map_nil, Array.getD_eq_getD_getElem?, List.getElem?_toArray, List.getElem?_cons_succ, List.getElem?_cons_zero, Option.getD_some]
          refine wpSegs_soft ?_
          repeat (first | (refine wpQuiet_load_mid 24 _ w.heap.size 0 cl _ rfl rfl rfl (rangeAt_after hmc (by simp)) Try.underlying24 rfl (by rw [hsz6]; kernel_rfl) ?_; simp only [Act.put, List.setIfInBounds_toArray, List.set_cons_zero, List.set_cons_succ]) | go_big_quiet_step (fail) | quiet_step (fail))
          refine wpQuiet_nil ?_
          refine wpSegs_keep ?_
          go_wp2_with fail
          refine (HLM.out _).mono ?_
          rintro e w4 ⟨rfl, hf⟩
          have HF := Lib.hid hf
          have HS := Lib.hid (HS.out.drew.fr0 hf); clear hf hmc f0 f0l
          go_wp2_with fail
          refine ⟨⟨⟨_, (by exact HF.out)⟩, rfl⟩, ?_⟩
          repeat ((first | refine wpSegs_soft ?_ | refine wpSegs_pure ?_ | refine wpSegs_here ?_); (repeat (first | go_big_quiet_step (fail) | quiet_step (fail))); refine wpQuiet_nil ?_)
          refine wpSegs_hard ?_
          go_wp2_with fail
          refine (held10_any _ v2 (limit c) ⟨q5, q6⟩ ⟨by omega, by omega⟩).mono ?_
          rintro e w5 ⟨rfl, rfl⟩
          obtain ⟨NL, hNL⟩ : ∃ NL : Nat, min v2 (limit c) = (NL : Int) := ⟨(min v2 (limit c)).toNat, by omega⟩
          have hnl520 : NL ≤ 520 := by omega
          have HRE4 := HRE3.out
          rw [hNL, Int.toNat_natCast] at HRE4
          have HRE4 := Lib.hid HRE4
          rw [hNL]
          clear hNL HRE3
          go_wp2_with fail
          repeat ((first | refine wpSegs_soft ?_ | refine wpSegs_pure ?_ | refine wpSegs_here ?_); (repeat (first | go_big_quiet_step (fail) | quiet_step (fail))); refine wpQuiet_nil ?_)
          refine wpSegs_hard ?_
          refine wpList_store_cell HS.out 2 rfl 9 (.int .i64 (NL : Int)) 3 _ _ rfl rfl rfl rfl (by rw [HRQ.out.len]; decide) (by kernel_rfl) rfl (fun wB hB _ => ?_)
          simp only [List.set_cons_zero, List.set_cons_succ, HRQ.out.s9] at hB
          have HS := Lib.hid hB; clear hB
          go_wp2_with fail
          repeat ((first | refine wpSegs_soft ?_ | refine wpSegs_pure ?_ | refine wpSegs_here ?_); (repeat (first | go_big_quiet_step (fail) | quiet_step (fail))); refine wpQuiet_nil ?_)
          refine wpSegs_done ?_
          have r8 := ((HS.out.blk 2 rfl).cell 8).trans (HRQ.out.wt _ _ _ _ _ _)
          have r8l := (HS.out.blk 2 rfl).lt
          go_wp2_with (first | (refine wpList_store_cell HS.out 2 rfl 10 (.int .i64 wt) 3 _ _ rfl rfl rfl rfl (by rw [HRQ.out.len]; decide) (by kernel_rfl) rfl (fun wB hB _ => ?_); simp only [List.set_cons_zero, List.set_cons_succ, HRQ.out.s10] at hB; have HC := Lib.hid hB; clear hB; have r9 := ((HC.out.blk 2 rfl).cell 9).trans (HRQ.out.wl _ _ _ _ _ _); have r9l := (HC.out.blk 2 rfl).lt) | (refine wpList_store_cell HC.out 2 rfl 11 (.int .i64 (NL : Int)) 3 _ _ rfl rfl rfl rfl (by rw [HRQ.out.len]; decide) (by kernel_rfl) rfl (fun wB hB _ => ?_); simp only [List.set_cons_zero, List.set_cons_succ, HRQ.out.s11] at hB; have HD := Lib.hid hB; clear hB))
          have HS := Lib.hid HD.out.tail.tail
          clear r8 r8l r9 r9l HC HD
          obtain ⟨FZ, hFZ⟩ : ∃ FZ, P.rlims c seq l NL 0 t2 [] = FZ := ⟨_, rfl⟩
          have HZ4 := Lib.hid (HRE4.out FZ hFZ)
          clear HRE4
          go_loopg [15] NL (fun g vi wr => ∃ (k : Nat) (la : Option Addr) (lc : Nat) (tk : Tp) (acc : List Int), g + k = NL ∧ vi = .int .i64 (k : Int) ∧ acc.length = k ∧ P.rlims c seq l g k tk acc = FZ ∧ tk.at_ ≤ u + 2 + k ∧ Sep w wr [blkT (w.heap.size + 1 + 1 + 1 + 1) 65 (RQ (.slice ra u rc) (.slice la k lc) wt NL wt NL), blkT (w.heap.size + 1 + 1 + 1) 47 [.slice none 0 0, .int .i64 0, .int .i64 0, .int .i64 0, .int .u64 0, .int .u64 0, .int .u64 0, .int .u64 0, .bool false], blkT (w.heap.size + 1 + 1) 65 [.int .i64 0, .int .i64 0, .int .i64 0, .int .i64 0, .int .u64 0, .int .u64 0, .slice none 0 0, .slice none 0 0, .int .i64 0, .int .i64 0, .int .i64 0, .int .i64 0], blkT (w.heap.size + 1) 47 (TL tk), blkT w.heap.size 24 cl, rowT 0 22 1 (.slice ra u rc) (u) ((xu).map (Value.int .u64)), rowT 0 22 1 (.slice la k lc) (k) ((acc).map (Value.int .u64))])
          case atStart => exact ⟨0, none, 0, t2, [], by omega, rfl, rfl, hFZ, by omega, HS.out⟩
          case round =>
            clear HS hFZ
            obtain ⟨k, la, lc, tk, acc, hgk, rfl, hacc, hEQ, hat, hS⟩ := hrel
            have HACC := Lib.hid hacc; clear hacc
            have T3 := Lib.hid (HTF.out tk)
            have r11 := ((hS.blk 0 rfl).cell 11).trans (HRQ.out.lim _ _ _ _ _ _)
            have rl := (hS.blk 0 rfl).lt
            by_cases hk : k < NL
            · have hki : (k : Int) < (NL : Int) := by omega
              obtain ⟨g', hg'⟩ : ∃ g', gk = g' + 1 := ⟨gk - 1, by omega⟩
              have HA15 := Lib.hid (fun w => HA15k.out w k)
              have hgo := HOG.out tk
              rw [hg'] at hEQ
              unfold P.rlims at hEQ
              generalize at_ c 15 k 0 = p15 at *
              have HLD2 : Hid (∀ w', Fr [] w w' → _) := fun w' f => HLDA.out tk p15 w' (by omega) f
              have hat2 := HSA.out tk (P.ldP p15)
              rw [hl] at hEQ
              have T4 := Lib.hid (HTF.out (tk.step n (P.ldP p15)))
              generalize tk.step n (P.ldP p15) = t4 at *
              generalize tk.out l = o4 at *
              obtain ⟨ev, es, ek⟩ := o4
              obtain ⟨g1, g2, g3, g4⟩ := hgo
              dsimp only at g1 g2 g3 g4 HLD2 hEQ
              have HO4 := enO_hd2 ⟨ev, es, ek⟩
              dsimp only at HO4
              have HEQ := Lib.hid hEQ; clear hEQ
              have HS := Lib.hid hS; clear hS
              go_wp2_with fail
              clear r11 rl
              have hmt := (HS.out.blk 3 rfl).drew
              have hmc := (HS.out.blk 4 rfl).drew
              have hlt := T3.out.len
              refine step_start ([3, 4, 8, 9], [10, 11]) [] (by kernel_rfl) ?_
              refine step_reads (N := 9) [0, 1, 2] (by kernel_rfl) ⟨⟨_, Fr.refl _ _⟩, rfl⟩ ?_
              simp only [theOps, nthOp, List.map_cons, List.map_nil, Array.getD_eq_getD_getElem?, List.getElem?_toArray, List.getElem?_cons_succ, List.getElem?_cons_zero, Option.getD_some]
              refine wpQuiet_load_mid 47 _ (w.heap.size + 1) 0 (TL tk) _ rfl rfl rfl (rangeAt_after hmt (by simp <;> omega)) Try.underlying47 rfl (by rw [hlt]; kernel_rfl) ?_
              simp only [Act.put, List.setIfInBounds_toArray, List.set_cons_zero, List.set_cons_succ]
              refine wpQuiet_load_mid 24 _ w.heap.size 0 cl _ rfl rfl rfl (rangeAt_after hmc (by simp)) Try.underlying24 rfl (by rw [hsz6]; kernel_rfl) ?_
              simp only [Act.put, List.setIfInBounds_toArray, List.set_cons_zero, List.set_cons_succ]
              repeat (first | go_big_quiet_step (fail) | quiet_step (fail))
              refine wpQuiet_nil ?_
              have HS := Lib.hid HS.out.drew
              clear hmt hmc hlt
              generalize World.drew _ = wd at HS ⊢
              have HF := Lib.hid (Fr.refl [] wd)
              apply joinB (S := fun X2 Y2 wF => Sep w wF [blkT Y2 41 [.int .u64 ev, .int .u64 es], blkT X2 47 (TL t4), blkT (w.heap.size + 1 + 1 + 1 + 1) 65 (RQ (.slice ra u rc) (.slice la k lc) wt NL wt NL), blkT (w.heap.size + 1 + 1 + 1) 47 [.slice none 0 0, .int .i64 0, .int .i64 0, .int .i64 0, .int .u64 0, .int .u64 0, .int .u64 0, .int .u64 0, .bool false], blkT (w.heap.size + 1 + 1) 65 [.int .i64 0, .int .i64 0, .int .i64 0, .int .i64 0, .int .u64 0, .int .u64 0, .slice none 0 0, .slice none 0 0, .int .i64 0, .int .i64 0, .int .i64 0, .int .i64 0], blkT (w.heap.size + 1) 47 (TL tk), blkT w.heap.size 24 cl, rowT 0 22 1 (.slice ra u rc) (u) ((xu).map (Value.int .u64)), rowT 0 22 1 (.slice la k lc) (k) ((acc).map (Value.int .u64))])
              · intro HR
                refine step_three (N := 8) 3 8 9 (by kernel_rfl) rfl rfl rfl ?_ ?_ ?_
                · go_wp2_with fail
                  refine (HA15.out _).mono ?_
                  rintro e w9 ⟨rfl, hf⟩
                  have HF := Lib.hid (HF.out.trans hf)
                  have HS := Lib.hid (HS.out.fr0 hf); clear hf
                  go_wp2_with fail
                  refine ⟨⟨⟨_, (by exact HF.out)⟩, rfl⟩, ?_⟩
                  refine step_three (N := 7) 4 8 9 (by kernel_rfl) rfl rfl rfl ?_ ?_ ?_
                  · go_wp2_with fail
                    refine (HLD2.out _ HS.out.fr).mono ?_
                    rintro e w9 ⟨rfl, hf⟩
                    have HF := Lib.hid (HF.out.trans hf)
                    have HS := Lib.hid (HS.out.fr0 hf); clear hf
                    go_wp2_with fail
                    refine ⟨⟨⟨_, (by exact HF.out)⟩, rfl⟩, ?_⟩
                    refine step_pures (N := 4) [5, 6, 7] (by kernel_rfl) ?_
                    simp only [theOps, nthOp, List.map_cons, List.map_nil, Array.getD_eq_getD_getElem?, List.getElem?_toArray, List.getElem?_cons_succ, List.getElem?_cons_zero, Option.getD_some]
                    repeat (first | go_big_quiet_step (fail) | quiet_step (fail))
                    refine wpQuiet_nil ?_
                    refine step_two (N := 3) 8 9 (by kernel_rfl) rfl rfl ?_ ?_
                    · go_wp2_with fail
                      have hf := Fr.alloc HF.out (.cells ([.slice none 0 0, .int .i64 0, .int .i64 0, .int .i64 0, .int .u64 0, .int .u64 0, .int .u64 0, .int .u64 0, .bool false]).toArray 47)
                      have hS := HS.out.new 47 ([.slice none 0 0, .int .i64 0, .int .i64 0, .int .i64 0, .int .u64 0, .int .u64 0, .int .u64 0, .int .u64 0, .bool false])
                      have HF := Lib.hid hf; have HS := Lib.hid hS; clear hf hS
                      refine ⟨⟨⟨_, (by exact HF.out)⟩, rfl⟩, ?_⟩
                      generalize World.alloc _ _ = wn1 at HF HS ⊢
                      generalize w9.heap.size = X2 at HS ⊢
                      refine step_keep (N := 2) 9 (by kernel_rfl) rfl ?_
                      go_wp2_with fail
                      have hf := Fr.alloc HF.out (.cells ([.int .u64 0, .int .u64 0]).toArray 41)
                      have hS := HS.out.new 41 ([.int .u64 0, .int .u64 0])
                      have HF := Lib.hid hf; have HS := Lib.hid hS; clear hf hS
                      refine ⟨⟨⟨_, (by exact HF.out)⟩, rfl⟩, ?_⟩
                      generalize World.alloc _ _ = wn2 at HF HS ⊢
                      generalize wn1.heap.size = Y2 at HS ⊢
                      refine step_hard (N := 1) 10 (by kernel_rfl) rfl ?_
                      refine wpList_store_sep HS.out 1 rfl (TL t4) 47 _ _ rfl rfl rfl rfl (by rw [T4.out.len]; rfl) (by rw [T4.out.len]; kernel_rfl) T4.out.one (fun wA hA _ => ?_)
                      have HS := Lib.hid hA; clear hA
                      simp only [List.set_cons_zero, List.set_cons_succ] at HS
                      go_wp2_with fail
                      refine step_hard (N := 0) 11 (by kernel_rfl) rfl ?_
                      refine wpList_store_sep HS.out 0 rfl [.int .u64 ev, .int .u64 es] 41 _ _ rfl rfl rfl rfl rfl (by kernel_rfl) HO4 (fun wA hA _ => ?_)
                      have HS := Lib.hid hA; clear hA
                      simp only [List.set_cons_zero, List.set_cons_succ] at HS
                      go_wp2_with fail
                      refine step_done (by kernel_rfl) ?_
                      exact HR X2 Y2 _ HS.out
                    · go_wp2_with fail
                      have hf := Fr.alloc HF.out (.cells ([.int .u64 0, .int .u64 0]).toArray 41)
                      have hS := HS.out.new 41 ([.int .u64 0, .int .u64 0])
                      have HF := Lib.hid hf; have HS := Lib.hid hS; clear hf hS
                      refine ⟨⟨⟨_, (by exact HF.out)⟩, rfl⟩, ?_⟩
                      generalize World.alloc _ _ = wn3 at HF HS ⊢
                      generalize w9.heap.size = Y2 at HS ⊢
                      refine step_keep (N := 2) 8 (by kernel_rfl) rfl ?_
                      go_wp2_with fail
                      have hf := Fr.alloc HF.out (.cells ([.slice none 0 0, .int .i64 0, .int .i64 0, .int .i64 0, .int .u64 0, .int .u64 0, .int .u64 0, .int .u64 0, .bool false]).toArray 47)
                      have hS := HS.out.new 47 ([.slice none 0 0, .int .i64 0, .int .i64 0, .int .i64 0, .int .u64 0, .int .u64 0, .int .u64 0, .int .u64 0, .bool false])
                      have HF := Lib.hid hf; have HS := Lib.hid hS; clear hf hS
                      refine ⟨⟨⟨_, (by exact HF.out)⟩, rfl⟩, ?_⟩
                      generalize World.alloc _ _ = wn4 at HF HS ⊢
                      generalize wn3.heap.size = X2 at HS ⊢
                      have HS := Lib.hid (HS.out.sub (Ts' := [_, _, _, _, _, _, _, _, _] ) [1, 0, 2, 3, 4, 5, 6, 7, 8] rfl (by decide))
                      refine step_hard (N := 1) 10 (by kernel_rfl) rfl ?_
                      refine wpList_store_sep HS.out 1 rfl (TL t4) 47 _ _ rfl rfl rfl rfl (by rw [T4.out.len]; rfl) (by rw [T4.out.len]; kernel_rfl) T4.out.one (fun wA hA _ => ?_)
                      have HS := Lib.hid hA; clear hA
                      simp only [List.set_cons_zero, List.set_cons_succ] at HS
                      go_wp2_with fail
                      refine step_hard (N := 0) 11 (by kernel_rfl) rfl ?_
                      refine wpList_store_sep HS.out 0 rfl [.int .u64 ev, .int .u64 es] 41 _ _ rfl rfl rfl rfl rfl (by kernel_rfl) HO4 (fun wA hA _ => ?_)
                      have HS := Lib.hid hA; clear hA
                      simp only [List.set_cons_zero, List.set_cons_succ] at HS
                      go_wp2_with fail
                      refine step_done (by kernel_rfl) ?_
                      exact HR X2 Y2 _ HS.out
                  · go_wp2_with fail
                    have hf := Fr.alloc HF.out (.cells ([.slice none 0 0, .int .i64 0, .int .i64 0, .int .i64 0, .int .u64 0, .int .u64 0, .int .u64 0, .int .u64 0, .bool false]).toArray 47)
                    have hS := HS.out.new 47 ([.slice none 0 0, .int .i64 0, .int .i64 0, .int .i64 0, .int .u64 0, .int .u64 0, .int .u64 0, .int .u64 0, .bool false])
                    have HF := Lib.hid hf; have HS := Lib.hid hS; clear hf hS
                    refine ⟨⟨⟨_, (by exact HF.out)⟩, rfl⟩, ?_⟩
                    generalize World.alloc _ _ = wn5 at HF HS ⊢
                    generalize w9.heap.size = X2 at HS ⊢
                    refine step_two (N := 6) 4 9 (by kernel_rfl) rfl rfl ?_ ?_
                    · go_wp2_with fail
                      refine (HLD2.out _ HS.out.fr).mono ?_
                      rintro e w9 ⟨rfl, hf⟩
                      have HF := Lib.hid (HF.out.trans hf)
                      have HS := Lib.hid (HS.out.fr0 hf); clear hf
                      go_wp2_with fail
                      refine ⟨⟨⟨_, (by exact HF.out)⟩, rfl⟩, ?_⟩
                      refine step_pures (N := 3) [5, 6, 7] (by kernel_rfl) ?_
                      simp only [theOps, nthOp, List.map_cons, List.map_nil, Array.getD_eq_getD_getElem?, List.getElem?_toArray, List.getElem?_cons_succ, List.getElem?_cons_zero, Option.getD_some]
                      repeat (first | go_big_quiet_step (fail) | quiet_step (fail))
                      refine wpQuiet_nil ?_
                      refine step_keep (N := 2) 9 (by kernel_rfl) rfl ?_
                      go_wp2_with fail
                      have hf := Fr.alloc HF.out (.cells ([.int .u64 0, .int .u64 0]).toArray 41)
                      have hS := HS.out.new 41 ([.int .u64 0, .int .u64 0])
                      have HF := Lib.hid hf; have HS := Lib.hid hS; clear hf hS
                      refine ⟨⟨⟨_, (by exact HF.out)⟩, rfl⟩, ?_⟩
                      generalize World.alloc _ _ = wn6 at HF HS ⊢
                      generalize w9.heap.size = Y2 at HS ⊢
                      refine step_hard (N := 1) 10 (by kernel_rfl) rfl ?_
                      refine wpList_store_sep HS.out 1 rfl (TL t4) 47 _ _ rfl rfl rfl rfl (by rw [T4.out.len]; rfl) (by rw [T4.out.len]; kernel_rfl) T4.out.one (fun wA hA _ => ?_)
                      have HS := Lib.hid hA; clear hA
                      simp only [List.set_cons_zero, List.set_cons_succ] at HS
                      go_wp2_with fail
                      refine step_hard (N := 0) 11 (by kernel_rfl) rfl ?_
                      refine wpList_store_sep HS.out 0 rfl [.int .u64 ev, .int .u64 es] 41 _ _ rfl rfl rfl rfl rfl (by kernel_rfl) HO4 (fun wA hA _ => ?_)
                      have HS := Lib.hid hA; clear hA
                      simp only [List.set_cons_zero, List.set_cons_succ] at HS
                      go_wp2_with fail
                      refine step_done (by kernel_rfl) ?_
                      exact HR X2 Y2 _ HS.out
                    · go_wp2_with fail
                      have hf := Fr.alloc HF.out (.cells ([.int .u64 0, .int .u64 0]).toArray 41)
                      have hS := HS.out.new 41 ([.int .u64 0, .int .u64 0])
                      have HF := Lib.hid hf; have HS := Lib.hid hS; clear hf hS
                      refine ⟨⟨⟨_, (by exact HF.out)⟩, rfl⟩, ?_⟩
                      generalize World.alloc _ _ = wn7 at HF HS ⊢
                      generalize wn5.heap.size = Y2 at HS ⊢
                      refine step_keep (N := 5) 4 (by kernel_rfl) rfl ?_
                      go_wp2_with fail
                      refine (HLD2.out _ HS.out.fr).mono ?_
                      rintro e w9 ⟨rfl, hf⟩
                      have HF := Lib.hid (HF.out.trans hf)
                      have HS := Lib.hid (HS.out.fr0 hf); clear hf
                      go_wp2_with fail
                      refine ⟨⟨⟨_, (by exact HF.out)⟩, rfl⟩, ?_⟩
                      refine step_pures (N := 2) [5, 6, 7] (by kernel_rfl) ?_
                      simp only [theOps, nthOp, List.map_cons, List.map_nil, Array.getD_eq_getD_getElem?, List.getElem?_toArray, List.getElem?_cons_succ, List.getElem?_cons_zero, Option.getD_some]
                      repeat (first | go_big_quiet_step (fail) | quiet_step (fail))
                      refine wpQuiet_nil ?_
                      refine step_hard (N := 1) 10 (by kernel_rfl) rfl ?_
                      refine wpList_store_sep HS.out 1 rfl (TL t4) 47 _ _ rfl rfl rfl rfl (by rw [T4.out.len]; rfl) (by rw [T4.out.len]; kernel_rfl) T4.out.one (fun wA hA _ => ?_)
                      have HS := Lib.hid hA; clear hA
                      simp only [List.set_cons_zero, List.set_cons_succ] at HS
                      go_wp2_with fail
                      refine step_hard (N := 0) 11 (by kernel_rfl) rfl ?_
                      refine wpList_store_sep HS.out 0 rfl [.int .u64 ev, .int .u64 es] 41 _ _ rfl rfl rfl rfl rfl (by kernel_rfl) HO4 (fun wA hA _ => ?_)
                      have HS := Lib.hid hA; clear hA
                      simp only [List.set_cons_zero, List.set_cons_succ] at HS
                      go_wp2_with fail
                      refine step_done (by kernel_rfl) ?_
                      exact HR X2 Y2 _ HS.out
                  · go_wp2_with fail
                    have hf := Fr.alloc HF.out (.cells ([.int .u64 0, .int .u64 0]).toArray 41)
                    have hS := HS.out.new 41 ([.int .u64 0, .int .u64 0])
                    have HF := Lib.hid hf; have HS := Lib.hid hS; clear hf hS
                    refine ⟨⟨⟨_, (by exact HF.out)⟩, rfl⟩, ?_⟩
                    generalize World.alloc _ _ = wn8 at HF HS ⊢
                    generalize w9.heap.size = Y2 at HS ⊢
                    refine step_two (N := 6) 4 8 (by kernel_rfl) rfl rfl ?_ ?_
                    · go_wp2_with fail
                      refine (HLD2.out _ HS.out.fr).mono ?_
                      rintro e w9 ⟨rfl, hf⟩
                      have HF := Lib.hid (HF.out.trans hf)
                      have HS := Lib.hid (HS.out.fr0 hf); clear hf
                      go_wp2_with fail
                      refine ⟨⟨⟨_, (by exact HF.out)⟩, rfl⟩, ?_⟩
                      refine step_pures (N := 3) [5, 6, 7] (by kernel_rfl) ?_
                      simp only [theOps, nthOp, List.map_cons, List.map_nil, Array.getD_eq_getD_getElem?, List.getElem?_toArray, List.getElem?_cons_succ, List.getElem?_cons_zero, Option.getD_some]
                      repeat (first | go_big_quiet_step (fail) | quiet_step (fail))
                      refine wpQuiet_nil ?_
                      refine step_keep (N := 2) 8 (by kernel_rfl) rfl ?_
                      go_wp2_with fail
                      have hf := Fr.alloc HF.out (.cells ([.slice none 0 0, .int .i64 0, .int .i64 0, .int .i64 0, .int .u64 0, .int .u64 0, .int .u64 0, .int .u64 0, .bool false]).toArray 47)
                      have hS := HS.out.new 47 ([.slice none 0 0, .int .i64 0, .int .i64 0, .int .i64 0, .int .u64 0, .int .u64 0, .int .u64 0, .int .u64 0, .bool false])
                      have HF := Lib.hid hf; have HS := Lib.hid hS; clear hf hS
                      refine ⟨⟨⟨_, (by exact HF.out)⟩, rfl⟩, ?_⟩
                      generalize World.alloc _ _ = wn9 at HF HS ⊢
                      generalize w9.heap.size = X2 at HS ⊢
                      have HS := Lib.hid (HS.out.sub (Ts' := [_, _, _, _, _, _, _, _, _] ) [1, 0, 2, 3, 4, 5, 6, 7, 8] rfl (by decide))
                      refine step_hard (N := 1) 10 (by kernel_rfl) rfl ?_
                      refine wpList_store_sep HS.out 1 rfl (TL t4) 47 _ _ rfl rfl rfl rfl (by rw [T4.out.len]; rfl) (by rw [T4.out.len]; kernel_rfl) T4.out.one (fun wA hA _ => ?_)
                      have HS := Lib.hid hA; clear hA
                      simp only [List.set_cons_zero, List.set_cons_succ] at HS
                      go_wp2_with fail
                      refine step_hard (N := 0) 11 (by kernel_rfl) rfl ?_
                      refine wpList_store_sep HS.out 0 rfl [.int .u64 ev, .int .u64 es] 41 _ _ rfl rfl rfl rfl rfl (by kernel_rfl) HO4 (fun wA hA _ => ?_)
                      have HS := Lib.hid hA; clear hA
                      simp only [List.set_cons_zero, List.set_cons_succ] at HS
                      go_wp2_with fail
                      refine step_done (by kernel_rfl) ?_
                      exact HR X2 Y2 _ HS.out
                    · go_wp2_with fail
                      have hf := Fr.alloc HF.out (.cells ([.slice none 0 0, .int .i64 0, .int .i64 0, .int .i64 0, .int .u64 0, .int .u64 0, .int .u64 0, .int .u64 0, .bool false]).toArray 47)
                      have hS := HS.out.new 47 ([.slice none 0 0, .int .i64 0, .int .i64 0, .int .i64 0, .int .u64 0, .int .u64 0, .int .u64 0, .int .u64 0, .bool false])
                      have HF := Lib.hid hf; have HS := Lib.hid hS; clear hf hS
                      refine ⟨⟨⟨_, (by exact HF.out)⟩, rfl⟩, ?_⟩
                      generalize World.alloc _ _ = wn10 at HF HS ⊢
                      generalize wn8.heap.size = X2 at HS ⊢
                      refine step_keep (N := 5) 4 (by kernel_rfl) rfl ?_
                      go_wp2_with fail
                      refine (HLD2.out _ HS.out.fr).mono ?_
                      rintro e w9 ⟨rfl, hf⟩
                      have HF := Lib.hid (HF.out.trans hf)
                      have HS := Lib.hid (HS.out.fr0 hf); clear hf
                      go_wp2_with fail
                      refine ⟨⟨⟨_, (by exact HF.out)⟩, rfl⟩, ?_⟩
                      refine step_pures (N := 2) [5, 6, 7] (by kernel_rfl) ?_
                      simp only [theOps, nthOp, List.map_cons, List.map_nil, Array.getD_eq_getD_getElem?, List.getElem?_toArray, List.getElem?_cons_succ, List.getElem?_cons_zero, Option.getD_some]
                      repeat (first | go_big_quiet_step (fail) | quiet_step (fail))
                      refine wpQuiet_nil ?_
                      have HS := Lib.hid (HS.out.sub (Ts' := [_, _, _, _, _, _, _, _, _] ) [1, 0, 2, 3, 4, 5, 6, 7, 8] rfl (by decide))
                      refine step_hard (N := 1) 10 (by kernel_rfl) rfl ?_
                      refine wpList_store_sep HS.out 1 rfl (TL t4) 47 _ _ rfl rfl rfl rfl (by rw [T4.out.len]; rfl) (by rw [T4.out.len]; kernel_rfl) T4.out.one (fun wA hA _ => ?_)
                      have HS := Lib.hid hA; clear hA
                      simp only [List.set_cons_zero, List.set_cons_succ] at HS
                      go_wp2_with fail
                      refine step_hard (N := 0) 11 (by kernel_rfl) rfl ?_
                      refine wpList_store_sep HS.out 0 rfl [.int .u64 ev, .int .u64 es] 41 _ _ rfl rfl rfl rfl rfl (by kernel_rfl) HO4 (fun wA hA _ => ?_)
                      have HS := Lib.hid hA; clear hA
                      simp only [List.set_cons_zero, List.set_cons_succ] at HS
                      go_wp2_with fail
                      refine step_done (by kernel_rfl) ?_
                      exact HR X2 Y2 _ HS.out
                · go_wp2_with fail
                  have hf := Fr.alloc HF.out (.cells ([.slice none 0 0, .int .i64 0, .int .i64 0, .int .i64 0, .int .u64 0, .int .u64 0, .int .u64 0, .int .u64 0, .bool false]).toArray 47)
                  have hS := HS.out.new 47 ([.slice none 0 0, .int .i64 0, .int .i64 0, .int .i64 0, .int .u64 0, .int .u64 0, .int .u64 0, .int .u64 0, .bool false])
                  have HF := Lib.hid hf; have HS := Lib.hid hS; clear hf hS
                  refine ⟨⟨⟨_, (by exact HF.out)⟩, rfl⟩, ?_⟩
                  generalize World.alloc _ _ = wn11 at HF HS ⊢
                  generalize wd.heap.size = X2 at HS ⊢
                  refine step_two (N := 7) 3 9 (by kernel_rfl) rfl rfl ?_ ?_
                  · go_wp2_with fail
                    refine (HA15.out _).mono ?_
                    rintro e w9 ⟨rfl, hf⟩
                    have HF := Lib.hid (HF.out.trans hf)
                    have HS := Lib.hid (HS.out.fr0 hf); clear hf
                    go_wp2_with fail
                    refine ⟨⟨⟨_, (by exact HF.out)⟩, rfl⟩, ?_⟩
                    refine step_two (N := 6) 4 9 (by kernel_rfl) rfl rfl ?_ ?_
                    · go_wp2_with fail
                      refine (HLD2.out _ HS.out.fr).mono ?_
                      rintro e w9 ⟨rfl, hf⟩
                      have HF := Lib.hid (HF.out.trans hf)
                      have HS := Lib.hid (HS.out.fr0 hf); clear hf
                      go_wp2_with fail
                      refine ⟨⟨⟨_, (by exact HF.out)⟩, rfl⟩, ?_⟩
                      refine step_pures (N := 3) [5, 6, 7] (by kernel_rfl) ?_
                      simp only [theOps, nthOp, List.map_cons, List.map_nil, Array.getD_eq_getD_getElem?, List.getElem?_toArray, List.getElem?_cons_succ, List.getElem?_cons_zero, Option.getD_some]
                      repeat (first | go_big_quiet_step (fail) | quiet_step (fail))
                      refine wpQuiet_nil ?_
                      refine step_keep (N := 2) 9 (by kernel_rfl) rfl ?_
                      go_wp2_with fail
                      have hf := Fr.alloc HF.out (.cells ([.int .u64 0, .int .u64 0]).toArray 41)
                      have hS := HS.out.new 41 ([.int .u64 0, .int .u64 0])
                      have HF := Lib.hid hf; have HS := Lib.hid hS; clear hf hS
                      refine ⟨⟨⟨_, (by exact HF.out)⟩, rfl⟩, ?_⟩
                      generalize World.alloc _ _ = wn12 at HF HS ⊢
                      generalize w9.heap.size = Y2 at HS ⊢
                      refine step_hard (N := 1) 10 (by kernel_rfl) rfl ?_
                      refine wpList_store_sep HS.out 1 rfl (TL t4) 47 _ _ rfl rfl rfl rfl (by rw [T4.out.len]; rfl) (by rw [T4.out.len]; kernel_rfl) T4.out.one (fun wA hA _ => ?_)
                      have HS := Lib.hid hA; clear hA
                      simp only [List.set_cons_zero, List.set_cons_succ] at HS
                      go_wp2_with fail
                      refine step_hard (N := 0) 11 (by kernel_rfl) rfl ?_
                      refine wpList_store_sep HS.out 0 rfl [.int .u64 ev, .int .u64 es] 41 _ _ rfl rfl rfl rfl rfl (by kernel_rfl) HO4 (fun wA hA _ => ?_)
                      have HS := Lib.hid hA; clear hA
                      simp only [List.set_cons_zero, List.set_cons_succ] at HS
                      go_wp2_with fail
                      refine step_done (by kernel_rfl) ?_
                      exact HR X2 Y2 _ HS.out
                    · go_wp2_with fail
                      have hf := Fr.alloc HF.out (.cells ([.int .u64 0, .int .u64 0]).toArray 41)
                      have hS := HS.out.new 41 ([.int .u64 0, .int .u64 0])
                      have HF := Lib.hid hf; have HS := Lib.hid hS; clear hf hS
                      refine ⟨⟨⟨_, (by exact HF.out)⟩, rfl⟩, ?_⟩
                      generalize World.alloc _ _ = wn13 at HF HS ⊢
                      generalize w9.heap.size = Y2 at HS ⊢
                      refine step_keep (N := 5) 4 (by kernel_rfl) rfl ?_
                      go_wp2_with fail
                      refine (HLD2.out _ HS.out.fr).mono ?_
                      rintro e w9 ⟨rfl, hf⟩
                      have HF := Lib.hid (HF.out.trans hf)
                      have HS := Lib.hid (HS.out.fr0 hf); clear hf
                      go_wp2_with fail
                      refine ⟨⟨⟨_, (by exact HF.out)⟩, rfl⟩, ?_⟩
                      refine step_pures (N := 2) [5, 6, 7] (by kernel_rfl) ?_
                      simp only [theOps, nthOp, List.map_cons, List.map_nil, Array.getD_eq_getD_getElem?, List.getElem?_toArray, List.getElem?_cons_succ, List.getElem?_cons_zero, Option.getD_some]
                      repeat (first | go_big_quiet_step (fail) | quiet_step (fail))
                      refine wpQuiet_nil ?_
                      refine step_hard (N := 1) 10 (by kernel_rfl) rfl ?_
                      refine wpList_store_sep HS.out 1 rfl (TL t4) 47 _ _ rfl rfl rfl rfl (by rw [T4.out.len]; rfl) (by rw [T4.out.len]; kernel_rfl) T4.out.one (fun wA hA _ => ?_)
                      have HS := Lib.hid hA; clear hA
                      simp only [List.set_cons_zero, List.set_cons_succ] at HS
                      go_wp2_with fail
                      refine step_hard (N := 0) 11 (by kernel_rfl) rfl ?_
                      refine wpList_store_sep HS.out 0 rfl [.int .u64 ev, .int .u64 es] 41 _ _ rfl rfl rfl rfl rfl (by kernel_rfl) HO4 (fun wA hA _ => ?_)
                      have HS := Lib.hid hA; clear hA
                      simp only [List.set_cons_zero, List.set_cons_succ] at HS
                      go_wp2_with fail
                      refine step_done (by kernel_rfl) ?_
                      exact HR X2 Y2 _ HS.out
                  · go_wp2_with fail
                    have hf := Fr.alloc HF.out (.cells ([.int .u64 0, .int .u64 0]).toArray 41)
                    have hS := HS.out.new 41 ([.int .u64 0, .int .u64 0])
                    have HF := Lib.hid hf; have HS := Lib.hid hS; clear hf hS
                    refine ⟨⟨⟨_, (by exact HF.out)⟩, rfl⟩, ?_⟩
                    generalize World.alloc _ _ = wn14 at HF HS ⊢
                    generalize wn11.heap.size = Y2 at HS ⊢
                    refine step_keep (N := 6) 3 (by kernel_rfl) rfl ?_
                    go_wp2_with fail
                    refine (HA15.out _).mono ?_
                    rintro e w9 ⟨rfl, hf⟩
                    have HF := Lib.hid (HF.out.trans hf)
                    have HS := Lib.hid (HS.out.fr0 hf); clear hf
                    go_wp2_with fail
                    refine ⟨⟨⟨_, (by exact HF.out)⟩, rfl⟩, ?_⟩
                    refine step_keep (N := 5) 4 (by kernel_rfl) rfl ?_
                    go_wp2_with fail
                    refine (HLD2.out _ HS.out.fr).mono ?_
                    rintro e w9 ⟨rfl, hf⟩
                    have HF := Lib.hid (HF.out.trans hf)
                    have HS := Lib.hid (HS.out.fr0 hf); clear hf
                    go_wp2_with fail
                    refine ⟨⟨⟨_, (by exact HF.out)⟩, rfl⟩, ?_⟩
                    refine step_pures (N := 2) [5, 6, 7] (by kernel_rfl) ?_
                    simp only [theOps, nthOp, List.map_cons, List.map_nil, Array.getD_eq_getD_getElem?, List.getElem?_toArray, List.getElem?_cons_succ, List.getElem?_cons_zero, Option.getD_some]
                    repeat (first | go_big_quiet_step (fail) | quiet_step (fail))
                    refine wpQuiet_nil ?_
                    refine step_hard (N := 1) 10 (by kernel_rfl) rfl ?_
                    refine wpList_store_sep HS.out 1 rfl (TL t4) 47 _ _ rfl rfl rfl rfl (by rw [T4.out.len]; rfl) (by rw [T4.out.len]; kernel_rfl) T4.out.one (fun wA hA _ => ?_)
                    have HS := Lib.hid hA; clear hA
                    simp only [List.set_cons_zero, List.set_cons_succ] at HS
                    go_wp2_with fail
                    refine step_hard (N := 0) 11 (by kernel_rfl) rfl ?_
                    refine wpList_store_sep HS.out 0 rfl [.int .u64 ev, .int .u64 es] 41 _ _ rfl rfl rfl rfl rfl (by kernel_rfl) HO4 (fun wA hA _ => ?_)
                    have HS := Lib.hid hA; clear hA
                    simp only [List.set_cons_zero, List.set_cons_succ] at HS
                    go_wp2_with fail
                    refine step_done (by kernel_rfl) ?_
                    exact HR X2 Y2 _ HS.out
                · go_wp2_with fail
                  have hf := Fr.alloc HF.out (.cells ([.int .u64 0, .int .u64 0]).toArray 41)
                  have hS := HS.out.new 41 ([.int .u64 0, .int .u64 0])
                  have HF := Lib.hid hf; have HS := Lib.hid hS; clear hf hS
                  refine ⟨⟨⟨_, (by exact HF.out)⟩, rfl⟩, ?_⟩
                  generalize World.alloc _ _ = wn15 at HF HS ⊢
                  generalize wd.heap.size = Y2 at HS ⊢
                  refine step_two (N := 7) 3 8 (by kernel_rfl) rfl rfl ?_ ?_
                  · go_wp2_with fail
                    refine (HA15.out _).mono ?_
                    rintro e w9 ⟨rfl, hf⟩
                    have HF := Lib.hid (HF.out.trans hf)
                    have HS := Lib.hid (HS.out.fr0 hf); clear hf
                    go_wp2_with fail
                    refine ⟨⟨⟨_, (by exact HF.out)⟩, rfl⟩, ?_⟩
                    refine step_two (N := 6) 4 8 (by kernel_rfl) rfl rfl ?_ ?_
                    · go_wp2_with fail
                      refine (HLD2.out _ HS.out.fr).mono ?_
                      rintro e w9 ⟨rfl, hf⟩
                      have HF := Lib.hid (HF.out.trans hf)
                      have HS := Lib.hid (HS.out.fr0 hf); clear hf
                      go_wp2_with fail
                      refine ⟨⟨⟨_, (by exact HF.out)⟩, rfl⟩, ?_⟩
                      refine step_pures (N := 3) [5, 6, 7] (by kernel_rfl) ?_
                      simp only [theOps, nthOp, List.map_cons, List.map_nil, Array.getD_eq_getD_getElem?, List.getElem?_toArray, List.getElem?_cons_succ, List.getElem?_cons_zero, Option.getD_some]
                      repeat (first | go_big_quiet_step (fail) | quiet_step (fail))
                      refine wpQuiet_nil ?_
                      refine step_keep (N := 2) 8 (by kernel_rfl) rfl ?_
                      go_wp2_with fail
                      have hf := Fr.alloc HF.out (.cells ([.slice none 0 0, .int .i64 0, .int .i64 0, .int .i64 0, .int .u64 0, .int .u64 0, .int .u64 0, .int .u64 0, .bool false]).toArray 47)
                      have hS := HS.out.new 47 ([.slice none 0 0, .int .i64 0, .int .i64 0, .int .i64 0, .int .u64 0, .int .u64 0, .int .u64 0, .int .u64 0, .bool false])
                      have HF := Lib.hid hf; have HS := Lib.hid hS; clear hf hS
                      refine ⟨⟨⟨_, (by exact HF.out)⟩, rfl⟩, ?_⟩
                      generalize World.alloc _ _ = wn16 at HF HS ⊢
                      generalize w9.heap.size = X2 at HS ⊢
                      have HS := Lib.hid (HS.out.sub (Ts' := [_, _, _, _, _, _, _, _, _] ) [1, 0, 2, 3, 4, 5, 6, 7, 8] rfl (by decide))
                      refine step_hard (N := 1) 10 (by kernel_rfl) rfl ?_
                      refine wpList_store_sep HS.out 1 rfl (TL t4) 47 _ _ rfl rfl rfl rfl (by rw [T4.out.len]; rfl) (by rw [T4.out.len]; kernel_rfl) T4.out.one (fun wA hA _ => ?_)
                      have HS := Lib.hid hA; clear hA
                      simp only [List.set_cons_zero, List.set_cons_succ] at HS
                      go_wp2_with fail
                      refine step_hard (N := 0) 11 (by kernel_rfl) rfl ?_
                      refine wpList_store_sep HS.out 0 rfl [.int .u64 ev, .int .u64 es] 41 _ _ rfl rfl rfl rfl rfl (by kernel_rfl) HO4 (fun wA hA _ => ?_)
                      have HS := Lib.hid hA; clear hA
                      simp only [List.set_cons_zero, List.set_cons_succ] at HS
                      go_wp2_with fail
                      refine step_done (by kernel_rfl) ?_
                      exact HR X2 Y2 _ HS.out
                    · go_wp2_with fail
                      have hf := Fr.alloc HF.out (.cells ([.slice none 0 0, .int .i64 0, .int .i64 0, .int .i64 0, .int .u64 0, .int .u64 0, .int .u64 0, .int .u64 0, .bool false]).toArray 47)
                      have hS := HS.out.new 47 ([.slice none 0 0, .int .i64 0, .int .i64 0, .int .i64 0, .int .u64 0, .int .u64 0, .int .u64 0, .int .u64 0, .bool false])
                      have HF := Lib.hid hf; have HS := Lib.hid hS; clear hf hS
                      refine ⟨⟨⟨_, (by exact HF.out)⟩, rfl⟩, ?_⟩
                      generalize World.alloc _ _ = wn17 at HF HS ⊢
                      generalize w9.heap.size = X2 at HS ⊢
                      refine step_keep (N := 5) 4 (by kernel_rfl) rfl ?_
                      go_wp2_with fail
                      refine (HLD2.out _ HS.out.fr).mono ?_
                      rintro e w9 ⟨rfl, hf⟩
                      have HF := Lib.hid (HF.out.trans hf)
                      have HS := Lib.hid (HS.out.fr0 hf); clear hf
                      go_wp2_with fail
                      refine ⟨⟨⟨_, (by exact HF.out)⟩, rfl⟩, ?_⟩
                      refine step_pures (N := 2) [5, 6, 7] (by kernel_rfl) ?_
                      simp only [theOps, nthOp, List.map_cons, List.map_nil, Array.getD_eq_getD_getElem?, List.getElem?_toArray, List.getElem?_cons_succ, List.getElem?_cons_zero, Option.getD_some]
                      repeat (first | go_big_quiet_step (fail) | quiet_step (fail))
                      refine wpQuiet_nil ?_
                      have HS := Lib.hid (HS.out.sub (Ts' := [_, _, _, _, _, _, _, _, _] ) [1, 0, 2, 3, 4, 5, 6, 7, 8] rfl (by decide))
                      refine step_hard (N := 1) 10 (by kernel_rfl) rfl ?_
                      refine wpList_store_sep HS.out 1 rfl (TL t4) 47 _ _ rfl rfl rfl rfl (by rw [T4.out.len]; rfl) (by rw [T4.out.len]; kernel_rfl) T4.out.one (fun wA hA _ => ?_)
                      have HS := Lib.hid hA; clear hA
                      simp only [List.set_cons_zero, List.set_cons_succ] at HS
                      go_wp2_with fail
                      refine step_hard (N := 0) 11 (by kernel_rfl) rfl ?_
                      refine wpList_store_sep HS.out 0 rfl [.int .u64 ev, .int .u64 es] 41 _ _ rfl rfl rfl rfl rfl (by kernel_rfl) HO4 (fun wA hA _ => ?_)
                      have HS := Lib.hid hA; clear hA
                      simp only [List.set_cons_zero, List.set_cons_succ] at HS
                      go_wp2_with fail
                      refine step_done (by kernel_rfl) ?_
                      exact HR X2 Y2 _ HS.out
                  · go_wp2_with fail
                    have hf := Fr.alloc HF.out (.cells ([.slice none 0 0, .int .i64 0, .int .i64 0, .int .i64 0, .int .u64 0, .int .u64 0, .int .u64 0, .int .u64 0, .bool false]).toArray 47)
                    have hS := HS.out.new 47 ([.slice none 0 0, .int .i64 0, .int .i64 0, .int .i64 0, .int .u64 0, .int .u64 0, .int .u64 0, .int .u64 0, .bool false])
                    have HF := Lib.hid hf; have HS := Lib.hid hS; clear hf hS
                    refine ⟨⟨⟨_, (by exact HF.out)⟩, rfl⟩, ?_⟩
                    generalize World.alloc _ _ = wn18 at HF HS ⊢
                    generalize wn15.heap.size = X2 at HS ⊢
                    refine step_keep (N := 6) 3 (by kernel_rfl) rfl ?_
                    go_wp2_with fail
                    refine (HA15.out _).mono ?_
                    rintro e w9 ⟨rfl, hf⟩
                    have HF := Lib.hid (HF.out.trans hf)
                    have HS := Lib.hid (HS.out.fr0 hf); clear hf
                    go_wp2_with fail
                    refine ⟨⟨⟨_, (by exact HF.out)⟩, rfl⟩, ?_⟩
                    refine step_keep (N := 5) 4 (by kernel_rfl) rfl ?_
                    go_wp2_with fail
                    refine (HLD2.out _ HS.out.fr).mono ?_
                    rintro e w9 ⟨rfl, hf⟩
                    have HF := Lib.hid (HF.out.trans hf)
                    have HS := Lib.hid (HS.out.fr0 hf); clear hf
                    go_wp2_with fail
                    refine ⟨⟨⟨_, (by exact HF.out)⟩, rfl⟩, ?_⟩
                    refine step_pures (N := 2) [5, 6, 7] (by kernel_rfl) ?_
                    simp only [theOps, nthOp, List.map_cons, List.map_nil, Array.getD_eq_getD_getElem?, List.getElem?_toArray, List.getElem?_cons_succ, List.getElem?_cons_zero, Option.getD_some]
                    repeat (first | go_big_quiet_step (fail) | quiet_step (fail))
                    refine wpQuiet_nil ?_
                    have HS := Lib.hid (HS.out.sub (Ts' := [_, _, _, _, _, _, _, _, _] ) [1, 0, 2, 3, 4, 5, 6, 7, 8] rfl (by decide))
                    refine step_hard (N := 1) 10 (by kernel_rfl) rfl ?_
                    refine wpList_store_sep HS.out 1 rfl (TL t4) 47 _ _ rfl rfl rfl rfl (by rw [T4.out.len]; rfl) (by rw [T4.out.len]; kernel_rfl) T4.out.one (fun wA hA _ => ?_)
                    have HS := Lib.hid hA; clear hA
                    simp only [List.set_cons_zero, List.set_cons_succ] at HS
                    go_wp2_with fail
                    refine step_hard (N := 0) 11 (by kernel_rfl) rfl ?_
                    refine wpList_store_sep HS.out 0 rfl [.int .u64 ev, .int .u64 es] 41 _ _ rfl rfl rfl rfl rfl (by kernel_rfl) HO4 (fun wA hA _ => ?_)
                    have HS := Lib.hid hA; clear hA
                    simp only [List.set_cons_zero, List.set_cons_succ] at HS
                    go_wp2_with fail
                    refine step_done (by kernel_rfl) ?_
                    exact HR X2 Y2 _ HS.out
              · clear HS HF HA15 HLD2
                intro X2 Y2 wF hS
                have HS := Lib.hid hS; clear hS
                have hl4 := T4.out.len
                have ho4 := T4.out.one
                have hlk := T3.out.len
                by_cases hn4 : t4.need = true
                · have hF : FZ = (acc, t4, 0) := by rw [← HEQ.out, if_pos hn4]
                  have HZF := HZ4.out
                  rw [hF] at HZF
                  have HZF := Lib.hid HZF
                  have hv2 : (Value.slice la k lc).oneCell' = true := rfl
                  have hN2 := HACC.out
                  clear hF
                  go_wp2_with (first | (refine wpList_load_any 47 _ rfl rfl _ 0 rfl (TL t4) _ (HS.out.blk 1 rfl).range Try.underlying47 rfl (by rw [hl4]; kernel_rfl) ?_) | (refine wpList_store_sep HS.out 5 rfl (TL t4) 47 _ _ rfl rfl rfl rfl (by rw [hl4, hlk]) (by rw [hl4]; kernel_rfl) ho4 (fun wA hA _ => ?_); have e0 := (hA.blk 0 rfl).cell 0; have e1 := (hA.blk 0 rfl).cell 1; have e0l := (hA.blk 0 rfl).lt; have n8 := ((hA.blk 5 rfl).cell 8).trans T4.out.need; have n8l := (hA.blk 5 rfl).lt; have r7 := ((hA.blk 2 rfl).cell 7).trans (HRQ.out.lmb _ _ _ _ _ _); have rl := (hA.blk 2 rfl).lt; simp only [List.set_cons_zero, List.set_cons_succ, List.getElem?_cons_zero, List.getElem?_cons_succ] at e0 e1; rw [hn4] at n8; have HX := Lib.hid hA; have HB := Lib.hid (hA.new 22 [.int .u64 ev]); clear hA) | (fail))
                  have HS := Lib.hid HX.out.tail.tail
                  clear e0 e1 e0l n8 n8l r7 rl HB HX hn4
                  -- 28: the region, RQ (.slice ra u rc) (.slice la k lc) wt NL wt NL: the pool's cells, TL t4: the tape's cells, T4: the tape's facts, 0: how far, HZF.out: what remains
                  have hmp := (HS.out.blk 0 rfl).drew
                  have hmt := (HS.out.blk 3 rfl).drew
                  have hlp : (RQ (.slice ra u rc) (.slice la k lc) wt NL wt NL).length = 12 := HRQ.out.len _ _ _ _ _ _
                  have hlt := (T4).out.len
                  have hop : ∀ z9 ∈ (RQ (.slice ra u rc) (.slice la k lc) wt NL wt NL), z9.oneCell' = true := HRQ.out.one _ _ hv1 hv2 _ _ _ _
                  refine wp_region_fr [(1, [0, 1]), (2, [2]), (3, [3]), (0, [4])] [w.heap.size + 1 + 1] (by kernel_rfl) (by kernel_rfl) ?_
                  simp only [theOps, nthOp, List.map_cons, List.map_nil, Array.getD_eq_getD_getElem?, List.getElem?_toArray, List.getElem?_cons_succ, List.getElem?_cons_zero, Option.getD_some]
                  refine wpSegs_soft ?_
                  refine wpQuiet_load_mid 65 _ (w.heap.size + 1 + 1 + 1 + 1) 0 (RQ (.slice ra u rc) (.slice la k lc) wt NL wt NL) _ rfl rfl rfl (rangeAt_after hmp (by simp <;> omega)) Try.underlying65 rfl (by rw [hlp]; kernel_rfl) ?_
                  simp only [Act.put, List.setIfInBounds_toArray, List.set_cons_zero, List.set_cons_succ]
                  refine wpQuiet_load_mid 47 _ (w.heap.size + 1) 0 (TL t4) _ rfl rfl rfl (rangeAt_after hmt (by simp <;> omega)) Try.underlying47 rfl (by rw [hlt]; kernel_rfl) ?_
                  simp only [Act.put, List.setIfInBounds_toArray, List.set_cons_zero, List.set_cons_succ]
                  repeat (first | go_big_quiet_step (fail) | quiet_step (fail))
                  refine wpQuiet_nil ?_
                  refine wpSegs_keep ?_
                  refine wpList_store_sep HS.out.drew 2 rfl (RQ (.slice ra u rc) (.slice la k lc) wt NL wt NL) 65 _ _ rfl rfl rfl rfl (by rw [hlp]; rfl) (by rw [hlp]; kernel_rfl) hop (fun wC hC fC => ?_)
                  simp only [List.set_cons_zero, List.set_cons_succ] at hC
                  have HC := Lib.hid hC; have HFC := Lib.hid fC
                  clear hC fC
                  go_wp2_with fail
                  refine ⟨⟨⟨_, (by exact HFC.out)⟩, rfl⟩, ?_⟩
                  refine wpSegs_hard ?_
                  refine wpList_store_sep HC.out 1 rfl (TL t4) 47 _ _ rfl rfl rfl rfl (by rw [hlt]; rfl) (by rw [hlt]; kernel_rfl) (T4).out.one (fun wD hD _ => ?_)
                  simp only [List.set_cons_zero, List.set_cons_succ] at hD
                  have HDD := Lib.hid hD; clear hD
                  go_wp2_with fail
                  repeat ((first | refine wpSegs_soft ?_ | refine wpSegs_pure ?_ | refine wpSegs_here ?_); (repeat (first | go_big_quiet_step (fail) | quiet_step (fail))); refine wpQuiet_nil ?_)
                  refine wpSegs_done ?_
                  go_wp2_with fail
                  exact bodyPost_ret (v := .tuple #[.agg (RQ (.slice ra u rc) (.slice la k lc) wt NL wt NL).toArray, .agg (TL t4).toArray, .int .i64 0]) (res_cct8 Try.results28 rfl rfl rfl (HDD.out.blk 2 rfl).range Try.underlying65 rfl (by rw [hlp]; kernel_rfl) (HDD.out.blk 1 rfl).range Try.underlying47 rfl (by rw [hlt]; kernel_rfl)) rfl (HRES.out _ _ _ _ _ _ _ hv1 hv2 (HZF.out) HXL.out hN2 _ HDD.out.tail.tail.tail.tail.tail)
                have hn4 : t4.need = false := by simpa using hn4
                by_cases hs4 : seq < es
                · have hF : FZ = (acc, t4, 2) := by rw [← HEQ.out, if_neg (by rw [hn4]; simp), if_pos hs4]
                  have HZF := HZ4.out
                  rw [hF] at HZF
                  have HZF := Lib.hid HZF
                  have hv2 : (Value.slice la k lc).oneCell' = true := rfl
                  have hN2 := HACC.out
                  have d4 : decide (es > seq) = true := by simpa using hs4
                  clear hF hs4
                  go_wp2_with (first | (refine wpList_load_any 47 _ rfl rfl _ 0 rfl (TL t4) _ (HS.out.blk 1 rfl).range Try.underlying47 rfl (by rw [hl4]; kernel_rfl) ?_) | (refine wpList_store_sep HS.out 5 rfl (TL t4) 47 _ _ rfl rfl rfl rfl (by rw [hl4, hlk]) (by rw [hl4]; kernel_rfl) ho4 (fun wA hA _ => ?_); have e0 := (hA.blk 0 rfl).cell 0; have e1 := (hA.blk 0 rfl).cell 1; have e0l := (hA.blk 0 rfl).lt; have n8 := ((hA.blk 5 rfl).cell 8).trans T4.out.need; have n8l := (hA.blk 5 rfl).lt; have r7 := ((hA.blk 2 rfl).cell 7).trans (HRQ.out.lmb _ _ _ _ _ _); have rl := (hA.blk 2 rfl).lt; simp only [List.set_cons_zero, List.set_cons_succ, List.getElem?_cons_zero, List.getElem?_cons_succ] at e0 e1; rw [hn4] at n8; have HX := Lib.hid hA; have HB := Lib.hid (hA.new 22 [.int .u64 ev]); clear hA) | (fail))
                  have HS := Lib.hid HX.out.tail.tail
                  clear e0 e1 e0l n8 n8l r7 rl HB HX hn4
                  -- 30: the region, RQ (.slice ra u rc) (.slice la k lc) wt NL wt NL: the pool's cells, TL t4: the tape's cells, T4: the tape's facts, 2: how far, HZF.out: what remains
                  have hmp := (HS.out.blk 0 rfl).drew
                  have hmt := (HS.out.blk 3 rfl).drew
                  have hlp : (RQ (.slice ra u rc) (.slice la k lc) wt NL wt NL).length = 12 := HRQ.out.len _ _ _ _ _ _
                  have hlt := (T4).out.len
                  have hop : ∀ z9 ∈ (RQ (.slice ra u rc) (.slice la k lc) wt NL wt NL), z9.oneCell' = true := HRQ.out.one _ _ hv1 hv2 _ _ _ _
                  refine wp_region_fr [(1, [0, 1]), (2, [2]), (3, [3]), (0, [4])] [w.heap.size + 1 + 1] (by kernel_rfl) (by kernel_rfl) ?_
                  simp only [theOps, nthOp, List.map_cons, List.map_nil, Array.getD_eq_getD_getElem?, List.getElem?_toArray, List.getElem?_cons_succ, List.getElem?_cons_zero, Option.getD_some]
                  refine wpSegs_soft ?_
                  refine wpQuiet_load_mid 65 _ (w.heap.size + 1 + 1 + 1 + 1) 0 (RQ (.slice ra u rc) (.slice la k lc) wt NL wt NL) _ rfl rfl rfl (rangeAt_after hmp (by simp <;> omega)) Try.underlying65 rfl (by rw [hlp]; kernel_rfl) ?_
                  simp only [Act.put, List.setIfInBounds_toArray, List.set_cons_zero, List.set_cons_succ]
                  refine wpQuiet_load_mid 47 _ (w.heap.size + 1) 0 (TL t4) _ rfl rfl rfl (rangeAt_after hmt (by simp <;> omega)) Try.underlying47 rfl (by rw [hlt]; kernel_rfl) ?_
                  simp only [Act.put, List.setIfInBounds_toArray, List.set_cons_zero, List.set_cons_succ]
                  repeat (first | go_big_quiet_step (fail) | quiet_step (fail))
                  refine wpQuiet_nil ?_
                  refine wpSegs_keep ?_
                  refine wpList_store_sep HS.out.drew 2 rfl (RQ (.slice ra u rc) (.slice la k lc) wt NL wt NL) 65 _ _ rfl rfl rfl rfl (by rw [hlp]; rfl) (by rw [hlp]; kernel_rfl) hop (fun wC hC fC => ?_)
                  simp only [List.set_cons_zero, List.set_cons_succ] at hC
                  have HC := Lib.hid hC; have HFC := Lib.hid fC
                  clear hC fC
                  go_wp2_with fail
                  refine ⟨⟨⟨_, (by exact HFC.out)⟩, rfl⟩, ?_⟩
                  refine wpSegs_hard ?_
                  refine wpList_store_sep HC.out 1 rfl (TL t4) 47 _ _ rfl rfl rfl rfl (by rw [hlt]; rfl) (by rw [hlt]; kernel_rfl) (T4).out.one (fun wD hD _ => ?_)
                  simp only [List.set_cons_zero, List.set_cons_succ] at hD
                  have HDD := Lib.hid hD; clear hD
                  go_wp2_with fail
                  repeat ((first | refine wpSegs_soft ?_ | refine wpSegs_pure ?_ | refine wpSegs_here ?_); (repeat (first | go_big_quiet_step (fail) | quiet_step (fail))); refine wpQuiet_nil ?_)
                  refine wpSegs_done ?_
                  go_wp2_with fail
                  exact bodyPost_ret (v := .tuple #[.agg (RQ (.slice ra u rc) (.slice la k lc) wt NL wt NL).toArray, .agg (TL t4).toArray, .int .i64 2]) (res_cct8 Try.results28 rfl rfl rfl (HDD.out.blk 2 rfl).range Try.underlying65 rfl (by rw [hlp]; kernel_rfl) (HDD.out.blk 1 rfl).range Try.underlying47 rfl (by rw [hlt]; kernel_rfl)) rfl (HRES.out _ _ _ _ _ _ _ hv1 hv2 (HZF.out) HXL.out hN2 _ HDD.out.tail.tail.tail.tail.tail)
                have d4 : decide (es > seq) = false := by simpa using hs4
                have hE5 := HEQ.out
                rw [if_neg (by rw [hn4]; simp), if_neg hs4] at hE5
                have HE5 := Lib.hid hE5
                clear hE5 hs4
                go_wp2_with (first | (refine wpList_load_any 47 _ rfl rfl _ 0 rfl (TL t4) _ (HS.out.blk 1 rfl).range Try.underlying47 rfl (by rw [hl4]; kernel_rfl) ?_) | (refine wpList_store_sep HS.out 5 rfl (TL t4) 47 _ _ rfl rfl rfl rfl (by rw [hl4, hlk]) (by rw [hl4]; kernel_rfl) ho4 (fun wA hA _ => ?_); have e0 := (hA.blk 0 rfl).cell 0; have e1 := (hA.blk 0 rfl).cell 1; have e0l := (hA.blk 0 rfl).lt; have n8 := ((hA.blk 5 rfl).cell 8).trans T4.out.need; have n8l := (hA.blk 5 rfl).lt; have r7 := ((hA.blk 2 rfl).cell 7).trans (HRQ.out.lmb _ _ _ _ _ _); have rl := (hA.blk 2 rfl).lt; simp only [List.set_cons_zero, List.set_cons_succ, List.getElem?_cons_zero, List.getElem?_cons_succ] at e0 e1; rw [hn4] at n8; have HX := Lib.hid hA; have HB := Lib.hid (hA.new 22 [.int .u64 ev]); clear hA) | (at_builtin; go_must (refine wpList_push_blk _ rfl _ _ 63 rfl 0 22 i0 _ 1 8 Try.underlying63 hi0 hz0 hz1 hz2 rfl (by decide) (.slice la k lc) k (acc.map (Value.int .u64)) rfl (HB.out.row 9 rfl) [.int .u64 ev] _ _ rfl (HB.out.blk 0 rfl) rfl (by simp [Value.oneCell']) (by unfold maxLen; omega) (by omega) (Nat.zero_le _) ?_)))
                intro g9 c9 w12 hown hg2 hgg hc1 hc2'
                have h3 := HB.out.grown 9 rfl hown hg2 (fun q e => by
                  rcases hgg with h1 | h1
                  · exact .inl (h1.trans e)
                  · right; simp only [Value.ownBlock, Option.some.injEq] at e; rw [← e, h1]; simp)
                have h4 : Sep w w12 [blkT (w.heap.size + 1 + 1 + 1 + 1) 65 (RQ (.slice ra u rc) (.slice la k lc) wt NL wt NL), blkT (w.heap.size + 1 + 1 + 1) 47 [.slice none 0 0, .int .i64 0, .int .i64 0, .int .i64 0, .int .u64 0, .int .u64 0, .int .u64 0, .int .u64 0, .bool false], blkT (w.heap.size + 1 + 1) 65 [.int .i64 0, .int .i64 0, .int .i64 0, .int .i64 0, .int .u64 0, .int .u64 0, .slice none 0 0, .slice none 0 0, .int .i64 0, .int .i64 0, .int .i64 0, .int .i64 0], blkT (w.heap.size + 1) 47 (TL t4), blkT w.heap.size 24 cl, rowT 0 22 1 (.slice ra u rc) (u) ((xu).map (Value.int .u64)), rowT 0 22 1 (.slice (some ⟨g9, 0, none⟩) (k + 1) c9) (k + 1) ((acc ++ [ev]).map (Value.int .u64))] := by
                  rw [List.map_append]
                  exact h3.sub [3, 4, 5, 6, 7, 8, 9] rfl (by decide)
                have HS := Lib.hid h4
                clear h3 h4 hown hg2 hgg HB HX e0 e1 e0l n8 n8l r7 rl hn4
                go_wp2_with (refine wpList_store_cell HS.out 0 rfl 7 (.slice (some ⟨g9, 0, none⟩) (k + 1) c9) 63 _ _ rfl rfl rfl rfl (by rw [HRQ.out.len]; decide) (by kernel_rfl) rfl (fun wB hB _ => ?_); simp only [List.set_cons_zero, List.set_cons_succ, HRQ.out.s7] at hB; have HC := Lib.hid hB; clear hB)
                go_roundg (NL - (k + 1))
                case measure => omega
                case rel => exact ⟨k + 1, some ⟨g9, 0, none⟩, c9, t4, acc ++ [ev], by omega, by go_num, by rw [List.length_append, HACC.out]; rfl, by rw [show NL - (k + 1) = g' by omega]; exact HE5.out, by omega, HC.out⟩
            · obtain rfl : k = NL := by omega
              have hg0 : gk = 0 := by omega
              rw [hg0] at hEQ
              unfold P.rlims at hEQ
              have HZF := HZ4.out
              rw [← hEQ] at HZF
              have HZF := Lib.hid HZF
              have hv2 : (Value.slice la k lc).oneCell' = true := rfl
              have hN2 := HACC.out
              have HS := Lib.hid hS; clear hS hEQ
              go_wp2_with fail
              clear r11 rl
              -- 32: the region, RQ (.slice ra u rc) (.slice la k lc) wt k wt k: the pool's cells, TL tk: the tape's cells, T3: the tape's facts, 1: how far, HZF.out: what remains
              have hmp := (HS.out.blk 0 rfl).drew
              have hmt := (HS.out.blk 3 rfl).drew
              have hlp : (RQ (.slice ra u rc) (.slice la k lc) wt k wt k).length = 12 := HRQ.out.len _ _ _ _ _ _
              have hlt := (T3).out.len
              have hop : ∀ z9 ∈ (RQ (.slice ra u rc) (.slice la k lc) wt k wt k), z9.oneCell' = true := HRQ.out.one _ _ hv1 hv2 _ _ _ _
              refine wp_region_fr [(1, [0, 1]), (2, [2]), (3, [3]), (0, [4])] [w.heap.size + 1 + 1] (by kernel_rfl) (by kernel_rfl) ?_
              simp only [theOps, nthOp, List.map_cons, List.map_nil, Array.getD_eq_getD_getElem?, List.getElem?_toArray, List.getElem?_cons_succ, List.getElem?_cons_zero, Option.getD_some]
              refine wpSegs_soft ?_
              refine wpQuiet_load_mid 65 _ (w.heap.size + 1 + 1 + 1 + 1) 0 (RQ (.slice ra u rc) (.slice la k lc) wt k wt k) _ rfl rfl rfl (rangeAt_after hmp (by simp <;> omega)) Try.underlying65 rfl (by rw [hlp]; kernel_rfl) ?_
              simp only [Act.put, List.setIfInBounds_toArray, List.set_cons_zero, List.set_cons_succ]
              refine wpQuiet_load_mid 47 _ (w.heap.size + 1) 0 (TL tk) _ rfl rfl rfl (rangeAt_after hmt (by simp <;> omega)) Try.underlying47 rfl (by rw [hlt]; kernel_rfl) ?_
              simp only [Act.put, List.setIfInBounds_toArray, List.set_cons_zero, List.set_cons_succ]
              repeat (first | go_big_quiet_step (fail) | quiet_step (fail))
              refine wpQuiet_nil ?_
              refine wpSegs_keep ?_
              refine wpList_store_sep HS.out.drew 2 rfl (RQ (.slice ra u rc) (.slice la k lc) wt k wt k) 65 _ _ rfl rfl rfl rfl (by rw [hlp]; rfl) (by rw [hlp]; kernel_rfl) hop (fun wC hC fC => ?_)
              simp only [List.set_cons_zero, List.set_cons_succ] at hC
              have HC := Lib.hid hC; have HFC := Lib.hid fC
              clear hC fC
              go_wp2_with fail
              refine ⟨⟨⟨_, (by exact HFC.out)⟩, rfl⟩, ?_⟩
              refine wpSegs_hard ?_
              refine wpList_store_sep HC.out 1 rfl (TL tk) 47 _ _ rfl rfl rfl rfl (by rw [hlt]; rfl) (by rw [hlt]; kernel_rfl) (T3).out.one (fun wD hD _ => ?_)
              simp only [List.set_cons_zero, List.set_cons_succ] at hD
              have HDD := Lib.hid hD; clear hD
              go_wp2_with fail
              repeat ((first | refine wpSegs_soft ?_ | refine wpSegs_pure ?_ | refine wpSegs_here ?_); (repeat (first | go_big_quiet_step (fail) | quiet_step (fail))); refine wpQuiet_nil ?_)
              refine wpSegs_done ?_
              go_wp2_with fail
              exact bodyPost_ret (v := .tuple #[.agg (RQ (.slice ra u rc) (.slice la k lc) wt k wt k).toArray, .agg (TL tk).toArray, .int .i64 1]) (res_cct8 Try.results28 rfl rfl rfl (HDD.out.blk 2 rfl).range Try.underlying65 rfl (by rw [hlp]; kernel_rfl) (HDD.out.blk 1 rfl).range Try.underlying47 rfl (by rw [hlt]; kernel_rfl)) rfl (HRES.out _ _ _ _ _ _ _ hv1 hv2 (HZF.out) HXL.out hN2 _ HDD.out.tail.tail.tail.tail.tail)
end Go.Proofs.Ytccioehckfdjdaa
