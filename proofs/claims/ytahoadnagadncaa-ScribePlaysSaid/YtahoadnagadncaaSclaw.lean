/- The law ScribePlays, walked. -/
import Derived.Test.YtahoadnagadncaaScjoin
import Derived.Test.YtahoadnagadncaaEq
import Derived.Deep.LoopGhost
import Derived.Test.YtahoadnagadncaaScalive
set_option linter.unusedSimpArgs false
set_option linter.unusedVariables false
namespace Go.Tum
theorem ArgN.fr {T : Type} {en : T → List Value} {n : Nat} {w w' : World} {v : Value} {l : List T} (h : ArgN en n w v l) (f : Fr [] w w') : ArgN en n w' v l := ⟨h.1.fr f, h.2⟩
/-- An empty slice, just made. -/
theorem Sep.empty {w0 w : World} {R : List Thing} (h : Sep w0 w R) (e : TypeId) (size : Nat) : Sep w0 (w.alloc (.cells #[] e)) (rowT 0 e size (.slice (some ⟨w.heap.size, 0, none⟩) 0 0) 0 [] :: R) :=
  h.fresh ⟨(Fr.refl [] w).alloc _, [w.heap.size], ⟨rfl, World.ownsRow_made w #[] 0 (Nat.zero_le _) (by unfold maxLen; omega) (by simp)⟩, by simp⟩
theorem Sep.snd {w0 w : World} {T U : Thing} {Ts : List Thing} (h : Sep w0 w (T :: U :: Ts)) : Sep w0 w (T :: Ts) := (h.pull 1 rfl).tail
theorem tape_ask {w : World} {b : Nat} {T : TypeId} {v : Value} {t : Tp} (h : Blk w b T (tapeL v t)) : w.rangeAt b 2 (enP t.ask) := by
  intro j u hj
  rw [h.cell]
  have hl : j < 6 := (List.getElem?_eq_some_iff.1 hj).1
  rcases (show j = 0 ∨ j = 1 ∨ j = 2 ∨ j = 3 ∨ j = 4 ∨ j = 5 by omega) with rfl | rfl | rfl | rfl | rfl | rfl <;> exact hj
/-- append of a slice that came in onto a new one. -/
theorem wpList_append_sep {P : Program} {T : Type} {en : T → List Value} {ops : Array Oper} {rest : List Oper} {o : Oper} {a : Act} {w w0 : World} {Q : Exit → Act → World → Prop} {R : List Thing} {e : TypeId} {size g0 : Nat}
    (h : Sep w0 w (rowT 0 e size (.slice (some ⟨g0, 0, none⟩) 0 0) 0 [] :: R)) (hgd : o.guard = none) (s x : Operand) (t : TypeId) (ho : o.op = .call { callee := .builtin .append, args := #[s, x], argTypes := #[t, t] })
    (i : TypeInfo) (z : Value) (bytes : Nat) (ht : P.underlying t = some (.slice e)) (hi : P.info? e = some i) (hz : i.zero = some z) (hsize : i.size = size) (hby : i.bytes = bytes) (hzs : z.cells.size = size) (hsz : 0 < size)
    (hs : a.eval s = .slice (some ⟨g0, 0, none⟩) 0 0) (v : Value) (l : List T) (hx : a.eval x = v) (hL : ArgN en size w v l) (hlen : ∀ x, (en x).length = size) (hone : ∀ x, ∀ u ∈ en x, u.oneCell' = true)
    (h63 : l.length ≤ maxLen) (hbytes : l.length * bytes ≤ 140737488355328)
    (hk : ∀ g c' w', Sep w0 w' (rowT 0 e size (.slice (some ⟨g, 0, none⟩) l.length c') l.length (flat en l) :: R) → wpList P ops Q rest (a.put o.dst (.slice (some ⟨g, 0, none⟩) l.length c')) w') : wpList P ops Q (o :: rest) a w := by
  obtain ⟨⟨ad, cap, rfl, hc, hcell⟩, hnil⟩ := hL
  cases ad with
  | none =>
    obtain rfl := hnil _ _ rfl
    obtain rfl : l = [] := List.eq_nil_of_length_eq_zero (by omega)
    exact wpList_append_own_none hgd s x t ho 0 e i size ht hi _ 0 [] hs (h.row 0 rfl) hx (hk g0 0 w h)
  | some ad =>
    refine wpList_append_at w hgd s x t ho 0 e i z size bytes ht hi hz hsize hby hzs hsz (.slice (some ⟨g0, 0, none⟩) 0 0) 0 [] hs (h.row 0 rfl) ad l.length cap (flat en l) hx (flat_length hlen l) (fun j u hj => ?_) (flat_one_cell hone l) (by omega) (by rw [Nat.zero_add]; exact hbytes) (Nat.zero_le _) (by simp) ?_
    · have hjl : j < l.length * size := by rw [← flat_length hlen l]; exact (List.getElem?_eq_some_iff.1 hj).1
      rcases hcell with rfl | ⟨x', e, _, hcc⟩
      · simp at hjl
      · injection e with e; subst e
        have h1 : j / size < l.length := Nat.div_lt_of_lt_mul (by rw [Nat.mul_comm]; exact hjl)
        have e2 : j / size * size + j % size = j := by rw [Nat.mul_comm]; exact Nat.div_add_mod j size
        have := hcc (j / size) h1 (j % size) u (by rw [← hj, ← flat_get hlen l (j / size) h1 (j % size) (Nat.mod_lt _ hsz), e2])
        rwa [e2] at this
    · intro g c' w' ho' hg hgg hc1 hc2
      rw [Nat.zero_add] at ho' hc1
      rw [Nat.zero_add]
      refine hk g c' w' (by have := h.grown 0 rfl ho' hg (fun q e => by
        rcases hgg with h1 | h1
        · exact .inl (h1.trans e)
        · right; simp only [Value.ownBlock, Option.some.injEq] at e; omega)
                            simpa using this)
end Go.Tum
namespace Go.Proofs.Ytahoadnagadncaa
open Go.RowKit Go.Tum Go.Tum.Y Go.Tum.Sc
theorem rright13_any (w : World) (c : Cfg) : Calls Try.prog 7 #[.agg (cfgL c).toArray] w fun e w' => e = .returned (.bool (right c)) ∧ Fr [] w w' := rright_any w c
set_option maxRecDepth 100000 in
set_option maxHeartbeats 4000000 in
theorem plays_s0 (w : World) (c : Cfg) (who seq : Int) (a oa : Option Addr) (m lc n oc : Nat) (hrc : right c = false) : Calls Try.prog 3 #[cfgV c, .int .i64 who, .int .u64 seq, .slice a m lc, .slice oa n oc] w fun e w' => e = .returned (.bool true) ∧ Fr [] w w' := by
  have HS := Lib.hid ((Sep.nil (Fr.refl [] w)).new 24 (cfgL c))
  have HR := Lib.hid (fun w => rright13_any w c)
  have hsz6 : (cfgL c).length = 6 := rfl
  have g0 : (cfgL c)[0]? = some (.int .i64 c.t) := rfl
  rw [show cfgV c = .agg (cfgL c).toArray from rfl]
  generalize cfgL c = cl at *
  go_enter Try.func3, Try.ntmps3
  go_wp2_with fail
  refine (alive13_any _).mono ?_
  rintro e w1 ⟨rfl, hf⟩
  have HS := Lib.hid (HS.out.fr0 hf)
  clear hf
  go_wp2_with (first | (refine wpList_load_any 24 _ rfl rfl _ 0 rfl cl _ (HS.out.blk 0 rfl).range Try.underlying24 rfl (by rw [hsz6]; kernel_rfl) ?_))
  refine (HR.out _).mono ?_
  rintro e w1 ⟨rfl, hf⟩
  have HS := Lib.hid (HS.out.fr0 hf)
  clear hf
  rw [hrc]
  go_wp2_with fail
  go_ret
  exact ⟨rfl, HS.out.fr⟩
set_option maxRecDepth 100000 in
set_option maxHeartbeats 4000000 in
theorem plays_s1 (w : World) (c : Cfg) (who seq : Int) (a oa : Option Addr) (m lc n oc : Nat) (hrc : right c = true) (d1 : decide ((m : Int) > 60) = true) : Calls Try.prog 3 #[cfgV c, .int .i64 who, .int .u64 seq, .slice a m lc, .slice oa n oc] w fun e w' => e = .returned (.bool true) ∧ Fr [] w w' := by
  have HS := Lib.hid ((Sep.nil (Fr.refl [] w)).new 24 (cfgL c))
  have HR := Lib.hid (fun w => rright13_any w c)
  have hsz6 : (cfgL c).length = 6 := rfl
  have g0 : (cfgL c)[0]? = some (.int .i64 c.t) := rfl
  rw [show cfgV c = .agg (cfgL c).toArray from rfl]
  generalize cfgL c = cl at *
  go_enter Try.func3, Try.ntmps3
  go_wp2_with fail
  refine (alive13_any _).mono ?_
  rintro e w1 ⟨rfl, hf⟩
  have HS := Lib.hid (HS.out.fr0 hf)
  clear hf
  go_wp2_with (first | (refine wpList_load_any 24 _ rfl rfl _ 0 rfl cl _ (HS.out.blk 0 rfl).range Try.underlying24 rfl (by rw [hsz6]; kernel_rfl) ?_))
  refine (HR.out _).mono ?_
  rintro e w1 ⟨rfl, hf⟩
  have HS := Lib.hid (HS.out.fr0 hf)
  clear hf
  rw [hrc]
  go_wp2_with fail
  go_ret
  exact ⟨rfl, HS.out.fr⟩
set_option maxRecDepth 100000 in
set_option maxHeartbeats 4000000 in
theorem plays_s2 (w : World) (c : Cfg) (who seq : Int) (a oa : Option Addr) (m lc n oc : Nat) (hrc : right c = true) (d1 : decide ((m : Int) > 60) = false) (d2 : decide ((n : Int) > 100) = true) : Calls Try.prog 3 #[cfgV c, .int .i64 who, .int .u64 seq, .slice a m lc, .slice oa n oc] w fun e w' => e = .returned (.bool true) ∧ Fr [] w w' := by
  have HS := Lib.hid ((Sep.nil (Fr.refl [] w)).new 24 (cfgL c))
  have HR := Lib.hid (fun w => rright13_any w c)
  have hsz6 : (cfgL c).length = 6 := rfl
  have g0 : (cfgL c)[0]? = some (.int .i64 c.t) := rfl
  rw [show cfgV c = .agg (cfgL c).toArray from rfl]
  generalize cfgL c = cl at *
  go_enter Try.func3, Try.ntmps3
  go_wp2_with fail
  refine (alive13_any _).mono ?_
  rintro e w1 ⟨rfl, hf⟩
  have HS := Lib.hid (HS.out.fr0 hf)
  clear hf
  go_wp2_with (first | (refine wpList_load_any 24 _ rfl rfl _ 0 rfl cl _ (HS.out.blk 0 rfl).range Try.underlying24 rfl (by rw [hsz6]; kernel_rfl) ?_))
  refine (HR.out _).mono ?_
  rintro e w1 ⟨rfl, hf⟩
  have HS := Lib.hid (HS.out.fr0 hf)
  clear hf
  rw [hrc]
  go_wp2_with fail
  go_ret
  exact ⟨rfl, HS.out.fr⟩
set_option maxRecDepth 100000 in
set_option maxHeartbeats 40000000 in
theorem plays_good (w : World) (c : Cfg) (h : Ok c) (who seq : Int) (a oa : Option Addr) (m lc n oc : Nat) (L : List (Int × Int)) (O : List O3) (hLm : L.length = m) (hL : ArgN enE 2 w (.slice a m lc) L) (hm : m ≤ 60) (hO : ArgE enO 3 w (.slice oa n oc) O) (hOn : O.length = n) (hn : n ≤ 100) (hrc : right c = true) :
    Calls Try.prog 3 #[cfgV c, .int .i64 who, .int .u64 seq, .slice a m lc, .slice oa n oc] w fun e w' => e = .returned (.bool true) ∧ Fr [] w w' := by
  subst hLm
  have HOF : Hid (∀ w, Calls Try.prog 8 #[.agg (cfgL c).toArray] w fun e w' => e = .returned (.tuple #[mapV c, .int .i64 0]) ∧ Fr [] w w') := fun w => of_good w c h
  have HAK := Lib.hid (fun w b who la n lc d K hB hr hK hn hd => ask_any w c h b who seq la n lc d K hB hr hK hn hd)
  have hsz : (mapCells c).length = 24 := rfl
  have hone := oneMap c
  have HNW := Lib.hid (fun w who v hL => scnew_any w c h who seq v L hL (by omega) _ rfl)
  have d1 : decide ((L.length : Int) > 60) = false := by simp; omega
  have d2 : decide ((n : Int) > 100) = false := by simp; omega
  have ht1 := h.t1
  have ht8 := h.t8
  obtain ⟨i0, hi0, hz0, hz1, hz2⟩ := info_parts Sc_infoE
  unfold mapV at *
  generalize mapCells c = cs at *
  obtain ⟨b8, hb8, hbe⟩ := and_i64_low who 8 (by decide)
  obtain ⟨q, hq⟩ : ∃ q : Int, q = (b8 : Int) := ⟨_, rfl⟩
  have hbe2 : bits .and .i64 who 255 = q := by rw [hq]; exact hbe
  have hq0 : 0 ≤ q ∧ q ≤ 255 := by rw [hq]; omega
  clear hq
  obtain ⟨r, hr⟩ : ∃ r, Int.tmod q c.t = r := ⟨_, rfl⟩
  have hr0 : 0 ≤ r ∧ r ≤ 8 := by
    rw [← hr, Int.tmod_eq_emod_of_nonneg (by omega)]
    have := Int.emod_nonneg q (show c.t ≠ 0 by omega)
    have := Int.emod_lt_of_pos q (show 0 < c.t by omega)
    omega
  have hct : 1 ≤ c.t ∧ c.t ≤ 8 := ⟨ht1, ht8⟩
  clear ht1 ht8
  clear hbe hb8
  obtain ⟨kk, hkk⟩ : ∃ x, x = min L.length (cap c).toNat := ⟨_, rfl⟩
  have HWA : Hid (∀ (w' : World) (a' : Option Addr) (lc' k : Nat), ArgE enE 2 w' (.slice a' L.length lc') L → ArgE enO 3 w' (.slice oa k oc) (O.take k) → k ≤ 100 → (O.take k).length = k → Calls Try.prog 10 #[.agg (cfgL c).toArray, .int .i64 r, .int .u64 seq, .slice a' L.length lc', .agg (tapeL (.slice oa k oc) ⟨0, p0, false⟩).toArray] w' fun e w'' => e = .returned (.agg (tapeL (.slice oa k oc) (upTo (Sc.opAt c r seq (L.take kk) kk) k (kk + 2))).toArray) ∧ Fr [] w' w'') :=
    fun w' a' lc' k h1 h2 h3 h4 => write_any w' c h r seq a' L.length lc' L rfl h1 (by omega) oa k oc (by omega) _ h4 h2 kk hkk
  have HS := Lib.hid ((Sep.nil (Fr.refl [] w)).new 24 (cfgL c))
  have HR := Lib.hid (fun w => rright13_any w c)
  have hsz6 : (cfgL c).length = 6 := rfl
  have g0 : (cfgL c)[0]? = some (.int .i64 c.t) := rfl
  rw [show cfgV c = .agg (cfgL c).toArray from rfl]
  generalize cfgL c = cl at *
  go_enter Try.func3, Try.ntmps3
  go_wp2_with fail
  refine (alive13_any _).mono ?_
  rintro e w1 ⟨rfl, hf⟩
  have HS := Lib.hid (HS.out.fr0 hf)
  clear hf
  go_wp2_with (first | (refine wpList_load_any 24 _ rfl rfl _ 0 rfl cl _ (HS.out.blk 0 rfl).range Try.underlying24 rfl (by rw [hsz6]; kernel_rfl) ?_))
  refine (HR.out _).mono ?_
  rintro e w1 ⟨rfl, hf⟩
  have HS := Lib.hid (HS.out.fr0 hf)
  clear hf
  rw [hrc]
  go_wp2_with (first | (refine wpList_load_any 24 _ rfl rfl _ 0 rfl cl _ (HS.out.blk 0 rfl).range Try.underlying24 rfl (by rw [hsz6]; kernel_rfl) ?_))
  refine (HOF.out _).mono ?_
  rintro e w1 ⟨rfl, hf⟩
  have HS := Lib.hid (HS.out.fr0 hf)
  clear hf
  have HS := Lib.hid (HS.out.new 31 cs)
  have c0 := ((HS.out.blk 1 rfl).cell 0).trans g0
  have cl0 := (HS.out.blk 1 rfl).lt
  have hE := HS.out.empty 56 2
  simp only [World.size_alloc] at hE
  have HE := Lib.hid hE; clear hE
  have HLN := Lib.hid (hL.fr HE.out.fr)
  have HL := Lib.hid hL; clear hL
  have hmb : L.length ≤ maxLen := by unfold maxLen; omega
  have hmb2 : L.length * 16 ≤ 140737488355328 := by omega
  go_wp2_with (first | (refine wpList_store_new 31 _ (cs).toArray rfl _ _ rfl rfl rfl (by rw [List.size_toArray, hsz]; kernel_rfl) (by simp [hsz]) (all_oneCell_toArray hone) ?_) | (refine wpList_append_sep HE.out rfl _ _ 25 rfl i0 _ 16 Try.underlying25 hi0 hz0 hz1 hz2 rfl (by decide) rfl _ L rfl HLN.out enE_len enE_one hmb hmb2 (fun g1 c1 wA hA => ?_); have HA := Lib.hid hA; clear hA) | (refine wpList_load_any 31 _ rfl rfl _ 0 rfl cs _ (HA.out.blk 1 rfl).range Try.underlying31 rfl (by rw [hsz]; kernel_rfl) ?_))
  have HAR := Lib.hid (ArgE.of_row enE_len (HA.out.row 0 rfl))
  have hz1s : ∀ u ∈ (Builtin.zeroCells (Value.agg #[Value.int .i64 0, Value.int .u64 0]).cells L.length).toList, u.oneCell' = true := by
    intro u hu
    simp only [Builtin.zeroCells, Value.cells, Array.toList_map, List.mem_map] at hu
    obtain ⟨j, _, rfl⟩ := hu
    rcases (show j % 2 = 0 ∨ j % 2 = 1 by omega) with e | e <;> simp [e, Value.oneCell']
  refine (HNW.out _ r _ HAR.out).mono ?_
  rintro e w2 ⟨b, v', rfl, hN⟩
  have hS := HA.out.append hN
  simp only [List.cons_append, List.nil_append] at hS
  have HP := Lib.hid (hS.pull 2 rfl); clear hS hN HA
  go_wp2_with (first | (refine wpList_clear HP.out rfl _ 25 rfl rfl Try.underlying25 i0 _ hi0 hz0 rfl hz1s (fun wC hC => ?_); have HS := Lib.hid hC; clear hC))
  obtain ⟨la, lc', rfl⟩ := HS.out.form 1 rfl
  rw [← hkk] at HS
  have hkL : kk ≤ L.length := by omega
  clear hkk
  go_loopg [56] (n + 1) (fun gk vi wr => ∃ k, gk + k = n + 1 ∧ k ≤ kk + 2 ∧ vi = .int .i64 (k : Int) ∧ Sep w wr [blkT b 75 (scL cs r seq (.slice la kk lc') k), rowT 0 56 2 (.slice la kk lc') kk (flat enE (L.take kk)), blkT w1.heap.size 31 cs, blkT w.heap.size 24 cl])
  case atStart => exact ⟨0, by omega, by omega, rfl, HS.out⟩
  case round =>
    clear HS HP HAR HLN HE
    obtain ⟨k, hgk, hk2, rfl, hS⟩ := hrel
    have HS := Lib.hid hS; clear hS
    by_cases hk : k < n + 1
    · have hki : (k : Int) < (n : Int) + 1 := by omega
      have hkn : (k : Int) ≤ (oc : Int) := by
        obtain ⟨_, cap', e, hh, _⟩ := hO
        simp only [Value.slice.injEq] at e
        omega
      have hk0 : (0 : Int) ≤ (k : Int) := by omega
      have hmc := (HS.out.blk 3 rfl).drew
      have HF := Lib.hid (Fr.refl [] wr.drew)
      go_wp2_with fail
      refine step_start ([4, 9, 10], [11]) [] (by kernel_rfl) ?_
      refine step_reads (N := 4) [0, 1, 2, 3, 5, 6, 7, 8] (by kernel_rfl) ⟨⟨_, Fr.refl _ _⟩, rfl⟩ ?_
      simp only [theOps, nthOp, List.map_cons, List.map_nil, Array.getD_eq_getD_getElem?, List.getElem?_toArray, List.getElem?_cons_succ, List.getElem?_cons_zero, Option.getD_some]
      refine wpQuiet_load_mid 24 _ w.heap.size 0 cl _ rfl rfl rfl (rangeAt_after hmc (by simp)) Try.underlying24 rfl (by rw [hsz6]; kernel_rfl) ?_
      simp only [Act.put, List.setIfInBounds_toArray, List.set_cons_zero, List.set_cons_succ]
      repeat (first | go_big_quiet_step (fail) | quiet_step (fail))
      refine wpQuiet_nil ?_
      have HO := Lib.hid (hO.take k (by omega))
      have HS := Lib.hid HS.out.drew
      have HAS := Lib.hid (fun w' (f : Fr [] w w') => as_any w' _ L (HL.out.1.fr f) (by omega))
      clear hmc
      generalize wr.drew = wd at HF HS ⊢
      refine step_two (N := 3) 4 10 (by kernel_rfl) rfl rfl ?_ ?_
      · go_wp2_with fail
        refine (HAS.out _ HS.out.fr).mono ?_
        rintro e w5 ⟨va, rfl, hN⟩
        obtain ⟨ga, ca, rfl⟩ := hN.form
        have HF := Lib.hid (HF.out.trans hN.fr)
        have HS := Lib.hid (HS.out.fresh hN); clear hN
        go_wp2_with fail
        refine ⟨⟨⟨_, (by exact HF.out)⟩, rfl⟩, ?_⟩
        refine step_two (N := 2) 9 10 (by kernel_rfl) rfl rfl ?_ ?_
        · go_wp2_with fail
          refine (HWA.out _ ga ca k (ArgE.of_row enE_len (HS.out.row 0 rfl)) (HO.out.fr HS.out.fr) (by omega) (by rw [List.length_take]; omega)).mono ?_
          rintro e w6 ⟨rfl, hf⟩
          have HF := Lib.hid (HF.out.trans hf)
          have HS := Lib.hid (HS.out.fr0 hf); clear hf
          go_wp2_with fail
          refine ⟨⟨⟨_, (by exact HF.out)⟩, rfl⟩, ?_⟩
          refine step_keep (N := 1) 10 (by kernel_rfl) rfl ?_
          go_wp2_with fail
          have hf := Fr.alloc HF.out (.cells [Value.slice none 0 0, Value.int IntKind.i64 0, Value.int IntKind.i64 0, Value.int IntKind.i64 0, Value.int IntKind.u64 0, Value.int IntKind.u64 0, Value.int IntKind.u64 0, Value.int IntKind.u64 0, Value.bool false].toArray 42)
          have hS := HS.out.new 42 [Value.slice none 0 0, Value.int IntKind.i64 0, Value.int IntKind.i64 0, Value.int IntKind.i64 0, Value.int IntKind.u64 0, Value.int IntKind.u64 0, Value.int IntKind.u64 0, Value.int IntKind.u64 0, Value.bool false]
          have HF := Lib.hid hf; have HS := Lib.hid hS; clear hf hS
          refine ⟨⟨⟨_, (by exact HF.out)⟩, rfl⟩, ?_⟩
          generalize World.alloc _ _ = w7 at HF HS ⊢
          generalize w6.heap.size = bt at HS ⊢
          have HS := Lib.hid HS.out.snd
          clear HF
          refine step_hard (N := 0) 11 (by kernel_rfl) rfl ?_
          refine wpList_store_sep HS.out 0 rfl (tapeL (.slice oa k oc) (upTo (Sc.opAt c r seq (L.take kk) kk) k (kk + 2))) 42 _ _ rfl rfl rfl rfl rfl (by kernel_rfl) (tapeL_one _ _ _ _) (fun wT hT _ => ?_)
          have HS := Lib.hid hT; clear hT
          simp only [List.set_cons_zero] at HS
          have HA := Lib.hid (HAK.out _ b r la kk lc' k (L.take kk) (HS.out.blk 1 rfl) (HS.out.row 2 rfl) (by rw [List.length_take]; omega) (by omega) (by omega))
          have HDN := Lib.hid (fun w' hB => done_any w' b cs hsz r seq la kk lc' k hB (by omega) (by omega))
          by_cases hkd : k ≤ kk + 1
          · have hu : upTo (Sc.opAt c r seq (L.take kk) kk) k (kk + 2) = ⟨k, Sc.opAt c r seq (L.take kk) kk k, true⟩ := by unfold upTo; rw [if_pos (by omega)]
            rw [hu] at HS
            rw [if_pos hkd, decide_eq_true hkd] at HA
            rw [decide_eq_false (show ¬ k > kk + 1 by omega)] at HDN
            clear hu
            generalize Sc.opAt c r seq (L.take kk) kk k = op at HS HA
            go_wp2_with fail
            refine step_done rfl ?_
            go_wp2_with fail
            refine HA.out.mono ?_
            rintro e w8 ⟨rfl, hf⟩
            have hS := (HS.out.fr0 hf).new 40 (enP op); clear hf HA HS
            have HS := Lib.hid hS; clear hS
            have HNE := fun w => neq_op_self w op
            have b8 := (HS.out.blk 1 rfl).cell 8
            have b8l := (HS.out.blk 1 rfl).lt
            simp only [tapeL, List.getElem?_cons_zero, List.getElem?_cons_succ] at b8
            have honeP := enP_one op
            go_wp2_with (first | (refine wpList_store_new 40 _ (enP op).toArray rfl _ _ rfl rfl rfl (by kernel_rfl) (by simp [enP]) (all_oneCell_toArray honeP) ?_) | (refine wpList_load_any 40 _ rfl rfl _ 0 rfl (enP op) _ (HS.out.blk 0 rfl).range Try.underlying40 rfl (by kernel_rfl) ?_) | (refine wpList_load_any 40 _ rfl rfl _ 2 rfl (enP op) _ (tape_ask (HS.out.blk 1 rfl)) Try.underlying40 rfl (by kernel_rfl) ?_))
            refine (HDN.out _ (HS.out.blk 2 rfl)).mono ?_
            rintro e w9 ⟨rfl, hf⟩
            have HS := Lib.hid (HS.out.fr0 hf); clear hf b8 b8l
            by_cases hkn : k = n
            · have hkq : ((k : Int) == (n : Int)) = true := by simp [hkn]
              go_wp2_with fail
              go_ret
              exact ⟨rfl, HS.out.fr⟩
            · have hkq : ((k : Int) == (n : Int)) = false := by simp; omega
              have hkl : (k : Int) < (n : Int) := by omega
              obtain ⟨x, rfl, hxw, hc0, hc1⟩ := hO.at (i := k) (by omega)
              generalize O[k]'(by omega) = o at hc0 hc1
              obtain ⟨ov, os, ook⟩ := o
              have y0 := HS.out.fr.cell (hc0 _ rfl) (by simp)
              have y1 := HS.out.fr.cell (hc1 0 _ rfl) (by simp)
              have y2 := HS.out.fr.cell (hc1 1 _ rfl) (by simp)
              simp only [Nat.zero_add, Nat.reduceAdd] at y1 y2
              clear hc0 hc1
              have HT := Lib.hid (tell_go (w0 := w) (w := w9) b cs hsz r seq la kk lc' k ov os ook HS.out.tail.tail (by omega) (by omega) (by simp; omega))
              go_wp2_with fail
              refine HT.out.mono ?_
              rintro e w10 ⟨rfl, hS⟩
              have HS := Lib.hid hS; clear hS
              go_wp2_with fail
              go_roundg (n + 1 - (k + 1))
              case measure => omega
              case rel => exact ⟨k + 1, by omega, by omega, by go_num, HS.out⟩
          · have hu : upTo (Sc.opAt c r seq (L.take kk) kk) k (kk + 2) = ⟨kk + 2, p0, false⟩ := by unfold upTo; rw [if_neg (by omega)]
            rw [hu] at HS
            rw [if_neg hkd, decide_eq_false hkd] at HA
            rw [decide_eq_true (show k > kk + 1 by omega)] at HDN
            clear hu
            generalize p0 = op at HS HA
            go_wp2_with fail
            refine step_done rfl ?_
            go_wp2_with fail
            refine HA.out.mono ?_
            rintro e w8 ⟨rfl, hf⟩
            have hS := (HS.out.fr0 hf).new 40 (enP op); clear hf HA HS
            have HS := Lib.hid hS; clear hS
            have HNE := fun w => neq_op_self w op
            have b8 := (HS.out.blk 1 rfl).cell 8
            have b8l := (HS.out.blk 1 rfl).lt
            simp only [tapeL, List.getElem?_cons_zero, List.getElem?_cons_succ] at b8
            have honeP := enP_one op
            go_wp2_with (first | (refine wpList_store_new 40 _ (enP op).toArray rfl _ _ rfl rfl rfl (by kernel_rfl) (by simp [enP]) (all_oneCell_toArray honeP) ?_) | (refine wpList_load_any 40 _ rfl rfl _ 0 rfl (enP op) _ (HS.out.blk 0 rfl).range Try.underlying40 rfl (by kernel_rfl) ?_) | (refine wpList_load_any 40 _ rfl rfl _ 2 rfl (enP op) _ (tape_ask (HS.out.blk 1 rfl)) Try.underlying40 rfl (by kernel_rfl) ?_))
            refine (HDN.out _ (HS.out.blk 2 rfl)).mono ?_
            rintro e w9 ⟨rfl, hf⟩
            have HS := Lib.hid (HS.out.fr0 hf); clear hf b8 b8l
            go_wp2_with fail
            go_ret
            exact ⟨rfl, HS.out.fr⟩
        · go_wp2_with fail
          have hf := Fr.alloc HF.out (.cells [Value.slice none 0 0, Value.int IntKind.i64 0, Value.int IntKind.i64 0, Value.int IntKind.i64 0, Value.int IntKind.u64 0, Value.int IntKind.u64 0, Value.int IntKind.u64 0, Value.int IntKind.u64 0, Value.bool false].toArray 42)
          have hS := HS.out.new 42 [Value.slice none 0 0, Value.int IntKind.i64 0, Value.int IntKind.i64 0, Value.int IntKind.i64 0, Value.int IntKind.u64 0, Value.int IntKind.u64 0, Value.int IntKind.u64 0, Value.int IntKind.u64 0, Value.bool false]
          have HF := Lib.hid hf; have HS := Lib.hid hS; clear hf hS
          refine ⟨⟨⟨_, (by exact HF.out)⟩, rfl⟩, ?_⟩
          generalize World.alloc _ _ = w7 at HF HS ⊢
          generalize w5.heap.size = bt at HS ⊢
          refine step_keep (N := 1) 9 (by kernel_rfl) rfl ?_
          go_wp2_with fail
          refine (HWA.out _ ga ca k (ArgE.of_row enE_len (HS.out.row 1 rfl)) (HO.out.fr HS.out.fr) (by omega) (by rw [List.length_take]; omega)).mono ?_
          rintro e w6 ⟨rfl, hf⟩
          have HF := Lib.hid (HF.out.trans hf)
          have HS := Lib.hid (HS.out.fr0 hf); clear hf
          go_wp2_with fail
          refine ⟨⟨⟨_, (by exact HF.out)⟩, rfl⟩, ?_⟩
          have HS := Lib.hid HS.out.snd
          clear HF
          refine step_hard (N := 0) 11 (by kernel_rfl) rfl ?_
          refine wpList_store_sep HS.out 0 rfl (tapeL (.slice oa k oc) (upTo (Sc.opAt c r seq (L.take kk) kk) k (kk + 2))) 42 _ _ rfl rfl rfl rfl rfl (by kernel_rfl) (tapeL_one _ _ _ _) (fun wT hT _ => ?_)
          have HS := Lib.hid hT; clear hT
          simp only [List.set_cons_zero] at HS
          have HA := Lib.hid (HAK.out _ b r la kk lc' k (L.take kk) (HS.out.blk 1 rfl) (HS.out.row 2 rfl) (by rw [List.length_take]; omega) (by omega) (by omega))
          have HDN := Lib.hid (fun w' hB => done_any w' b cs hsz r seq la kk lc' k hB (by omega) (by omega))
          by_cases hkd : k ≤ kk + 1
          · have hu : upTo (Sc.opAt c r seq (L.take kk) kk) k (kk + 2) = ⟨k, Sc.opAt c r seq (L.take kk) kk k, true⟩ := by unfold upTo; rw [if_pos (by omega)]
            rw [hu] at HS
            rw [if_pos hkd, decide_eq_true hkd] at HA
            rw [decide_eq_false (show ¬ k > kk + 1 by omega)] at HDN
            clear hu
            generalize Sc.opAt c r seq (L.take kk) kk k = op at HS HA
            go_wp2_with fail
            refine step_done rfl ?_
            go_wp2_with fail
            refine HA.out.mono ?_
            rintro e w8 ⟨rfl, hf⟩
            have hS := (HS.out.fr0 hf).new 40 (enP op); clear hf HA HS
            have HS := Lib.hid hS; clear hS
            have HNE := fun w => neq_op_self w op
            have b8 := (HS.out.blk 1 rfl).cell 8
            have b8l := (HS.out.blk 1 rfl).lt
            simp only [tapeL, List.getElem?_cons_zero, List.getElem?_cons_succ] at b8
            have honeP := enP_one op
            go_wp2_with (first | (refine wpList_store_new 40 _ (enP op).toArray rfl _ _ rfl rfl rfl (by kernel_rfl) (by simp [enP]) (all_oneCell_toArray honeP) ?_) | (refine wpList_load_any 40 _ rfl rfl _ 0 rfl (enP op) _ (HS.out.blk 0 rfl).range Try.underlying40 rfl (by kernel_rfl) ?_) | (refine wpList_load_any 40 _ rfl rfl _ 2 rfl (enP op) _ (tape_ask (HS.out.blk 1 rfl)) Try.underlying40 rfl (by kernel_rfl) ?_))
            refine (HDN.out _ (HS.out.blk 2 rfl)).mono ?_
            rintro e w9 ⟨rfl, hf⟩
            have HS := Lib.hid (HS.out.fr0 hf); clear hf b8 b8l
            by_cases hkn : k = n
            · have hkq : ((k : Int) == (n : Int)) = true := by simp [hkn]
              go_wp2_with fail
              go_ret
              exact ⟨rfl, HS.out.fr⟩
            · have hkq : ((k : Int) == (n : Int)) = false := by simp; omega
              have hkl : (k : Int) < (n : Int) := by omega
              obtain ⟨x, rfl, hxw, hc0, hc1⟩ := hO.at (i := k) (by omega)
              generalize O[k]'(by omega) = o at hc0 hc1
              obtain ⟨ov, os, ook⟩ := o
              have y0 := HS.out.fr.cell (hc0 _ rfl) (by simp)
              have y1 := HS.out.fr.cell (hc1 0 _ rfl) (by simp)
              have y2 := HS.out.fr.cell (hc1 1 _ rfl) (by simp)
              simp only [Nat.zero_add, Nat.reduceAdd] at y1 y2
              clear hc0 hc1
              have HT := Lib.hid (tell_go (w0 := w) (w := w9) b cs hsz r seq la kk lc' k ov os ook HS.out.tail.tail (by omega) (by omega) (by simp; omega))
              go_wp2_with fail
              refine HT.out.mono ?_
              rintro e w10 ⟨rfl, hS⟩
              have HS := Lib.hid hS; clear hS
              go_wp2_with fail
              go_roundg (n + 1 - (k + 1))
              case measure => omega
              case rel => exact ⟨k + 1, by omega, by omega, by go_num, HS.out⟩
          · have hu : upTo (Sc.opAt c r seq (L.take kk) kk) k (kk + 2) = ⟨kk + 2, p0, false⟩ := by unfold upTo; rw [if_neg (by omega)]
            rw [hu] at HS
            rw [if_neg hkd, decide_eq_false hkd] at HA
            rw [decide_eq_true (show k > kk + 1 by omega)] at HDN
            clear hu
            generalize p0 = op at HS HA
            go_wp2_with fail
            refine step_done rfl ?_
            go_wp2_with fail
            refine HA.out.mono ?_
            rintro e w8 ⟨rfl, hf⟩
            have hS := (HS.out.fr0 hf).new 40 (enP op); clear hf HA HS
            have HS := Lib.hid hS; clear hS
            have HNE := fun w => neq_op_self w op
            have b8 := (HS.out.blk 1 rfl).cell 8
            have b8l := (HS.out.blk 1 rfl).lt
            simp only [tapeL, List.getElem?_cons_zero, List.getElem?_cons_succ] at b8
            have honeP := enP_one op
            go_wp2_with (first | (refine wpList_store_new 40 _ (enP op).toArray rfl _ _ rfl rfl rfl (by kernel_rfl) (by simp [enP]) (all_oneCell_toArray honeP) ?_) | (refine wpList_load_any 40 _ rfl rfl _ 0 rfl (enP op) _ (HS.out.blk 0 rfl).range Try.underlying40 rfl (by kernel_rfl) ?_) | (refine wpList_load_any 40 _ rfl rfl _ 2 rfl (enP op) _ (tape_ask (HS.out.blk 1 rfl)) Try.underlying40 rfl (by kernel_rfl) ?_))
            refine (HDN.out _ (HS.out.blk 2 rfl)).mono ?_
            rintro e w9 ⟨rfl, hf⟩
            have HS := Lib.hid (HS.out.fr0 hf); clear hf b8 b8l
            go_wp2_with fail
            go_ret
            exact ⟨rfl, HS.out.fr⟩
      · go_wp2_with fail
        have hf := Fr.alloc HF.out (.cells [Value.slice none 0 0, Value.int IntKind.i64 0, Value.int IntKind.i64 0, Value.int IntKind.i64 0, Value.int IntKind.u64 0, Value.int IntKind.u64 0, Value.int IntKind.u64 0, Value.int IntKind.u64 0, Value.bool false].toArray 42)
        have hS := HS.out.new 42 [Value.slice none 0 0, Value.int IntKind.i64 0, Value.int IntKind.i64 0, Value.int IntKind.i64 0, Value.int IntKind.u64 0, Value.int IntKind.u64 0, Value.int IntKind.u64 0, Value.int IntKind.u64 0, Value.bool false]
        have HF := Lib.hid hf; have HS := Lib.hid hS; clear hf hS
        refine ⟨⟨⟨_, (by exact HF.out)⟩, rfl⟩, ?_⟩
        generalize World.alloc _ _ = w7 at HF HS ⊢
        generalize wd.heap.size = bt at HS ⊢
        refine step_keep (N := 2) 4 (by kernel_rfl) rfl ?_
        go_wp2_with fail
        refine (HAS.out _ HS.out.fr).mono ?_
        rintro e w5 ⟨va, rfl, hN⟩
        obtain ⟨ga, ca, rfl⟩ := hN.form
        have HF := Lib.hid (HF.out.trans hN.fr)
        have HS := Lib.hid (HS.out.fresh hN); clear hN
        go_wp2_with fail
        refine ⟨⟨⟨_, (by exact HF.out)⟩, rfl⟩, ?_⟩
        refine step_keep (N := 1) 9 (by kernel_rfl) rfl ?_
        go_wp2_with fail
        refine (HWA.out _ ga ca k (ArgE.of_row enE_len (HS.out.row 0 rfl)) (HO.out.fr HS.out.fr) (by omega) (by rw [List.length_take]; omega)).mono ?_
        rintro e w6 ⟨rfl, hf⟩
        have HF := Lib.hid (HF.out.trans hf)
        have HS := Lib.hid (HS.out.fr0 hf); clear hf
        go_wp2_with fail
        refine ⟨⟨⟨_, (by exact HF.out)⟩, rfl⟩, ?_⟩
        have HS := Lib.hid HS.out.tail
        clear HF
        refine step_hard (N := 0) 11 (by kernel_rfl) rfl ?_
        refine wpList_store_sep HS.out 0 rfl (tapeL (.slice oa k oc) (upTo (Sc.opAt c r seq (L.take kk) kk) k (kk + 2))) 42 _ _ rfl rfl rfl rfl rfl (by kernel_rfl) (tapeL_one _ _ _ _) (fun wT hT _ => ?_)
        have HS := Lib.hid hT; clear hT
        simp only [List.set_cons_zero] at HS
        have HA := Lib.hid (HAK.out _ b r la kk lc' k (L.take kk) (HS.out.blk 1 rfl) (HS.out.row 2 rfl) (by rw [List.length_take]; omega) (by omega) (by omega))
        have HDN := Lib.hid (fun w' hB => done_any w' b cs hsz r seq la kk lc' k hB (by omega) (by omega))
        by_cases hkd : k ≤ kk + 1
        · have hu : upTo (Sc.opAt c r seq (L.take kk) kk) k (kk + 2) = ⟨k, Sc.opAt c r seq (L.take kk) kk k, true⟩ := by unfold upTo; rw [if_pos (by omega)]
          rw [hu] at HS
          rw [if_pos hkd, decide_eq_true hkd] at HA
          rw [decide_eq_false (show ¬ k > kk + 1 by omega)] at HDN
          clear hu
          generalize Sc.opAt c r seq (L.take kk) kk k = op at HS HA
          go_wp2_with fail
          refine step_done rfl ?_
          go_wp2_with fail
          refine HA.out.mono ?_
          rintro e w8 ⟨rfl, hf⟩
          have hS := (HS.out.fr0 hf).new 40 (enP op); clear hf HA HS
          have HS := Lib.hid hS; clear hS
          have HNE := fun w => neq_op_self w op
          have b8 := (HS.out.blk 1 rfl).cell 8
          have b8l := (HS.out.blk 1 rfl).lt
          simp only [tapeL, List.getElem?_cons_zero, List.getElem?_cons_succ] at b8
          have honeP := enP_one op
          go_wp2_with (first | (refine wpList_store_new 40 _ (enP op).toArray rfl _ _ rfl rfl rfl (by kernel_rfl) (by simp [enP]) (all_oneCell_toArray honeP) ?_) | (refine wpList_load_any 40 _ rfl rfl _ 0 rfl (enP op) _ (HS.out.blk 0 rfl).range Try.underlying40 rfl (by kernel_rfl) ?_) | (refine wpList_load_any 40 _ rfl rfl _ 2 rfl (enP op) _ (tape_ask (HS.out.blk 1 rfl)) Try.underlying40 rfl (by kernel_rfl) ?_))
          refine (HDN.out _ (HS.out.blk 2 rfl)).mono ?_
          rintro e w9 ⟨rfl, hf⟩
          have HS := Lib.hid (HS.out.fr0 hf); clear hf b8 b8l
          by_cases hkn : k = n
          · have hkq : ((k : Int) == (n : Int)) = true := by simp [hkn]
            go_wp2_with fail
            go_ret
            exact ⟨rfl, HS.out.fr⟩
          · have hkq : ((k : Int) == (n : Int)) = false := by simp; omega
            have hkl : (k : Int) < (n : Int) := by omega
            obtain ⟨x, rfl, hxw, hc0, hc1⟩ := hO.at (i := k) (by omega)
            generalize O[k]'(by omega) = o at hc0 hc1
            obtain ⟨ov, os, ook⟩ := o
            have y0 := HS.out.fr.cell (hc0 _ rfl) (by simp)
            have y1 := HS.out.fr.cell (hc1 0 _ rfl) (by simp)
            have y2 := HS.out.fr.cell (hc1 1 _ rfl) (by simp)
            simp only [Nat.zero_add, Nat.reduceAdd] at y1 y2
            clear hc0 hc1
            have HT := Lib.hid (tell_go (w0 := w) (w := w9) b cs hsz r seq la kk lc' k ov os ook HS.out.tail.tail (by omega) (by omega) (by simp; omega))
            go_wp2_with fail
            refine HT.out.mono ?_
            rintro e w10 ⟨rfl, hS⟩
            have HS := Lib.hid hS; clear hS
            go_wp2_with fail
            go_roundg (n + 1 - (k + 1))
            case measure => omega
            case rel => exact ⟨k + 1, by omega, by omega, by go_num, HS.out⟩
        · have hu : upTo (Sc.opAt c r seq (L.take kk) kk) k (kk + 2) = ⟨kk + 2, p0, false⟩ := by unfold upTo; rw [if_neg (by omega)]
          rw [hu] at HS
          rw [if_neg hkd, decide_eq_false hkd] at HA
          rw [decide_eq_true (show k > kk + 1 by omega)] at HDN
          clear hu
          generalize p0 = op at HS HA
          go_wp2_with fail
          refine step_done rfl ?_
          go_wp2_with fail
          refine HA.out.mono ?_
          rintro e w8 ⟨rfl, hf⟩
          have hS := (HS.out.fr0 hf).new 40 (enP op); clear hf HA HS
          have HS := Lib.hid hS; clear hS
          have HNE := fun w => neq_op_self w op
          have b8 := (HS.out.blk 1 rfl).cell 8
          have b8l := (HS.out.blk 1 rfl).lt
          simp only [tapeL, List.getElem?_cons_zero, List.getElem?_cons_succ] at b8
          have honeP := enP_one op
          go_wp2_with (first | (refine wpList_store_new 40 _ (enP op).toArray rfl _ _ rfl rfl rfl (by kernel_rfl) (by simp [enP]) (all_oneCell_toArray honeP) ?_) | (refine wpList_load_any 40 _ rfl rfl _ 0 rfl (enP op) _ (HS.out.blk 0 rfl).range Try.underlying40 rfl (by kernel_rfl) ?_) | (refine wpList_load_any 40 _ rfl rfl _ 2 rfl (enP op) _ (tape_ask (HS.out.blk 1 rfl)) Try.underlying40 rfl (by kernel_rfl) ?_))
          refine (HDN.out _ (HS.out.blk 2 rfl)).mono ?_
          rintro e w9 ⟨rfl, hf⟩
          have HS := Lib.hid (HS.out.fr0 hf); clear hf b8 b8l
          go_wp2_with fail
          go_ret
          exact ⟨rfl, HS.out.fr⟩
    · obtain rfl : k = n + 1 := by omega
      go_wp2_with fail
      go_ret
      exact ⟨rfl, HS.out.fr⟩
theorem plays_any (w : World) (c : Cfg) (who seq : Int) (a oa : Option Addr) (m lc n oc : Nat) (L : List (Int × Int)) (O : List O3) (hL : ArgN enE 2 w (.slice a m lc) L) (hO : ArgE enO 3 w (.slice oa n oc) O) (hLm : m = L.length) (hOn : n = O.length) :
    Calls Try.prog 3 #[cfgV c, .int .i64 who, .int .u64 seq, .slice a m lc, .slice oa n oc] w fun e w' => e = .returned (.bool true) ∧ Fr [] w w' := by
  by_cases h0 : right c = true
  · by_cases h1 : m > 60
    · exact plays_s1 w c who seq a oa m lc n oc h0 (by simp; omega)
    · by_cases h2 : n > 100
      · exact plays_s2 w c who seq a oa m lc n oc h0 (by simp; omega) (by simp; omega)
      · exact plays_good w c (by unfold right at h0; simpa using h0) who seq a oa m lc n oc L O hLm.symm hL (by omega) hO hOn.symm (by omega) h0
  · exact plays_s0 w c who seq a oa m lc n oc (by simpa using h0)
theorem plays_row (a b d f g l who seq : Int) (v v' : Value) (L : List (Int × Int)) (O : List O3) (w : World) (hL : ArgN enE 2 w v L) (hO : ArgE enO 3 w v' O) (_ : L.length ≤ maxLen) (_ : O.length ≤ maxLen) :
    Calls Try.prog 3 #[.agg #[.int .i64 a, .int .i64 b, .int .i64 d, .int .i64 f, .int .u64 g, .int .u64 l], .int .i64 who, .int .u64 seq, v, v'] w fun e w' => e = .returned (.bool true) ∧ Fr [] w w' := by
  obtain ⟨a1, c1, rfl, _⟩ := hL.1
  obtain ⟨a2, c2, rfl, _⟩ := id hO
  exact plays_any w ⟨a, b, d, f, g, l⟩ who seq a1 a2 _ c1 _ c2 L O hL hO rfl rfl
end Go.Proofs.Ytahoadnagadncaa
