/- The law HelpMany, walked. -/
import Derived.Test.YtccioehckfdjdaaHmany0
import Derived.Test.YtccioehckfdjdaaArgH
set_option linter.unusedSimpArgs false
set_option linter.unusedVariables false
namespace Go.Proofs.Ytccioehckfdjdaa
open Go.RowKit Go.Tum Go.Tum.Y Go.Tum.Sc
/-- The threads, as pointers; as things. -/
def ptrs (Bk : Nat → Nat) (n : Nat) : List Value := (List.range n).map fun t => .pointer (some ⟨Bk t, 0, none⟩)
theorem ptrs_len (Bk : Nat → Nat) (n : Nat) : (ptrs Bk n).length = n := by simp [ptrs]
theorem ptrs_get {Bk : Nat → Nat} {n t : Nat} (h : t < n) : (ptrs Bk n)[t]? = some (.pointer (some ⟨Bk t, 0, none⟩)) := by simp [ptrs, List.getElem?_range h]
theorem ptrs_succ {Bk Bk' : Nat → Nat} {n b : Nat} (h : ∀ t, t < n → Bk' t = Bk t) (hb : Bk' n = b) : ptrs Bk' (n + 1) = ptrs Bk n ++ [.pointer (some ⟨b, 0, none⟩)] := by
  unfold ptrs
  rw [List.range_succ, List.map_append]
  congr 1
  · exact List.map_congr_left fun t ht => by rw [h t (by simpa using ht)]
  · simp [hb]
def hsT (c : Cfg) (owner seq : Int) (Bk : Nat → Nat) (F : Nat → H.H) (t : Nat) : Thing := helpT c t owner seq (Bk t) (F t)
set_option maxRecDepth 100000 in
set_option maxHeartbeats 8000000 in
theorem step12_no
    {w0 w : World} {R : List Thing} (c : Cfg) (hok : Ok c) (mb hb g tn cap t : Nat) (m : C.M) (owner seq : Int) (h : H.H) (ps : List Value) (hp : ps[t]? = some (.pointer (some ⟨hb, 0, none⟩))) (htn : t < tn) (htb : tn ≤ 100) (hi : H.Inv c h) (ht : m.trace.length ≤ 99999) (o : P6) (ho : (H.ask c t owner seq h).1 = o)
    (h8 : h.next = 8) (hS : Sep w0 w (helpT c t owner seq hb h :: memT mb m :: rowT 0 114 1 (.slice (some ⟨g, 0, none⟩) tn cap) tn ps :: R)) :
    Calls Try.prog 74 #[.pointer (some ⟨mb, 0, none⟩), .slice (some ⟨g, 0, none⟩) tn cap, .int .i64 t] w fun e w' => e = .returned (.tuple #[]) ∧
      Sep w0 w' (helpT c t owner seq hb h :: memT mb m :: rowT 0 114 1 (.slice (some ⟨g, 0, none⟩) tn cap) tn ps :: R) := by
  have hti : (t : Int) < (tn : Int) := by omega
  have htb2 : (tn : Int) ≤ 100 := by omega
  have HAK := Lib.hid (fun (w' : World) (R : List Thing) (hS : Sep w0 w' (helpT c t owner seq hb h :: R)) => hask_of hb c hok t owner seq h hi.good hS)
  have HTL := Lib.hid (fun (w' : World) (R : List Thing) (x s : Int) (ok : Bool) hx hs (hS : Sep w0 w' (helpT c t owner seq hb h :: R)) => htell_any hb c hok t owner seq h x s ok hx hs hi.good hi.rng hS)
  have HDO := Lib.hid (fun (w' : World) (R : List Thing) (hS : Sep w0 w' (memT mb m :: R)) => mdo_any hS (by omega) t (H.op6 o))
  unfold outVm at HDO
  simp only [opVm_of] at HDO
  have had := H.ask_done (c := c) (who := t) (owner := owner) (seq := seq) hi.rng
  have HS := Lib.hid hS; clear hS
  have HP := Lib.hid hp; clear hp
  have p0 := ownsRow_cell (HS.out.row 2 rfl) t _ HP.out
  have pl := (World.ownsRow.lt (HS.out.row 2 rfl) g rfl).2
  go_enter Try.func74, Try.ntmps74
  go_wp2_with fail
  refine (HAK.out _ _ HS.out).mono ?_
  rintro e w1 ⟨rfl, hf⟩
  rw [had, ho, decide_eq_true h8]
  have hS := (HS.out.fr0 hf).new 43 (enP o)
  have HS := Lib.hid hS; clear hS hf p0 pl had
  have honeO := enP_one o
  clear h8 hi
  go_wp2_with (refine wpList_store_new 43 _ (enP o).toArray rfl _ _ rfl rfl rfl (by kernel_rfl) (by simp [enP]) (all_oneCell_toArray honeO) ?_)
  go_end0
  exact ⟨rfl, HS.out.tail⟩
set_option maxRecDepth 100000 in
set_option maxHeartbeats 8000000 in
theorem step12_go
    {w0 w : World} {R : List Thing} (c : Cfg) (hok : Ok c) (mb hb g tn cap t : Nat) (m : C.M) (owner seq : Int) (h : H.H) (ps : List Value) (hp : ps[t]? = some (.pointer (some ⟨hb, 0, none⟩))) (htn : t < tn) (htb : tn ≤ 100) (hi : H.Inv c h) (ht : m.trace.length ≤ 99999) (o : P6) (ho : (H.ask c t owner seq h).1 = o)
    (h8 : h.next ≠ 8) (hva : (0 ≤ (m.told t (H.op6 o)).v ∧ (m.told t (H.op6 o)).v ≤ 18446744073709551615) ∧ 0 ≤ (m.told t (H.op6 o)).s) (hS : Sep w0 w (helpT c t owner seq hb h :: memT mb m :: rowT 0 114 1 (.slice (some ⟨g, 0, none⟩) tn cap) tn ps :: R)) :
    Calls Try.prog 74 #[.pointer (some ⟨mb, 0, none⟩), .slice (some ⟨g, 0, none⟩) tn cap, .int .i64 t] w fun e w' => e = .returned (.tuple #[]) ∧
      Sep w0 w' (helpT c t owner seq hb (H.tell c seq (m.told t (H.op6 o)).v (m.told t (H.op6 o)).s h) :: memT mb (m.step t (H.op6 o)) :: rowT 0 114 1 (.slice (some ⟨g, 0, none⟩) tn cap) tn ps :: R) := by
  generalize htt : m.told t (H.op6 o) = tt at *
  generalize hms : m.step t (H.op6 o) = m2 at *
  have hti : (t : Int) < (tn : Int) := by omega
  have htb2 : (tn : Int) ≤ 100 := by omega
  have HAK := Lib.hid (fun (w' : World) (R : List Thing) (hS : Sep w0 w' (helpT c t owner seq hb h :: R)) => hask_of hb c hok t owner seq h hi.good hS)
  have HTL := Lib.hid (fun (w' : World) (R : List Thing) (x s : Int) (ok : Bool) hx hs (hS : Sep w0 w' (helpT c t owner seq hb h :: R)) => htell_any hb c hok t owner seq h x s ok hx hs hi.good hi.rng hS)
  have HDO := Lib.hid (fun (w' : World) (R : List Thing) (hS : Sep w0 w' (memT mb m :: R)) => mdo_any hS (by omega) t (H.op6 o))
  unfold outVm at HDO
  simp only [opVm_of] at HDO
  have had := H.ask_done (c := c) (who := t) (owner := owner) (seq := seq) hi.rng
  have HS := Lib.hid hS; clear hS
  have HP := Lib.hid hp; clear hp
  have p0 := ownsRow_cell (HS.out.row 2 rfl) t _ HP.out
  have pl := (World.ownsRow.lt (HS.out.row 2 rfl) g rfl).2
  go_enter Try.func74, Try.ntmps74
  go_wp2_with fail
  refine (HAK.out _ _ HS.out).mono ?_
  rintro e w1 ⟨rfl, hf⟩
  rw [had, ho, decide_eq_false h8]
  have hS := (HS.out.fr0 hf).new 43 (enP o)
  have HS := Lib.hid hS; clear hS hf p0 pl had
  have honeO := enP_one o
  clear h8 hi
  simp only [htt, hms] at HDO
  clear htt hms
  obtain ⟨t0, t1, t2⟩ := tt
  dsimp only at hva HDO
  go_wp2_with (first | (refine wpList_store_new 43 _ (enP o).toArray rfl _ _ rfl rfl rfl (by kernel_rfl) (by simp [enP]) (all_oneCell_toArray honeO) ?_) | (refine wpList_load_any 43 _ rfl rfl _ 0 rfl (enP o) _ (HS.out.blk 0 rfl).range Try.underlying43 rfl (by kernel_rfl) ?_))
  refine (HDO.out _ _ (HS.out.pull 2 rfl)).mono ?_
  rintro e w2 ⟨rfl, hS⟩
  generalize C.err m.cells.length t (H.op6 o) = er at *
  have HS := Lib.hid (hS.new 55 [.int .u64 t0, .int .u64 t1, .bool t2]); clear hS
  have p0 := ownsRow_cell (HS.out.row 4 rfl) t _ HP.out
  have pl := (World.ownsRow.lt (HS.out.row 4 rfl) g rfl).2
  have z0 := (HS.out.blk 0 rfl).cell 0
  have z1 := (HS.out.blk 0 rfl).cell 1
  have z2 := (HS.out.blk 0 rfl).cell 2
  have zl := (HS.out.blk 0 rfl).lt
  simp only [List.getElem?_cons_zero, List.getElem?_cons_succ] at z0 z1 z2
  go_wp2_with fail
  refine wp_region_fr [(1, [0, 1, 2, 3, 4]), (3, [5])] [] (by kernel_rfl) (by kernel_rfl) ?_
  simp only [theOps, nthOp, List.map_cons, List.map_nil, Array.getD_eq_getD_getElem?, List.getElem?_toArray, List.getElem?_cons_succ, List.getElem?_cons_zero, Option.getD_some]
  repeat ((first | refine wpSegs_soft ?_ | refine wpSegs_pure ?_ | refine wpSegs_here ?_); (repeat (first | go_big_quiet_step (fail) | quiet_step (fail))); refine wpQuiet_nil ?_)
  refine wpSegs_hard ?_
  go_wp2_with fail
  refine (HTL.out _ _ t0 t1 t2 hva.1 hva.2 (HS.out.drew.pull 3 rfl)).mono ?_
  rintro e w3 ⟨rfl, hS⟩
  have HS := Lib.hid hS; clear hS p0 pl z0 z1 z2 zl hva
  go_wp2_with fail
  refine wpSegs_done ?_
  go_wp2_with fail
  go_end0
  exact ⟨rfl, ((HS.out.pull 1 rfl).tail.pull 2 rfl).tail⟩
theorem step12_one {w0 w : World} {R : List Thing} (c : Cfg) (hok : Ok c) (mb hb g tn cap t : Nat) (m : C.M) (owner seq : Int) (h : H.H) (ps : List Value) (hp : ps[t]? = some (.pointer (some ⟨hb, 0, none⟩))) (htn : t < tn) (htb : tn ≤ 100) (hi : H.Inv c h) (ht : m.trace.length ≤ 99999) (o : P6) (ho : (H.ask c t owner seq h).1 = o)
    (hva : h.next ≠ 8 → (0 ≤ (m.told t (H.op6 o)).v ∧ (m.told t (H.op6 o)).v ≤ 18446744073709551615) ∧ 0 ≤ (m.told t (H.op6 o)).s)
    (hS : Sep w0 w (helpT c t owner seq hb h :: memT mb m :: rowT 0 114 1 (.slice (some ⟨g, 0, none⟩) tn cap) tn ps :: R)) :
    Calls Try.prog 74 #[.pointer (some ⟨mb, 0, none⟩), .slice (some ⟨g, 0, none⟩) tn cap, .int .i64 t] w fun e w' => e = .returned (.tuple #[]) ∧
      Sep w0 w' (helpT c t owner seq hb (if h.next = 8 then h else H.tell c seq (m.told t (H.op6 o)).v (m.told t (H.op6 o)).s h) :: memT mb (if h.next = 8 then m else m.step t (H.op6 o)) :: rowT 0 114 1 (.slice (some ⟨g, 0, none⟩) tn cap) tn ps :: R) := by
  by_cases h8 : h.next = 8
  · rw [if_pos h8, if_pos h8]
    exact step12_no c hok mb hb g tn cap t m owner seq h ps hp htn htb hi ht o ho h8 hS
  · rw [if_neg h8, if_neg h8]
    exact step12_go c hok mb hb g tn cap t m owner seq h ps hp htn htb hi ht o ho h8 (hva h8) hS
theorem step12_all {w0 w : World} {R : List Thing} (c : Cfg) (hok : Ok c) (mb g T cap : Nat) (hT : (T : Int) = c.t) (m : C.M) (owner seq : Int) (L : List (Int × Int)) (B : C.M) (J : H.Job c owner seq L B) (Bk : Nat → Nat) (F : Nat → H.H) (A : H.All c owner seq L B m F) (ht : m.trace.length ≤ 99999) (t : Nat) (htT : t < T)
    (hS : Sep w0 w (memT mb m :: rowT 0 114 1 (.slice (some ⟨g, 0, none⟩) T cap) T (ptrs Bk T) :: (R ++ rowOf T (hsT c owner seq Bk F)))) :
    Calls Try.prog 74 #[.pointer (some ⟨mb, 0, none⟩), .slice (some ⟨g, 0, none⟩) T cap, .int .i64 t] w fun e w' => e = .returned (.tuple #[]) ∧
      Sep w0 w' (memT mb (H.stM c owner seq m F t) :: rowT 0 114 1 (.slice (some ⟨g, 0, none⟩) T cap) T (ptrs Bk T) :: (R ++ rowOf T (hsT c owner seq Bk (H.stF c owner seq m F t)))) := by
  have ht8 := hok.t8
  have hti : (t : Int) < c.t := by omega
  have hS2 := Sep.pullRow (Fx := memT mb m :: rowT 0 114 1 (.slice (some ⟨g, 0, none⟩) T cap) T (ptrs Bk T) :: R) hS htT
  refine (step12_one (R := R ++ (rowOf T (hsT c owner seq Bk F)).eraseIdx t) c hok mb (Bk t) g T cap t m owner seq (F t) _ (ptrs_get htT) htT (by omega) (A.thr t hti).inv ht _ rfl (fun h8 => (A.step J hti h8 rfl).2.2.2) hS2).mono ?_
  rintro e w' ⟨rfl, hS3⟩
  refine ⟨rfl, ?_⟩
  have hoth := (A.st J hti).2.2.2
  have h4 := Sep.backRow (w0 := w0) (w := w') (Fx := memT mb (H.stM c owner seq m F t) :: rowT 0 114 1 (.slice (some ⟨g, 0, none⟩) T cap) T (ptrs Bk T) :: R) (G := hsT c owner seq Bk F) (G' := hsT c owner seq Bk (H.stF c owner seq m F t)) htT (fun u hu => by unfold hsT; rw [hoth u hu]) ?_
  · exact h4
  · have e1 : H.stM c owner seq m F t = if (F t).next = 8 then m else m.step t (H.op6 (H.ask c t owner seq (F t)).1) := rfl
    have e2 : H.stF c owner seq m F t t = if (F t).next = 8 then F t else H.tell c seq (m.told t (H.op6 (H.ask c t owner seq (F t)).1)).v (m.told t (H.op6 (H.ask c t owner seq (F t)).1)).s (F t) := by
      unfold H.stF
      by_cases h8 : (F t).next = 8
      · rw [if_pos h8, if_pos h8]
      · rw [if_neg h8, if_neg h8, H.upd_same]
    show Sep w0 w' (helpT c t owner seq (Bk t) (H.stF c owner seq m F t t) :: memT mb (H.stM c owner seq m F t) :: _)
    rw [e1, e2]
    exact hS3

set_option maxHeartbeats 2000000 in
theorem neq_cell_self12 (w : World) (a b : Int) : (binOp .neq 41 (.agg #[.int .u64 a, .int .u64 b]) (.agg #[.int .u64 a, .int .u64 b])).run Try.prog w = .ok (.bool false) w := by
  have h2 := Try.underlying41
  have h4 := Try.underlying22
  have p2 : Try.prog.stoodInHeld 41 = false := by kernel_rfl
  simp only [run_neq_struct]
  rw [run_equalIn_struct w 9999 41 _ _ (by unfold Program.fieldsOf; rw [h2]) p2]
  simp [Program.fieldsOf, h2, h4, p2, Op.eqFields, go_sem]
/-! ### numbers that came in -/
def enI (x : Int) : List Value := [.int .i64 x]
theorem enI_of (vs : List Value) (h : LKs [.int .i64] vs) : ∃ s : Int, vs = enI s ∧ True := by
  obtain ⟨_, r0, rfl, ⟨x0, rfl, g0⟩, h0⟩ := LKs.cons h
  rw [LKs.none h0]
  exact ⟨x0, rfl, trivial⟩
open Go.ChangeShapes Go.WideShapes Go.Deep in
theorem argInts_of {H : Type} {enc : TypeId × Value → H} {W : World} {base : Nat} {spare : Nat → Bool} {held : Bool} {fuel : Nat} {a : Option Addr} {len cap : Nat} {x : DataW H × List MemPlace}
    (h : DataW.trod enc Try.prog W base spare held fuel 70 (Value.slice a len cap).cells.toList = some x) :
    ∃ l : List Int, ArgE enI 1 W (.slice a len cap) l ∧ len = l.length ∧ l.length ≤ maxLen := by
  obtain ⟨l, h1, _, h2, h3⟩ := argE_of (en := enI) (n := 1) (good := fun _ => True) (ks := [.int .i64]) (f := 5) Try.underlying70 (by kernel_rfl) (by kernel_rfl) rfl (by decide) enI_of h
  exact ⟨l, h1, h2, h3⟩
theorem H_infoHelp : (Try.prog.info? 114).map (fun i => (i.zero, i.size, i.bytes)) = some (some (.pointer none), 1, 8) := by kernel_rfl
theorem ev_cells12 {w : World} {base : Nat} {e : TypeId} {g n cap : Nat} {l : List C.Ev} (h : w.ownsRow base e 10 (.slice (some ⟨g, 0, none⟩) n cap) n (flat C.enEv l)) {k : Nat} (hk : k < l.length) (j : Nat) (hj : j < 10) (u : Value) (hu : (C.enEv l[k])[j]? = some u) : w.cell? ⟨g, k * 10 + j, none⟩ = some u :=
  ownsRow_cell h (k * 10 + j) u ((flat_get C.enEv_len l k hk j hj).trans hu)
set_option maxRecDepth 100000 in
set_option maxHeartbeats 4000000 in
theorem hmany_s0 (w : World) (c : Cfg) (owner : Int) (a : Option Addr) (m lc : Nat) (own : Bool) (pa : Option Addr) (pn pc : Nat) (hrc : right c = false) : Calls Try.prog 13 #[cfgV c, .int .i64 owner, .slice a m lc, .bool own, .slice pa pn pc] w fun e w' => e = .returned (.bool true) ∧ Fr [] w w' := by
  have HS := Lib.hid ((Sep.nil (Fr.refl [] w)).new 24 (cfgL c))
  have HR := Lib.hid (fun w => rright12_any w c)
  have hsz6 : (cfgL c).length = 6 := rfl
  have g0 : (cfgL c)[0]? = some (.int .i64 c.t) := rfl
  have g4 : (cfgL c)[4]? = some (.int .u64 c.fi) := rfl
  have g5 : (cfgL c)[5]? = some (.int .u64 c.la) := rfl
  rw [show cfgV c = .agg (cfgL c).toArray from rfl] at *
  generalize cfgL c = cl at *
  go_enter Try.func13, Try.ntmps13
  go_wp2_with fail
  refine (alive12_any _).mono ?_
  rintro e w1 ⟨rfl, hf⟩
  have HS := Lib.hid (HS.out.fr0 hf)
  clear hf
  go_wp2_with (refine wpList_load_any 24 _ rfl rfl _ 0 rfl cl _ (HS.out.blk 0 rfl).range Try.underlying24 rfl (by rw [hsz6]; kernel_rfl) ?_)
  refine (HR.out _).mono ?_
  rintro e w1 ⟨rfl, hf⟩
  have HS := Lib.hid (HS.out.fr0 hf)
  clear hf
  rw [hrc]
  go_wp2_with fail
  go_ret
  exact ⟨rfl, HS.out.fr⟩
set_option maxRecDepth 100000 in
set_option maxHeartbeats 40000000 in
theorem hmany_good (w : World) (c : Cfg) (h : Ok c) (hf0 : 0 ≤ c.fi) (owner : Int) (a : Option Addr) (m lc : Nat) (L : List (Int × Int)) (hLm : m = L.length) (hL : ArgE enE 2 w (.slice a m lc) L) (hG : ∀ e ∈ L, goodE e) (hnil : NilA a m lc) (hmx : m ≤ maxLen) (own : Bool) (pa : Option Addr) (pn pc : Nat) (PL : List Int) (hPn : PL.length = pn) (hP : ArgE enI 1 w (.slice pa pn pc) PL) (hrc : right c = true) :
    Calls Try.prog 13 #[cfgV c, .int .i64 owner, .slice a m lc, .bool own, .slice pa pn pc] w fun e w' => e = .returned (.bool true) ∧ Fr [] w w' := by
  have ht1 := h.t1
  have ht8 := h.t8
  have hfl := h.fl
  have hl47 := h.l47
  have HRT := Lib.hid (fun w hL => right12_any w c h a m lc L hLm.symm hL hG hmx)
  have HOF : Hid (∀ w, Calls Try.prog 25 #[.agg (cfgL c).toArray] w fun e w' => e = .returned (.tuple #[mapV c, .int .i64 0]) ∧ Fr [] w w') := fun w => of_good w c h
  obtain ⟨b2, hb2, hbe2⟩ := and_i64_low owner 8 (by decide)
  obtain ⟨q2, hq2⟩ : ∃ q : Int, q = (b2 : Int) := ⟨_, rfl⟩
  have hbe2' : bits .and .i64 owner 255 = q2 := by rw [hq2]; exact hbe2
  have hq20 : 0 ≤ q2 ∧ q2 ≤ 255 := by rw [hq2]; omega
  obtain ⟨r2, hr2⟩ : ∃ r, Int.tmod q2 c.t = r := ⟨_, rfl⟩
  have hr20 := tmod_in hr2 hq20.1 ht1
  clear hbe2 hb2 hq2
  obtain ⟨sq, hsq⟩ : ∃ sq, sq = c.fi + 1 := ⟨_, rfl⟩
  have HLD := Lib.hid (fun w hA hm => laid_any w c h r2 sq a m lc L hLm hA hm)
  have HOW := Lib.hid (fun w u hA hm => hown_any w c h u sq a m lc L hLm hA hnil hm)
  have HNW := Lib.hid (fun w u => hnew_of w c u r2 sq)
  have HDN := Lib.hid (fun (w0 w : World) (R : List Thing) (b : Nat) (u : Int) (hh : H.H) (hS : Sep w0 w (helpT c u r2 sq b hh :: R)) => hdone_of b c u r2 sq hh hS)
  have HWH := Lib.hid (fun p => what_all h p)
  unfold Tells at HWH
  have HAT4 := Lib.hid (fun w => at_any w c h 4 r2 0)
  have hsw : IntKind.u64.wrap (c.fi + 1) = sq := by rw [IntKind.wrap_u64]; omega
  have HSQ := Lib.hid hsq; clear hsq
  have hsz : (mapCells c).length = 24 := rfl
  have hone : ∀ v ∈ mapCells c, v.oneCell' = true := by simp [mapCells, Value.oneCell']
  have HLM := Lib.hid hLm; clear hLm
  obtain ⟨i0, hi0, hz0, hz1, hz2⟩ := info_parts H_infoHelp
  unfold mapV at *
  generalize mapCells c = cs at *
  have HS := Lib.hid ((Sep.nil (Fr.refl [] w)).new 24 (cfgL c))
  have HR := Lib.hid (fun w => rright12_any w c)
  have hsz6 : (cfgL c).length = 6 := rfl
  have g0 : (cfgL c)[0]? = some (.int .i64 c.t) := rfl
  have g4 : (cfgL c)[4]? = some (.int .u64 c.fi) := rfl
  have g5 : (cfgL c)[5]? = some (.int .u64 c.la) := rfl
  rw [show cfgV c = .agg (cfgL c).toArray from rfl] at *
  generalize cfgL c = cl at *
  go_enter Try.func13, Try.ntmps13
  go_wp2_with fail
  refine (alive12_any _).mono ?_
  rintro e w1 ⟨rfl, hf⟩
  have HS := Lib.hid (HS.out.fr0 hf)
  clear hf
  go_wp2_with (refine wpList_load_any 24 _ rfl rfl _ 0 rfl cl _ (HS.out.blk 0 rfl).range Try.underlying24 rfl (by rw [hsz6]; kernel_rfl) ?_)
  refine (HR.out _).mono ?_
  rintro e w1 ⟨rfl, hf⟩
  have HS := Lib.hid (HS.out.fr0 hf)
  clear hf
  rw [hrc]
  go_wp2_with (refine wpList_load_any 24 _ rfl rfl _ 0 rfl cl _ (HS.out.blk 0 rfl).range Try.underlying24 rfl (by rw [hsz6]; kernel_rfl) ?_)
  refine (HRT.out _ (hL.fr HS.out.fr)).mono ?_
  rintro e w1 ⟨⟨r, rfl, hrr⟩, hf⟩
  have HS := Lib.hid (HS.out.fr0 hf); clear hf
  have HRR := Lib.hid hrr; clear hrr
  cases r
  · go_wp2_with fail
    go_ret
    exact ⟨rfl, HS.out.fr⟩
  have hR := HRR.out rfl
  have HRI := Lib.hid hR; clear hR HRR
  by_cases hp4 : 400 < pn
  · have d0 : decide ((pn : Int) > 400) = true := by simp; omega
    go_wp2_with fail
    go_ret
    exact ⟨rfl, HS.out.fr⟩
  have d0 : decide ((pn : Int) > 400) = false := by simp; omega
  have c4 := ((HS.out.blk 0 rfl).cell 4).trans g4
  have c5 := ((HS.out.blk 0 rfl).cell 5).trans g5
  have cl0 := (HS.out.blk 0 rfl).lt
  by_cases hfe : c.fi = c.la
  · have d1 : (c.fi == c.la) = true := by simpa using hfe
    go_wp2_with fail
    go_ret
    exact ⟨rfl, HS.out.fr⟩
  have d1 : (c.fi == c.la) = false := by simpa using hfe
  go_wp2_with (refine wpList_load_any 24 _ rfl rfl _ 0 rfl cl _ (HS.out.blk 0 rfl).range Try.underlying24 rfl (by rw [hsz6]; kernel_rfl) ?_)
  refine (HOF.out _).mono ?_
  rintro e w2 ⟨rfl, hf⟩
  have HS := Lib.hid ((HS.out.fr0 hf).new 31 cs); clear hf c4 c5 cl0
  have c0 := ((HS.out.blk 1 rfl).cell 0).trans g0
  have c4 := ((HS.out.blk 1 rfl).cell 4).trans g4
  have cl0 := (HS.out.blk 1 rfl).lt
  go_wp2_with (first | (refine wpList_store_new 31 _ (cs).toArray rfl _ _ rfl rfl rfl (by rw [List.size_toArray, hsz]; kernel_rfl) (by simp [hsz]) (all_oneCell_toArray hone) ?_) | (refine wpList_load_any 31 _ rfl rfl _ 0 rfl cs _ (HS.out.blk 0 rfl).range Try.underlying31 rfl (by rw [hsz]; kernel_rfl) ?_))
  have hm30 : m ≤ 30 := by have := HRI.out.2.1; have := HLM.out; omega
  refine (HLD.out _ (hL.fr HS.out.fr) (by omega)).mono ?_
  rintro e w3 ⟨mb, rfl, hN⟩
  have hS := HS.out.append hN
  simp only [List.cons_append, List.nil_append] at hS
  have HS := Lib.hid hS; clear hS hN c0 c4 cl0
  obtain ⟨B, hB⟩ : ∃ B, B = H.laidM c r2 sq L := ⟨_, rfl⟩
  have hS := HS.out
  rw [← hB] at hS
  have HS := Lib.hid hS; clear hS
  obtain ⟨F0, hF0⟩ : ∃ F0 : Nat → H.H, F0 = fun t : Nat => if (t : Int) = r2 ∧ own = true then H.hOwn c L else H.hNew := ⟨_, rfl⟩
  have hsq1 : 1 ≤ sq := by have := HSQ.out; omega
  have HJ : Hid (H.Job c r2 sq L B) := by rw [hB]; exact H.laid_job h hf0 hr20 HRI.out.1 hsq1
  have HBL : Hid (B.cells.length = (size c).toNat ∧ B.trace.length = 0) := by rw [hB]; exact ⟨H.laid_len _ _ _ _, by rw [H.laid_tr]; rfl⟩
  have HA0 : Hid (H.All c r2 sq L B B F0) := by
    rw [hB]
    exact H.all_start h hf0 hr20 HRI.out.1 hsq1 F0 fun t ht => by
      rw [hF0]; dsimp only
      by_cases hx : (t : Int) = r2 ∧ own = true
      · rw [if_pos hx]; exact .inr rfl
      · rw [if_neg hx]; exact .inl rfl
  have HF0 := Lib.hid hF0
  clear hB hF0 HLD hfl hl47 hsw hr2 hbe2' d0 d1 hfe
  obtain ⟨T, hT⟩ : ∃ T : Nat, (T : Int) = c.t := ⟨c.t.toNat, by omega⟩
  have HT := Lib.hid hT
  have hT1 : 1 ≤ T := by omega
  have hT8 : T ≤ 8 := by omega
  clear hT
  have hT8i : (T : Int) ≤ 8 := by omega
  go_wp2_with fail
  obtain ⟨hg, vc, vt, hM⟩ := sep_mem HS.out 0 rfl
  refine (copy_any _ mb vc vt B hM hg (by have := HBL.out.2; omega)).mono ?_
  rintro e w4 ⟨wb, rfl, hF⟩
  have hS := (HS.out.fresh hF).emptyRow 114 1
  have HS := Lib.hid (hS.sub (Ts' := [_, _, _, _, _]) [0, 2, 1, 3, 4] rfl (by decide)); clear hS hF hM hg
  have c0 := ((HS.out.blk 4 rfl).cell 0).trans g0
  have cl0 := (HS.out.blk 4 rfl).lt
  go_wp2_with fail
  clear c0 cl0
  go_loopg [16, 83] T (fun g va vi wr => ∃ (k : Nat) (Bk : Nat → Nat) (v : Value), g + k = T ∧ va = v ∧ vi = .int .i64 (k : Int) ∧ Sep w wr ([rowT 0 114 1 v k (ptrs Bk k), memT mb B, memT wb B, blkT w2.heap.size 31 cs, blkT w.heap.size 24 cl] ++ rowOf k (hsT c r2 sq Bk F0)))
  case atStart => exact ⟨0, fun _ => 0, _, by omega, rfl, rfl, HS.out⟩
  case round =>
    clear HS
    obtain ⟨k, Bk, v, hgk, rfl, rfl, hS⟩ := hrel
    obtain ⟨oa, oc, rfl⟩ := hS.form 0 rfl
    have HS := Lib.hid hS; clear hS
    by_cases hk : k < T
    · have hki : (k : Int) < c.t := by have := HT.out; omega
      go_wp2_with (refine wpList_load_any 31 _ rfl rfl _ 0 rfl cs _ (HS.out.blk 3 rfl).range Try.underlying31 rfl (by rw [hsz]; kernel_rfl) ?_)
      refine (HNW.out _ _).mono ?_
      rintro e w5 ⟨hb, rfl, hN⟩
      have hS := HS.out.append hN
      simp only [List.cons_append, List.nil_append] at hS
      have HS := Lib.hid hS; clear hS hN
      by_cases hkr : (k : Int) = r2
      · have dk : ((k : Int) == r2) = true := by simpa using hkr
        cases own
        · have hFk : F0 k = H.hNew := by rw [HF0.out]; simp
          have HFK := Lib.hid hFk; clear hFk
          have hS := Sep.growRow (Fx := [rowT 0 114 1 (.slice oa k oc) k (ptrs Bk k), memT mb B, memT wb B, blkT w2.heap.size 31 cs, blkT w.heap.size 24 cl]) (G' := hsT c r2 sq (fun u => if u = k then hb else Bk u) F0) HS.out (fun u hu => by unfold hsT; dsimp only; rw [if_neg (by omega)]) (by unfold hsT; dsimp only; rw [if_pos rfl, HFK.out])
          have hS := hS.new 114 [.pointer (some ⟨hb, 0, none⟩)]
          have HS := Lib.hid hS; clear hS
          go_wp2_with (at_builtin; go_must (refine wpList_push_blk _ rfl _ _ 125 rfl 0 114 i0 _ 1 8 Try.underlying125 hi0 hz0 hz1 hz2 rfl (by decide) (.slice oa k oc) k (ptrs Bk k) rfl (HS.out.row 1 rfl) [.pointer (some ⟨hb, 0, none⟩)] _ _ rfl (HS.out.blk 0 rfl) rfl (by simp [Value.oneCell']) (by unfold maxLen; omega) (by omega) (Nat.zero_le _) ?_))
          intro g2 c2' w12 hown hg2 hgg hc1 hc2'
          have h3 := (HS.out.grown 1 rfl hown hg2 (fun q e => by
            rcases hgg with h1 | h1
            · exact .inl (h1.trans e)
            · right; simp only [Value.ownBlock, Option.some.injEq] at e; rw [← e, h1]; simp)).tail
          rw [← ptrs_succ (Bk' := fun u => if u = k then hb else Bk u) (fun t ht => if_neg (by omega)) (if_pos rfl)] at h3
          have HS3 := Lib.hid h3
          clear h3 hown hg2 hgg HS
          go_wp2_with fail
          go_roundg (T - (k + 1))
          case measure => omega
          case rel => exact ⟨k + 1, _, _, by omega, rfl, by go_num, HS3.out⟩
        · have hFk : F0 k = H.hOwn c L := by rw [HF0.out]; simp [hkr]
          have HFK := Lib.hid hFk; clear hFk
          go_wp2_with (refine wpList_load_any 31 _ rfl rfl _ 0 rfl cs _ (HS.out.blk 4 rfl).range Try.underlying31 rfl (by rw [hsz]; kernel_rfl) ?_)
          refine (HOW.out _ _ (hL.fr HS.out.fr) (by omega)).mono ?_
          rintro e w6 ⟨hb, rfl, hN⟩
          have hS := (HS.out.append hN).snd
          have HS := Lib.hid hS; clear hS hN
          have hS := Sep.growRow (Fx := [rowT 0 114 1 (.slice oa k oc) k (ptrs Bk k), memT mb B, memT wb B, blkT w2.heap.size 31 cs, blkT w.heap.size 24 cl]) (G' := hsT c r2 sq (fun u => if u = k then hb else Bk u) F0) HS.out (fun u hu => by unfold hsT; dsimp only; rw [if_neg (by omega)]) (by unfold hsT; dsimp only; rw [if_pos rfl, HFK.out, ← hkr]; rfl)
          have hS := hS.new 114 [.pointer (some ⟨hb, 0, none⟩)]
          have HS := Lib.hid hS; clear hS
          go_wp2_with (at_builtin; go_must (refine wpList_push_blk _ rfl _ _ 125 rfl 0 114 i0 _ 1 8 Try.underlying125 hi0 hz0 hz1 hz2 rfl (by decide) (.slice oa k oc) k (ptrs Bk k) rfl (HS.out.row 1 rfl) [.pointer (some ⟨hb, 0, none⟩)] _ _ rfl (HS.out.blk 0 rfl) rfl (by simp [Value.oneCell']) (by unfold maxLen; omega) (by omega) (Nat.zero_le _) ?_))
          intro g2 c2' w12 hown hg2 hgg hc1 hc2'
          have h3 := (HS.out.grown 1 rfl hown hg2 (fun q e => by
            rcases hgg with h1 | h1
            · exact .inl (h1.trans e)
            · right; simp only [Value.ownBlock, Option.some.injEq] at e; rw [← e, h1]; simp)).tail
          rw [← ptrs_succ (Bk' := fun u => if u = k then hb else Bk u) (fun t ht => if_neg (by omega)) (if_pos rfl)] at h3
          have HS3 := Lib.hid h3
          clear h3 hown hg2 hgg HS
          go_wp2_with fail
          go_roundg (T - (k + 1))
          case measure => omega
          case rel => exact ⟨k + 1, _, _, by omega, rfl, by go_num, HS3.out⟩
      · have dk : ((k : Int) == r2) = false := by simpa using hkr
        have hFk : F0 k = H.hNew := by rw [HF0.out]; dsimp only; rw [if_neg (fun h => hkr h.1)]
        have HFK := Lib.hid hFk; clear hFk
        have hS := Sep.growRow (Fx := [rowT 0 114 1 (.slice oa k oc) k (ptrs Bk k), memT mb B, memT wb B, blkT w2.heap.size 31 cs, blkT w.heap.size 24 cl]) (G' := hsT c r2 sq (fun u => if u = k then hb else Bk u) F0) HS.out (fun u hu => by unfold hsT; dsimp only; rw [if_neg (by omega)]) (by unfold hsT; dsimp only; rw [if_pos rfl, HFK.out])
        have hS := hS.new 114 [.pointer (some ⟨hb, 0, none⟩)]
        have HS := Lib.hid hS; clear hS
        go_wp2_with (at_builtin; go_must (refine wpList_push_blk _ rfl _ _ 125 rfl 0 114 i0 _ 1 8 Try.underlying125 hi0 hz0 hz1 hz2 rfl (by decide) (.slice oa k oc) k (ptrs Bk k) rfl (HS.out.row 1 rfl) [.pointer (some ⟨hb, 0, none⟩)] _ _ rfl (HS.out.blk 0 rfl) rfl (by simp [Value.oneCell']) (by unfold maxLen; omega) (by omega) (Nat.zero_le _) ?_))
        intro g2 c2' w12 hown hg2 hgg hc1 hc2'
        have h3 := (HS.out.grown 1 rfl hown hg2 (fun q e => by
          rcases hgg with h1 | h1
          · exact .inl (h1.trans e)
          · right; simp only [Value.ownBlock, Option.some.injEq] at e; rw [← e, h1]; simp)).tail
        rw [← ptrs_succ (Bk' := fun u => if u = k then hb else Bk u) (fun t ht => if_neg (by omega)) (if_pos rfl)] at h3
        have HS3 := Lib.hid h3
        clear h3 hown hg2 hgg HS
        go_wp2_with fail
        go_roundg (T - (k + 1))
        case measure => omega
        case rel => exact ⟨k + 1, _, _, by omega, rfl, by go_num, HS3.out⟩
    · obtain rfl : k = T := by omega
      have hke : ¬ (k : Int) < c.t := by have := HT.out; omega
      obtain ⟨g, hla⟩ : ∃ g, oa = some ⟨g, 0, none⟩ := by
        rcases ownsRow_form (HS.out.row 0 rfl) with ⟨_, e⟩ | ⟨g, cap, e, _⟩
        · omega
        · simp only [Value.slice.injEq] at e; exact ⟨g, e.1⟩
      subst hla
      have HST := Lib.hid (fun (w' : World) (mm : C.M) (F : Nat → H.H) (A : H.All c r2 sq L B mm F) (ht : mm.trace.length ≤ 99999) (t : Nat) (htT : t < k) hS => step12_all (w0 := w) (w := w') (R := [memT wb B, blkT w2.heap.size 31 cs, blkT w.heap.size 24 cl]) c h mb g k oc HT.out mm r2 sq L B HJ.out Bk F A ht t htT hS)
      have HS : Hid (Sep w wr (memT mb B :: rowT 0 114 1 (.slice (some ⟨g, 0, none⟩) k oc) k (ptrs Bk k) :: ([memT wb B, blkT w2.heap.size 31 cs, blkT w.heap.size 24 cl] ++ rowOf k (hsT c r2 sq Bk F0)))) := HS.out.pull 1 rfl
      have hpi : (pn : Int) ≤ 400 := by omega
      have hmi : (m : Int) ≤ 30 := by omega
      clear HOW HNW HRT HOF HF0
      go_wp2_with fail
      go_loopg [109] pn (fun gg vi wr => ∃ (j : Nat) (mm : C.M) (F : Nat → H.H), gg + j = pn ∧ vi = .int .i64 (j : Int) ∧ (H.All c r2 sq L B mm F ∧ mm.trace.length ≤ j) ∧ Sep w wr (memT mb mm :: rowT 0 114 1 (.slice (some ⟨g, 0, none⟩) k oc) k (ptrs Bk k) :: ([memT wb B, blkT w2.heap.size 31 cs, blkT w.heap.size 24 cl] ++ rowOf k (hsT c r2 sq Bk F))))
      case atStart => exact ⟨0, _, _, by omega, rfl, ⟨HA0.out, by have := HBL.out.2; omega⟩, HS.out⟩
      case round =>
        clear HS HA0
        obtain ⟨j, mm, F, hgj, rfl, hk0, hS⟩ := hrel
        have HK := Lib.hid hk0; clear hk0
        have HS := Lib.hid hS; clear hS
        by_cases hj : j < pn
        · have hji : (j : Int) < (pn : Int) := by omega
          obtain ⟨x, rfl, hx, e0, e1⟩ := (hP.fr HS.out.fr).at (i := j) (by omega)
          generalize PL[j]'(by omega) = pv at *
          have y0 := e0 _ rfl
          simp only [Nat.mul_one] at y0
          clear e0 e1
          obtain ⟨qn, hqn, hqe⟩ := and_i64_low pv 8 (by decide)
          obtain ⟨q, hq⟩ : ∃ q : Int, q = (qn : Int) := ⟨_, rfl⟩
          have hqe' : bits .and .i64 pv 255 = q := by rw [hq]; exact hqe
          have hq0 : 0 ≤ q ∧ q ≤ 255 := by rw [hq]; omega
          obtain ⟨r, hr⟩ : ∃ r, Int.tmod q c.t = r := ⟨_, rfl⟩
          have hr0 := tmod_in hr hq0.1 (by omega)
          have hrn : r.toNat < k := by have := HT.out; omega
          have hST := HST.out wr mm F HK.out.1 (by have := HK.out.2; omega) r.toNat hrn HS.out
          rw [Int.toNat_of_nonneg hr0.1] at hST
          have hst := HK.out.1.st HJ.out (t := r.toNat) (by omega)
          generalize r.toNat = rn at hST hst
          have HST2 := Lib.hid hST
          have HNX : Hid (H.All c r2 sq L B (H.stM c r2 sq mm F rn) (H.stF c r2 sq mm F rn) ∧ (H.stM c r2 sq mm F rn).trace.length ≤ j + 1) := ⟨hst.1, by have := hst.2.1; have := HK.out.2; omega⟩
          clear hST hst hrn
          clear hqe hq hqn
          have c0 := ((HS.out.blk 4 rfl).cell 0).trans g0
          have cl0 := (HS.out.blk 4 rfl).lt
          go_wp2_with fail
          refine HST2.out.mono ?_
          rintro e w5 ⟨rfl, hS⟩
          clear hr hqe' HST2
          have HS := Lib.hid hS; clear hS c0 cl0 y0
          go_wp2_with fail
          go_roundg (pn - (j + 1))
          case measure => omega
          case rel => exact ⟨j + 1, _, _, by omega, by go_num, HNX.out, HS.out⟩
        · obtain rfl : j = pn := by omega
          clear hP hPn
          go_wp2_with fail
          go_loopg [124] k (fun gg vi wr => ∃ (i : Nat) (mm : C.M) (F : Nat → H.H), gg + i = k ∧ vi = .int .i64 (i : Int) ∧ (H.All c r2 sq L B mm F ∧ (∀ u, u < i → (F u).next = 8) ∧ mm.trace.length ≤ 400 + 170 * i) ∧ Sep w wr (memT mb mm :: rowT 0 114 1 (.slice (some ⟨g, 0, none⟩) k oc) k (ptrs Bk k) :: ([memT wb B, blkT w2.heap.size 31 cs, blkT w.heap.size 24 cl] ++ rowOf k (hsT c r2 sq Bk F))))
          case atStart => exact ⟨0, _, _, by omega, rfl, ⟨HK.out.1, fun u hu => by omega, by have := HK.out.2; omega⟩, HS.out⟩
          case round =>
            clear HS HK
            obtain ⟨i, mm, F, hgi, rfl, hk0, hS⟩ := hrel
            have HK := Lib.hid hk0; clear hk0
            have HS := Lib.hid hS; clear hS
            by_cases hi : i < k
            · have hii : (i : Int) < (k : Int) := by omega
              have ht0 := HK.out.1.thr i (by have := HT.out; omega)
              have hms0 := ht0.nn
              have hms1 := ht0.most
              go_wp2_with fail
              go_loopg [22] ((H.ms L (F i)).toNat) (fun gg vn wr => ∃ (n : Nat) (mm : C.M) (F : Nat → H.H), vn = .int .i64 (n : Int) ∧ (H.All c r2 sq L B mm F ∧ (∀ u, u < i → (F u).next = 8) ∧ H.ms L (F i) = (gg : Int) ∧ n + gg ≤ 5 * m + 3 ∧ mm.trace.length ≤ 400 + 170 * i + n) ∧ Sep w wr (memT mb mm :: rowT 0 114 1 (.slice (some ⟨g, 0, none⟩) k oc) k (ptrs Bk k) :: ([memT wb B, blkT w2.heap.size 31 cs, blkT w.heap.size 24 cl] ++ rowOf k (hsT c r2 sq Bk F))))
              case atStart => exact ⟨0, _, _, rfl, ⟨HK.out.1, HK.out.2.1, by omega, by have := HLM.out; omega, by have := HK.out.2.2; omega⟩, HS.out⟩
              case round =>
                clear HS HK ht0 hms0 hms1
                obtain ⟨n, mm, F, rfl, hk0, hS⟩ := hrel
                have HK := Lib.hid hk0; clear hk0
                have HS := Lib.hid hS; clear hS
                have hn153 : n ≤ 153 := by have := HK.out.2.2.2.1; omega
                have p0 := ownsRow_cell (HS.out.row 1 rfl) i _ (ptrs_get hi)
                have pl := (World.ownsRow.lt (HS.out.row 1 rfl) g rfl).2
                go_wp2_with fail
                refine (HDN.out _ _ _ (Bk i) i (F i) (Sep.pullRow (Fx := memT mb mm :: rowT 0 114 1 (.slice (some ⟨g, 0, none⟩) k oc) k (ptrs Bk k) :: [memT wb B, blkT w2.heap.size 31 cs, blkT w.heap.size 24 cl]) (G := hsT c r2 sq Bk F) HS.out hi)).mono ?_
                rintro e w5 ⟨rfl, hf⟩
                have HS := Lib.hid (HS.out.fr0 hf); clear hf p0 pl
                by_cases h8 : (F i).next = 8
                · rw [decide_eq_true h8]
                  have HH8 := Lib.hid h8; clear h8
                  go_wp2_with fail
                  go_roundg (k - (i + 1))
                  case measure => omega
                  case rel => exact ⟨i + 1, _, _, by omega, by go_num, ⟨HK.out.1, fun u hu => by
                    by_cases e : u = i
                    · subst e; exact HH8.out
                    · exact HK.out.2.1 u (by omega), by have := HK.out.2.2.2.2; omega⟩, HS.out⟩
                · rw [decide_eq_false h8]
                  have HH8 := Lib.hid h8; clear h8
                  have dn : decide ((n : Int) > 5 * (m : Int) + 10) = false := by have := HK.out.2.2.2.1; simp; omega
                  have hni : (n : Int) ≤ 153 := by omega
                  go_wp2_with fail
                  refine (HST.out _ mm F HK.out.1 (by have := HK.out.2.2.2.2; omega) i hi HS.out).mono ?_
                  rintro e w6 ⟨rfl, hS⟩
                  have hst := HK.out.1.st HJ.out (t := i) (by have := HT.out; omega)
                  have hnn := (hst.1.thr i (by have := HT.out; omega)).nn
                  have hdw := hst.2.2.1 HH8.out
                  have hG2 : (H.ms L (H.stF c r2 sq mm F i i)).toNat < gk := by have := HK.out.2.2.1; omega
                  have HNX : Hid (H.All c r2 sq L B (H.stM c r2 sq mm F i) (H.stF c r2 sq mm F i) ∧ (∀ u, u < i → (H.stF c r2 sq mm F i u).next = 8) ∧ H.ms L (H.stF c r2 sq mm F i i) = ((H.ms L (H.stF c r2 sq mm F i i)).toNat : Int) ∧ (n + 1) + (H.ms L (H.stF c r2 sq mm F i i)).toNat ≤ 5 * m + 3 ∧ (H.stM c r2 sq mm F i).trace.length ≤ 400 + 170 * i + (n + 1)) :=
                    ⟨hst.1, fun u hu => by rw [hst.2.2.2 u (by omega)]; exact HK.out.2.1 u hu, by omega, by have := HK.out.2.2.2.1; omega, by have := hst.2.1; have := HK.out.2.2.2.2; omega⟩
                  clear hst hdw hnn
                  have HS := Lib.hid hS; clear hS
                  go_wp2_with fail
                  go_roundg ((H.ms L (H.stF c r2 sq mm F i i)).toNat)
                  case measure => exact hG2
                  case rel => exact ⟨n + 1, _, _, by go_num, HNX.out, HS.out⟩
            · obtain rfl : i = k := by omega
              have HAll := Lib.hid HK.out.1
              have HT8 : Hid (∀ t : Nat, (t : Int) < c.t → (F t).next = 8) := fun t ht => HK.out.2.1 t (by have := HT.out; omega)
              have htr0 : mm.trace.length ≤ 99999 := by have := HK.out.2.2; omega
              have HEV := Lib.hid HAll.out.evs
              have hsb := size_bd h
              have hmml := HAll.out.mem.len
              have HML := Lib.hid hmml
              clear HK HST HDN hmml
              have hmm := @run_makeMap Try.prog
              have hS := (HS.out.sub (Ts' := [_, _, _, _]) [0, 2, 3, 4] rfl (by decide)).cntNew Try.prog 3 3 .i64 .i64
              have hz0 : (fun _ : Int => (0 : Int)) = H.swF mm.trace 0 := by funext z; simp [H.swF, H.swapsAt]
              rw [hz0] at hS
              have HS := Lib.hid hS; clear hS hz0
              go_wp2_with fail
              generalize wr.heap.size = bm at HS ⊢
              obtain ⟨_, vc, vt, hM⟩ := sep_mem HS.out 1 rfl
              refine (events_any _ mb vc vt mm hM (by omega)).mono ?_
              rintro e w6 ⟨v, rfl, hF⟩
              obtain ⟨el, ec, rfl⟩ := hF.form
              have HS := Lib.hid (HS.out.fresh hF); clear hF hM
              have HK0 : Hid (H.Keys [] (H.swF mm.trace 0)) := ⟨List.nodup_nil, fun z => by simp [H.swF, H.swapsAt]⟩
              obtain ⟨tr, htr⟩ : ∃ tr, tr = mm.trace := ⟨_, rfl⟩
              rw [← htr] at HEV htr0 ⊢
              have hS := HS.out; rw [← htr] at hS
              have hk0 := HK0.out; rw [← htr] at hk0
              have HS := Lib.hid hS; have HK0 := Lib.hid hk0; have HTR := Lib.hid htr
              clear hS hk0 htr
              have htri : (tr.length : Int) ≤ 99999 := by omega
              go_wp2_with fail
              go_loopg [150] tr.length (fun gg vi wr => ∃ (j : Nat) (K : List Int), gg + j = tr.length ∧ vi = .int .i64 (j : Int) ∧ (H.Keys K (H.swF tr j) ∧ K.length ≤ j) ∧ Sep w wr [rowT 0 134 10 (.slice el tr.length ec) tr.length (flat C.enEv tr), cntT Try.prog 3 3 .i64 .i64 bm K (H.swF tr j), memT mb mm, memT wb B, blkT w2.heap.size 31 cs, blkT w.heap.size 24 cl])
              case atStart => exact ⟨0, [], by omega, rfl, ⟨HK0.out, by simp⟩, HS.out⟩
              case round =>
                clear HS HK0
                obtain ⟨j, K, hgj, rfl, hk0, hS⟩ := hrel
                have HK := Lib.hid hk0; clear hk0
                by_cases hj : j < tr.length
                · have hji : (j : Int) < (tr.length : Int) := by omega
                  have hrow := hS.row 0 rfl
                  obtain ⟨ge, ce, e, hgl⟩ : ∃ g c, Value.slice el tr.length ec = .slice (some ⟨g, 0, none⟩) tr.length c ∧ g < wr.heap.size := by
                    rcases ownsRow_form hrow with ⟨_, h0⟩ | ⟨g, c, e, h1, _⟩
                    · omega
                    · exact ⟨g, c, e, h1⟩
                  simp only [Value.slice.injEq, true_and] at e
                  obtain ⟨rfl, rfl⟩ := e
                  have c0 := ev_cells12 hrow hj 0 (by decide) _ rfl
                  have c1 := ev_cells12 hrow hj 1 (by decide) _ rfl
                  have c2 := ev_cells12 hrow hj 2 (by decide) _ rfl
                  have c3 := ev_cells12 hrow hj 3 (by decide) _ rfl
                  have c4 := ev_cells12 hrow hj 4 (by decide) _ rfl
                  have c5 := ev_cells12 hrow hj 5 (by decide) _ rfl
                  have c6 := ev_cells12 hrow hj 6 (by decide) _ rfl
                  have c7 := ev_cells12 hrow hj 7 (by decide) _ rfl
                  have c8 := ev_cells12 hrow hj 8 (by decide) _ rfl
                  have c9 := ev_cells12 hrow hj 9 (by decide) _ rfl
                  rw [Nat.add_zero] at c0
                  have hsu := fun z => H.swF_succ hj z
                  have hkn := fun he => H.Keys.next hj HK.out.1 he
                  have hks := fun he => H.Keys.stay hj HK.out.1 he
                  have hev := HEV.out _ (List.getElem_mem hj)
                  have hle := H.swF_le tr j tr[j].op.a
                  generalize tr[j] = x at *
                  obtain ⟨x0, ⟨x1, x2, x3, x4, x5, x6⟩, ⟨x7, x8, x9⟩⟩ := x
                  dsimp only [C.enEv] at c0 c1 c2 c3 c4 c5 c6 c7 c8 c9
                  dsimp only at hsu hkn hks hev hle
                  have hS := hS.new 134 (C.enEv ⟨x0, ⟨x1, x2, x3, x4, x5, x6⟩, ⟨x7, x8, x9⟩⟩)
                  have HS := Lib.hid hS
                  have HKN := Lib.hid hkn; have HKS := Lib.hid hks; have HSU := Lib.hid hsu
                  clear hS hrow hkn hks hsu
                  have hwf : (Lit.int .i64 x2).wf = true := WalkArith.wf_i64 (by omega)
                  have hwf1 : (Lit.int .i64 (H.swF tr j x2 + 1)).wf = true := WalkArith.wf_i64 (by omega)
                  have hkm : K.length < maxLen := by have := HK.out.2; unfold maxLen; omega
                  have hkl2 : (if x2 ∈ K then K else x2 :: K).length ≤ j + 1 := by have := HK.out.2; split <;> (first | omega | (simp only [List.length_cons]; omega))
                  generalize hq : H.swF tr j x2 = q at *
                  have HQ := Lib.hid hq; clear hq
                  by_cases hk2 : x1 = 2
                  · subst hk2
                    cases x9
                    · go_wp2_with fail
                      have HE := Lib.hid (HKS.out (by simp))
                      go_roundg (tr.length - (j + 1))
                      case measure => omega
                      case rel => exact ⟨j + 1, K, by omega, by go_num, ⟨by rw [HE.out]; exact HK.out.1, by have := HK.out.2; omega⟩, by rw [HE.out]; exact HS.out.tail⟩
                    · have HE := Lib.hid (HKN.out ⟨rfl, rfl⟩)
                      have hzz : (fun z => if z = x2 then q + 1 else H.swF tr j z) = H.swF tr (j + 1) := by
                        funext z
                        rw [HSU.out z]
                        by_cases e : z = x2
                        · rw [if_pos e, if_pos ⟨rfl, rfl, e⟩, e, HQ.out]
                        · rw [if_neg e, if_neg (fun h => e h.2.2)]
                      have HZZ := Lib.hid hzz; clear hzz
                      go_wp2_with (first
                        | (at_lookup; go_must (refine wpList_lookup_cnt HS.out 2 rfl (by rfl) _ _ 72 rfl Try.underlying3 Try.underlying72 Try.underlying3 zeroInt12 rfl x2 rfl hwf ?_; rw [HQ.out]))
                        | (at_mapUpdate; go_must (refine wpList_update_cnt HS.out 2 rfl rfl _ _ _ 72 rfl Try.underlying3 Try.underlying72 Try.underlying3 rfl x2 rfl hwf (q + 1) rfl hwf1 hkm ?_); intro wU hU fU; have HU := Lib.hid hU; clear hU fU))
                      have hU : Sep w wU (blkT wr.heap.size 134 _ :: rowT 0 134 10 _ tr.length (flat C.enEv tr) :: cntT Try.prog 3 3 .i64 .i64 bm (if x2 ∈ K then K else x2 :: K) (fun z => if z = x2 then q + 1 else H.swF tr j z) :: _) := HU.out
                      rw [HZZ.out] at hU
                      have HS := Lib.hid hU; clear hU HU
                      go_roundg (tr.length - (j + 1))
                      case measure => omega
                      case rel => exact ⟨j + 1, _, by omega, by go_num, ⟨HE.out, hkl2⟩, HS.out.tail⟩
                  · have d2 : (x1 == 2) = false := by simpa using hk2
                    have HE := Lib.hid (HKS.out (fun h => hk2 h.1))
                    go_wp2_with fail
                    go_roundg (tr.length - (j + 1))
                    case measure => omega
                    case rel => exact ⟨j + 1, K, by omega, by go_num, ⟨by rw [HE.out]; exact HK.out.1, by have := HK.out.2; omega⟩, by rw [HE.out]; exact HS.out.tail⟩
                · obtain rfl : j = tr.length := by omega
                  have HONE : Hid (∀ e ∈ L, H.swF tr tr.length e.1 = 1) := by have := HAll.out.once HJ.out HT8.out; rw [← HTR.out] at this; exact this
                  have HCNT : Hid (K.length = L.length + 1) := HAll.out.count HJ.out HRI.out.2.2 HT8.out (by rw [← HTR.out]; exact HK.out.1)
                  have HS := Lib.hid (hS.sub (Ts' := [_, _, _, _, _]) [3, 1, 2, 4, 5] rfl (by decide)); clear hS
                  generalize H.swF tr tr.length = ff at HS HONE
                  clear HK HEV HTR
                  obtain ⟨hg, vc, vt, hM⟩ := sep_mem HS.out 0 rfl
                  go_wp2_with fail
                  refine (copy_any _ wb vc vt B hM hg (by have := HBL.out.2; omega)).mono ?_
                  rintro e w7 ⟨vb, rfl, hF⟩
                  have hS := (HS.out.fresh hF).sub (Ts' := [_, _, _, _, _]) [0, 2, 3, 4, 5] rfl (by decide)
                  obtain ⟨WK, hWK⟩ : ∃ WK, WK = H.wantK B sq L := ⟨_, rfl⟩
                  have hW0 : B = WK 0 := by rw [hWK]; rfl
                  rw [hW0] at hS
                  have HWS : Hid (∀ j, WK (j + 1) = M.put (WK j) (L.getD j (0, 0)).1 ((L.getD j (0, 0)).2, sq)) := fun j => by rw [hWK]; rfl
                  have HS := Lib.hid hS; have HWK := Lib.hid hWK
                  clear hS hF hM hg hW0 hWK
                  go_wp2_with fail
                  go_loopg [174] m (fun gg vi wr => ∃ (j : Nat), gg + j = m ∧ vi = .int .i64 (j : Int) ∧ Sep w wr [memT vb (WK j), cntT Try.prog 3 3 .i64 .i64 bm K ff, memT mb mm, blkT w2.heap.size 31 cs, blkT w.heap.size 24 cl])
                  case atStart => exact ⟨0, by omega, rfl, HS.out⟩
                  case round =>
                    clear HS
                    obtain ⟨j, hgj, rfl, hS⟩ := hrel
                    have HS := Lib.hid hS; clear hS
                    by_cases hj : j < m
                    · have hji : (j : Int) < (m : Int) := by omega
                      have hjL : j < L.length := by have := HLM.out; omega
                      obtain ⟨x, rfl, hx, e0, e1⟩ := (hL.fr HS.out.fr).at hjL
                      have hone1 := HONE.out _ (List.getElem_mem hjL)
                      have hws := HWS.out j
                      rw [show L.getD j (0, 0) = L[j] by simp [List.getD_eq_getElem?_getD, List.getElem?_eq_getElem hjL]] at hws
                      have hge := HRI.out.1.ent _ (List.getElem_mem hjL)
                      have hft2 := (bds h).tag
                      generalize L[j] = E at *
                      obtain ⟨E1, E2⟩ := E
                      have y0 := e0 _ rfl
                      have y1 := e1 0 _ rfl
                      dsimp only at hone1 hws hge
                      have hwf : (Lit.int .i64 E1).wf = true := WalkArith.wf_i64 (by omega)
                      have HO1 := Lib.hid hone1; have HW1 := Lib.hid hws
                      clear e0 e1 hone1 hws hge hft2
                      have HS := Lib.hid (HS.out.new 136 [.int .i64 E1, .int .u64 E2])
                      have z0 := (HS.out.blk 0 rfl).cell 0
                      have z1 := (HS.out.blk 0 rfl).cell 1
                      have zl := (HS.out.blk 0 rfl).lt
                      simp only [List.getElem?_cons_zero, List.getElem?_cons_succ] at z0 z1
                      go_wp2_with fail
                      refine (set_any (HS.out.pull 1 rfl) E1 (E2, sq)).mono ?_
                      rintro e w8 ⟨rfl, hS⟩
                      rw [← HW1.out] at hS
                      have HS := Lib.hid hS; clear hS z0 z1 zl y0 y1
                      have z0 := (HS.out.blk 1 rfl).cell 0
                      have zl := (HS.out.blk 1 rfl).lt
                      simp only [List.getElem?_cons_zero, List.getElem?_cons_succ] at z0
                      go_wp2_with (first
                        | (at_lookup; go_must (refine wpList_lookup_cnt HS.out 2 rfl (by rfl) _ _ 72 rfl Try.underlying3 Try.underlying72 Try.underlying3 zeroInt12 rfl E1 rfl hwf ?_; rw [HO1.out])))
                      go_roundg (m - (j + 1))
                      case measure => omega
                      case rel => exact ⟨j + 1, by omega, by go_num, HS.out.sub [0, 2, 3, 4, 5] rfl (by decide)⟩
                    · obtain rfl : j = m := by omega
                      have hi4 := (H.is_own h hr20).2.1
                      obtain ⟨a4, ha4⟩ : ∃ a4, a4 = at_ c 4 r2 0 := ⟨_, rfl⟩
                      have hpl : a4 = place c 4 r2 0 := by rw [ha4, H.at_is hi4]
                      have hmL := HLM.out
                      have HWT : Hid (M.put (WK j) a4 (0, sq) = H.wantM c r2 sq B L) := by rw [HWK.out, hpl, hmL]; rfl
                      have HAT : Hid (∀ w, Calls Try.prog 37 #[.agg cs.toArray, .int .i64 4, .int .i64 r2, .int .i64 0] w fun e w' => e = .returned (.int .i64 a4) ∧ Fr [] w w') := by rw [ha4]; exact HAT4
                      clear hmL hpl ha4 hi4 HAT4 HONE
                      go_wp2_with (refine wpList_load_any 31 _ rfl rfl _ 0 rfl cs _ (HS.out.blk 3 rfl).range Try.underlying31 rfl (by rw [hsz]; kernel_rfl) ?_)
                      refine (HAT.out _).mono ?_
                      rintro e w8 ⟨rfl, hf⟩
                      have HS := Lib.hid (HS.out.fr0 hf); clear hf HAT
                      go_wp2_with fail
                      refine (set_any HS.out a4 (0, sq)).mono ?_
                      rintro e w9 ⟨rfl, hS⟩
                      rw [HWT.out] at hS
                      have HSM : Hid (∀ b : Int, 0 ≤ b → b < size c → (whA c b).1 ≠ 3 → H.rd mm b = H.rd (H.wantM c r2 sq B L) b) := fun b h1 h2 h3 => HAll.out.same HJ.out HBL.out.1 HRI.out.2.2 HT8.out b h1 h2 h3
                      have HWL : Hid ((H.wantM c r2 sq B L).cells.length = (size c).toNat) := by unfold H.wantM; rw [H.put_len, H.wantK_len]; exact HBL.out.1
                      generalize H.wantM c r2 sq B L = WM at hS HSM HWL
                      have HS := Lib.hid hS; clear hS HWT HWK HWS
                      generalize putErr (WK j) a4 = pe
                      obtain ⟨_, vc, vt, hM⟩ := sep_mem HS.out 2 rfl
                      go_wp2_with fail
                      refine (size_any _ mb vc vt mm hM).mono ?_
                      rintro e w10 ⟨rfl, rfl⟩
                      clear hM
                      obtain ⟨sz, hsz1⟩ : ∃ sz : Nat, sz = mm.cells.length := ⟨_, rfl⟩
                      rw [← hsz1]
                      have HSZ := Lib.hid hsz1
                      have hszi : (sz : Int) ≤ 65536 := by have := HML.out; omega
                      clear hsz1
                      go_wp2_with fail
                      go_loopg [201] sz (fun gg vi wr => ∃ (q : Nat), gg + q = sz ∧ vi = .int .i64 (q : Int) ∧ Sep w wr [memT vb WM, cntT Try.prog 3 3 .i64 .i64 bm K ff, memT mb mm, blkT w2.heap.size 31 cs, blkT w.heap.size 24 cl])
                      case atStart => exact ⟨0, by omega, rfl, HS.out⟩
                      case round =>
                        clear HS
                        obtain ⟨q, hgq, rfl, hS⟩ := hrel
                        have HS := Lib.hid hS; clear hS
                        by_cases hq : q < sz
                        · have hqi : (q : Int) < (sz : Int) := by omega
                          have hsm := HSM.out q (by omega) (by have := HML.out; have := HSZ.out; omega)
                          have hp1 : peek mm q = (H.rd mm q, true) := by unfold peek H.rd; rw [if_pos (by have := HSZ.out; omega)]
                          have hp2 : peek WM q = (H.rd WM q, true) := by unfold peek H.rd; rw [if_pos (by have := HSZ.out; have := HML.out; have := HWL.out; omega)]
                          have HP1 := Lib.hid hp1; have HP2 := Lib.hid hp2; have HSQ2 := Lib.hid hsm
                          have HW := Lib.hid (HWH.out q)
                          clear hp1 hp2 hsm
                          generalize H.rd mm q = u1 at *
                          generalize H.rd WM q = u2 at *
                          generalize whA c q = wa at *
                          obtain ⟨a1, a2⟩ := u1
                          obtain ⟨b1, b2⟩ := u2
                          obtain ⟨wa1, wa2, wa3⟩ := wa
                          obtain ⟨_, vc, vt, hM⟩ := sep_mem HS.out 2 rfl
                          go_wp2_with fail
                          refine (peek_any _ mb vc vt mm q hM).mono ?_
                          rintro e w11 ⟨rfl, hf⟩
                          rw [HP1.out]
                          dsimp only
                          have HS := Lib.hid ((HS.out.fr0 hf).new 41 [.int .u64 a1, .int .u64 a2]); clear hf hM
                          obtain ⟨_, vc, vt, hM⟩ := sep_mem HS.out 1 rfl
                          go_wp2_with fail
                          refine (peek_any _ vb vc vt WM q hM).mono ?_
                          rintro e w12 ⟨rfl, hf⟩
                          rw [HP2.out]
                          dsimp only
                          have HS := Lib.hid ((HS.out.fr0 hf).new 41 [.int .u64 b1, .int .u64 b2]); clear hf hM
                          go_wp2_with (refine wpList_load_any 31 _ rfl rfl _ 0 rfl cs _ (HS.out.blk 5 rfl).range Try.underlying31 rfl (by rw [hsz]; kernel_rfl) ?_)
                          refine (HW.out _).mono ?_
                          rintro e w13 ⟨rfl, hf⟩
                          dsimp only
                          have HS := Lib.hid (HS.out.fr0 hf); clear hf HW
                          by_cases h3 : wa1 = 3
                          · subst h3
                            go_wp2_with fail
                            go_roundg (sz - (q + 1))
                            case measure => omega
                            case rel => exact ⟨q + 1, by omega, by go_num, HS.out.tail.tail⟩
                          · have d3 : (wa1 != 3) = true := by simpa using h3
                            have hse := HSQ2.out h3
                            simp only [Prod.mk.injEq] at hse
                            obtain ⟨rfl, rfl⟩ := hse
                            have HNE : ∀ w, (binOp .neq 41 (.agg #[.int .u64 a1, .int .u64 a2]) (.agg #[.int .u64 a1, .int .u64 a2])).run Try.prog w = .ok (.bool false) w := fun w => neq_cell_self12 w a1 a2
                            go_wp2_with (first | (refine wpList_load_any 41 _ rfl rfl _ 0 rfl [.int .u64 a1, .int .u64 a2] _ (HS.out.blk 1 rfl).range Try.underlying41 rfl (by kernel_rfl) ?_) | (refine wpList_load_any 41 _ rfl rfl _ 0 rfl [.int .u64 a1, .int .u64 a2] _ (HS.out.blk 0 rfl).range Try.underlying41 rfl (by kernel_rfl) ?_))
                            go_roundg (sz - (q + 1))
                            case measure => omega
                            case rel => exact ⟨q + 1, by omega, by go_num, HS.out.tail.tail⟩
                        · obtain rfl : q = sz := by omega
                          have hcn := HCNT.out
                          have hmL := HLM.out
                          have hck : ((K.length : Int) == (j : Int) + 1) = true := by simp; omega
                          clear hcn hmL
                          go_wp2_with (at_len; refine wpList_len_cnt HS.out 1 rfl rfl _ 72 rfl Try.underlying72 rfl ?_)
                          go_ret
                          exact ⟨rfl, HS.out.fr⟩
theorem hmany_any (w : World) (c : Cfg) (hf0 : 0 ≤ c.fi) (owner : Int) (a : Option Addr) (m lc : Nat) (L : List (Int × Int)) (hLm : m = L.length) (hL : ArgE enE 2 w (.slice a m lc) L) (hG : ∀ e ∈ L, goodE e) (hnil : NilA a m lc) (hmx : m ≤ maxLen) (own : Bool) (pa : Option Addr) (pn pc : Nat) (PL : List Int) (hPn : PL.length = pn) (hP : ArgE enI 1 w (.slice pa pn pc) PL) :
    Calls Try.prog 13 #[cfgV c, .int .i64 owner, .slice a m lc, .bool own, .slice pa pn pc] w fun e w' => e = .returned (.bool true) ∧ Fr [] w w' := by
  by_cases h0 : right c = true
  · exact hmany_good w c (by unfold right at h0; simpa using h0) hf0 owner a m lc L hLm hL hG hnil hmx own pa pn pc PL hPn hP h0
  · exact hmany_s0 w c owner a m lc own pa pn pc (by simpa using h0)
theorem hmany_row (a b d f g l owner : Int) (own : Bool) (v v' : Value) (hg : (Lit.int .u64 g).wf = true) (L : List (Int × Int)) (PL : List Int) (w : World) (hL : ArgH w v L) (hP : ArgE enI 1 w v' PL) (hl : L.length ≤ maxLen) (_ : PL.length ≤ maxLen) :
    Calls Try.prog 13 #[.agg #[.int .i64 a, .int .i64 b, .int .i64 d, .int .i64 f, .int .u64 g, .int .u64 l], .int .i64 owner, v, .bool own, v'] w fun e w' => e = .returned (.bool true) ∧ Fr [] w w' := by
  obtain ⟨a1, c1, rfl, _⟩ := id hL.1.1
  obtain ⟨a2, c2, rfl, _⟩ := id hP
  exact hmany_any w ⟨a, b, d, f, g, l⟩ (wf_u64 hg).1 owner a1 _ c1 L rfl hL.1.1 hL.1.2 (hL.2 _ _ _ rfl) hl own a2 _ c2 PL rfl hP
end Go.Proofs.Ytccioehckfdjdaa
