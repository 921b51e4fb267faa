/- The walk of help's Own. -/
import Derived.Test.YtccioehckfdjdaaHtell
import Derived.Laws.AppendOwnNone
set_option linter.unusedSimpArgs false
set_option linter.unusedVariables false
namespace Go.Tum
open Go.RowKit
theorem copy_argE {T : Type} {en : T → List Value} {k : Nat} {w : World} {a : Option Addr} {m lc : Nat} {L : List T} (hL : ArgE en k w (.slice a m lc) L) (hl : ∀ x, (en x).length = k) (hk : 0 < k) :
    L = [] ∨ ∃ x, a = some x ∧ ∀ j u, (flat en L)[j]? = some u → w.cell? (x.add j) = some u := by
  obtain ⟨a', cap', e, hc, h⟩ := hL
  rcases h with h | ⟨x, h1, h2, h3⟩
  · exact .inl h
  · right
    simp only [Value.slice.injEq] at e
    refine ⟨x, e.1.trans h1, fun j u hu => ?_⟩
    have hj := (List.getElem?_eq_some_iff.1 hu).1
    rw [flat_length hl] at hj
    have hi : j / k < L.length := Nat.div_lt_of_lt_mul (by rw [Nat.mul_comm]; exact hj)
    have hr : j % k < k := Nat.mod_lt _ hk
    have he : j / k * k + j % k = j := by rw [Nat.mul_comm]; exact Nat.div_add_mod j k
    have := flat_get hl L (j / k) hi (j % k) hr
    rw [he] at this
    have h4 := h3 (j / k) hi (j % k) u (by rw [← this]; exact hu)
    rw [he] at h4
    exact h4
/-- A slice that came in, laid behind nothing: a row of its own. -/
theorem wpList_append_in {P : Program} {w0 w : World} {Ts : List Thing} (hS : Sep w0 w Ts) {ops : Array Oper} {rest : List Oper} {o : Oper} {a : Act} {Q : Exit → Act → World → Prop} (hgd : o.guard = none) (s x : Operand) (t : TypeId)
    (ho : o.op = .call { callee := .builtin .append, args := #[s, x], argTypes := #[t, t] })
    (e : TypeId) (i : TypeInfo) (z : Value) (size bytes : Nat) (ht : P.underlying t = some (.slice e)) (hi : P.info? e = some i) (hz : i.zero = some z)
    (hsize : i.size = size) (hby : i.bytes = bytes) (hzs : z.cells.size = size) (hsz : 0 < size) (hs : a.eval s = .slice none 0 0)
    (ad : Option Addr) (m c : Nat) (news : List Value) (hx : a.eval x = .slice ad m c) (hc : (ad = none ∧ m = 0 ∧ c = 0 ∧ news = []) ∨ ∃ q, ad = some q ∧ ∀ j u, news[j]? = some u → w.cell? (q.add j) = some u) (hl : news.length = m * size) (h1 : ∀ u ∈ news, u.oneCell' = true)
    (h63 : m ≤ maxLen) (hbytes : m * bytes ≤ 140737488355328)
    (h : ∀ v' w', Sep w0 w' (rowT 0 e size v' m news :: Ts) → Fr [] w w' → wpList P ops Q rest (a.put o.dst v') w') : wpList P ops Q (o :: rest) a w := by
  rcases hc with ⟨rfl, rfl, rfl, rfl⟩ | ⟨q, rfl, hq⟩
  · exact wpList_append_own_none hgd s x t ho 0 e i size ht hi _ 0 [] hs (World.ownsRow_nil w 0 e size) hx (h _ _ (hS.nilRow 0 e size) (Fr.refl _ _))
  · refine wpList_plain hgd fun K hK => ?_
    obtain ⟨v', w', hr, h2, h3, h4, h5⟩ := run_append_at (P := P) w 0 t o.type e i z size bytes ht hi hz hsize hby hzs hsz _ 0 [] (World.ownsRow_nil w 0 e size) q m c news hl hq h1 (by omega) (by rw [Nat.zero_add]; exact hbytes) (Nat.zero_le _)
    unfold Oper.wp execOp
    simp only [ho, resolve, invoke, builtin, Sem.run_bind, Sem.run_pure, Result.andThen_ok, List.map_toArray, List.map_cons, List.map_nil, hs, hx, hr]
    have hf : Fr [] w w' := (Fr.refl [] w).grown h3 (fun k e => by simp [Value.ownBlock] at e)
    rw [Nat.zero_add, List.nil_append] at h2
    refine hK _ _ (h v' w' (hS.push hf (fp := v'.ownBlock.toList) ⟨rfl, h2⟩ fun k hk => ?_) hf)
    rcases h5 with h5 | h5
    · rw [h5] at hk; simp [Value.ownBlock] at hk
    · rw [h5] at hk; simp at hk; omega
end Go.Tum
namespace Go.Proofs.Ytccioehckfdjdaa
open Go.ChangeShapes Go.WideShapes Go.RowKit Go.Deep Go.Tum Go.Tum.Y Go.Tum.Sc
/-- An argument as it comes in. -/
def NilA (a : Option Addr) (m lc : Nat) : Prop := a = none → m = 0 ∧ lc = 0
theorem argNil_of {H : Type} {enc : TypeId × Value → H} {W : World} {base : Nat} {spare : Nat → Bool} {held : Bool} {fuel : Nat} {t e : TypeId} (ht : Try.prog.underlying t = some (.slice e)) {a : Option Addr} {len cap : Nat} {x : DataW H × List MemPlace}
    (h : DataW.trod enc Try.prog W base spare held fuel t (Value.slice a len cap).cells.toList = some x) : NilA a len cap := by
  rcases open_slice ht h with ⟨hcs, _⟩ | ⟨b, ln, c, m, n', D, Pl, hcs, _⟩
  · simp [Value.cells] at hcs
    obtain ⟨rfl, rfl, rfl⟩ := hcs
    exact fun _ => ⟨rfl, rfl⟩
  · simp [Value.cells] at hcs
    obtain ⟨rfl, rfl, rfl⟩ := hcs
    intro h; cases h
set_option maxRecDepth 100000 in
set_option maxHeartbeats 8000000 in
theorem hown_any (w : World) (c : Cfg) (hok : Ok c) (who seq : Int) (a : Option Addr) (m lc : Nat) (L : List (Int × Int)) (hLm : m = L.length) (hL : ArgE enE 2 w (.slice a m lc) L) (hnil : NilA a m lc) (hm : m ≤ 100000) :
    Calls Try.prog 61 #[mapV c, .int .i64 who, .int .u64 seq, .slice a m lc] w fun e w' => ∃ b, e = .returned (.pointer (some ⟨b, 0, none⟩)) ∧ Sep w w' [helpT c who who seq b (H.entry c ⟨L, 0, 0, -1, 0, 0, 0⟩ 0)] := by
  have hek := H.entry_keeps c ⟨L, 0, 0, -1, 0, 0, 0⟩ 0
  have HE := Lib.hid (fun (w0 w' : World) (R' : List Thing) (b : Nat) (la : Option Addr) (lc : Nat) hS => hentry_any (w0 := w0) (w := w') (R := R') b c hok who who seq la m lc ⟨L, 0, 0, -1, 0, 0, 0⟩ 0 hLm hm (Nat.zero_le _) hS)
  have HTO := Lib.hid (fun (w0 w' : World) (R' : List Thing) (b : Nat) (v : Value) (n' : Nat) (h' : H.H) (hn : n' = h'.list.length) (hS : Sep w0 w' (blkT b 181 (H.hL (mapCells c) who who seq v h') :: rowT 0 136 2 v n' (flat enE h'.list) :: R')) => helpT_to (c := c) hn hS)
  obtain ⟨i0, hi0, hz0, hz1, hz2⟩ := info_parts H_infoEntry
  have HC : Hid (∀ w', Fr [] w w' → (a = none ∧ m = 0 ∧ lc = 0 ∧ flat enE L = []) ∨ ∃ q, a = some q ∧ ∀ j u, (flat enE L)[j]? = some u → w'.cell? (q.add j) = some u) := fun w' f => by
    rcases copy_argE (hL.fr f) enE_len (by decide) with h | ⟨q, h1, h2⟩
    · subst h
      rcases Option.eq_none_or_eq_some a with h | ⟨q, h⟩
      · obtain ⟨h1, h2⟩ := hnil h
        exact .inl ⟨h, h1, h2, rfl⟩
      · exact .inr ⟨q, h, by simp [flat]⟩
    · exact .inr ⟨q, h1, h2⟩
  have hfl : (flat enE L).length = m * 2 := by rw [flat_length enE_len, hLm]
  have hf1 := flat_one_cell (en := enE) enE_one L
  have hsz : (mapCells c).length = 24 := rfl
  unfold mapV
  have hth : ∃ TH : Nat → Thing, ∀ b, helpT c who who seq b (H.entry c ⟨L, 0, 0, -1, 0, 0, 0⟩ 0) = TH b := ⟨_, fun _ => rfl⟩
  obtain ⟨TH, hth⟩ := hth
  simp only [hth]
  generalize H.entry c ⟨L, 0, 0, -1, 0, 0, 0⟩ 0 = he at *
  have HTO2 := Lib.hid (fun w0 w' R' b v n' (hn : n' = he.list.length) hS => hth b ▸ HTO.out w0 w' R' b v n' he hn hS)
  clear HTO hth
  generalize mapCells c = cs at *
  have HSB := Lib.hid ((Sep.nil (Fr.refl [] w)).new 31 cs)
  clear hL hnil
  have HLM := Lib.hid hLm; clear hLm
  obtain ⟨x0,x1,x2,x3,x4,x5,x6,x7,x8,x9,x10,x11,x12,x13,x14,x15,x16,x17,x18,x19,x20,x21,x22,x23, rfl⟩ := len24 hsz
  have HS := HSB; clear HSB
  have hmd := (HS.out.blk 0 rfl).drew
  go_enter Try.func61, Try.ntmps61
  go_wp2_with fail
  refine wp_region_fr [(1, [0, 1, 2, 3, 4]), (2, [5]), (0, [6]), (3, [7]), (0, [8])] [] (by kernel_rfl) (by kernel_rfl) ?_
  simp only [theOps, nthOp, List.map_cons, List.map_nil, Array.getD_eq_getD_getElem?, List.getElem?_toArray, List.getElem?_cons_succ, List.getElem?_cons_zero, Option.getD_some]
  refine wpSegs_soft ?_
  refine wpQuiet_load_mid 31 _ w.heap.size 0 [x0, x1, x2, x3, x4, x5, x6, x7, x8, x9, x10, x11, x12, x13, x14, x15, x16, x17, x18, x19, x20, x21, x22, x23] _ rfl rfl rfl (rangeAt_after hmd (by simp)) Try.underlying31 rfl (by kernel_rfl) ?_
  simp only [Act.put, List.setIfInBounds_toArray, List.set_cons_zero, List.set_cons_succ]
  repeat (first | go_big_quiet_step (fail) | quiet_step (fail))
  refine wpQuiet_nil ?_
  have HS := Lib.hid HS.out.drew
  refine wpSegs_keep ?_
  go_wp2_with (at_builtin; go_must (refine wpList_append_in HS.out rfl _ _ 113 rfl 136 i0 _ 2 16 Try.underlying113 hi0 hz0 hz1 hz2 rfl (by decide) rfl a m lc (flat enE L) rfl (HC.out _ HS.out.fr) hfl hf1 (by unfold maxLen; omega) (by omega) ?_))
  intro v' w2 hS hf
  obtain ⟨la, lc2, rfl⟩ := hS.form 0 rfl
  have HF := Lib.hid hf
  have HS := Lib.hid hS
  clear hf hS
  go_wp2_with fail
  refine ⟨⟨⟨_, (by exact HF.out)⟩, rfl⟩, ?_⟩
  repeat ((first | refine wpSegs_soft ?_ | refine wpSegs_pure ?_ | refine wpSegs_here ?_); (repeat (first | go_big_quiet_step (fail) | quiet_step (fail))); refine wpQuiet_nil ?_)
  refine wpSegs_hard ?_
  go_wp2_with fail
  have HS := Lib.hid (HS.out.new 181 (H.hL [x0, x1, x2, x3, x4, x5, x6, x7, x8, x9, x10, x11, x12, x13, x14, x15, x16, x17, x18, x19, x20, x21, x22, x23] who who seq (.slice la m lc2) ⟨L, 0, 0, -1, 0, 0, 0⟩))
  repeat ((first | refine wpSegs_soft ?_ | refine wpSegs_pure ?_ | refine wpSegs_here ?_); (repeat (first | go_big_quiet_step (fail) | quiet_step (fail))); refine wpQuiet_nil ?_)
  refine wpSegs_done ?_
  go_wp2_with fail
  refine (HE.out _ _ _ _ _ _ HS.out).mono ?_
  rintro e w3 ⟨rfl, hS⟩
  have HS3 := Lib.hid hS; clear hS
  go_wp2_with fail
  go_ret
  refine ⟨_, rfl, ?_⟩
  have hS := HTO2.out _ _ _ _ (.slice la m lc2) m (by rw [hek.1]; exact HLM.out) (by rw [hek.1]; exact HS3.out)
  exact hS.sub [0] rfl (by decide)
end Go.Proofs.Ytccioehckfdjdaa
