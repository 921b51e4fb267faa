/- The walks of the document's answer for layer 8: New, Get, All, Back, Put, Same. -/
import Derived.Test.YtccioehckfdjdaaMWb
import Derived.Test.YtccioehckfdjdaaRplain
import Derived.Laws.StructEq
namespace Go.Proofs.Ytccioehckfdjdaa
open Go.RowKit Go.Tum Go.Tum.W

/-- Entries that are read: a row of so many, somewhere. -/
def Row (w : World) (base : Nat) (sv : Value) (p : List (Int × Int)) : Prop := w.ownsRow base 177 2 sv p.length (ents p)

theorem Row.form {w : World} {base : Nat} {sv : Value} {p : List (Int × Int)} (h : Row w base sv p) (hp : 0 < p.length) : ∃ g c, sv = .slice (some ⟨g, 0, none⟩) p.length c ∧ g < w.heap.size ∧ p.length ≤ c := by
  rcases ownsRow_form h with ⟨_, h0⟩ | ⟨g, c, e, h1, _, h3, _⟩
  · omega
  · exact ⟨g, c, e, h1, h3⟩

theorem Row.fr {w w' : World} {base : Nat} {sv : Value} {p : List (Int × Int)} {fp : List Nat} (h : Row w base sv p) (f : Fr fp w w') (hn : ∀ k, sv.ownBlock = some k → k ∉ fp) : Row w' base sv p := ownsRow_fr h f hn

set_option maxHeartbeats 400000 in
theorem rnew_any (r : Int) (w : World) :
    Calls Try.prog 47 #[.int .i64 r] w fun e w' => e = .returned (.agg #[.int .i64 (roomOf r), .slice none 0 0]) ∧ Fr [] w w' := by
  by_cases h1 : r < 0
  · have e : (roomOf r : Int) = 0 := by unfold roomOf; omega
    rw [e]
    clear e
    go_enter Try.func47, Try.ntmps47
    go_wp2_with fail
    exact bodyPost_ret (v := .agg #[.int .i64 0, .slice none 0 0]) (by simp [results, Try.results47, go_sem]) rfl ⟨rfl, by first | exact (Fr.refl _ _).alloc _ | exact ((Fr.refl _ _).alloc _).setCell (.inr (by simp)) _⟩
  · by_cases h2 : 65536 < r
    · have e : (roomOf r : Int) = 65536 := by unfold roomOf; omega
      rw [e]
      clear e
      go_enter Try.func47, Try.ntmps47
      go_wp2_with fail
      exact bodyPost_ret (v := .agg #[.int .i64 65536, .slice none 0 0]) (by simp [results, Try.results47, go_sem]) rfl ⟨rfl, by first | exact (Fr.refl _ _).alloc _ | exact ((Fr.refl _ _).alloc _).setCell (.inr (by simp)) _⟩
    · have e : (roomOf r : Int) = r := by unfold roomOf; omega
      rw [e]
      clear e
      go_enter Try.func47, Try.ntmps47
      go_wp2_with fail
      exact bodyPost_ret (v := .agg #[.int .i64 r, .slice none 0 0]) (by simp [results, Try.results47, go_sem]) rfl ⟨rfl, by first | exact (Fr.refl _ _).alloc _ | exact ((Fr.refl _ _).alloc _).setCell (.inr (by simp)) _⟩

def GetRel (w : World) (R : Int) (sv : Value) (p : List (Int × Int)) (a : Int) (g : Nat) (vi : Value) (wr : World) : Prop :=
  wr = w.alloc (.cells #[.int .i64 R, sv] 95) ∧ g ≤ p.length ∧ vi = .int .i64 ((g : Int) - 1) ∧ rgetTo p a g = rget p a

set_option maxHeartbeats 1000000 in
theorem rget_any (base : Nat) (R : Int) (sv : Value) (p : List (Int × Int)) (a : Int) (w : World) (h : Row w base sv p) (hp : p.length ≤ 1000000) :
    Calls Try.prog 113 #[.agg #[.int .i64 R, sv], .int .i64 a] w fun e w' => e = .returned (.tuple #[.int .u64 (rget p a).1, .bool (rget p a).2]) ∧ Fr [] w w' := by
  obtain ⟨la, lc, rfl⟩ := ownsRow_any h
  go_enter Try.func113, Try.ntmps113
  go_wp2_with fail
  go_loopg [6] p.length (fun g vi wr => GetRel w R (.slice la p.length lc) p a g vi wr)
  case atStart => exact ⟨rfl, Nat.le_refl _, rfl, rfl⟩
  case round =>
    obtain ⟨rfl, hg, rfl, hr⟩ := hrel
    cases gk with
    | zero =>
      have HR := Lib.hid hr; clear hr
      go_wp2_with fail
      go_ret2
      refine ⟨?_, (Fr.refl _ _).alloc _⟩
      rw [← HR.out]
      rfl
    | succ k =>
      obtain ⟨g, c, e, hgl, hgc⟩ := h.form (by omega)
      simp only [Value.slice.injEq, true_and] at e
      obtain ⟨rfl, rfl⟩ := e
      have hk : k < p.length := hg
      have c1 := ownsRow_cell h _ _ (ents_get p k hk).1
      have c2 := ownsRow_cell h _ _ (ents_get p k hk).2
      have hx : (nth p k).1 = p[k].1 := by rw [nth_get hk]
      have hy : (nth p k).2 = p[k].2 := by rw [nth_get hk]
      rw [← hx] at c1
      rw [← hy] at c2
      clear hx hy
      have hsz : ((k + 1 : Nat) : Int) - 1 = k := by omega
      rw [hsz]
      clear hsz
      have HH := Lib.hid h; have HR := Lib.hid hr
      clear h hr
      by_cases he : (nth p k).1 = a
      · have hb : ((nth p k).1 == a) = true := by simp [he]
        have HE := Lib.hid he; clear he
        generalize hn : nth p k = e at *
        have HN := Lib.hid hn; clear hn
        go_wp2_with fail
        go_ret2
        refine ⟨?_, (Fr.refl _ _).alloc _⟩
        rw [← HR.out]
        simp only [rgetTo, HN.out, HE.out, if_true]
        rfl
      · have hb : ((nth p k).1 == a) = false := by simp [he]
        have HE := Lib.hid he; clear he
        generalize hn : nth p k = e at *
        have HN := Lib.hid hn; clear hn
        go_wp2_with fail
        go_roundg k
        case measure => omega
        case rel => exact ⟨rfl, by omega, rfl, by rw [← HR.out]; simp only [rgetTo, HN.out]; rw [if_neg HE.out]⟩

theorem Row.alloc {w : World} {base : Nat} {sv : Value} {p : List (Int × Int)} (h : Row w base sv p) (o : Obj) : Row (w.alloc o) base sv p := World.ownsRow.alloc h o

theorem row_take {w : World} {base : Nat} {la : Option Addr} {lc k : Nat} {p : List (Int × Int)} (h : Row w base (.slice la p.length lc) p) (hk : k ≤ p.length) : Row w base (.slice la k lc) (p.take k) := by
  unfold Row at *
  rw [List.length_take, Nat.min_eq_left hk]
  rcases ownsRow_form h with ⟨e, e0⟩ | ⟨g, c, e, _⟩
  · simp only [Value.slice.injEq] at e
    obtain ⟨rfl, h1, rfl⟩ := e
    obtain rfl : k = 0 := by omega
    exact World.ownsRow_nil _ _ _ _
  · simp only [Value.slice.injEq, true_and] at e
    obtain ⟨rfl, rfl⟩ := e
    have := ownsRow_cut h k hk
    rwa [ents_take] at this

def RBackPost (w : World) (base : Nat) (R : Int) (sv : Value) (p : List (Int × Int)) (m : Int) (e : Ending) (w' : World) : Prop :=
  ∃ sv', e = .returned (.tuple #[.agg #[.int .i64 R, sv'], .bool (rback p m).2]) ∧ Fr [] w w' ∧ Row w' base sv' (rback p m).1 ∧ sv'.ownBlock = sv.ownBlock

set_option maxHeartbeats 1000000 in
theorem rback_any (base : Nat) (R : Int) (sv : Value) (p : List (Int × Int)) (m : Int) (w : World) (h : Row w base sv p) (hp : p.length ≤ 1000000) :
    Calls Try.prog 51 #[.agg #[.int .i64 R, sv], .int .i64 m] w (RBackPost w base R sv p m) := by
  obtain ⟨la, lc, rfl⟩ := ownsRow_any h
  have H := Lib.hid h; clear h
  unfold RBackPost
  by_cases hc : m < 0 ∨ (p.length : Int) < m
  · have e : rback p m = (p, false) := by simp [rback, hc]
    rw [e]
    clear e
    rcases hc with hc | hc
    · have hd : decide (m < 0) = true := by simpa using hc
      go_enter Try.func51, Try.ntmps51
      go_wp2_with fail
      exact bodyPost_ret (v := .tuple #[.agg #[.int .i64 R, .slice la p.length lc], .bool false]) (by simp [results, Try.results51, go_sem]) rfl ⟨_, rfl, ((Fr.refl _ _).alloc _).alloc _, (H.out.alloc _).alloc _, rfl⟩
    · have hd : decide (m < 0) = false := by simp; omega
      have hd2 : decide ((p.length : Int) < m) = true := by simpa using hc
      go_enter Try.func51, Try.ntmps51
      go_wp2_with fail
      exact bodyPost_ret (v := .tuple #[.agg #[.int .i64 R, .slice la p.length lc], .bool false]) (by simp [results, Try.results51, go_sem]) rfl ⟨_, rfl, ((Fr.refl _ _).alloc _).alloc _, (H.out.alloc _).alloc _, rfl⟩
  · obtain ⟨k, rfl⟩ : ∃ k : Nat, m = k := ⟨m.toNat, by omega⟩
    have hk : k ≤ p.length := by omega
    have e : rback p k = (p.take k, true) := by simp [rback]; omega
    rw [e]
    clear e hc
    have hd : decide ((k : Int) < 0) = false := by simp
    have hd2 : decide (p.length < k) = false := by simp; omega
    have hlc : p.length ≤ lc ∧ lc ≤ 9223372036854775807 := by
      rcases ownsRow_form H.out with ⟨e, e0⟩ | ⟨g, c, e, _, _, e1, e2⟩
      · simp only [Value.slice.injEq] at e; omega
      · simp only [Value.slice.injEq] at e; unfold maxLen at e2; omega
    go_enter Try.func51, Try.ntmps51
    go_wp2_with fail
    refine wp_region_fr [(1, [0, 1, 2, 3, 4, 5, 6]), (3, [7]), (0, [8])] [] (by kernel_rfl) (by kernel_rfl) ?_
    simp only [theOps, nthOp, List.map_cons, List.map_nil, Array.getD_eq_getD_getElem?, List.getElem?_toArray, List.getElem?_cons_succ, List.getElem?_cons_zero, Option.getD_some]
    repeat ((first | refine wpSegs_soft ?_ | refine wpSegs_pure ?_ | refine wpSegs_here ?_); (repeat (first | go_big_quiet_step (fail) | quiet_step (fail))); refine wpQuiet_nil ?_)
    refine wpSegs_hard ?_
    go_wp2_with fail
    repeat ((first | refine wpSegs_soft ?_ | refine wpSegs_pure ?_ | refine wpSegs_here ?_); (repeat (first | go_big_quiet_step (fail) | quiet_step (fail))); refine wpQuiet_nil ?_)
    refine wpSegs_done ?_
    go_wp2_with fail
    exact bodyPost_ret (v := .tuple #[.agg #[.int .i64 R, .slice la k lc], .bool true]) (by simp [results, Try.results51, go_sem]) rfl
      ⟨_, rfl, (((Fr.refl _ _).alloc _).alloc _).drew, (((row_take H.out hk).alloc _).alloc _).fr ((Fr.refl [] _).drew) (fun _ _ => by simp), by cases la <;> rfl⟩

def SameRel (w : World) (p q : List (Int × Int)) (g : Nat) (vi : Value) (wr : World) : Prop :=
  ∃ k n : Nat, g + k = p.length ∧ vi = .int .i64 (k : Int) ∧ p.take k = q.take k ∧ wr = w.drewN n

set_option maxHeartbeats 1000000 in
theorem same_any (base base' : Nat) (va vb : Value) (p q : List (Int × Int)) (w : World) (h : Row w base va p) (h' : Row w base' vb q) (hp : p.length ≤ 1000000) (hq : q.length ≤ 1000000) :
    Calls Try.prog 54 #[va, vb] w fun e w' => e = .returned (.bool (p == q)) ∧ ∃ n, w' = w.drewN n := by
  obtain ⟨la, lc, rfl⟩ := ownsRow_any h
  obtain ⟨lb, lc', rfl⟩ := ownsRow_any h'
  by_cases hl : p.length = q.length
  · have hb : ((p.length : Int) != (q.length : Int)) = false := by simp [hl]
    have HL := Lib.hid hl; clear hl
    go_enter Try.func54, Try.ntmps54
    go_wp2_with fail
    go_loopg [5] p.length (fun g vi wr => SameRel w p q g vi wr)
    case atStart => exact ⟨0, 0, by omega, rfl, rfl, rfl⟩
    case round =>
      obtain ⟨k, n, hg, rfl, ht, rfl⟩ := hrel
      have HT := Lib.hid ht; have HG := Lib.hid hg
      clear ht hg
      by_cases hlt : k < p.length
      · have hlt2 : k < q.length := by have := HL.out; omega
        obtain ⟨g, c, e, hgl, hgc⟩ := h.form (by omega)
        simp only [Value.slice.injEq, true_and] at e
        obtain ⟨rfl, rfl⟩ := e
        obtain ⟨g', c', e, hgl', hgc'⟩ := h'.form (by omega)
        simp only [Value.slice.injEq, true_and] at e
        obtain ⟨rfl, rfl⟩ := e
        have c1 := ownsRow_cell h _ _ (ents_get p k hlt).1
        have c2 := ownsRow_cell h _ _ (ents_get p k hlt).2
        have d1 := ownsRow_cell h' _ _ (ents_get q k hlt2).1
        have d2 := ownsRow_cell h' _ _ (ents_get q k hlt2).2
        have H := Lib.hid h; have H' := Lib.hid h'
        clear h h'
        by_cases he : p[k] = q[k]
        · have hb1 : (p[k].1 == q[k].1) = true := by simp [he]
          have hb2 : (p[k].2 == q[k].2) = true := by simp [he]
          have HE := Lib.hid he; clear he
          generalize hx : p[k] = x at *
          generalize hy : q[k] = y at *
          have HX := Lib.hid hx; have HY := Lib.hid hy; clear hx hy
          go_wp2_with fail
          go_quiet (fail)
          go_wp2_with fail
          go_roundg (gk - 1)
          case measure => have := HG.out; omega
          case rel => exact ⟨k + 1, _, by have := HG.out; omega, by go_num, by rw [List.take_succ_eq_append_getElem hlt, List.take_succ_eq_append_getElem hlt2, HT.out, HX.out, HY.out, HE.out], rfl⟩
        · have HN : Hid ((p == q) = false) := by
            simp only [RowKit.Hid, beq_eq_false_iff_ne]
            intro e
            subst e
            exact he rfl
          have hb : (p[k].1 == q[k].1) = false ∨ ((p[k].1 == q[k].1) = true ∧ (p[k].2 == q[k].2) = false) := by
            rcases Classical.em (p[k].1 = q[k].1) with h1 | h1
            · exact .inr ⟨by simpa using h1, by simp; exact fun h2 => he (Prod.ext h1 h2)⟩
            · exact .inl (by simpa using h1)
          clear he
          generalize hx : p[k] = x at *
          generalize hy : q[k] = y at *
          clear hx hy
          rcases hb with hb1 | ⟨hb1, hb2⟩
          · go_wp2_with fail
            go_quiet (fail)
            go_wp2_with fail
            go_ret
            exact ⟨by rw [HN.out]; rfl, _, by first | rfl | exact World.drewN_drewN _ _ _⟩
          · go_wp2_with fail
            go_quiet (fail)
            go_wp2_with fail
            go_ret
            exact ⟨by rw [HN.out]; rfl, _, by first | rfl | exact World.drewN_drewN _ _ _⟩
      · go_wp2_with fail
        go_ret
        have hk : k = p.length := by have := HG.out; omega
        have ht := HT.out
        rw [hk, List.take_length, HL.out, List.take_length] at ht
        subst ht
        exact ⟨by simp, _, rfl⟩
  · have hb : ((p.length : Int) != (q.length : Int)) = true := by simp; omega
    have HL := Lib.hid hl; clear hl
    go_enter Try.func54, Try.ntmps54
    go_wp2_with fail
    go_ret
    have hn : (p == q) = false := by
      simp only [beq_eq_false_iff_ne]
      intro e
      exact HL.out (by rw [e])
    rw [hn]
    exact ⟨rfl, 0, rfl⟩

/-- All: the outer loop's relation. -/
def RAllRel (w : World) (base : Nat) (R : Int) (sv : Value) (p : List (Int × Int)) (g : Nat) (vo vi : Value) (wr : World) : Prop :=
  ∃ k : Nat, g + k = p.length ∧ vi = .int .i64 (k : Int) ∧ wr.ownsRow base 177 2 vo (rallTo p k).length (ents (rallTo p k)) ∧ (∃ la lc, vo = .slice (some la) (rallTo p k).length lc) ∧
    (∀ b, vo.ownBlock = some b → w.heap.size < b) ∧ Blk wr w.heap.size 95 [.int .i64 R, sv] ∧ Row wr base sv p ∧ Fr [] w wr

def RAllIn (w : World) (p : List (Int × Int)) (i : Nat) (g : Nat) (vf vk : Value) (wr : World) : Prop :=
  wr = w ∧ ∃ k : Nat, g + k = i ∧ vk = .int .i64 (k : Int) ∧ vf = .bool (W.differ p i k)

set_option maxHeartbeats 2000000 in
theorem rall_any (base : Nat) (R : Int) (sv : Value) (p : List (Int × Int)) (w : World) (h : Row w base sv p) (hp : p.length ≤ 1000000) (hbase : base ≤ w.heap.size) :
    Calls Try.prog 56 #[.agg #[.int .i64 R, sv]] w (ClonePost w base (rall p) 177) := by
  obtain ⟨la, lc, rfl⟩ := ownsRow_any h
  obtain ⟨i0, hi0, hz0, hz1, hz2⟩ := info_parts W_infoREntry
  have HI : Hid (RAllRel w base R (.slice la p.length lc) p p.length (.slice (some ⟨w.heap.size + 1, 0, none⟩) 0 0) (.int .i64 0) ((w.alloc (.cells #[.int .i64 R, .slice la p.length lc] 95)).alloc (.cells #[] 177))) := by
    refine ⟨0, by omega, rfl, ?_, ⟨_, _, rfl⟩, fun b e => by simp [Value.ownBlock] at e; omega, (Blk.new w _ _).alloc _, (h.alloc _).alloc _, ((Fr.refl _ _).alloc _).alloc _⟩
    have := World.ownsRow_made (base := base) (e := 177) (size := 2) (w.alloc (.cells #[.int .i64 R, .slice la p.length lc] 95)) #[] 0 (by simp; omega) (by unfold maxLen; omega) (by simp)
    simpa [rallTo, ents] using this
  have hla : 0 < p.length → ∃ g, la = some ⟨g, 0, none⟩ ∧ p.length ≤ lc ∧ g < w.heap.size := fun h0 => by
    obtain ⟨g, c, e, h1, h2⟩ := h.form h0
    simp only [Value.slice.injEq, true_and] at e
    exact ⟨g, e.1, by rw [e.2]; exact h2, h1⟩
  have HLA := Lib.hid hla
  clear h hla
  go_enter Try.func56, Try.ntmps56
  go_wp2_with fail
  go_loopg [3, 4] p.length (fun g vo vi wr => RAllRel w base R (.slice la p.length lc) p g vo vi wr)
  case atStart => exact HI.out
  case round =>
    clear HI
    obtain ⟨i, hg, rfl, ho, ⟨oa, oc, rfl⟩, hob, hbx, hrow, hfr⟩ := hrel
    have b0 := hbx.cell 0
    have b1 := hbx.cell 1
    simp only [List.getElem?_cons_succ, List.getElem?_cons_zero] at b0 b1
    have hbl := hbx.lt
    have HO := Lib.hid ho; have HB := Lib.hid hob; have HBX := Lib.hid hbx; have HR := Lib.hid hrow; have HF := Lib.hid hfr; have HG := Lib.hid hg
    clear ho hob hbx hrow hfr hg
    by_cases hlt : i < p.length
    · obtain ⟨g, rfl, hlc, hgw⟩ := HLA.out (by omega)
      have hcell : ∀ k, k < p.length → wr.cell? ⟨g, k * 2, none⟩ = some (.int .i64 (nth p k).1) := fun k hk => by rw [nth_get hk]; exact ownsRow_cell HR.out _ _ (ents_get p k hk).1
      have HC := Lib.hid hcell
      have ci := hcell i hlt
      clear hcell
      generalize hn : nth p i = x at *
      have HN := Lib.hid hn; clear hn
      generalize gk = G at *
      go_wp2_with fail
      go_loopg [6, 7] i (fun g vf vk wr' => RAllIn wr p i g vf vk wr')
      case atStart => exact ⟨rfl, 0, by omega, rfl, rfl⟩
      case round =>
        obtain ⟨rfl, k, hg, rfl, rfl⟩ := hrel
        have HG2 := Lib.hid hg; clear hg
        by_cases hki : k < i
        · have ck := HC.out k (by omega)
          have HD : Hid (∀ b, W.differ p i k = b → W.differ p i (k + 1) = (b && (nth p k).1 != (nth p i).1)) := fun b e => by rw [← e]; exact differ_succ p i k
          rw [HN.out] at HD
          generalize hy : nth p k = y at *
          have HY := Lib.hid hy; clear hy
          generalize hd : W.differ p i k = d at *
          have HDD := Lib.hid hd; clear hd
          cases d
          · go_wp2_with fail
            go_roundg (gk - 1)
            case measure => have := HG2.out; omega
            case rel => exact ⟨rfl, k + 1, by have := HG2.out; omega, by go_num, by rw [HD.out _ rfl]; rfl⟩
          · go_wp2_with fail
            go_roundg (gk - 1)
            case measure => have := HG2.out; omega
            case rel => exact ⟨rfl, k + 1, by have := HG2.out; omega, by go_num, by rw [HD.out _ rfl]; simp⟩
        · obtain rfl : k = i := by have := HG2.out; omega
          have HS := Lib.hid (rallTo_succ p k)
          have HFA : Hid (firstAt p k = W.differ p k k) := rfl
          generalize hd : W.differ p k k = d at *
          have HDD := Lib.hid hd; clear hd
          cases d
          · go_wp2_with fail
            go_roundg (G - 1)
            case measure => have := HG.out; omega
            case rel =>
              have hs : rallTo p (k + 1) = rallTo p k := by rw [HS.out, HFA.out]; simp
              refine ⟨k + 1, by have := HG.out; omega, by go_num, ?_, ⟨oa, oc, ?_⟩, HB.out, HBX.out, HR.out, HF.out⟩
              · rw [hs]; exact HO.out
              · rw [hs]
          · go_wp2_with fail
            refine (rget_any base R _ p x.1 wr HR.out hp).mono ?_
            rintro e w2 ⟨rfl, hf2⟩
            have HO2 : Hid (w2.ownsRow base 177 2 (.slice (some oa) (rallTo p k).length oc) (rallTo p k).length (ents (rallTo p k))) := ownsRow_fr HO.out hf2 (fun _ _ => by simp)
            have hlen := rallTo_length p k
            have hs2 := hf2.size
            have hbw : base ≤ w2.heap.size := by omega
            have HF2 := Lib.hid (HF.out.trans hf2)
            have HBX2 := Lib.hid (HBX.out.fr hf2 (by simp))
            have HR2 := Lib.hid (HR.out.fr hf2 (fun _ _ => by simp))
            clear hf2
            generalize hv : (rget p x.1).1 = v at *
            have HV := Lib.hid hv; clear hv
            go_wp2_with (at_builtin; go_must (refine wpList_push _ rfl _ _ 93 rfl base 177 i0 _ 2 16 Try.underlying93 hi0 hz0 hz1 hz2 rfl (by decide) (.slice (some oa) (rallTo p k).length oc) (rallTo p k).length _ rfl HO2.out [.int .i64 x.1, .int .u64 v] _ _ rfl (by simp) rfl (by simp [Value.oneCell']) (by unfold maxLen; omega) (by omega) hbw ?_))
            intro g2 c2 w3 hown hg2 hgg hc1 hc2
            have hs : rallTo p (k + 1) = rallTo p k ++ [(x.1, v)] := by rw [HS.out, HFA.out, HN.out, HV.out]; simp
            have hsl : (rallTo p (k + 1)).length = (rallTo p k).length + 1 := by rw [hs]; simp
            have hse : ents (rallTo p (k + 1)) = ents (rallTo p k) ++ [.int .i64 x.1, .int .u64 v] := by rw [hs, ents_append]; simp [ents]
            have HW := Lib.hid hown
            have HF3 : Hid (Fr [] w w3) := (HF2.out.alloc (.cells #[.int .i64 x.1, .int .u64 v] 177)).grown hg2 (fun k e => .inr (Nat.le_of_lt (HB.out k e)))
            have HB3 : Hid (∀ b, (Value.slice (some ⟨g2, 0, none⟩) (rallTo p (k + 1)).length c2).ownBlock = some b → w.heap.size < b) := by
              intro b e
              simp [Value.ownBlock] at e
              subst e
              rcases hgg with e1 | e1
              · exact HB.out _ e1
              · have := HF2.out.size; omega
            have HBX3 : Hid (Blk w3 w.heap.size 95 [.int .i64 R, .slice (some ⟨g, 0, none⟩) p.length lc]) := (HBX2.out.alloc _).grown hg2 (fun e => by have := HB.out _ e.symm; omega)
            have HR3 : Hid (Row w3 base (.slice (some ⟨g, 0, none⟩) p.length lc) p) := (HR2.out.alloc (.cells #[.int .i64 x.1, .int .u64 v] 177)).kept hg2 (.inr (fun e => by have := HB.out g (by rw [← e]; rfl); omega))
            clear hown hg2 hgg
            go_wp2_with fail
            go_roundg (G - 1)
            case measure => have := HG.out; omega
            case rel => exact ⟨k + 1, by have := HG.out; omega, by go_num, by rw [hsl, hse]; exact HW.out, ⟨_, c2, by rw [hsl]⟩, HB3.out, HBX3.out, HR3.out, HF3.out⟩
    · obtain rfl : i = p.length := by have := HG.out; omega
      go_wp2_with fail
      go_ret
      exact ⟨_, rfl, HO.out, HF.out, fun b e => Nat.le_of_lt (HB.out b e)⟩
end Go.Proofs.Ytccioehckfdjdaa
