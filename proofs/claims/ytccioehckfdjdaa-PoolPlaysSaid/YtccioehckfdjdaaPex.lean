/- Chapter 10's own example: plain. -/
import Derived.Test.YtccioehckfdjdaaPread
import Derived.Test.YtccioehckfdjdaaPcells
import Derived.Test.YtccioehckfdjdaaPsettle
set_option linter.unusedSimpArgs false
set_option linter.unusedVariables false
namespace Go.Tum.P
open Go.Tum.Y
def cP : Cfg := ⟨2, 3, 4, 50, 5, 99⟩
theorem okP : Y.Ok cP := ⟨by decide, by decide, by decide, by decide, by decide, by decide, by decide, by decide, by decide, by decide⟩
def xA : St := (feed cP 5 (fives [0, 2, 1, 2, 0, 1]) 0 new0).1
def xB : St × W.S := settle cP xA ⟨100, [], []⟩
def xC : St × W.S := take cP 0 xB.1 xB.2
def xD : St × W.S := give cP 2 xC.1 xC.2
def xE : W.S := end_ cP xD.1 xD.2
def xQ : St := (feed cP 4 (fives [0, 2, 1]) 0 new0).1
set_option maxRecDepth 100000
theorem feedA : (feed cP 5 (fives [0, 2, 1, 2, 0, 1]) 0 new0).2 = 6 := by decide
theorem okA : Ok cP xA := feed_ok okP 5 _ 0 _ (ok_new cP okP) (by decide)
theorem okB : (0 ≤ xB.1.nt ∧ xB.1.nt ≤ cP.b) ∧ (0 ≤ xB.1.nl ∧ xB.1.nl ≤ limit cP) ∧ xB.2.done.length ≤ 100 := by decide
theorem okC : (0 ≤ xC.1.nl ∧ xC.1.nl ≤ limit cP) ∧ xC.2.done.length ≤ 100 := by decide
theorem okD : (0 ≤ xD.1.nt ∧ xD.1.nt ≤ cP.b) ∧ (0 ≤ xD.1.nl ∧ xD.1.nl ≤ limit cP) ∧ xD.2.done.length ≤ 100 := by decide
theorem askQ : ask cP xQ = (p0, false) := by decide
theorem okQ : Ok cP xQ := feed_ok okP 4 _ 0 _ (ok_new cP okP) (by decide)
theorem sA : xA.s = 1 := by decide
theorem markB : xB.1.nt = 2 ∧ xB.1.nl = 1 := by decide
theorem topB : top cP xB.1 = (at_ cP 13 1 0, true) := by decide
theorem markD : xD.1.nt = 1 ∧ xD.1.nl = 2 := by decide
theorem lifeE : W.get xE (at_ cP 11 0 0) = (1, true) := by decide
theorem limboE : W.get xE (at_ cP 15 1 0) = (2, true) := by decide
theorem sQ : xQ.s = 2 := by decide
end Go.Tum.P
namespace Go.Tum
theorem argE_row {T : Type} {en : T → List Value} {n : Nat} {w : World} {base : Nat} {e : TypeId} {v : Value} {l : List T} (hn : ∀ x, (en x).length = n) (h : w.ownsRow base e n v l.length (flat en l)) : ArgE en n w v l := by
  rcases ownsRow_form h with ⟨e1, e2⟩ | ⟨g, cap, rfl, hg, _, hc, _⟩
  · exact ⟨none, 0, by rw [e1, e2], by omega, .inl (List.eq_nil_of_length_eq_zero e2)⟩
  · refine ⟨_, _, rfl, hc, .inr ⟨⟨g, 0, none⟩, rfl, hg, fun i hi j u hj => ?_⟩⟩
    rw [Addr.add_lit, Nat.zero_add]
    have hjl : j < n := by rw [← hn l[i]]; exact (List.getElem?_eq_some_iff.1 hj).1
    exact ownsRow_cell h _ _ ((flat_get hn l i hi j hjl).trans hj)
theorem argU_blk {w : World} {b : Nat} {T : TypeId} (l : List Int) (h : Blk w b T (l.map (Value.int .u64))) : ArgE enU 1 w (.slice (some ⟨b, 0, none⟩) l.length l.length) l := by
  refine ⟨_, _, rfl, Nat.le_refl _, .inr ⟨⟨b, 0, none⟩, rfl, h.lt, fun i hi j u hj => ?_⟩⟩
  rw [Addr.add_lit, Nat.zero_add]
  have hj0 : j = 0 := by
    have := (List.getElem?_eq_some_iff.1 hj).1
    simp [enU] at this; omega
  subst hj0
  have hu : Value.int .u64 l[i] = u := by simpa [enU] using hj
  rw [h.cell]
  simp [List.getElem?_eq_getElem hi, hu]
theorem enO_len3 (x : O3) : (enO x).length = 3 := rfl
theorem fives_len (l : List Int) : (fives l).length = l.length := by simp [fives]
end Go.Tum
namespace Go.Proofs.Ytccioehckfdjdaa
open Go.RowKit Go.Tum Go.Tum.Y
theorem sample10_any (w : World) : Calls Try.prog 99 #[] w fun e w' => e = .returned (.agg [Value.int .i64 2, .int .i64 3, .int .i64 4, .int .i64 50, .int .u64 5, .int .u64 99].toArray) ∧ Fr [] w w' := by
  have HS := Lib.hid ((Sep.nil (Fr.refl [] w)).new 24 [Value.int .i64 2, .int .i64 3, .int .i64 4, .int .i64 50, .int .u64 5, .int .u64 99])
  go_enter Try.func99, Try.ntmps99
  go_wp2_with fail
  exact bodyPost_ret (v := .agg [Value.int .i64 2, .int .i64 3, .int .i64 4, .int .i64 50, .int .u64 5, .int .u64 99].toArray) (res_cell Try.results99 rfl (HS.out.blk 0 rfl).range Try.underlying24 rfl (by kernel_rfl)) rfl ⟨rfl, HS.out.fr⟩
/-- cells, out of a row that owns numbers; and read, out of what cells gave. -/
theorem pcells_read {w0 w : World} {R : List Thing} (c : Cfg) (hok : Y.Ok c) (seq : Int) (l : List Int) (hl : l.length ≤ 1000) (hg : ∀ x ∈ l, 0 ≤ x ∧ x ≤ 18446744073709551615) (oa : Option Addr) (n oc : Nat) (hn : n = l.length) (hS : Sep w0 w (rowT 0 55 3 (.slice oa n oc) n (flat enO (fives l)) :: R)) :
    Calls Try.prog 32 #[mapV c, .int .u64 seq, .slice oa n oc] w fun e w' => ∃ b, e = .returned (.tuple #[.pointer (some ⟨b, 0, none⟩), .int .i64 (P.feed c seq (fives l) 0 P.new0).2]) ∧ Sep w0 w' (poolT c seq b (P.feed c seq (fives l) 0 P.new0).1 :: rowT 0 55 3 (.slice oa n oc) n (flat enO (fives l)) :: R) := by
  have hr := hS.row 0 rfl
  refine (pread_any w c hok seq oa n oc (fives l) (by rw [fives_len, hn]) (by omega) (argE_row enO_len3 (by rw [fives_len, ← hn]; exact hr)) (fun o ho => ?_)).mono ?_
  · obtain ⟨x, hx, rfl⟩ := List.mem_map.1 ho
    exact hg x hx
  · rintro e w' ⟨b, rfl, h2⟩
    exact ⟨b, rfl, hS.fresh h2.toFresh⟩
end Go.Proofs.Ytccioehckfdjdaa
