/- Several texts in one: Base, Push, Leaf, Region. -/
import Derived.WalkKit
import Derived.WalkSpells
import Derived.WalkLawsBesides
import Derived.Lib.Hide
import Derived.Deep.RegionLaw
import Derived.Laws.AppendOwnNone
import Derived.Deep.Slices
import Derived.ChangeSame
import Derived.OrdersHeld
import Derived.Deep.QuietTactic
import Derived.BigQuiet
import Derived.Deep.RegionHeld3
import Derived.StillTailTactics
/- Small facts that every text of this seat uses: the bits of int, blocks and frames of memory, slices that are owned. -/
section
namespace Go.Tum
open Go.RowKit

/-! ### bits -/
theorem ofInt_toNat (y : Int) (h0 : 0 ≤ y) (h1 : y < 18446744073709551616) : (BitVec.ofInt 64 y).toNat = y.toNat := by
  rw [BitVec.toNat_ofInt]
  congr 1
  exact Int.emod_eq_of_lt h0 (by simpa using h1)

theorem wrap_i64_id (n : Int) (h0 : -9223372036854775808 ≤ n) (h1 : n ≤ 9223372036854775807) : IntKind.i64.wrap n = n := by
  rw [IntKind.wrap_i64]; omega

theorem and_i64_val (x y : Int) (h0 : 0 ≤ y) (h1 : y ≤ 9223372036854775807) :
    bits .and .i64 x y = (((BitVec.ofInt 64 x).toNat &&& y.toNat : Nat) : Int) := by
  have e : bits .and .i64 x y = IntKind.i64.wrap ((BitVec.ofInt 64 x &&& BitVec.ofInt 64 y).toNat : Int) := rfl
  rw [e, BitVec.toNat_and, ofInt_toNat y h0 (by omega)]
  have hle : (BitVec.ofInt 64 x).toNat &&& y.toNat ≤ y.toNat := Nat.and_le_right
  exact wrap_i64_id _ (by omega) (by omega)

theorem and_i64_bd (x y : Int) (h0 : 0 ≤ y) (h1 : y ≤ 9223372036854775807) :
    0 ≤ bits .and .i64 x y ∧ bits .and .i64 x y ≤ y := by
  rw [and_i64_val x y h0 h1]
  have hle : (BitVec.ofInt 64 x).toNat &&& y.toNat ≤ y.toNat := Nat.and_le_right
  omega

theorem and_i64_mask (x m p : Nat) (hm : m = 2 ^ p) (hx : x ≤ 9223372036854775807) (hm1 : m ≤ 9223372036854775807) :
    bits .and .i64 (x : Int) ((m : Int) - 1) = ((x % m : Nat) : Int) := by
  have hp : 0 < m := by rw [hm]; exact Nat.two_pow_pos p
  rw [and_i64_val _ _ (by omega) (by omega), ofInt_toNat _ (by omega) (by omega)]
  have e1 : ((x : Int)).toNat = x := by omega
  have e2 : ((m : Int) - 1).toNat = 2 ^ p - 1 := by omega
  rw [e1, e2, Nat.and_two_pow_sub_one_eq_mod, hm]

/-- The mask of the low bits of any int: a number below the power of two. -/
theorem and_i64_low (x : Int) (p : Nat) (hp : p ≤ 62) : ∃ k : Nat, k < 2 ^ p ∧ bits .and .i64 x ((2 ^ p : Nat) - 1 : Int) = (k : Int) := by
  have hpw : (2 : Nat) ^ p ≤ 2 ^ 62 := Nat.pow_le_pow_right (by decide) hp
  have h62 : (2 : Nat) ^ 62 = 4611686018427387904 := by decide
  have hpos : 0 < (2 : Nat) ^ p := Nat.two_pow_pos p
  have := and_i64_bd x ((2 ^ p : Nat) - 1 : Int) (by omega) (by omega)
  exact ⟨(bits .and .i64 x ((2 ^ p : Nat) - 1 : Int)).toNat, by omega, by omega⟩

/-! ### frames -/
/-- All blocks that were there, but those in 'fp', are as they were. -/
structure Fr (fp : List Nat) (w w' : World) : Prop where
  os : w'.os = w.os
  tape : w'.tape = w.tape
  output : w'.output = w.output
  size : w.heap.size ≤ w'.heap.size
  block : ∀ k, k < w.heap.size → k ∉ fp → w'.heap[k]? = w.heap[k]?

theorem Fr.refl (fp : List Nat) (w : World) : Fr fp w w := ⟨rfl, rfl, rfl, Nat.le_refl _, fun _ _ _ => rfl⟩
theorem Fr.trans {fp : List Nat} {a b c : World} (h : Fr fp a b) (k : Fr fp b c) : Fr fp a c :=
  ⟨k.os.trans h.os, k.tape.trans h.tape, k.output.trans h.output, Nat.le_trans h.size k.size,
    fun i hi hn => (k.block i (Nat.lt_of_lt_of_le hi h.size) hn).trans (h.block i hi hn)⟩
/-- The second step may turn blocks that the first one made. -/
theorem Fr.trans' {fp fp' : List Nat} {a b c : World} (h : Fr fp a b) (k : Fr fp' b c) (hs : ∀ x ∈ fp', x ∈ fp ∨ a.heap.size ≤ x) : Fr fp a c :=
  ⟨k.os.trans h.os, k.tape.trans h.tape, k.output.trans h.output, Nat.le_trans h.size k.size,
    fun i hi hn => (k.block i (Nat.lt_of_lt_of_le hi h.size) (fun hm => by rcases hs i hm with h1 | h1; exact hn h1; omega)).trans (h.block i hi hn)⟩
theorem Fr.mono {fp fp' : List Nat} {w w' : World} (h : Fr fp w w') (hs : ∀ x ∈ fp, x ∈ fp') : Fr fp' w w' :=
  ⟨h.os, h.tape, h.output, h.size, fun k hk hn => h.block k hk (fun hm => hn (hs k hm))⟩
theorem Fr.drew {fp : List Nat} {a w : World} (h : Fr fp a w) : Fr fp a w.drew := ⟨h.os, h.tape, h.output, h.size, h.block⟩
theorem Fr.drewN {fp : List Nat} {a w : World} (h : Fr fp a w) (n : Nat) : Fr fp a (w.drewN n) := ⟨h.os, h.tape, h.output, h.size, h.block⟩
theorem Fr.from_drew {fp : List Nat} {w w' : World} (h : Fr fp w w') : Fr fp w.drew w' := ⟨h.os, h.tape, h.output, h.size, h.block⟩
theorem Fr.from_to {fp : List Nat} {w w' : World} (h : Fr fp w.drew w') : Fr fp w w' := ⟨h.os, h.tape, h.output, h.size, h.block⟩
theorem Fr.alloc {fp : List Nat} {a w : World} (h : Fr fp a w) (o : Obj) : Fr fp a (w.alloc o) :=
  ⟨h.os, h.tape, h.output, Nat.le_trans h.size (by simp), fun k hk hn => (Below.heap_alloc w o k (Nat.lt_of_lt_of_le hk h.size)).trans (h.block k hk hn)⟩
theorem Fr.setCell {fp : List Nat} {a w : World} (h : Fr fp a w) {p : Addr} (hp : p.block ∈ fp ∨ a.heap.size ≤ p.block) (u : Value) : Fr fp a (w.setCell p u) :=
  ⟨h.os, h.tape, h.output, Nat.le_trans h.size (by simp [World.setCell]), fun k hk hn =>
    (Below.heap_setCell w p u k (fun e => by rcases hp with hp | hp; exact hn (e ▸ hp); omega)).trans (h.block k hk hn)⟩
theorem Fr.grown {fp : List Nat} {a w w' : World} {row : Option Nat} (h : Fr fp a w) (hg : w.grownBy w' row) (hr : ∀ k, row = some k → k ∈ fp ∨ a.heap.size ≤ k) : Fr fp a w' :=
  ⟨hg.os.trans h.os, hg.tape.trans h.tape, hg.output.trans h.output, Nat.le_trans h.size hg.size,
    fun k hk hn => (hg.block k (Nat.lt_of_lt_of_le hk h.size) (fun e => by rcases hr k e.symm with h1 | h1; exact hn h1; omega)).trans (h.block k hk hn)⟩
theorem Fr.of_below {w w' : World} (h : Below w.heap.size w w') (fp : List Nat) : Fr fp w w' := ⟨h.os, h.tape, h.output, h.size, fun k hk _ => h.block k hk⟩
theorem Fr.below {B : Nat} {fp : List Nat} {w w' : World} (h : Fr fp w w') (hB : B ≤ w.heap.size) (hf : ∀ x ∈ fp, B ≤ x) : Below B w w' :=
  ⟨h.os, h.tape, h.output, h.size, fun k hk => h.block k (by omega) (fun hm => by have := hf k hm; omega)⟩
theorem Fr.cell {fp : List Nat} {w w' : World} (h : Fr fp w w') {a : Addr} {v : Value} (hc : w.cell? a = some v) (hn : a.block ∉ fp) : w'.cell? a = some v :=
  (World.cell?_of_block (w := w) (h.block _ (World.block_lt_of_cell? w a hc) hn)).trans hc
theorem Fr.froz {fp : List Nat} {w w' : World} (h : Fr fp w w') {a : Addr} {b : Bool} (hc : w.frozen? a = b) (hl : a.block < w.heap.size) (hn : a.block ∉ fp) : w'.frozen? a = b :=
  (World.frozen?_of_block (w := w) (h.block _ hl hn)).trans hc

/-! ### a block known whole -/
/-- Block k is the row 'cs' of elements of type T, and may be written. -/
def Blk (w : World) (k : Nat) (T : TypeId) (cs : List Value) : Prop := w.heap[k]? = some (.cells cs.toArray T (0, 0))

theorem Blk.lt {w : World} {k : Nat} {T : TypeId} {cs : List Value} (h : Blk w k T cs) : k < w.heap.size := (Array.getElem?_eq_some_iff.1 h).1
theorem Blk.cell {w : World} {k : Nat} {T : TypeId} {cs : List Value} (h : Blk w k T cs) (j : Nat) : w.cell? ⟨k, j, none⟩ = cs[j]? := by
  simp only [World.cell?, show w.heap[k]? = _ from h]; simp
theorem Blk.froz {w : World} {k : Nat} {T : TypeId} {cs : List Value} (h : Blk w k T cs) (j : Nat) : w.frozen? ⟨k, j, none⟩ = false := by
  simp only [World.frozen?, show w.heap[k]? = _ from h]; simp
theorem Blk.fr {fp : List Nat} {w w' : World} {k : Nat} {T : TypeId} {cs : List Value} (h : Blk w k T cs) (f : Fr fp w w') (hn : k ∉ fp) : Blk w' k T cs :=
  (f.block k h.lt hn).trans h
theorem Blk.grown {w w' : World} {row : Option Nat} {k : Nat} {T : TypeId} {cs : List Value} (h : Blk w k T cs) (f : w.grownBy w' row) (hn : some k ≠ row) : Blk w' k T cs :=
  (f.block k h.lt hn).trans h
theorem Blk.drew {w : World} {k : Nat} {T : TypeId} {cs : List Value} (h : Blk w k T cs) : Blk w.drew k T cs := h
theorem Blk.drewN {w : World} {k : Nat} {T : TypeId} {cs : List Value} (h : Blk w k T cs) (n : Nat) : Blk (w.drewN n) k T cs := h
theorem Blk.alloc {w : World} {k : Nat} {T : TypeId} {cs : List Value} (h : Blk w k T cs) (o : Obj) : Blk (w.alloc o) k T cs :=
  (Below.heap_alloc w o k h.lt).trans h
theorem Blk.new (w : World) (T : TypeId) (cs : List Value) : Blk (w.alloc (.cells cs.toArray T)) w.heap.size T cs := heap_alloc_new w _
theorem Blk.set {w : World} {k : Nat} {T : TypeId} {cs : List Value} (h : Blk w k T cs) (j : Nat) (u : Value) : Blk (w.setCell ⟨k, j, none⟩ u) k T (cs.set j u) := by
  unfold Blk at *
  simp [World.setCell, Array.getElem?_modify, h]
theorem Blk.setOther {w : World} {k : Nat} {T : TypeId} {cs : List Value} (h : Blk w k T cs) {a : Addr} (u : Value) (hn : k ≠ a.block) : Blk (w.setCell a u) k T cs :=
  (Below.heap_setCell w a u k hn).trans h

theorem len24 {cs : List Value} (h : cs.length = 24) : ∃ x0 x1 x2 x3 x4 x5 x6 x7 x8 x9 x10 x11 x12 x13 x14 x15 x16 x17 x18 x19 x20 x21 x22 x23, cs = [x0, x1, x2, x3, x4, x5, x6, x7, x8, x9, x10, x11, x12, x13, x14, x15, x16, x17, x18, x19, x20, x21, x22, x23] := by
  match cs, h with
  | [x0, x1, x2, x3, x4, x5, x6, x7, x8, x9, x10, x11, x12, x13, x14, x15, x16, x17, x18, x19, x20, x21, x22, x23], _ => exact ⟨x0,x1,x2,x3,x4,x5,x6,x7,x8,x9,x10,x11,x12,x13,x14,x15,x16,x17,x18,x19,x20,x21,x22,x23, rfl⟩

/-! ### owned rows -/
theorem ownsRow_fr {fp : List Nat} {w w' : World} {base : Nat} {e : TypeId} {size : Nat} {v : Value} {n : Nat} {xs : List Value}
    (h : w.ownsRow base e size v n xs) (f : Fr fp w w') (hn : ∀ k, v.ownBlock = some k → k ∉ fp) : w'.ownsRow base e size v n xs := by
  refine ⟨h.1, ?_⟩
  rcases h.2 with h2 | ⟨g, cap, cur, rfl, hb, hg, rest⟩
  · exact .inl h2
  · exact .inr ⟨g, cap, cur, rfl, hb, (f.block g (Array.getElem?_eq_some_iff.1 hg).1 (hn g rfl)).trans hg, rest⟩

theorem ownsRow_setCell {w : World} {base : Nat} {e : TypeId} {size : Nat} {v : Value} {n : Nat} {xs : List Value}
    (h : w.ownsRow base e size v n xs) {a : Addr} (hn : v.ownBlock ≠ some a.block) (u : Value) : (w.setCell a u).ownsRow base e size v n xs := by
  refine ⟨h.1, ?_⟩
  rcases h.2 with h2 | ⟨g, cap, cur, rfl, hb, hg, rest⟩
  · exact .inl h2
  · refine .inr ⟨g, cap, cur, rfl, hb, ?_, rest⟩
    rw [Below.heap_setCell _ _ _ _ (fun e => hn (by simp [Value.ownBlock, e]))]; exact hg

/-- A cell of an owned row is written. -/
theorem ownsRow_set {w : World} {base : Nat} {e : TypeId} {size : Nat} {g n cap : Nat} {xs : List Value}
    (h : w.ownsRow base e size (.slice (some ⟨g, 0, none⟩) n cap) n xs) (j : Nat) (u : Value) :
    (w.setCell ⟨g, j, none⟩ u).ownsRow base e size (.slice (some ⟨g, 0, none⟩) n cap) n (xs.set j u) := by
  refine ⟨by simpa using h.1, ?_⟩
  rcases h.2 with h2 | ⟨g', cap', cur, e1, hb, hg, h1, h2, h3, h4⟩
  · simp at h2
  · simp only [Value.slice.injEq, Option.some.injEq, Addr.mk.injEq, and_true] at e1
    obtain ⟨rfl, _, rfl⟩ := e1
    refine .inr ⟨g, cap, cur.setIfInBounds j u, rfl, hb, ?_, h1, h2, by simpa using h3, ?_⟩
    · simp [World.setCell, Array.getElem?_modify, hg]
    · simp [List.take_set, h4]

/-- The row, cut at its end. -/
theorem ownsRow_cut {w : World} {base : Nat} {e : TypeId} {size : Nat} {g n cap : Nat} {xs : List Value}
    (h : w.ownsRow base e size (.slice (some ⟨g, 0, none⟩) n cap) n xs) (m : Nat) (hm : m ≤ n) :
    w.ownsRow base e size (.slice (some ⟨g, 0, none⟩) m cap) m (xs.take (m * size)) := by
  have hms : m * size ≤ n * size := Nat.mul_le_mul_right _ hm
  refine ⟨by rw [List.length_take, h.1]; omega, ?_⟩
  rcases h.2 with h2 | ⟨g', cap', cur, e1, hb, hg, h1, h2, h3, h4⟩
  · simp at h2
  · simp only [Value.slice.injEq, Option.some.injEq, Addr.mk.injEq, and_true] at e1
    obtain ⟨rfl, _, rfl⟩ := e1
    exact .inr ⟨g, cap, cur, rfl, hb, hg, by omega, h2, h3, by rw [← h4, List.take_take, Nat.min_eq_left hms]⟩

theorem ownsRow_cell {w : World} {base : Nat} {e : TypeId} {size : Nat} {g n cap : Nat} {xs : List Value}
    (h : w.ownsRow base e size (.slice (some ⟨g, 0, none⟩) n cap) n xs) (j : Nat) (u : Value) (hj : xs[j]? = some u) : w.cell? ⟨g, j, none⟩ = some u := by
  have := h.cells (g := g) rfl j u hj
  simpa [Addr.add_lit] using this

theorem ownsRow_froz {w : World} {base : Nat} {e : TypeId} {size : Nat} {g n cap : Nat} {xs : List Value}
    (h : w.ownsRow base e size (.slice (some ⟨g, 0, none⟩) n cap) n xs) (j : Nat) : w.frozen? ⟨g, j, none⟩ = false := by
  rcases h.2 with h2 | ⟨g', cap', cur, e1, hb, hg, h1, h2, h3, h4⟩
  · simp at h2
  · simp only [Value.slice.injEq, Option.some.injEq, Addr.mk.injEq, and_true] at e1
    obtain ⟨rfl, _, rfl⟩ := e1
    simp [World.frozen?, hg]

/-- An owned row that holds something is no nil slice. -/
theorem ownsRow_form {w : World} {base : Nat} {e : TypeId} {size : Nat} {v : Value} {n : Nat} {xs : List Value}
    (h : w.ownsRow base e size v n xs) : (v = .slice none 0 0 ∧ n = 0) ∨ ∃ g cap, v = .slice (some ⟨g, 0, none⟩) n cap ∧ g < w.heap.size ∧ base ≤ g ∧ n ≤ cap ∧ cap ≤ maxLen := by
  rcases h.2 with h2 | ⟨g, cap, cur, rfl, hb, hg, h1, h2, h3, h4⟩
  · exact .inl h2
  · exact .inr ⟨g, cap, rfl, (Array.getElem?_eq_some_iff.1 hg).1, hb, h1, h2⟩

end Go.Tum
end

/- append onto a slice that the call owns: where the new value stands; one element pushed; a clone. -/
section
namespace Go.Tum
open Go.RowKit

section
variable {P : Program} (w : World)

/-- As the kit's own law, and: the new value stands where the old one stood, or in the newest block. -/
theorem run_append_at (base : Nat) (t ty e : TypeId) (i : TypeInfo) (z : Value) (size bytes : Nat) (ht : P.underlying t = some (.slice e)) (hi : P.info? e = some i) (hz : i.zero = some z)
    (hsize : i.size = size) (hby : i.bytes = bytes) (hzs : z.cells.size = size) (hsz : 0 < size)
    (v : Value) (n : Nat) (xs : List Value) (hown : w.ownsRow base e size v n xs)
    (a : Addr) (m c : Nat) (news : List Value) (hl : news.length = m * size) (hnews : ∀ j u, news[j]? = some u → w.cell? (a.add j) = some u) (h1 : ∀ u ∈ news, u.oneCell' = true)
    (h63 : n + m ≤ maxLen) (hbytes : (n + m) * bytes ≤ 140737488355328) (hbase : base ≤ w.heap.size) :
    ∃ v' w', (Builtin.append_ #[t, t] ty #[v, .slice (some a) m c]).run P w = .ok v' w' ∧ w'.ownsRow base e size v' (n + m) (xs ++ news) ∧ w.grownBy w' v.ownBlock ∧
      (v' = .slice none 0 0 ↔ v = .slice none 0 0 ∧ m = 0) ∧ (v'.ownBlock = v.ownBlock ∨ v'.ownBlock = some w.heap.size) := by
  obtain ⟨v', w', hr, ho, hg, hn⟩ := run_append_own (P := P) w base t ty e i z size bytes ht hi hz hsize hby hzs hsz v n xs hown a m c news hl hnews h1 h63 hbytes hbase
  refine ⟨v', w', hr, ho, hg, hn, ?_⟩
  have hm63 : n + m ≤ 9223372036854775807 := by simp only [maxLen] at h63; omega
  rcases hown.2 with ⟨rfl, rfl⟩ | ⟨g, cap, cur, rfl, hbg, hgg, hnc, hcm, hcs, htake⟩
  · by_cases hm : m = 0
    · have := hn.2 ⟨rfl, hm⟩
      rw [this]; exact .inl rfl
    · have hr2 := run_append_nil (P := P) w t ty e i z ht hi hz a m c news (by rw [hsize]; exact hl) hnews (by omega) (by omega) (by rw [hby]; have hb := hbytes; simp only [Nat.zero_add] at hb; omega)
      rw [hr2] at hr
      injection hr with e1 e2
      rw [← e1]; exact .inr rfl
  · by_cases hroom : n + m ≤ cap
    · obtain ⟨w2, hr2, _⟩ := run_append_fits (P := P) w base t ty e i size ht hi hsize g n cap xs hown a m c news hl hnews h1 hroom
      rw [hr2] at hr
      injection hr with e1 e2
      rw [← e1]; exact .inl rfl
    · have hr2 := run_append_grow (P := P) w t ty e i z ht hi hz ⟨g, 0, none⟩ n cap xs (by rw [hsize]; exact hown.1) (hown.cells (g := g) rfl) a m c news (by rw [hsize]; exact hl) hnews (by omega) (by omega)
        (by rw [hby]; exact growslice_fits (by omega) hbytes)
      rw [hr2] at hr
      injection hr with e1 e2
      rw [← e1]; exact .inr rfl

theorem new_cells (cs : List Value) (e : TypeId) : ∀ j u, cs[j]? = some u → (w.alloc (.cells cs.toArray e)).cell? ((⟨w.heap.size, 0, none⟩ : Addr).add j) = some u := by
  intro j u h
  have := (Blk.new w e cs).cell j
  simp only [Addr.add_lit, Nat.zero_add] at *
  rw [this, h]

/-- One element is pushed ('s = append(s, x)'; its cells lie in the block that was made last). -/
theorem wp_push {o : Oper} {a : Act} {K : Act → World → Prop} {Q : Exit → Act → World → Prop} (s x : Operand) (t : TypeId)
    (ho : o.op = .call { callee := .builtin .append, args := #[s, x], argTypes := #[t, t] })
    (base : Nat) (e : TypeId) (i : TypeInfo) (z : Value) (size bytes : Nat) (ht : P.underlying t = some (.slice e)) (hi : P.info? e = some i) (hz : i.zero = some z)
    (hsize : i.size = size) (hby : i.bytes = bytes) (hzs : z.cells.size = size) (hsz : 0 < size)
    (v : Value) (n : Nat) (xs : List Value) (hs : a.eval s = v) (hown : w.ownsRow base e size v n xs)
    (cs : List Value) (ex : TypeId) (bk : Nat) (hx : a.eval x = .slice (some ⟨bk, 0, none⟩) 1 1) (hbk : w.heap.size = bk) (hl : cs.length = size) (h1 : ∀ u ∈ cs, u.oneCell' = true)
    (h63 : n + 1 ≤ maxLen) (hbytes : (n + 1) * bytes ≤ 140737488355328) (hbase : base ≤ w.heap.size)
    (h : ∀ g c' w', w'.ownsRow base e size (.slice (some ⟨g, 0, none⟩) (n + 1) c') (n + 1) (xs ++ cs) → (w.alloc (.cells cs.toArray ex)).grownBy w' v.ownBlock → (v.ownBlock = some g ∨ g = w.heap.size + 1) → n + 1 ≤ c' → c' ≤ maxLen → K (a.put o.dst (.slice (some ⟨g, 0, none⟩) (n + 1) c')) w') :
    o.wp P a (w.alloc (.cells cs.toArray ex)) K Q := by
  subst hbk
  obtain ⟨v', w', hr, h2, h3, h4, h5⟩ := run_append_at (P := P) (w.alloc (.cells cs.toArray ex)) base t o.type e i z size bytes ht hi hz hsize hby hzs hsz v n xs (hown.alloc _) ⟨w.heap.size, 0, none⟩ 1 1 cs
    (by omega) (new_cells w cs ex) h1 h63 hbytes (by simp; omega)
  unfold Oper.wp execOp
  simp only [ho, resolve, invoke, builtin, Sem.run_bind, Sem.run_pure, Result.andThen_ok, List.map_toArray, List.map_cons, List.map_nil, hs, hx, hr]
  rcases ownsRow_form h2 with ⟨e0, _⟩ | ⟨g, c', rfl, hgl, _, h6, h7⟩
  · have := (h4.1 e0).2; omega
  · refine h g c' w' h2 h3 ?_ h6 h7
    rcases h5 with h5 | h5
    · exact .inl h5.symm
    · simp [Value.ownBlock] at h5; exact .inr h5

theorem wpList_push {ops : Array Oper} {rest : List Oper} {o : Oper} {a : Act} {Q : Exit → Act → World → Prop} (hgd : o.guard = none) (s x : Operand) (t : TypeId)
    (ho : o.op = .call { callee := .builtin .append, args := #[s, x], argTypes := #[t, t] })
    (base : Nat) (e : TypeId) (i : TypeInfo) (z : Value) (size bytes : Nat) (ht : P.underlying t = some (.slice e)) (hi : P.info? e = some i) (hz : i.zero = some z)
    (hsize : i.size = size) (hby : i.bytes = bytes) (hzs : z.cells.size = size) (hsz : 0 < size)
    (v : Value) (n : Nat) (xs : List Value) (hs : a.eval s = v) (hown : w.ownsRow base e size v n xs)
    (cs : List Value) (ex : TypeId) (bk : Nat) (hx : a.eval x = .slice (some ⟨bk, 0, none⟩) 1 1) (hbk : w.heap.size = bk) (hl : cs.length = size) (h1 : ∀ u ∈ cs, u.oneCell' = true)
    (h63 : n + 1 ≤ maxLen) (hbytes : (n + 1) * bytes ≤ 140737488355328) (hbase : base ≤ w.heap.size)
    (h : ∀ g c' w', w'.ownsRow base e size (.slice (some ⟨g, 0, none⟩) (n + 1) c') (n + 1) (xs ++ cs) → (w.alloc (.cells cs.toArray ex)).grownBy w' v.ownBlock → (v.ownBlock = some g ∨ g = w.heap.size + 1) → n + 1 ≤ c' → c' ≤ maxLen → wpList P ops Q rest (a.put o.dst (.slice (some ⟨g, 0, none⟩) (n + 1) c')) w') :
    wpList P ops Q (o :: rest) a (w.alloc (.cells cs.toArray ex)) :=
  wpList_plain hgd fun _ hK => wp_push w s x t ho base e i z size bytes ht hi hz hsize hby hzs hsz v n xs hs hown cs ex bk hx hbk hl h1 h63 hbytes hbase fun g c' w' h2 h3 h4 h5 h6 => hK _ _ (h g c' w' h2 h3 h4 h5 h6)

/-- The same as one step of a region that draws its order. -/
theorem step_push {ops : Array Oper} {o : Oper} {a : Act} {K : Act → World → Prop} {Q : Exit → Act → World → Prop} {E : Prop} (hgd : o.guard = none) (s x : Operand) (t : TypeId)
    (ho : o.op = .call { callee := .builtin .append, args := #[s, x], argTypes := #[t, t] })
    (base : Nat) (e : TypeId) (i : TypeInfo) (z : Value) (size bytes : Nat) (ht : P.underlying t = some (.slice e)) (hi : P.info? e = some i) (hz : i.zero = some z)
    (hsize : i.size = size) (hby : i.bytes = bytes) (hzs : z.cells.size = size) (hsz : 0 < size)
    (v : Value) (n : Nat) (xs : List Value) (hs : a.eval s = v) (hown : w.ownsRow base e size v n xs)
    (cs : List Value) (ex : TypeId) (bk : Nat) (hx : a.eval x = .slice (some ⟨bk, 0, none⟩) 1 1) (hbk : w.heap.size = bk) (hl : cs.length = size) (h1 : ∀ u ∈ cs, u.oneCell' = true)
    (h63 : n + 1 ≤ maxLen) (hbytes : (n + 1) * bytes ≤ 140737488355328) (hbase : base ≤ w.heap.size)
    (h : ∀ g c' w', w'.ownsRow base e size (.slice (some ⟨g, 0, none⟩) (n + 1) c') (n + 1) (xs ++ cs) → (w.alloc (.cells cs.toArray ex)).grownBy w' v.ownBlock → (v.ownBlock = some g ∨ g = w.heap.size + 1) → n + 1 ≤ c' → c' ≤ maxLen → K (a.put o.dst (.slice (some ⟨g, 0, none⟩) (n + 1) c')) w') :
    if Region.wanted o (yielded ops a.tmps) = true then Oper.wp P o a (w.alloc (.cells cs.toArray ex)) K Q else E := by
  rw [if_pos (by simp [Region.wanted, hgd])]
  exact wp_push w s x t ho base e i z size bytes ht hi hz hsize hby hzs hsz v n xs hs hown cs ex bk hx hbk hl h1 h63 hbytes hbase h

/-- append of another slice's cells ('append(xs, ys...)'). -/
theorem wpList_append_at {ops : Array Oper} {rest : List Oper} {o : Oper} {a : Act} {Q : Exit → Act → World → Prop} (hgd : o.guard = none) (s x : Operand) (t : TypeId)
    (ho : o.op = .call { callee := .builtin .append, args := #[s, x], argTypes := #[t, t] })
    (base : Nat) (e : TypeId) (i : TypeInfo) (z : Value) (size bytes : Nat) (ht : P.underlying t = some (.slice e)) (hi : P.info? e = some i) (hz : i.zero = some z)
    (hsize : i.size = size) (hby : i.bytes = bytes) (hzs : z.cells.size = size) (hsz : 0 < size)
    (v : Value) (n : Nat) (xs : List Value) (hs : a.eval s = v) (hown : w.ownsRow base e size v n xs)
    (ad : Addr) (m c : Nat) (news : List Value) (hx : a.eval x = .slice (some ad) m c) (hl : news.length = m * size) (hnews : ∀ j u, news[j]? = some u → w.cell? (ad.add j) = some u) (h1 : ∀ u ∈ news, u.oneCell' = true)
    (h63 : n + m ≤ maxLen) (hbytes : (n + m) * bytes ≤ 140737488355328) (hbase : base ≤ w.heap.size) (hnn : v ≠ .slice none 0 0)
    (h : ∀ g c' w', w'.ownsRow base e size (.slice (some ⟨g, 0, none⟩) (n + m) c') (n + m) (xs ++ news) → w.grownBy w' v.ownBlock → (v.ownBlock = some g ∨ g = w.heap.size) → n + m ≤ c' → c' ≤ maxLen → wpList P ops Q rest (a.put o.dst (.slice (some ⟨g, 0, none⟩) (n + m) c')) w') :
    wpList P ops Q (o :: rest) a w := by
  refine wpList_plain hgd fun K hK => ?_
  obtain ⟨v', w', hr, h2, h3, h4, h5⟩ := run_append_at (P := P) w base t o.type e i z size bytes ht hi hz hsize hby hzs hsz v n xs hown ad m c news hl hnews h1 h63 hbytes hbase
  unfold Oper.wp execOp
  simp only [ho, resolve, invoke, builtin, Sem.run_bind, Sem.run_pure, Result.andThen_ok, List.map_toArray, List.map_cons, List.map_nil, hs, hx, hr]
  rcases ownsRow_form h2 with ⟨e0, _⟩ | ⟨g, c', rfl, hgl, _, h6, h7⟩
  · exact absurd (h4.1 e0).1 hnn
  · refine hK _ _ (h g c' w' h2 h3 ?_ h6 h7)
    rcases h5 with h5 | h5
    · exact .inl h5.symm
    · simp [Value.ownBlock] at h5; exact .inr h5

/-- append of a row that may be nil. -/
theorem wpList_append_row {ops : Array Oper} {rest : List Oper} {o : Oper} {a : Act} {Q : Exit → Act → World → Prop} (hgd : o.guard = none) (s x : Operand) (t : TypeId)
    (ho : o.op = .call { callee := .builtin .append, args := #[s, x], argTypes := #[t, t] })
    (base : Nat) (e : TypeId) (i : TypeInfo) (z : Value) (size bytes : Nat) (ht : P.underlying t = some (.slice e)) (hi : P.info? e = some i) (hz : i.zero = some z)
    (hsize : i.size = size) (hby : i.bytes = bytes) (hzs : z.cells.size = size) (hsz : 0 < size)
    (g0 n c0 : Nat) (xs : List Value) (hs : a.eval s = .slice (some ⟨g0, 0, none⟩) n c0) (hown : w.ownsRow base e size (.slice (some ⟨g0, 0, none⟩) n c0) n xs)
    (base' : Nat) (e' : TypeId) (vx : Value) (m : Nat) (news : List Value) (hx : a.eval x = vx) (hxo : w.ownsRow base' e' size vx m news) (h1 : ∀ u ∈ news, u.oneCell' = true)
    (h63 : n + m ≤ maxLen) (hbytes : (n + m) * bytes ≤ 140737488355328) (hbase : base ≤ w.heap.size)
    (h : ∀ g c' w', w'.ownsRow base e size (.slice (some ⟨g, 0, none⟩) (n + m) c') (n + m) (xs ++ news) → w.grownBy w' (some g0) → (g0 = g ∨ g = w.heap.size) → n + m ≤ c' → c' ≤ maxLen → wpList P ops Q rest (a.put o.dst (.slice (some ⟨g, 0, none⟩) (n + m) c')) w') :
    wpList P ops Q (o :: rest) a w := by
  rcases ownsRow_form hxo with ⟨rfl, rfl⟩ | ⟨gx, cx, rfl, _⟩
  · have hne : news = [] := List.eq_nil_of_length_eq_zero (by simpa using hxo.1)
    subst hne
    rcases ownsRow_form hown with ⟨e0, _⟩ | ⟨g, c, e1, hgl, _, h6, h7⟩
    · cases e0
    · simp only [Value.slice.injEq, Option.some.injEq, Addr.mk.injEq, and_true] at e1
      obtain ⟨rfl, _, rfl⟩ := e1
      refine wpList_append_own_none hgd s x t ho base e i size ht hi _ n xs hs hown hx ?_
      exact h g0 c0 w (by simpa using hown) ⟨rfl, rfl, rfl, Nat.le_refl _, fun _ _ _ => rfl⟩ (.inl rfl) h6 h7
  · refine wpList_append_at w hgd s x t ho base e i z size bytes ht hi hz hsize hby hzs hsz _ n xs hs hown ⟨gx, 0, none⟩ m cx news hx hxo.1 (hxo.cells rfl) h1 h63 hbytes hbase (by simp) fun g c' w' h2 h3 h4 h5 h6 => h g c' w' h2 h3 ?_ h5 h6
    rcases h4 with h4 | h4
    · simp [Value.ownBlock] at h4; exact .inl h4
    · exact .inr h4

/-- One element pushed, its cells lying in a block that is known whole. -/
theorem wpList_push_blk {ops : Array Oper} {rest : List Oper} {o : Oper} {a : Act} {Q : Exit → Act → World → Prop} (hgd : o.guard = none) (s x : Operand) (t : TypeId)
    (ho : o.op = .call { callee := .builtin .append, args := #[s, x], argTypes := #[t, t] })
    (base : Nat) (e : TypeId) (i : TypeInfo) (z : Value) (size bytes : Nat) (ht : P.underlying t = some (.slice e)) (hi : P.info? e = some i) (hz : i.zero = some z)
    (hsize : i.size = size) (hby : i.bytes = bytes) (hzs : z.cells.size = size) (hsz : 0 < size)
    (v : Value) (n : Nat) (xs : List Value) (hs : a.eval s = v) (hown : w.ownsRow base e size v n xs)
    (cs : List Value) (ex : TypeId) (bk : Nat) (hx : a.eval x = .slice (some ⟨bk, 0, none⟩) 1 1) (hbk : Blk w bk ex cs) (hl : cs.length = size) (h1 : ∀ u ∈ cs, u.oneCell' = true)
    (h63 : n + 1 ≤ maxLen) (hbytes : (n + 1) * bytes ≤ 140737488355328) (hbase : base ≤ w.heap.size)
    (h : ∀ g c' w', w'.ownsRow base e size (.slice (some ⟨g, 0, none⟩) (n + 1) c') (n + 1) (xs ++ cs) → w.grownBy w' v.ownBlock → (v.ownBlock = some g ∨ g = w.heap.size) → n + 1 ≤ c' → c' ≤ maxLen → wpList P ops Q rest (a.put o.dst (.slice (some ⟨g, 0, none⟩) (n + 1) c')) w') :
    wpList P ops Q (o :: rest) a w := by
  refine wpList_plain hgd fun K hK => ?_
  obtain ⟨v', w', hr, h2, h3, h4, h5⟩ := run_append_at (P := P) w base t o.type e i z size bytes ht hi hz hsize hby hzs hsz v n xs hown ⟨bk, 0, none⟩ 1 1 cs (by omega)
    (fun j u hj => by simp only [Addr.add_lit, Nat.zero_add]; rw [hbk.cell j, hj]) h1 h63 hbytes hbase
  unfold Oper.wp execOp
  simp only [ho, resolve, invoke, builtin, Sem.run_bind, Sem.run_pure, Result.andThen_ok, List.map_toArray, List.map_cons, List.map_nil, hs, hx, hr]
  rcases ownsRow_form h2 with ⟨e0, _⟩ | ⟨g, c', rfl, hgl, _, h6, h7⟩
  · have := (h4.1 e0).2; omega
  · refine hK _ _ (h g c' w' h2 h3 ?_ h6 h7)
    rcases h5 with h5 | h5
    · exact .inl h5.symm
    · simp [Value.ownBlock] at h5; exact .inr h5

end
end Go.Tum
end

/- Arguments opened to their cells: structs of ints and bools, nested however, by value and in slices. -/
section
namespace Go.Tum
open Go.ChangeShapes Go.WideShapes Go.Deep

/-- What one cell holds. -/
inductive LK where
  | int (k : IntKind)
  | bool
deriving DecidableEq

def LK.ok : LK → Value → Prop
  | .int k, v => ∃ n, v = .int k n ∧ (Lit.int k n).wf = true
  | .bool, v => ∃ b, v = .bool b

/-- The values are as the kinds say. -/
def LKs (ks : List LK) (vs : List Value) : Prop := vs.length = ks.length ∧ ∀ (j : Nat) (k : LK), ks[j]? = some k → ∃ v, vs[j]? = some v ∧ k.ok v

theorem LKs.nil : LKs [] [] := ⟨rfl, by simp⟩
theorem LKs.app {k1 k2 : List LK} {v1 v2 : List Value} (h : LKs k1 v1) (h' : LKs k2 v2) : LKs (k1 ++ k2) (v1 ++ v2) := by
  refine ⟨by simp [h.1, h'.1], fun j k hj => ?_⟩
  rcases Nat.lt_or_ge j k1.length with hl | hl
  · rw [List.getElem?_append_left hl] at hj
    rw [List.getElem?_append_left (by rw [h.1]; exact hl)]
    exact h.2 j k hj
  · rw [List.getElem?_append_right hl] at hj
    rw [List.getElem?_append_right (by rw [h.1]; exact hl), h.1]
    exact h'.2 _ k hj
theorem LKs.cons {k : LK} {ks : List LK} {vs : List Value} (h : LKs (k :: ks) vs) : ∃ v r, vs = v :: r ∧ k.ok v ∧ LKs ks r := by
  match vs, h with
  | [], h => simp [LKs] at h
  | v :: r, h =>
    obtain ⟨u, hu, hk⟩ := h.2 0 k rfl
    simp only [List.getElem?_cons_zero, Option.some.injEq] at hu
    subst hu
    exact ⟨v, r, rfl, hk, by have := h.1; simp at this; exact this, fun j k' hj => by simpa using h.2 (j + 1) k' (by simpa using hj)⟩
theorem LKs.none {vs : List Value} (h : LKs [] vs) : vs = [] := List.eq_nil_of_length_eq_zero h.1

/-- The cells of fields, one after the other. -/
def leafsGo (P : Program) (rec : TypeId → Option (List LK)) : List Field → List LK → Option (List LK)
  | [], acc => some acc
  | fd :: r, acc =>
    match rec fd.type with
    | some l => if fd.offset = acc.length ∧ P.cellsOf fd.type = l.length then leafsGo P rec r (acc ++ l) else none
    | none => none
/-- The cells of a type, one after the other. -/
def leafs (P : Program) : Nat → TypeId → Option (List LK)
  | 0, _ => none
  | f + 1, t =>
    match P.underlying t with
    | some (.int k) => some [.int k]
    | some .bool => some [.bool]
    | some (.struct fs) => leafsGo P (leafs P f) fs.toList []
    | _ => none

section
variable {H : Type} {enc : TypeId × Value → H} {P : Program} {w : World} {base : Nat} {spare : Nat → Bool} {held : Bool}

theorem trod_leafs : ∀ (f : Nat) (t : TypeId) (ks : List LK) (fuel : Nat) (cs : List Value) (x : DataW H × List MemPlace), leafs P f t = some ks → P.cellsOf t = ks.length →
    DataW.trod enc P w base spare held fuel t cs = some x → LKs ks cs := by
  intro f
  induction f with
  | zero => intro t ks fuel cs x h; simp [leafs] at h
  | succ f ih =>
    intro t ks fuel cs x h hc hx
    unfold leafs at h
    split at h
    · rename_i k hu
      obtain rfl : [LK.int k] = ks := by simpa using h
      obtain ⟨n, rfl, _, hw⟩ := DataW.trod_int hu hx
      exact ⟨rfl, fun j k' hj => by
        cases j with
        | zero => simp at hj; subst hj; exact ⟨_, rfl, n, rfl, hw⟩
        | succ j => simp at hj⟩
    · rename_i hu
      obtain rfl : [LK.bool] = ks := by simpa using h
      obtain ⟨b, rfl, _⟩ := DataW.trod_bool hu hx
      exact ⟨rfl, fun j k' hj => by
        cases j with
        | zero => simp at hj; subst hj; exact ⟨_, rfl, b, rfl⟩
        | succ j => simp at hj⟩
    · rename_i fs hu
      obtain ⟨xs, n, rfl, _, hlen, hxl, hf⟩ := DataW.trod_struct hu hx
      have main : ∀ (l : List Field) (i : Nat) (acc : List LK), fs.toList.drop i = l → leafsGo P (leafs P f) l acc = some ks → acc.length ≤ cs.length → LKs acc (cs.take acc.length) → LKs ks (cs.take ks.length) := by
        intro l
        induction l with
        | nil =>
          intro i acc _ hg _ ha
          simp only [leafsGo, Option.some.injEq] at hg
          subst hg; exact ha
        | cons fd r ihl =>
          intro i acc hd hg hle ha
          simp only [leafsGo] at hg
          split at hg
          · rename_i l hl
            split at hg
            · rename_i hcond
              obtain ⟨ho, hcl⟩ := hcond
              have hfi : fs[i]? = some fd := by
                have : (fs.toList.drop i)[0]? = some fd := by rw [hd]; rfl
                simpa using this
              have hi : i < fs.size := (Array.getElem?_eq_some_iff.1 hfi).1
              have h1 := hf i fd hfi
              have hxi : xs[i]? = some (xs[i]'(by omega)) := List.getElem?_eq_getElem (by omega)
              rw [hxi, ho, hcl] at h1
              have h2 := ih fd.type l n _ _ hl hcl h1
              have hl2 : acc.length + l.length ≤ cs.length := by
                have := h2.1
                rw [List.length_take, List.length_drop] at this
                omega
              refine ihl (i + 1) (acc ++ l) ?_ hg (by rw [List.length_append]; exact hl2) ?_
              · rw [← List.drop_drop, hd]; rfl
              · have h3 := ha.app h2
                rw [List.length_append]
                have e : List.take acc.length cs ++ List.take l.length (List.drop acc.length cs) = List.take (acc.length + l.length) cs := by
                  rw [List.take_add]
                rw [e] at h3
                exact h3
            · cases hg
          · cases hg
      have := main fs.toList 0 [] rfl h (Nat.zero_le _) (by simpa using LKs.nil)
      rw [hc] at hlen
      rwa [List.take_of_length_le (by omega)] at this
    · cases h

/-- A slice that came in: elements, each of n cells. -/
def ArgE {T : Type} (en : T → List Value) (n : Nat) (w : World) (v : Value) (l : List T) : Prop :=
  ∃ a cap, v = .slice a l.length cap ∧ l.length ≤ cap ∧ (l = [] ∨ ∃ x : Addr, a = some x ∧ x.block < w.heap.size ∧ ∀ i, (hi : i < l.length) → ∀ j u, (en l[i])[j]? = some u → w.cell? (x.add (i * n + j)) = some u)

theorem ArgE.fr {T : Type} {en : T → List Value} {n : Nat} {w w' : World} {v : Value} {l : List T} (h : ArgE en n w v l) (f : Fr [] w w') : ArgE en n w' v l := by
  obtain ⟨a, cap, e, hcap, h⟩ := h
  refine ⟨a, cap, e, hcap, h.imp id ?_⟩
  rintro ⟨x, e, hx, hc⟩
  exact ⟨x, e, Nat.lt_of_lt_of_le hx f.size, fun i hi j u hj => f.cell (hc i hi j u hj) (by simp)⟩
theorem ArgE.len {T : Type} {en : T → List Value} {n : Nat} {w : World} {v : Value} {l : List T} (h : ArgE en n w v l) : ∃ a cap, v = .slice a l.length cap := by
  obtain ⟨a, cap, e, _⟩ := h
  exact ⟨a, cap, e⟩
/-- The cells of an element, as a walk names them. -/
theorem ArgE.at {T : Type} {en : T → List Value} {n : Nat} {w : World} {a : Option Addr} {m cap : Nat} {l : List T} (h : ArgE en n w (.slice a m cap) l) {i : Nat} (hi : i < l.length) :
    ∃ x : Addr, a = some x ∧ x.block < w.heap.size ∧ (∀ u, (en l[i])[0]? = some u → w.cell? (x.add (i * n)) = some u) ∧ ∀ j u, (en l[i])[j + 1]? = some u → w.cell? ⟨(x.add (i * n)).block, (x.add (i * n)).off + (j + 1), none⟩ = some u := by
  obtain ⟨a', cap', e, _, h⟩ := h
  simp only [Value.slice.injEq] at e
  obtain ⟨rfl, rfl, rfl⟩ := e
  rcases h with h | ⟨x, rfl, hx, hc⟩
  · subst h; simp at hi
  · refine ⟨x, rfl, hx, fun u hu => hc i hi 0 u hu, fun j u hj => ?_⟩
    rw [← hc i hi (j + 1) u hj]
    congr 1
    by_cases h0 : i * n = 0
    · simp [Addr.add, h0]
    · simp [Addr.add, h0, Nat.add_assoc]

theorem argE_of {T : Type} {en : T → List Value} {n : Nat} {good : T → Prop} {t e : TypeId} {ks : List LK} {f : Nat} (ht : P.underlying t = some (.slice e)) (hk : leafs P f e = some ks) (hc : P.cellsOf e = n) (hn : ks.length = n) (h0 : 0 < n)
    (hen : ∀ vs, LKs ks vs → ∃ x : T, vs = en x ∧ good x) {fuel : Nat} {a : Option Addr} {len cap : Nat} {x : DataW H × List MemPlace}
    (h : DataW.trod enc P w base spare held fuel t (Value.slice a len cap).cells.toList = some x) :
    ∃ l : List T, ArgE en n w (.slice a len cap) l ∧ (∀ e ∈ l, good e) ∧ len = l.length ∧ l.length ≤ maxLen := by
  rcases open_slice ht h with ⟨hcs, _⟩ | ⟨b, ln, c, m, n', D, Pl, hcs, _, hl, hm, hmm, _, hi⟩
  · simp [Value.cells] at hcs
    obtain ⟨rfl, rfl, rfl⟩ := hcs
    exact ⟨[], ⟨_, _, rfl, Nat.zero_le _, .inl rfl⟩, by simp, rfl, by simp⟩
  · simp [Value.cells] at hcs
    obtain ⟨rfl, rfl, rfl⟩ := hcs
    have hlm : len ≤ m := by rw [hmm]; split <;> omega
    have each : ∀ i, i < len → ∃ q : T, good q ∧ ∀ j u, (en q)[j]? = some u → w.cell? (b.add (i * n + j)) = some u := by
      intro i hi2
      obtain ⟨cs', h1, h2⟩ := hi i (by omega)
      obtain ⟨_, hlen, hat⟩ := World.cells?_some h1
      have h3 := trod_leafs f e ks n' cs' _ hk (by omega) h2
      obtain ⟨q, rfl, hq⟩ := hen _ h3
      refine ⟨q, hq, fun j u hj => ?_⟩
      have hjl : j < n := by rw [← hc, ← hlen]; exact (List.getElem?_eq_some_iff.1 hj).1
      have := hat j (by omega)
      rw [hc, add_add] at this
      rw [this, ← hj]
    by_cases hl0 : len = 0
    · subst hl0
      exact ⟨[], ⟨_, _, rfl, Nat.zero_le _, .inl rfl⟩, by simp, rfl, by simp⟩
    · obtain ⟨q0, _, _⟩ := each 0 (by omega)
      have : ∃ q : Nat → T, ∀ i, i < len → good (q i) ∧ ∀ j u, (en (q i))[j]? = some u → w.cell? (b.add (i * n + j)) = some u := by
        classical
        refine ⟨fun i => if h : i < len then (each i h).choose else q0, fun i hi => ?_⟩
        simp only [hi, dif_pos]
        exact (each i hi).choose_spec
      obtain ⟨q, hq⟩ := this
      refine ⟨(List.range len).map q, ⟨some b, cap, by simp, by simpa using hl, .inr ⟨b, rfl, ?_, fun i hi j u hj => ?_⟩⟩, fun e he => ?_, by simp, by simp; omega⟩
      · obtain ⟨cs', h1, h2⟩ := hi 0 (by omega)
        obtain ⟨_, hlen, hat⟩ := World.cells?_some h1
        have := hat 0 (by omega)
        rw [add_add] at this
        have h5 := World.block_lt_of_cell? w _ (this.trans (List.getElem?_eq_getElem (by omega)))
        simpa [Addr.add] using h5
      · have hi' : i < len := by simpa using hi
        exact (hq i hi').2 j u (by simpa using hj)
      · simp only [List.mem_map, List.mem_range] at he
        obtain ⟨i, hi3, rfl⟩ := he
        exact (hq i hi3).1
end
end Go.Tum
end

/- A region that draws its order, taken in one order of one's own: reads first, then what writes. -/
section
namespace Go.Tum
open Go.RowKit

/-- An operation that hands back a value and nothing else. -/
def softOp : Op → Bool
  | .move _ | .assign _ | .pick .. | .build .. | .load .. | .nilCheck _ | .binOp .. | .unOp .. | .convert .. | .slice .. | .fieldAddr .. | .field .. | .indexAddr .. | .index .. | .extract .. => true
  | .call { callee := .builtin .len, .. } | .call { callee := .builtin .cap, .. } | .call { callee := .builtin .min, .. } | .call { callee := .builtin .max, .. } => true
  | _ => false

theorem value_of_andThen {w' : World} {n : Next} (r : Result Value) (h : (r.andThen fun a w' => Result.ok (Next.value a) w') = Result.ok n w') : ∃ v, n = .value v := by
  cases r with
  | ok v w1 => simp only [Result.andThen_ok] at h; injection h with h1 h2; exact ⟨v, h1.symm⟩
  | halt x w1 => simp only [Result.andThen_halt] at h; cases h

theorem value_of_bind {P : Program} {w w' : World} {n : Next} (s : Sem Value) (h : (do pure (.value (← s)) : Sem Next).run P w = .ok n w') : ∃ v, n = .value v := by
  rw [Sem.run_bind] at h
  cases hs : s.run P w with
  | ok v w1 => rw [hs] at h; simp only [Result.andThen_ok, Sem.run_pure] at h; injection h with h1 h2; exact ⟨v, h1.symm⟩
  | halt x w1 => rw [hs] at h; simp only [Result.andThen_halt] at h; cases h

def OnlyValues (P : Program) (s : Sem Next) : Prop := ∀ w n w', s.run P w = .ok n w' → ∃ v, n = .value v
theorem OnlyValues.bind {P : Program} {α : Type} {x : Sem α} {f : α → Sem Next} (h : ∀ a, OnlyValues P (f a)) : OnlyValues P (x >>= f) := by
  intro w n w' hr
  rw [Sem.run_bind] at hr
  cases hx : x.run P w with
  | ok a w1 => rw [hx] at hr; simp only [Result.andThen_ok] at hr; exact h a _ _ _ hr
  | halt y w1 => rw [hx] at hr; simp only [Result.andThen_halt] at hr; cases hr
theorem OnlyValues.val {P : Program} (v : Value) : OnlyValues P (pure (.value v)) := by
  intro w n w' h; simp only [Sem.run_pure] at h; injection h with h1 h2; exact ⟨v, h1.symm⟩
theorem OnlyValues.panic {P : Program} : OnlyValues P (runtimePanic .nilDeref) := by
  intro w n w' h; exact absurd h (by simp [runtimePanic])
theorem OnlyValues.ite {P : Program} {c : Prop} [Decidable c] {x y : Sem Next} (hx : OnlyValues P x) (hy : OnlyValues P y) : OnlyValues P (if c then x else y) := by
  split <;> assumption

theorem soft_only (P : Program) (ρ : Operand → Value) (o : Oper) (hs : softOp o.op = true) : OnlyValues P (execOp ρ o) := by
  unfold softOp at hs
  split at hs
  case h_20 => cases hs
  all_goals (rename_i he; unfold execOp; rw [he]; dsimp only)
  case h_6 =>
    split
    · exact .panic
    · exact .panic
    · exact .panic
    · split
      · exact .panic
      · refine .bind fun a => .bind fun b => ?_
        split
        · refine .bind fun _ => .val _
        · exact .val _
      · exact .val _
    · exact .val _
  all_goals first
    | exact .val _
    | exact .bind fun _ => .val _
    | exact .bind fun _ => .ite (.val _) (.val _)
    | (intro w n w' h; simp only [resolve, Sem.run_bind, Sem.run_pure, Result.andThen_ok, invoke, builtin] at h; exact value_of_andThen _ h)

/-- A world in which, of what there was in w0, only the blocks fp may have turned. -/
structure After (fp : List Nat) (w0 : World) where
  wd : World
  fr : Fr fp w0 wd
instance afterNonempty (fp : List Nat) (w0 : World) : Nonempty (After fp w0) := ⟨⟨w0, Fr.refl _ _⟩⟩

section
variable {P : Program} {ops : Array Oper} {Q : Exit → Act → World → Prop}

/-- What the lexical walk shows of a soft operation. -/
theorem yieldsIf_of_quiet {C : World → Prop} {o : Oper} {a : Act} {K : Act → Prop} (hs : softOp o.op = true) (h : if Region.wanted o (yielded ops a.tmps) then o.quiet P a C K else K (a.put o.dst undef)) :
    ∃ v, YieldsIf P ops C o v a ∧ K (a.put o.dst v) := by
  by_cases hw : Region.wanted o (yielded ops a.tmps) = true
  · rw [if_pos hw] at h
    obtain ⟨v, h1, h2⟩ := h
    refine ⟨v, .inl ⟨hw, fun w hC => ?_⟩, h2⟩
    have h3 := h1 w hC
    unfold Oper.quietAt at h3
    cases hr : (execOp a.eval o).run P w with
    | ok n w' =>
      obtain ⟨u, rfl⟩ := soft_only P _ o hs w n w' hr
      rw [hr] at h3
      simp only [Oper.quietUpon] at h3
      rw [h3.1, h3.2]
    | halt x w' => rw [hr] at h3; simp only [Oper.quietUpon] at h3
  · rw [if_neg hw] at h
    exact ⟨undef, .inr ⟨by simpa using hw, rfl⟩, h⟩

/-- The whole goal: runs of operations, by kind: 4 yield in the world as it stands (what writes waits for them), 0 yield in every world, 1 yield in every world of S, 2 one that keeps S, 3 one that need not. -/
def wpSegs (P : Program) (ops : Array Oper) (S : World → Prop) (Q : Exit → Act → World → Prop) : List (Nat × List Oper) → Act → World → Prop
  | [], a, w => Q .normal a w
  | (0, l) :: r, a, w => wpQuiet P ops (fun _ => True) (fun a' => wpSegs P ops S Q r a' w) l a
  | (1, l) :: r, a, w => wpQuiet P ops S (fun a' => wpSegs P ops S Q r a' w) l a
  | (4, l) :: r, a, w => wpQuiet P ops (fun w' => ∃ x : After [] w, w' = x.wd) (fun a' => wpSegs P ops S Q r a' w) l a
  | (2, l) :: r, a, w => wpList P ops (Exit.then (fun a' w' => S w' ∧ wpSegs P ops S Q r a' w') Q) l a w
  | (_, l) :: r, a, w => wpList P ops (Exit.then (wpSegs P ops S Q r) Q) l a w

/-- Down-closed: what is listed has all that it waits for listed. -/
def Closed (ops : Array Oper) (listed : Array Bool) : Prop :=
  ∀ j oj, ops[j]? = some oj → listed.getD j false = true → ∀ e ∈ oj.after, Region.binds .any e = true → listed.getD e.on false = true

theorem Closed.set {listed : Array Bool} (h : Closed ops listed) {i : Nat} (hi : i ∈ Region.ready .any ops listed) : Closed ops (listed.setIfInBounds i true) := by
  obtain ⟨_, oi, hoi, hall⟩ := mem_ready.1 hi
  intro j oj hj hl e he hb
  refine getD_set_true ?_
  by_cases hij : i = j
  · subst hij
    have : oj = oi := Option.some.inj (hj.symm.trans hoi)
    subst this
    exact hall e he hb
  · rw [getD_set_ne false hij] at hl
    exact h j oj hj hl e he hb

/-- j waits for i, in however many steps. -/
def anc (ops : Array Oper) : Nat → Nat → Nat → Bool
  | 0, _, _ => false
  | f + 1, j, i => match ops[j]? with
    | none => false
    | some oj => oj.after.any fun e => Region.binds .any e && (e.on == i || anc ops f e.on i)

theorem anc_listed {listed : Array Bool} (h : Closed ops listed) {i : Nat} : ∀ (f j : Nat), (∀ oj, ops[j]? = some oj → ∀ e ∈ oj.after, Region.binds .any e = true → listed.getD e.on false = true) →
    anc ops f j i = true → listed.getD i false = true
  | 0, _, _, ha => by simp [anc] at ha
  | f + 1, j, hp, ha => by
    unfold anc at ha
    split at ha
    · cases ha
    · rename_i oj hj
      obtain ⟨e, he, hb⟩ := Array.any_eq_true'.1 ha
      simp only [Bool.and_eq_true, Bool.or_eq_true, beq_iff_eq] at hb
      have h1 := hp oj hj e he hb.1
      rcases hb.2 with h2 | h2
      · rw [← h2]; exact h1
      · exact anc_listed h f e.on (fun ok hk e' he' hb' => h e.on ok hk h1 e' he' hb') h2

/-- How operation i counts: 0 and 1 soft, 2 keeps S, 3 need not. -/
def kindOf (segs : List (Nat × List Nat)) (i : Nat) : Nat := ((segs.find? fun s => s.2.contains i).map fun s => if s.1 = 4 then 1 else s.1).getD 3

/-- The order of our own is one that may come up, and the kinds are what they say. -/
def chkRun (ops : Array Oper) (kd : Nat → Nat) (t : Nat) : List Nat → Array Bool → (Array Bool → Bool) → Bool
  | [], listed, k => k listed
  | i :: r, listed, k =>
    (match ops[i]? with
      | none => false
      | some oi =>
        if t ≤ 1 ∨ t = 4 then
          kd i ≤ 1 && softOp oi.op && (Region.ready .any ops listed).contains i && Region.free .any ops listed i &&
            (t == 0 || (List.range ops.size).all fun j => listed.getD j true || decide (kd j ≤ if t = 4 then 1 else 2) || anc ops ops.size j i)
        else kd i == t && Region.ready .any ops listed == [i]) && chkRun ops kd t r (listed.setIfInBounds i true) k
def chkSegs (ops : Array Oper) (kd : Nat → Nat) : Bool → List (Nat × List Nat) → Array Bool → Bool
  | _, [], listed => (Region.ready .any ops listed).isEmpty
  | live, (t, l) :: r, listed =>
    (match t with
      | 0 => true
      | 1 => live
      | 2 => l.length == 1
      | 3 => l.length == 1
      | 4 => true
      | _ => false) && chkRun ops kd t l listed (chkSegs ops kd (if t == 3 then false else if t == 2 then true else live) r)

def nthOp (ops : Array Oper) (i : Nat) : Oper := ops.getD i default

/-- An operation that is soft. -/
def sOp (P : Program) (ops : Array Oper) (i : Nat) (K : Act → World → Prop) (a : Act) (w : World) : Prop :=
  match ops[i]? with
  | none => K a w
  | some o => ∃ v, YieldsIf P ops (· = w) o v a ∧ K (a.put o.dst v) w

/-- Whatever order is picked: soft operations leave the world alone, those of kind 2 keep S. -/
def wpAnyK (P : Program) (ops : Array Oper) (kd : Nat → Nat) (S : World → Prop) (Q : Exit → Act → World → Prop) : Nat → Array Bool → Act → World → Prop
  | 0, listed, a, w => Region.ready .any ops listed = [] ∧ Q .normal a w
  | fuel + 1, listed, a, w =>
    (Region.ready .any ops listed = [] → Q .normal a w) ∧
    ∀ i ∈ Region.ready .any ops listed,
      if kd i ≤ 1 then sOp P ops i (wpAnyK P ops kd S Q fuel (listed.setIfInBounds i true)) a w
      else wpOp P ops Q i (fun a' w' => (kd i = 2 → S w') ∧ wpAnyK P ops kd S Q fuel (listed.setIfInBounds i true) a' w') a w

theorem YieldsIf.weak {C D : World → Prop} {o : Oper} {v : Value} {a : Act} (h : YieldsIf P ops C o v a) (hd : ∀ w, D w → C w) : YieldsIf P ops D o v a :=
  h.imp (fun ⟨hw, hv⟩ => ⟨hw, fun w hw' => hv w (hd w hw')⟩) id

theorem wpAny_of_K {kd : Nat → Nat} {S : World → Prop} : ∀ (fuel : Nat) (listed : Array Bool) (a : Act) (w : World), wpAnyK P ops kd S Q fuel listed a w → wpAny P .any ops Q fuel listed a w
  | 0, _, _, _, h => h
  | fuel + 1, listed, a, w, h => by
    refine ⟨h.1, fun i hi => ?_⟩
    have h2 := h.2 i hi
    split at h2
    · unfold sOp at h2
      unfold wpOp
      cases ho : ops[i]? with
      | none => rw [ho] at h2; exact wpAny_of_K fuel _ _ _ h2
      | some o =>
        rw [ho] at h2
        obtain ⟨v, hy, hk⟩ := h2
        have := hy.wpOp (Q := Q) ho (K := wpAny P .any ops Q fuel (listed.setIfInBounds i true)) (w := w) rfl (wpAny_of_K fuel _ _ _ hk)
        unfold wpOp at this
        rw [ho] at this
        exact this
    · exact wpOp_mono (fun a' w' h3 => wpAny_of_K fuel _ _ _ h3.2) h2

/-- **A soft operation that may come up may be taken first.** -/
theorem wpAnyK_first {kd : Nat → Nat} {S C : World → Prop} {i : Nat} {oi : Oper} {v : Value} (hi : ops[i]? = some oi) (hki : kd i ≤ 1) (hsel : ∀ (j : Nat) (o : Oper) cs b, ops[j]? = some o → o.op ≠ .select cs b)
    (hQ : ∀ c a w, ¬ Q (.panic c) a w) :
    ∀ (fuel : Nat) (listed : Array Bool) (a : Act) (w : World), C w → Closed ops listed →
      (∀ j oj, ops[j]? = some oj → j ≠ i → listed.getD j true = false → (∀ e ∈ oj.after, Region.binds .any e = true → e.on ≠ i) → oi.apart ops oj = true) →
      (∀ j, j < ops.size → listed.getD j true = false → kd j ≤ 1 ∨ (kd j ≤ 2 ∧ ∀ w, S w → C w) ∨ (∀ w, C w) ∨ anc ops ops.size j i = true) →
      i ∈ Region.ready .any ops listed → YieldsIf P ops C oi v a →
      wpAnyK P ops kd S Q fuel (listed.setIfInBounds i true) (a.put oi.dst v) w → wpAnyK P ops kd S Q (fuel + 1) listed a w := by
  intro fuel
  induction fuel with
  | zero =>
    intro listed a w hCw _ _ _ hr hy H
    refine ⟨fun h => (by rw [h] at hr; cases hr), fun j hj => ?_⟩
    by_cases hji : j = i
    · subst hji
      rw [if_pos hki]
      unfold sOp; rw [hi]
      exact ⟨v, YieldsIf.weak hy (fun w' e => e ▸ hCw), H⟩
    · have := ready_mono hj hji
      rw [H.1] at this
      cases this
  | succ fuel ih =>
    intro listed a w hCw hcl hfree hhard hr hy H
    refine ⟨fun h => (by rw [h] at hr; cases hr), fun j hj => ?_⟩
    by_cases hji : j = i
    · subst hji
      rw [if_pos hki]
      unfold sOp; rw [hi]
      exact ⟨v, YieldsIf.weak hy (fun w' e => e ▸ hCw), H⟩
    · have h1 := H.2 j (ready_mono hj hji)
      obtain ⟨hjun, oj, hoj, hall⟩ := mem_ready.1 hj
      have hiun : listed.getD i false = false := by
        have h0 := (mem_ready.1 hr).1
        rcases Nat.lt_or_ge i listed.size with h' | h'
        · simp [h'] at h0 ⊢; exact h0
        · simp [Array.getElem?_eq_none h']
      have hnot : ∀ e ∈ oj.after, Region.binds .any e = true → e.on ≠ i := fun e he hb heq => by
        have h1 := hall e he hb
        rw [heq, hiun] at h1; cases h1
      have hap := hfree j oj hoj hji hjun hnot
      have hfree' : ∀ k ok, ops[k]? = some ok → k ≠ i → (listed.setIfInBounds j true).getD k true = false →
          (∀ e ∈ ok.after, Region.binds .any e = true → e.on ≠ i) → oi.apart ops ok = true := fun k ok hk hki hun hno => by
        refine hfree k ok hk hki ?_ hno
        by_cases hjk : j = k
        · subst hjk; exact hjun
        · rw [getD_set_ne true hjk] at hun; exact hun
      have hhard' : ∀ k, k < ops.size → (listed.setIfInBounds j true).getD k true = false → kd k ≤ 1 ∨ (kd k ≤ 2 ∧ ∀ w, S w → C w) ∨ (∀ w, C w) ∨ anc ops ops.size k i = true := fun k hks hun => by
        refine hhard k hks ?_
        by_cases hjk : j = k
        · subst hjk; exact hjun
        · rw [getD_set_ne true hjk] at hun; exact hun
      have hcl' := hcl.set hj
      have hr' := ready_mono hr (Ne.symm hji)
      split at h1
      · rename_i hkj
        rw [if_pos hkj]
        unfold sOp at h1 ⊢
        rw [hoj] at h1 ⊢
        obtain ⟨u, hu, hn⟩ := h1
        obtain ⟨g1, g2, g3⟩ := Oper.apart_spec hap
        refine ⟨u, hu.of_same (execOp_put oj (fun cs b => hsel j oj cs b hoj) a oi.dst v g1).symm (wanted_put oj a oi.dst v g1).symm, ?_⟩
        refine ih _ _ w hCw hcl' hfree' hhard' hr' (hy.of_same (execOp_put oi (fun cs b => hsel i oi cs b hi) a oj.dst u g3) (wanted_put oi a oj.dst u g3)) ?_
        rw [Array.setIfInBounds_comm _ _ hji, ← Act.put_comm a v u g2]
        exact hn
      · rename_i hkj
        rw [if_neg hkj]
        have h2 := wpOp_putIf hoj hap (fun cs b => hsel i oi cs b hi) (fun cs b => hsel j oj cs b hoj) (fun c a w h => absurd h (hQ c _ w)) hy h1
        refine wpOp_mono (fun a' w' h3 => ⟨h3.2.1, ?_⟩) h2
        have hCw' : C w' := by
          rcases hhard j (Array.getElem?_eq_some_iff.1 hoj).1 hjun with hk1 | ⟨hk2, hC⟩ | hall' | han
          · exact absurd hk1 hkj
          · exact hC _ (h3.2.1 (by omega))
          · exact hall' _
          · have := anc_listed hcl ops.size j (fun ok hk e he hb => by
              have : ok = oj := Option.some.inj (hk.symm.trans hoj)
              subst this
              exact hall e he hb) han
            rw [hiun] at this; cases this
        refine ih (listed.setIfInBounds j true) a' w' hCw' hcl' hfree' hhard' hr' h3.1 ?_
        rw [Array.setIfInBounds_comm _ _ hji]
        exact h3.2.2

def theOps (ops : Array Oper) (segs : List (Nat × List Nat)) : List (Nat × List Oper) := segs.map fun s => (s.1, s.2.map (nthOp ops))
def total (segs : List (Nat × List Nat)) : Nat := segs.foldr (fun s n => s.2.length + n) 0

theorem nthOp_of {i : Nat} {o : Oper} (h : ops[i]? = some o) : nthOp ops i = o := by simp [nthOp, h]

theorem run_sound {kd : Nat → Nat} {S C : World → Prop} {t : Nat} (ht : t ≤ 1 ∨ t = 4) (hQ : ∀ c a w, ¬ Q (.panic c) a w) (hsel : Region.noSelect ops = true) (hC : t ≠ 4 → ∀ w, S w → C w) (hCt : t = 0 → ∀ w, C w) (N : Nat) (k : Array Bool → Bool) (w : World) (hw : C w) (F : Act → Prop)
    (hk : ∀ listed a, k listed = true → Closed ops listed → F a → ∀ fuel, N ≤ fuel → wpAnyK P ops kd S Q fuel listed a w) :
    ∀ (l : List Nat) (listed : Array Bool) (a : Act), chkRun ops kd t l listed k = true → Closed ops listed → wpQuiet P ops C F (l.map (nthOp ops)) a →
      ∀ fuel, l.length + N ≤ fuel → wpAnyK P ops kd S Q fuel listed a w
  | [], listed, a, hc, hcl, h, fuel, hf => hk listed a (by simpa [chkRun] using hc) hcl h fuel (by simpa using hf)
  | i :: r, listed, a, hc, hcl, h, fuel, hf => by
    obtain ⟨fuel, rfl⟩ : ∃ f, fuel = f + 1 := ⟨fuel - 1, by simp at hf; omega⟩
    simp only [chkRun, Bool.and_eq_true] at hc
    obtain ⟨hc1, hc2⟩ := hc
    cases hoi : ops[i]? with
    | none => rw [hoi] at hc1; cases hc1
    | some oi =>
      rw [hoi] at hc1
      simp only [ht, if_true, Bool.and_eq_true, decide_eq_true_eq] at hc1
      obtain ⟨⟨⟨⟨hk1, hs⟩, hr⟩, hfr⟩, hh⟩ := hc1
      simp only [List.map_cons, nthOp_of hoi] at h
      have hr' : i ∈ Region.ready .any ops listed := by simpa using hr
      obtain ⟨v, hy, hK⟩ := yieldsIf_of_quiet hs (show if Region.wanted oi (yielded ops a.tmps) then oi.quiet P a C (wpQuiet P ops C F (r.map (nthOp ops))) else wpQuiet P ops C F (r.map (nthOp ops)) (a.put oi.dst undef) from h)
      have hrec := run_sound ht hQ hsel hC hCt N k w hw F hk r _ _ hc2 (hcl.set hr') hK fuel (by simp at hf; omega)
      refine wpAnyK_first hoi hk1 (Region.noSelect_spec hsel) hQ fuel listed a w hw hcl (Region.free_spec hoi hfr) ?_ hr' hy hrec
      intro j hjs hj
      by_cases h0 : t = 0
      · exact .inr (.inr (.inl (hCt h0)))
      · have : (t == 0) = false := by simpa using h0
        simp only [this, Bool.false_or, List.all_eq_true, List.mem_range] at hh
        have := hh j hjs
        rw [hj] at this
        simp only [Bool.false_or, Bool.or_eq_true, decide_eq_true_eq] at this
        rcases this with h1 | h1
        · by_cases h4 : t = 4
          · rw [if_pos h4] at h1; exact .inl h1
          · rw [if_neg h4] at h1; exact .inr (.inl ⟨h1, hC h4⟩)
        · exact .inr (.inr (.inr h1))

theorem upon_then {o : Oper} {a : Act} {next K : Act → World → Prop} (r : Result Next) (h : o.upon P a next (Exit.then K Q) r) : o.upon P a next Q r := by
  cases r with
  | ok n w' =>
    cases n <;> simp only [Oper.upon] at h ⊢
    case enter f args =>
      refine Calls.mono h fun e w'' he => ?_
      cases e with
      | returned u => exact he
      | panicked c => exact he
      | outgrown => exact he
    all_goals exact h
  | halt x w' =>
    cases x <;> simp only [Oper.upon] at h ⊢
    case panic u => exact h

theorem wpOp_of_list {i : Nat} {o : Oper} (hi : ops[i]? = some o) {K : Act → World → Prop} {a : Act} {w : World} (h : wpList P ops (Exit.then K Q) [o] a w) : wpOp P ops Q i K a w := by
  unfold wpOp
  rw [hi]
  simp only [wpList] at h
  by_cases hw : Region.wanted o (yielded ops a.tmps) = true
  · simp only [hw, if_true] at h ⊢
    rcases h with h | ⟨h1, h2⟩
    · refine .inl ?_
      unfold Oper.wp at h ⊢
      exact upon_then _ h
    · exact .inr ⟨h1, h2⟩
  · simp only [hw] at h ⊢
    exact h

theorem segs_sound {kd : Nat → Nat} {S : World → Prop} (hQ : ∀ c a w, ¬ Q (.panic c) a w) (hsel : Region.noSelect ops = true) :
    ∀ (segs : List (Nat × List Nat)) (live : Bool) (listed : Array Bool) (a : Act) (w : World), chkSegs ops kd live segs listed = true → (live = true → S w) → Closed ops listed →
      wpSegs P ops S Q (theOps ops segs) a w → ∀ fuel, total segs ≤ fuel → wpAnyK P ops kd S Q fuel listed a w
  | [], live, listed, a, w, hc, hS, hcl, h, fuel, hf => by
    have hr : Region.ready .any ops listed = [] := by simpa [chkSegs] using hc
    cases fuel with
    | zero => exact ⟨hr, h⟩
    | succ f => exact ⟨fun _ => h, by rw [hr]; simp⟩
  | (t, l) :: r, live, listed, a, w, hc, hS, hcl, h, fuel, hf => by
    simp only [chkSegs, Bool.and_eq_true] at hc
    obtain ⟨hc1, hc2⟩ := hc
    have htot : l.length + total r ≤ fuel := hf
    match t, hc1, hc2, h with
    | 0, hc1, hc2, h =>
      exact run_sound (t := 0) (C := fun _ => True) (by omega) hQ hsel (fun _ _ _ => trivial) (fun _ _ => trivial) (total r) _ w trivial _
        (fun listed a hk hcl hF fuel hf => segs_sound hQ hsel r live listed a w hk hS hcl hF fuel hf) l listed a hc2 hcl h fuel htot
    | 1, hc1, hc2, h =>
      have hl : live = true := hc1
      exact run_sound (t := 1) (C := S) (by omega) hQ hsel (fun _ _ h => h) (fun h => by omega) (total r) _ w (hS hl) _
        (fun listed a hk hcl hF fuel hf => segs_sound hQ hsel r live listed a w hk hS hcl hF fuel hf) l listed a hc2 hcl h fuel htot
    | 2, hc1, hc2, h =>
      obtain ⟨i, rfl⟩ : ∃ i, l = [i] := by
        have : l.length = 1 := by simpa using hc1
        match l, this with
        | [i], _ => exact ⟨i, rfl⟩
      obtain ⟨fuel, rfl⟩ : ∃ f, fuel = f + 1 := ⟨fuel - 1, by simp at htot; omega⟩
      simp only [chkRun, Bool.and_eq_true] at hc2
      obtain ⟨hd1, hd2⟩ := hc2
      cases hoi : ops[i]? with
      | none => rw [hoi] at hd1; cases hd1
      | some oi =>
        rw [hoi] at hd1
        simp only [show ¬ (2 ≤ 1 ∨ 2 = 4) from by omega, if_false, Bool.and_eq_true, beq_iff_eq] at hd1
        refine ⟨fun h0 => (by rw [hd1.2] at h0; cases h0), fun j hj => ?_⟩
        rw [hd1.2] at hj
        obtain rfl : j = i := by simpa using hj
        rw [if_neg (by omega)]
        have hr' : j ∈ Region.ready .any ops listed := by rw [hd1.2]; simp
        have h' : wpList P ops (Exit.then (fun a' w' => S w' ∧ wpSegs P ops S Q (theOps ops r) a' w') Q) [oi] a w := by rw [← nthOp_of hoi]; exact h
        exact wpOp_mono (fun a' w' hh => ⟨fun _ => hh.1, segs_sound hQ hsel r true _ a' w' hd2 (fun _ => hh.1) (hcl.set hr') hh.2 fuel (by simp at htot; omega)⟩) (wpOp_of_list hoi h')
    | 3, hc1, hc2, h =>
      obtain ⟨i, rfl⟩ : ∃ i, l = [i] := by
        have : l.length = 1 := by simpa using hc1
        match l, this with
        | [i], _ => exact ⟨i, rfl⟩
      obtain ⟨fuel, rfl⟩ : ∃ f, fuel = f + 1 := ⟨fuel - 1, by simp at htot; omega⟩
      simp only [chkRun, Bool.and_eq_true] at hc2
      obtain ⟨hd1, hd2⟩ := hc2
      cases hoi : ops[i]? with
      | none => rw [hoi] at hd1; cases hd1
      | some oi =>
        rw [hoi] at hd1
        simp only [show ¬ (3 ≤ 1 ∨ 3 = 4) from by omega, if_false, Bool.and_eq_true, beq_iff_eq] at hd1
        refine ⟨fun h0 => (by rw [hd1.2] at h0; cases h0), fun j hj => ?_⟩
        rw [hd1.2] at hj
        obtain rfl : j = i := by simpa using hj
        rw [if_neg (by omega)]
        have hr' : j ∈ Region.ready .any ops listed := by rw [hd1.2]; simp
        have h' : wpList P ops (Exit.then (wpSegs P ops S Q (theOps ops r)) Q) [oi] a w := by rw [← nthOp_of hoi]; exact h
        exact wpOp_mono (fun a' w' hh => ⟨fun e => by omega, segs_sound hQ hsel r false _ a' w' hd2 (fun e => by cases e) (hcl.set hr') hh fuel (by simp at htot; omega)⟩) (wpOp_of_list hoi h')
    | 4, hc1, hc2, h =>
      exact run_sound (t := 4) (C := fun w' => ∃ x : After [] w, w' = x.wd) (.inr rfl) hQ hsel (fun h => absurd rfl h) (fun h => by cases h) (total r) _ w ⟨⟨w, Fr.refl _ _⟩, rfl⟩ _
        (fun listed a hk hcl hF fuel hf => segs_sound hQ hsel r live listed a w hk hS hcl hF fuel hf) l listed a hc2 hcl h fuel htot
    | (n + 5), hc1, hc2, h => cases hc1

/-- **A region, in the order that 'segs' names.** -/
theorem wp_region_segs {id : Nat} {a : Act} {w : World} {l : List Oper} (segs : List (Nat × List Nat)) (S : World → Prop) (hm : P.follows .mixedOrders = true)
    (hB : (Region.noSelect l.toArray && decide (total segs ≤ l.toArray.size) && chkSegs l.toArray (kindOf segs) true segs (Array.replicate l.toArray.size false)) = true)
    (hS : S w.drew) (h : wpSegs P l.toArray S (NoPanic Q) (theOps l.toArray segs) a w.drew) : (Code.region id l.toArray true).wp P Q a w := by
  simp only [Bool.and_eq_true, decide_eq_true_eq] at hB
  refine wp_region_noPanic (wp_region_any hm (wpAny_of_K _ _ _ _ (segs_sound (fun _ _ _ h => h) hB.1.1 segs true _ a _ hB.2 (fun _ => hS) ?_ h _ hB.1.2)))
  intro j oj hj hl
  rw [getD_replicate_false] at hl
  cases hl


variable {S : World → Prop} {l : List Oper} {r : List (Nat × List Oper)} {a : Act} {w : World}
theorem wpSegs_pure (h : wpQuiet P ops (fun _ => True) (fun a' => wpSegs P ops S Q r a' w) l a) : wpSegs P ops S Q ((0, l) :: r) a w := h
theorem wpSegs_soft (h : wpQuiet P ops S (fun a' => wpSegs P ops S Q r a' w) l a) : wpSegs P ops S Q ((1, l) :: r) a w := h
theorem wpSegs_here (h : wpQuiet P ops (fun w' => ∃ x : After [] w, w' = x.wd) (fun a' => wpSegs P ops S Q r a' w) l a) : wpSegs P ops S Q ((4, l) :: r) a w := h
theorem wpSegs_keep (h : wpList P ops (Exit.then (fun a' w' => S w' ∧ wpSegs P ops S Q r a' w') Q) l a w) : wpSegs P ops S Q ((2, l) :: r) a w := h
theorem wpSegs_hard (h : wpList P ops (Exit.then (wpSegs P ops S Q r) Q) l a w) : wpSegs P ops S Q ((3, l) :: r) a w := h
/-- What a cell holds in whatever world in which only the blocks fp may have turned. -/
@[go_sem] theorem cell_of_fr {fp : List Nat} {w0 : World} (x : After fp w0) (p : Addr) (h1 : (w0.cell? p).isSome = true) (h2 : p.block ∉ fp) : x.wd.cell? p = w0.cell? p :=
  World.cell?_of_block (w := w0) (x.fr.block _ (by obtain ⟨u, hu⟩ := Option.isSome_iff_exists.1 h1; exact World.block_lt_of_cell? w0 p hu) h2)

/-- **The same, where of memory all that was there, but the blocks fp, stays as it is till the last read is done.** -/
theorem wp_region_fr {id : Nat} {a : Act} {w : World} {l : List Oper} (segs : List (Nat × List Nat)) (fp : List Nat) (hm : P.follows .mixedOrders = true)
    (hB : (Region.noSelect l.toArray && decide (total segs ≤ l.toArray.size) && chkSegs l.toArray (kindOf segs) true segs (Array.replicate l.toArray.size false)) = true)
    (h : wpSegs P l.toArray (fun w' => ∃ x : After fp w.drew, w' = x.wd) (NoPanic Q) (theOps l.toArray segs) a w.drew) : (Code.region id l.toArray true).wp P Q a w :=
  wp_region_segs segs _ hm hB ⟨⟨w.drew, Fr.refl _ _⟩, rfl⟩ h

theorem wpSegs_done (h : Q .normal a w) : wpSegs P ops S (NoPanic Q) [] a w := h

end
/-! ### step by step, where the order of what writes is open -/
def setAll : List Nat → Array Bool → Array Bool
  | [], b => b
  | i :: r, b => setAll r (b.setIfInBounds i true)

/-- Down-closed, as a Bool. -/
def closedB (ops : Array Oper) (listed : Array Bool) : Bool :=
  (List.range ops.size).all fun j => !listed.getD j false || match ops[j]? with
    | none => true
    | some oj => oj.after.all fun e => !Region.binds .any e || listed.getD e.on false

theorem closed_of_B {ops : Array Oper} {listed : Array Bool} (h : closedB ops listed = true) : Closed ops listed := by
  intro j oj hj hl e he hb
  simp only [closedB, List.all_eq_true, List.mem_range] at h
  have h1 := h j (Array.getElem?_eq_some_iff.1 hj).1
  rw [hl, hj] at h1
  simp only [Bool.not_true, Bool.false_or, Array.all_eq_true_iff_forall_mem] at h1
  have h2 := h1 e he
  rw [hb] at h2
  simpa using h2

section
variable {P : Program} {ops : Array Oper} {Q : Exit → Act → World → Prop}

theorem run_exact {kd : Nat → Nat} {S C : World → Prop} {t : Nat} (ht : t ≤ 1 ∨ t = 4) (hQ : ∀ c a w, ¬ Q (.panic c) a w) (hsel : Region.noSelect ops = true) (hC : t ≠ 4 → ∀ w, S w → C w) (hCt : t = 0 → ∀ w, C w) (N : Nat) (w : World) (hw : C w) :
    ∀ (l : List Nat) (listed : Array Bool) (a : Act), chkRun ops kd t l listed (fun _ => true) = true → Closed ops listed → wpQuiet P ops C (fun a' => wpAnyK P ops kd S Q N (setAll l listed) a' w) (l.map (nthOp ops)) a →
      wpAnyK P ops kd S Q (l.length + N) listed a w
  | [], listed, a, hc, hcl, h => by rw [List.length_nil, Nat.zero_add]; exact h
  | i :: r, listed, a, hc, hcl, h => by
    rw [List.length_cons, Nat.add_right_comm]
    simp only [chkRun, Bool.and_eq_true] at hc
    obtain ⟨hc1, hc2⟩ := hc
    cases hoi : ops[i]? with
    | none => rw [hoi] at hc1; cases hc1
    | some oi =>
      rw [hoi] at hc1
      simp only [ht, if_true, Bool.and_eq_true, decide_eq_true_eq] at hc1
      obtain ⟨⟨⟨⟨hk1, hs⟩, hr⟩, hfr⟩, hh⟩ := hc1
      simp only [List.map_cons, nthOp_of hoi] at h
      have hr' : i ∈ Region.ready .any ops listed := by simpa using hr
      obtain ⟨v, hy, hK⟩ := yieldsIf_of_quiet hs (show if Region.wanted oi (yielded ops a.tmps) then oi.quiet P a C (wpQuiet P ops C (fun a' => wpAnyK P ops kd S Q N (setAll r (listed.setIfInBounds i true)) a' w) (r.map (nthOp ops))) else wpQuiet P ops C (fun a' => wpAnyK P ops kd S Q N (setAll r (listed.setIfInBounds i true)) a' w) (r.map (nthOp ops)) (a.put oi.dst undef) from h)
      have hrec := run_exact ht hQ hsel hC hCt N w hw r _ _ hc2 (hcl.set hr') hK
      refine wpAnyK_first hoi hk1 (Region.noSelect_spec hsel) hQ _ listed a w hw hcl (Region.free_spec hoi hfr) ?_ hr' hy hrec
      intro j hjs hj
      by_cases h0 : t = 0
      · exact .inr (.inr (.inl (hCt h0)))
      · have : (t == 0) = false := by simpa using h0
        simp only [this, Bool.false_or, List.all_eq_true, List.mem_range] at hh
        have := hh j hjs
        rw [hj] at this
        simp only [Bool.false_or, Bool.or_eq_true, decide_eq_true_eq] at this
        rcases this with h1 | h1
        · by_cases h4 : t = 4
          · rw [if_pos h4] at h1; exact .inl h1
          · rw [if_neg h4] at h1; exact .inr (.inl ⟨h1, hC h4⟩)
        · exact .inr (.inr (.inr h1))

/-- The kinds, by two lists. -/
def kindK (ks : List Nat × List Nat) (i : Nat) : Nat := if ks.1.contains i then 2 else if ks.2.contains i then 3 else 0
/-- What is still to come: N operations at most, 'listed' have been. -/
def wpStep (P : Program) (ops : Array Oper) (ks : List Nat × List Nat) (S : World → Prop) (Q : Exit → Act → World → Prop) (N : Nat) (listed : Array Bool) (a : Act) (w : World) : Prop :=
  wpAnyK P ops (kindK ks) S (NoPanic Q) N listed a w

theorem step_start {id : Nat} {a : Act} {w : World} {l : List Oper} (ks : List Nat × List Nat) (fp : List Nat) (hm : P.follows .mixedOrders = true)
    (h : wpStep P l.toArray ks (fun w' => ∃ x : After fp w.drew, w' = x.wd) Q l.length (Array.replicate l.length false) a w.drew) : (Code.region id l.toArray true).wp P Q a w :=
  wp_region_noPanic (wp_region_any hm (wpAny_of_K _ _ _ _ h))

theorem step_reads {ks : List Nat × List Nat} {S : World → Prop} {N M : Nat} {listed : Array Bool} {a : Act} {w : World} (l : List Nat)
    (hB : (Region.noSelect ops && closedB ops listed && chkRun ops (kindK ks) 1 l listed (fun _ => true) && M == l.length + N) = true) (hS : S w)
    (h : wpQuiet P ops S (fun a' => wpStep P ops ks S Q N (setAll l listed) a' w) (l.map (nthOp ops)) a) : wpStep P ops ks S Q M listed a w := by
  simp only [Bool.and_eq_true, beq_iff_eq] at hB
  obtain ⟨⟨⟨h1, h2⟩, h3⟩, rfl⟩ := hB
  exact run_exact (kd := kindK ks) (by omega) (fun _ _ _ h => h) h1 (fun _ _ h => h) (fun h => by omega) N w hS l listed a h3 (closed_of_B h2) h

theorem step_pures {ks : List Nat × List Nat} {S : World → Prop} {N M : Nat} {listed : Array Bool} {a : Act} {w : World} (l : List Nat)
    (hB : (Region.noSelect ops && closedB ops listed && chkRun ops (kindK ks) 0 l listed (fun _ => true) && M == l.length + N) = true)
    (h : wpQuiet P ops (fun _ => True) (fun a' => wpStep P ops ks S Q N (setAll l listed) a' w) (l.map (nthOp ops)) a) : wpStep P ops ks S Q M listed a w := by
  simp only [Bool.and_eq_true, beq_iff_eq] at hB
  obtain ⟨⟨⟨h1, h2⟩, h3⟩, rfl⟩ := hB
  exact run_exact (kd := kindK ks) (by omega) (fun _ _ _ h => h) h1 (fun _ _ _ => trivial) (fun _ _ => trivial) N w trivial l listed a h3 (closed_of_B h2) h

/-- One operation that writes, S kept. -/
theorem step_keep {ks : List Nat × List Nat} {S : World → Prop} {N M : Nat} {listed : Array Bool} {a : Act} {w : World} (i : Nat)
    (hB : (Region.ready .any ops listed == [i] && kindK ks i == 2 && M == N + 1) = true) {o : Oper} (ho : ops[i]? = some o)
    (h : wpList P ops (Exit.then (fun a' w' => S w' ∧ wpStep P ops ks S Q N (setAll [i] listed) a' w') (NoPanic Q)) [o] a w) : wpStep P ops ks S Q M listed a w := by
  simp only [Bool.and_eq_true, beq_iff_eq] at hB
  obtain ⟨⟨h1, h2⟩, rfl⟩ := hB
  refine ⟨fun h0 => (by rw [h1] at h0; cases h0), fun j hj => ?_⟩
  rw [h1] at hj
  obtain rfl : j = i := by simpa using hj
  rw [if_neg (by rw [h2]; omega)]
  exact wpOp_mono (fun a' w' hh => ⟨fun _ => hh.1, hh.2⟩) (wpOp_of_list ho h)

/-- One operation that writes. -/
theorem step_hard {ks : List Nat × List Nat} {S : World → Prop} {N M : Nat} {listed : Array Bool} {a : Act} {w : World} (i : Nat)
    (hB : (Region.ready .any ops listed == [i] && kindK ks i == 3 && M == N + 1) = true) {o : Oper} (ho : ops[i]? = some o)
    (h : wpList P ops (Exit.then (wpStep P ops ks S Q N (setAll [i] listed)) (NoPanic Q)) [o] a w) : wpStep P ops ks S Q M listed a w := by
  simp only [Bool.and_eq_true, beq_iff_eq] at hB
  obtain ⟨⟨h1, h2⟩, rfl⟩ := hB
  refine ⟨fun h0 => (by rw [h1] at h0; cases h0), fun j hj => ?_⟩
  rw [h1] at hj
  obtain rfl : j = i := by simpa using hj
  rw [if_neg (by rw [h2]; omega)]
  exact wpOp_mono (fun a' w' hh => ⟨fun e => by rw [h2] at e; omega, hh⟩) (wpOp_of_list ho h)

/-- One of two that write, S kept by both. -/
theorem step_two {ks : List Nat × List Nat} {S : World → Prop} {N M : Nat} {listed : Array Bool} {a : Act} {w : World} (i j : Nat)
    (hB : (Region.ready .any ops listed == [i, j] && kindK ks i == 2 && kindK ks j == 2 && M == N + 1) = true) {oi oj : Oper} (hoi : ops[i]? = some oi) (hoj : ops[j]? = some oj)
    (h1 : wpList P ops (Exit.then (fun a' w' => S w' ∧ wpStep P ops ks S Q N (setAll [i] listed) a' w') (NoPanic Q)) [oi] a w)
    (h2 : wpList P ops (Exit.then (fun a' w' => S w' ∧ wpStep P ops ks S Q N (setAll [j] listed) a' w') (NoPanic Q)) [oj] a w) : wpStep P ops ks S Q M listed a w := by
  simp only [Bool.and_eq_true, beq_iff_eq] at hB
  obtain ⟨⟨⟨hr, hki⟩, hkj⟩, rfl⟩ := hB
  refine ⟨fun h0 => (by rw [hr] at h0; cases h0), fun k hk => ?_⟩
  rw [hr] at hk
  rcases (show k = i ∨ k = j by simpa using hk) with rfl | rfl
  · rw [if_neg (by rw [hki]; omega)]
    exact wpOp_mono (fun a' w' hh => ⟨fun _ => hh.1, hh.2⟩) (wpOp_of_list hoi h1)
  · rw [if_neg (by rw [hkj]; omega)]
    exact wpOp_mono (fun a' w' hh => ⟨fun _ => hh.1, hh.2⟩) (wpOp_of_list hoj h2)

theorem step_done {ks : List Nat × List Nat} {S : World → Prop} {N : Nat} {listed : Array Bool} {a : Act} {w : World} (hr : (Region.ready .any ops listed).isEmpty = true) (h : Q .normal a w) : wpStep P ops ks S Q N listed a w := by
  have hr' : Region.ready .any ops listed = [] := by simpa using hr
  cases N with
  | zero => exact ⟨hr', h⟩
  | succ n => exact ⟨fun _ => h, by rw [hr']; simp⟩

end
end Go.Tum
end
