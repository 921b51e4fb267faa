/- Small facts that every text of this seat uses: the bits of int, blocks and frames of memory, slices that are owned. -/
import Derived.WalkKit
import Derived.WalkSpells
import Derived.WalkLawsBesides
import Derived.Lib.Hide
namespace Go.Tum
open Go.RowKit

/-! ### bits -/
theorem ofInt_toNat (y : Int) (h0 : 0 ≤ y) (h1 : y < 18446744073709551616) : (BitVec.ofInt 64 y).toNat = y.toNat := by
  rw [BitVec.toNat_ofInt]
  congr 1
  exact Int.emod_eq_of_lt h0 (by simpa using h1)

theorem wrap_i64_id (n : Int) (h0 : -9223372036854775808 ≤ n) (h1 : n ≤ 9223372036854775807) : IntKind.i64.wrap n = n := by
  rw [IntKind.wrap_i64]; omega

theorem and_i64_val (x y : Int) (h0 : 0 ≤ y) (h1 : y ≤ 9223372036854775807) :
    bits .and .i64 x y = (((BitVec.ofInt 64 x).toNat &&& y.toNat : Nat) : Int) := by
  have e : bits .and .i64 x y = IntKind.i64.wrap ((BitVec.ofInt 64 x &&& BitVec.ofInt 64 y).toNat : Int) := rfl
  rw [e, BitVec.toNat_and, ofInt_toNat y h0 (by omega)]
  have hle : (BitVec.ofInt 64 x).toNat &&& y.toNat ≤ y.toNat := Nat.and_le_right
  exact wrap_i64_id _ (by omega) (by omega)

theorem and_i64_bd (x y : Int) (h0 : 0 ≤ y) (h1 : y ≤ 9223372036854775807) :
    0 ≤ bits .and .i64 x y ∧ bits .and .i64 x y ≤ y := by
  rw [and_i64_val x y h0 h1]
  have hle : (BitVec.ofInt 64 x).toNat &&& y.toNat ≤ y.toNat := Nat.and_le_right
  omega

theorem and_i64_mask (x m p : Nat) (hm : m = 2 ^ p) (hx : x ≤ 9223372036854775807) (hm1 : m ≤ 9223372036854775807) :
    bits .and .i64 (x : Int) ((m : Int) - 1) = ((x % m : Nat) : Int) := by
  have hp : 0 < m := by rw [hm]; exact Nat.two_pow_pos p
  rw [and_i64_val _ _ (by omega) (by omega), ofInt_toNat _ (by omega) (by omega)]
  have e1 : ((x : Int)).toNat = x := by omega
  have e2 : ((m : Int) - 1).toNat = 2 ^ p - 1 := by omega
  rw [e1, e2, Nat.and_two_pow_sub_one_eq_mod, hm]

/-- The mask of the low bits of any int: a number below the power of two. -/
theorem and_i64_low (x : Int) (p : Nat) (hp : p ≤ 62) : ∃ k : Nat, k < 2 ^ p ∧ bits .and .i64 x ((2 ^ p : Nat) - 1 : Int) = (k : Int) := by
  have hpw : (2 : Nat) ^ p ≤ 2 ^ 62 := Nat.pow_le_pow_right (by decide) hp
  have h62 : (2 : Nat) ^ 62 = 4611686018427387904 := by decide
  have hpos : 0 < (2 : Nat) ^ p := Nat.two_pow_pos p
  have := and_i64_bd x ((2 ^ p : Nat) - 1 : Int) (by omega) (by omega)
  exact ⟨(bits .and .i64 x ((2 ^ p : Nat) - 1 : Int)).toNat, by omega, by omega⟩

/-! ### frames -/
/-- All blocks that were there, but those in 'fp', are as they were. -/
structure Fr (fp : List Nat) (w w' : World) : Prop where
  os : w'.os = w.os
  tape : w'.tape = w.tape
  output : w'.output = w.output
  size : w.heap.size ≤ w'.heap.size
  block : ∀ k, k < w.heap.size → k ∉ fp → w'.heap[k]? = w.heap[k]?

theorem Fr.refl (fp : List Nat) (w : World) : Fr fp w w := ⟨rfl, rfl, rfl, Nat.le_refl _, fun _ _ _ => rfl⟩
theorem Fr.trans {fp : List Nat} {a b c : World} (h : Fr fp a b) (k : Fr fp b c) : Fr fp a c :=
  ⟨k.os.trans h.os, k.tape.trans h.tape, k.output.trans h.output, Nat.le_trans h.size k.size,
    fun i hi hn => (k.block i (Nat.lt_of_lt_of_le hi h.size) hn).trans (h.block i hi hn)⟩
/-- The second step may turn blocks that the first one made. -/
theorem Fr.trans' {fp fp' : List Nat} {a b c : World} (h : Fr fp a b) (k : Fr fp' b c) (hs : ∀ x ∈ fp', x ∈ fp ∨ a.heap.size ≤ x) : Fr fp a c :=
  ⟨k.os.trans h.os, k.tape.trans h.tape, k.output.trans h.output, Nat.le_trans h.size k.size,
    fun i hi hn => (k.block i (Nat.lt_of_lt_of_le hi h.size) (fun hm => by rcases hs i hm with h1 | h1; exact hn h1; omega)).trans (h.block i hi hn)⟩
theorem Fr.mono {fp fp' : List Nat} {w w' : World} (h : Fr fp w w') (hs : ∀ x ∈ fp, x ∈ fp') : Fr fp' w w' :=
  ⟨h.os, h.tape, h.output, h.size, fun k hk hn => h.block k hk (fun hm => hn (hs k hm))⟩
theorem Fr.drew {fp : List Nat} {a w : World} (h : Fr fp a w) : Fr fp a w.drew := ⟨h.os, h.tape, h.output, h.size, h.block⟩
theorem Fr.drewN {fp : List Nat} {a w : World} (h : Fr fp a w) (n : Nat) : Fr fp a (w.drewN n) := ⟨h.os, h.tape, h.output, h.size, h.block⟩
theorem Fr.from_drew {fp : List Nat} {w w' : World} (h : Fr fp w w') : Fr fp w.drew w' := ⟨h.os, h.tape, h.output, h.size, h.block⟩
theorem Fr.from_to {fp : List Nat} {w w' : World} (h : Fr fp w.drew w') : Fr fp w w' := ⟨h.os, h.tape, h.output, h.size, h.block⟩
theorem Fr.alloc {fp : List Nat} {a w : World} (h : Fr fp a w) (o : Obj) : Fr fp a (w.alloc o) :=
  ⟨h.os, h.tape, h.output, Nat.le_trans h.size (by simp), fun k hk hn => (Below.heap_alloc w o k (Nat.lt_of_lt_of_le hk h.size)).trans (h.block k hk hn)⟩
theorem Fr.setCell {fp : List Nat} {a w : World} (h : Fr fp a w) {p : Addr} (hp : p.block ∈ fp ∨ a.heap.size ≤ p.block) (u : Value) : Fr fp a (w.setCell p u) :=
  ⟨h.os, h.tape, h.output, Nat.le_trans h.size (by simp [World.setCell]), fun k hk hn =>
    (Below.heap_setCell w p u k (fun e => by rcases hp with hp | hp; exact hn (e ▸ hp); omega)).trans (h.block k hk hn)⟩
theorem Fr.grown {fp : List Nat} {a w w' : World} {row : Option Nat} (h : Fr fp a w) (hg : w.grownBy w' row) (hr : ∀ k, row = some k → k ∈ fp ∨ a.heap.size ≤ k) : Fr fp a w' :=
  ⟨hg.os.trans h.os, hg.tape.trans h.tape, hg.output.trans h.output, Nat.le_trans h.size hg.size,
    fun k hk hn => (hg.block k (Nat.lt_of_lt_of_le hk h.size) (fun e => by rcases hr k e.symm with h1 | h1; exact hn h1; omega)).trans (h.block k hk hn)⟩
theorem Fr.of_below {w w' : World} (h : Below w.heap.size w w') (fp : List Nat) : Fr fp w w' := ⟨h.os, h.tape, h.output, h.size, fun k hk _ => h.block k hk⟩
theorem Fr.below {B : Nat} {fp : List Nat} {w w' : World} (h : Fr fp w w') (hB : B ≤ w.heap.size) (hf : ∀ x ∈ fp, B ≤ x) : Below B w w' :=
  ⟨h.os, h.tape, h.output, h.size, fun k hk => h.block k (by omega) (fun hm => by have := hf k hm; omega)⟩
theorem Fr.cell {fp : List Nat} {w w' : World} (h : Fr fp w w') {a : Addr} {v : Value} (hc : w.cell? a = some v) (hn : a.block ∉ fp) : w'.cell? a = some v :=
  (World.cell?_of_block (w := w) (h.block _ (World.block_lt_of_cell? w a hc) hn)).trans hc
theorem Fr.froz {fp : List Nat} {w w' : World} (h : Fr fp w w') {a : Addr} {b : Bool} (hc : w.frozen? a = b) (hl : a.block < w.heap.size) (hn : a.block ∉ fp) : w'.frozen? a = b :=
  (World.frozen?_of_block (w := w) (h.block _ hl hn)).trans hc

/-! ### a block known whole -/
/-- Block k is the row 'cs' of elements of type T, and may be written. -/
def Blk (w : World) (k : Nat) (T : TypeId) (cs : List Value) : Prop := w.heap[k]? = some (.cells cs.toArray T (0, 0))

theorem Blk.lt {w : World} {k : Nat} {T : TypeId} {cs : List Value} (h : Blk w k T cs) : k < w.heap.size := (Array.getElem?_eq_some_iff.1 h).1
theorem Blk.cell {w : World} {k : Nat} {T : TypeId} {cs : List Value} (h : Blk w k T cs) (j : Nat) : w.cell? ⟨k, j, none⟩ = cs[j]? := by
  simp only [World.cell?, show w.heap[k]? = _ from h]; simp
theorem Blk.froz {w : World} {k : Nat} {T : TypeId} {cs : List Value} (h : Blk w k T cs) (j : Nat) : w.frozen? ⟨k, j, none⟩ = false := by
  simp only [World.frozen?, show w.heap[k]? = _ from h]; simp
theorem Blk.fr {fp : List Nat} {w w' : World} {k : Nat} {T : TypeId} {cs : List Value} (h : Blk w k T cs) (f : Fr fp w w') (hn : k ∉ fp) : Blk w' k T cs :=
  (f.block k h.lt hn).trans h
theorem Blk.grown {w w' : World} {row : Option Nat} {k : Nat} {T : TypeId} {cs : List Value} (h : Blk w k T cs) (f : w.grownBy w' row) (hn : some k ≠ row) : Blk w' k T cs :=
  (f.block k h.lt hn).trans h
theorem Blk.drew {w : World} {k : Nat} {T : TypeId} {cs : List Value} (h : Blk w k T cs) : Blk w.drew k T cs := h
theorem Blk.drewN {w : World} {k : Nat} {T : TypeId} {cs : List Value} (h : Blk w k T cs) (n : Nat) : Blk (w.drewN n) k T cs := h
theorem Blk.alloc {w : World} {k : Nat} {T : TypeId} {cs : List Value} (h : Blk w k T cs) (o : Obj) : Blk (w.alloc o) k T cs :=
  (Below.heap_alloc w o k h.lt).trans h
theorem Blk.new (w : World) (T : TypeId) (cs : List Value) : Blk (w.alloc (.cells cs.toArray T)) w.heap.size T cs := heap_alloc_new w _
theorem Blk.set {w : World} {k : Nat} {T : TypeId} {cs : List Value} (h : Blk w k T cs) (j : Nat) (u : Value) : Blk (w.setCell ⟨k, j, none⟩ u) k T (cs.set j u) := by
  unfold Blk at *
  simp [World.setCell, Array.getElem?_modify, h]
theorem Blk.setOther {w : World} {k : Nat} {T : TypeId} {cs : List Value} (h : Blk w k T cs) {a : Addr} (u : Value) (hn : k ≠ a.block) : Blk (w.setCell a u) k T cs :=
  (Below.heap_setCell w a u k hn).trans h

theorem len24 {cs : List Value} (h : cs.length = 24) : ∃ x0 x1 x2 x3 x4 x5 x6 x7 x8 x9 x10 x11 x12 x13 x14 x15 x16 x17 x18 x19 x20 x21 x22 x23, cs = [x0, x1, x2, x3, x4, x5, x6, x7, x8, x9, x10, x11, x12, x13, x14, x15, x16, x17, x18, x19, x20, x21, x22, x23] := by
  match cs, h with
  | [x0, x1, x2, x3, x4, x5, x6, x7, x8, x9, x10, x11, x12, x13, x14, x15, x16, x17, x18, x19, x20, x21, x22, x23], _ => exact ⟨x0,x1,x2,x3,x4,x5,x6,x7,x8,x9,x10,x11,x12,x13,x14,x15,x16,x17,x18,x19,x20,x21,x22,x23, rfl⟩

/-! ### owned rows -/
theorem ownsRow_fr {fp : List Nat} {w w' : World} {base : Nat} {e : TypeId} {size : Nat} {v : Value} {n : Nat} {xs : List Value}
    (h : w.ownsRow base e size v n xs) (f : Fr fp w w') (hn : ∀ k, v.ownBlock = some k → k ∉ fp) : w'.ownsRow base e size v n xs := by
  refine ⟨h.1, ?_⟩
  rcases h.2 with h2 | ⟨g, cap, cur, rfl, hb, hg, rest⟩
  · exact .inl h2
  · exact .inr ⟨g, cap, cur, rfl, hb, (f.block g (Array.getElem?_eq_some_iff.1 hg).1 (hn g rfl)).trans hg, rest⟩

theorem ownsRow_setCell {w : World} {base : Nat} {e : TypeId} {size : Nat} {v : Value} {n : Nat} {xs : List Value}
    (h : w.ownsRow base e size v n xs) {a : Addr} (hn : v.ownBlock ≠ some a.block) (u : Value) : (w.setCell a u).ownsRow base e size v n xs := by
  refine ⟨h.1, ?_⟩
  rcases h.2 with h2 | ⟨g, cap, cur, rfl, hb, hg, rest⟩
  · exact .inl h2
  · refine .inr ⟨g, cap, cur, rfl, hb, ?_, rest⟩
    rw [Below.heap_setCell _ _ _ _ (fun e => hn (by simp [Value.ownBlock, e]))]; exact hg

/-- A cell of an owned row is written. -/
theorem ownsRow_set {w : World} {base : Nat} {e : TypeId} {size : Nat} {g n cap : Nat} {xs : List Value}
    (h : w.ownsRow base e size (.slice (some ⟨g, 0, none⟩) n cap) n xs) (j : Nat) (u : Value) :
    (w.setCell ⟨g, j, none⟩ u).ownsRow base e size (.slice (some ⟨g, 0, none⟩) n cap) n (xs.set j u) := by
  refine ⟨by simpa using h.1, ?_⟩
  rcases h.2 with h2 | ⟨g', cap', cur, e1, hb, hg, h1, h2, h3, h4⟩
  · simp at h2
  · simp only [Value.slice.injEq, Option.some.injEq, Addr.mk.injEq, and_true] at e1
    obtain ⟨rfl, _, rfl⟩ := e1
    refine .inr ⟨g, cap, cur.setIfInBounds j u, rfl, hb, ?_, h1, h2, by simpa using h3, ?_⟩
    · simp [World.setCell, Array.getElem?_modify, hg]
    · simp [List.take_set, h4]

/-- The row, cut at its end. -/
theorem ownsRow_cut {w : World} {base : Nat} {e : TypeId} {size : Nat} {g n cap : Nat} {xs : List Value}
    (h : w.ownsRow base e size (.slice (some ⟨g, 0, none⟩) n cap) n xs) (m : Nat) (hm : m ≤ n) :
    w.ownsRow base e size (.slice (some ⟨g, 0, none⟩) m cap) m (xs.take (m * size)) := by
  have hms : m * size ≤ n * size := Nat.mul_le_mul_right _ hm
  refine ⟨by rw [List.length_take, h.1]; omega, ?_⟩
  rcases h.2 with h2 | ⟨g', cap', cur, e1, hb, hg, h1, h2, h3, h4⟩
  · simp at h2
  · simp only [Value.slice.injEq, Option.some.injEq, Addr.mk.injEq, and_true] at e1
    obtain ⟨rfl, _, rfl⟩ := e1
    exact .inr ⟨g, cap, cur, rfl, hb, hg, by omega, h2, h3, by rw [← h4, List.take_take, Nat.min_eq_left hms]⟩

theorem ownsRow_cell {w : World} {base : Nat} {e : TypeId} {size : Nat} {g n cap : Nat} {xs : List Value}
    (h : w.ownsRow base e size (.slice (some ⟨g, 0, none⟩) n cap) n xs) (j : Nat) (u : Value) (hj : xs[j]? = some u) : w.cell? ⟨g, j, none⟩ = some u := by
  have := h.cells (g := g) rfl j u hj
  simpa [Addr.add_lit] using this

theorem ownsRow_froz {w : World} {base : Nat} {e : TypeId} {size : Nat} {g n cap : Nat} {xs : List Value}
    (h : w.ownsRow base e size (.slice (some ⟨g, 0, none⟩) n cap) n xs) (j : Nat) : w.frozen? ⟨g, j, none⟩ = false := by
  rcases h.2 with h2 | ⟨g', cap', cur, e1, hb, hg, h1, h2, h3, h4⟩
  · simp at h2
  · simp only [Value.slice.injEq, Option.some.injEq, Addr.mk.injEq, and_true] at e1
    obtain ⟨rfl, _, rfl⟩ := e1
    simp [World.frozen?, hg]

/-- An owned row that holds something is no nil slice. -/
theorem ownsRow_form {w : World} {base : Nat} {e : TypeId} {size : Nat} {v : Value} {n : Nat} {xs : List Value}
    (h : w.ownsRow base e size v n xs) : (v = .slice none 0 0 ∧ n = 0) ∨ ∃ g cap, v = .slice (some ⟨g, 0, none⟩) n cap ∧ g < w.heap.size ∧ base ≤ g ∧ n ≤ cap ∧ cap ≤ maxLen := by
  rcases h.2 with h2 | ⟨g, cap, cur, rfl, hb, hg, h1, h2, h3, h4⟩
  · exact .inl h2
  · exact .inr ⟨g, cap, rfl, (Array.getElem?_eq_some_iff.1 hg).1, hb, h1, h2⟩

end Go.Tum
