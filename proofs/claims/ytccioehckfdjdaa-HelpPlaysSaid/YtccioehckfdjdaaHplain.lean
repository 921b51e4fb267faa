/- A thread that does a transaction: its state, and what each call does, plain. -/
import Derived.Test.YtccioehckfdjdaaWha
import Derived.Test.YtccioehckfdjdaaJoin
import Derived.Test.YtccioehckfdjdaaScw
import Derived.Test.YtccioehckfdjdaaTape
set_option linter.unusedSimpArgs false
set_option linter.unusedVariables false
namespace Go.Tum.H
open Go.Tum.Y Go.Tum.Sc
structure H where
  list : List (Int × Int)
  n : Int
  k : Int
  held : Int
  cv : Int
  cs : Int
  next : Int
def hL (cells : List Value) (who owner seq : Int) (v : Value) (h : H) : List Value :=
  cells ++ [.int .i64 who, .int .i64 owner, .int .u64 seq, v, .int .i64 h.n, .int .i64 h.k, .int .i64 h.held, .int .u64 h.cv, .int .u64 h.cs, .int .i64 h.next]
theorem hL_at {cs : List Value} (hsz : cs.length = 24) (who owner seq : Int) (v : Value) (h : H) :
    (hL cs who owner seq v h)[24]? = some (.int .i64 who) ∧ (hL cs who owner seq v h)[25]? = some (.int .i64 owner) ∧ (hL cs who owner seq v h)[26]? = some (.int .u64 seq) ∧ (hL cs who owner seq v h)[27]? = some v ∧ (hL cs who owner seq v h)[28]? = some (.int .i64 h.n) ∧
    (hL cs who owner seq v h)[29]? = some (.int .i64 h.k) ∧ (hL cs who owner seq v h)[30]? = some (.int .i64 h.held) ∧ (hL cs who owner seq v h)[31]? = some (.int .u64 h.cv) ∧ (hL cs who owner seq v h)[32]? = some (.int .u64 h.cs) ∧ (hL cs who owner seq v h)[33]? = some (.int .i64 h.next) := by
  unfold hL
  refine ⟨?_, ?_, ?_, ?_, ?_, ?_, ?_, ?_, ?_, ?_⟩ <;> (rw [List.getElem?_append_right (by omega), hsz]; rfl)
theorem hL_list {cs : List Value} (hsz : cs.length = 24) (who owner seq : Int) (v : Value) (h : H) (x : Value) : (hL cs who owner seq v h).set 27 x = hL cs who owner seq x h := by
  unfold hL
  rw [List.set_append_right _ _ (by omega), hsz]; rfl
theorem hL_n {cs : List Value} (hsz : cs.length = 24) (who owner seq : Int) (v : Value) (h : H) (x : Int) : (hL cs who owner seq v h).set 28 (.int .i64 x) = hL cs who owner seq v { h with n := x } := by
  unfold hL
  rw [List.set_append_right _ _ (by omega), hsz]; rfl
theorem hL_k {cs : List Value} (hsz : cs.length = 24) (who owner seq : Int) (v : Value) (h : H) (x : Int) : (hL cs who owner seq v h).set 29 (.int .i64 x) = hL cs who owner seq v { h with k := x } := by
  unfold hL
  rw [List.set_append_right _ _ (by omega), hsz]; rfl
theorem hL_held {cs : List Value} (hsz : cs.length = 24) (who owner seq : Int) (v : Value) (h : H) (x : Int) : (hL cs who owner seq v h).set 30 (.int .i64 x) = hL cs who owner seq v { h with held := x } := by
  unfold hL
  rw [List.set_append_right _ _ (by omega), hsz]; rfl
theorem hL_cv {cs : List Value} (hsz : cs.length = 24) (who owner seq : Int) (v : Value) (h : H) (x : Int) : (hL cs who owner seq v h).set 31 (.int .u64 x) = hL cs who owner seq v { h with cv := x } := by
  unfold hL
  rw [List.set_append_right _ _ (by omega), hsz]; rfl
theorem hL_cs {cs : List Value} (hsz : cs.length = 24) (who owner seq : Int) (v : Value) (h : H) (x : Int) : (hL cs who owner seq v h).set 32 (.int .u64 x) = hL cs who owner seq v { h with cs := x } := by
  unfold hL
  rw [List.set_append_right _ _ (by omega), hsz]; rfl
theorem hL_next {cs : List Value} (hsz : cs.length = 24) (who owner seq : Int) (v : Value) (h : H) (x : Int) : (hL cs who owner seq v h).set 33 (.int .i64 x) = hL cs who owner seq v { h with next := x } := by
  unfold hL
  rw [List.set_append_right _ _ (by omega), hsz]; rfl
def nth (h : H) (k : Nat) : Int × Int := h.list.getD k (0, 0)
/-- The first entry from a place on that is a cell's that transactions write. -/
def entryG (c : Cfg) (h : H) : Nat → Nat → H
  | 0, _ => { h with next := 7 }
  | g + 1, k =>
    if (whA c (nth h k).1).1 < 7 then entryG c h g (k + 1)
    else { h with k := k, next := if (whA c (nth h k).1).1 = 16 ∧ (whA c (nth h k).1).2.1 ≠ h.held then 3 else 5 }
def entry (c : Cfg) (h : H) (k : Nat) : H := entryG c h (h.list.length - k) k
def read (h : H) : H := { h with next := if (h.list.length : Int) = h.n then 2 else 1 }
def unl (is : Bool) (h : H) : H := if is then h else { h with next := 8 }
def placeOf (s : Int) : Int := if 65536 ≤ s then -1 else s
/-- The number that names a block. -/
def nameOf (b : Int) : Int := IntKind.u64.wrap (IntKind.u64.wrap b + 1)
def ask (c : Cfg) (who owner seq : Int) (h : H) : P6 × Bool :=
  if h.next = 0 then (⟨0, at_ c 5 owner 0, 0, 0, 0, 0⟩, true)
  else if h.next = 1 then (⟨0, at_ c 6 owner h.list.length, 0, 0, 0, 0⟩, true)
  else if h.next = 2 ∨ h.next = 4 then (⟨0, at_ c 4 owner 0, 0, 0, 0, 0⟩, true)
  else if h.next = 3 then (⟨1, at_ c 3 who 0, 0, 0, nameOf (whA c (nth h h.k.toNat).1).2.1, 0⟩, true)
  else if h.next = 5 then (⟨0, (nth h h.k.toNat).1, 0, 0, 0, 0⟩, true)
  else if h.next = 6 then (⟨2, (nth h h.k.toNat).1, h.cv, h.cs, (nth h h.k.toNat).2, seq⟩, true)
  else if h.next = 7 then (⟨2, at_ c 4 owner 0, 1, seq, 0, seq⟩, true)
  else (p0, false)
def tell (c : Cfg) (seq : Int) (v s : Int) (h : H) : H :=
  if h.next = 0 then read { h with n := min v (cap c) }
  else if h.next = 1 then read { h with list := h.list ++ [(placeOf s, v)] }
  else if h.next = 2 then unl (decide (v = 1 ∧ s = seq)) (entry c h 0)
  else if h.next = 3 then { h with held := -1, next := 4 }
  else if h.next = 4 then unl (decide (v = 1 ∧ s = seq)) { h with held := (whA c (nth h h.k.toNat).1).2.1, next := 5 }
  else if h.next = 5 then (if seq ≤ s then entry c { h with cv := v, cs := s, next := 6 } (h.k.toNat + 1) else { h with cv := v, cs := s, next := 6 })
  else if h.next = 6 then entry c h (h.k.toNat + 1)
  else if h.next = 7 then { h with next := 8 }
  else h
/-- The entry that it is about is there. -/
def Good (c : Cfg) (h : H) : Prop := 0 ≤ h.n ∧ h.n ≤ 100000 ∧ (h.next = 1 → (h.list.length : Int) < h.n) ∧ h.list.length ≤ 100000 ∧ 0 ≤ h.k ∧ (h.next = 3 ∨ h.next = 4 ∨ h.next = 5 ∨ h.next = 6 → h.k < h.list.length)
theorem entryG_good {c : Cfg} {h : H} (hg : Good c h) : ∀ g k, g + k = h.list.length → Good c (entryG c h g k) ∧ (entryG c h g k).list = h.list ∧ (entryG c h g k).n = h.n
  | 0, k, _ => by
    obtain ⟨a1, a2, a3, a4, a5, a6⟩ := hg
    exact ⟨⟨a1, a2, by simp [entryG], a4, a5, by simp [entryG]⟩, rfl, rfl⟩
  | g + 1, k, hk => by
    unfold entryG
    split
    · exact entryG_good hg g (k + 1) (by omega)
    · obtain ⟨a1, a2, a3, a4, a5, a6⟩ := hg
      refine ⟨⟨a1, a2, ?_, a4, by simp, ?_⟩, rfl, rfl⟩
      · dsimp only; split <;> simp
      · intro _; dsimp only; omega
theorem entry_good {c : Cfg} {h : H} (hg : Good c h) (k : Nat) (hk : k ≤ h.list.length) : Good c (entry c h k) ∧ (entry c h k).list = h.list ∧ (entry c h k).n = h.n := entryG_good hg _ _ (by omega)
end Go.Tum.H
