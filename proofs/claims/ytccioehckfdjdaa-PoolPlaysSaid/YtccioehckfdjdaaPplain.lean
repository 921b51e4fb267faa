/- Which blocks are free, and which in limbo: the state, and what each call does; plain. And the state as a thing. -/
import Derived.Test.YtccioehckfdjdaaPset
import Derived.Test.YtccioehckfdjdaaYat
import Derived.Test.YtccioehckfdjdaaMJoin
import Derived.Test.YtccioehckfdjdaaTape
set_option linter.unusedSimpArgs false
set_option linter.unusedVariables false
namespace Go.Tum.P
open Go.Tum.Y
/-- How many steps were done, how often slots named what, what Top and Lim were and are, what is in limbo, how far it is. -/
structure St where
  next : Int
  f : Int → Int
  wt : Int
  wl : Int
  nt : Int
  nl : Int
  lim : List Int
  s : Int
def poolL (cells : List Value) (seq : Int) (mv v : Value) (p : St) : List Value :=
  cells ++ [.int .u64 seq, .int .i64 p.next, mv, .int .i64 p.wt, .int .i64 p.wl, .int .i64 p.nt, .int .i64 p.nl, v, .int .i64 p.s]
structure PF (cs xs : List Value) (seq : Int) (mv v : Value) (p : St) : Prop where
  seq : xs[24]? = some (.int .u64 seq)
  next : xs[25]? = some (.int .i64 p.next)
  mp : xs[26]? = some mv
  wt : xs[27]? = some (.int .i64 p.wt)
  wl : xs[28]? = some (.int .i64 p.wl)
  nt : xs[29]? = some (.int .i64 p.nt)
  nl : xs[30]? = some (.int .i64 p.nl)
  lim : xs[31]? = some v
  s : xs[32]? = some (.int .i64 p.s)
  len : xs.length = 33
theorem pf {cs : List Value} (hsz : cs.length = 24) (seq : Int) (mv v : Value) (p : St) : PF cs (poolL cs seq mv v p) seq mv v p := by
  unfold poolL
  refine ⟨?_, ?_, ?_, ?_, ?_, ?_, ?_, ?_, ?_, by simp [hsz]⟩ <;> (rw [List.getElem?_append_right (by omega), hsz]; rfl)
theorem poolL_next {cs : List Value} (hsz : cs.length = 24) (seq : Int) (mv v : Value) (p : St) (x : Int) : (poolL cs seq mv v p).set 25 (.int .i64 x) = poolL cs seq mv v { p with next := x } := by
  unfold poolL
  rw [List.set_append_right _ _ (by omega), hsz]; rfl
theorem poolL_wt {cs : List Value} (hsz : cs.length = 24) (seq : Int) (mv v : Value) (p : St) (x : Int) : (poolL cs seq mv v p).set 27 (.int .i64 x) = poolL cs seq mv v { p with wt := x } := by
  unfold poolL
  rw [List.set_append_right _ _ (by omega), hsz]; rfl
theorem poolL_wl {cs : List Value} (hsz : cs.length = 24) (seq : Int) (mv v : Value) (p : St) (x : Int) : (poolL cs seq mv v p).set 28 (.int .i64 x) = poolL cs seq mv v { p with wl := x } := by
  unfold poolL
  rw [List.set_append_right _ _ (by omega), hsz]; rfl
theorem poolL_nt {cs : List Value} (hsz : cs.length = 24) (seq : Int) (mv v : Value) (p : St) (x : Int) : (poolL cs seq mv v p).set 29 (.int .i64 x) = poolL cs seq mv v { p with nt := x } := by
  unfold poolL
  rw [List.set_append_right _ _ (by omega), hsz]; rfl
theorem poolL_nl {cs : List Value} (hsz : cs.length = 24) (seq : Int) (mv v : Value) (p : St) (x : Int) : (poolL cs seq mv v p).set 30 (.int .i64 x) = poolL cs seq mv v { p with nl := x } := by
  unfold poolL
  rw [List.set_append_right _ _ (by omega), hsz]; rfl
theorem poolL_lim {cs : List Value} (hsz : cs.length = 24) (seq : Int) (mv v : Value) (p : St) (x : Value) : (poolL cs seq mv v p).set 31 x = poolL cs seq mv x p := by
  unfold poolL
  rw [List.set_append_right _ _ (by omega), hsz]; rfl
theorem poolL_s {cs : List Value} (hsz : cs.length = 24) (seq : Int) (mv v : Value) (p : St) (x : Int) : (poolL cs seq mv v p).set 32 (.int .i64 x) = poolL cs seq mv v { p with s := x } := by
  unfold poolL
  rw [List.set_append_right _ _ (by omega), hsz]; rfl
def bump (f : Int → Int) (y : Int) : Int → Int := fun z => if z = y then f y + 1 else f z
/-- Is it all read? -/
def fin (c : Cfg) (p : St) : St := if c.t + 1 < p.next ∧ (p.lim.length : Int) = p.wl then { p with nt := p.wt, nl := p.wl, s := 1 } else p
def tell (c : Cfg) (seq : Int) (v s : Int) (p : St) : St :=
  if p.s ≠ 0 then p
  else if p.next < c.t then fin c { p with f := bump p.f v, next := p.next + 1 }
  else if seq < s then { p with s := 2 }
  else if p.next = c.t then fin c { p with wt := min v c.b, next := p.next + 1 }
  else if p.next = c.t + 1 then fin c { p with wl := min v (limit c), next := p.next + 1 }
  else fin c { p with lim := p.lim ++ [v], next := p.next + 1 }
def ask (c : Cfg) (p : St) : P6 × Bool :=
  if p.s ≠ 0 then (p0, false)
  else if p.next < c.t then (⟨0, at_ c 3 p.next 0, 0, 0, 0, 0⟩, true)
  else if p.next = c.t then (⟨0, at_ c 12 0 0, 0, 0, 0, 0⟩, true)
  else if p.next = c.t + 1 then (⟨0, at_ c 14 0 0, 0, 0, 0, 0⟩, true)
  else (⟨0, at_ c 15 (p.next - c.t - 2) 0, 0, 0, 0, 0⟩, true)
def new0 : St := ⟨0, fun _ => 0, 0, 0, 0, 0, [], 0⟩
def putS (s : W.S) (a v : Int) : W.S := (W.put s a v).1
/-- A block becomes free. -/
def release (c : Cfg) (x : St × W.S) (b : Int) : St × W.S :=
  if x.1.nt < c.b then ({ x.1 with nt := x.1.nt + 1 }, putS (putS x.2 (at_ c 11 b 0) 0) (at_ c 13 x.1.nt 0) b)
  else (x.1, putS x.2 (at_ c 11 b 0) 0)
/-- Those in limbo, from a place on. -/
def settleG (c : Cfg) : List Int → Int → Int → St × W.S → St × W.S × Int
  | [], _, kept, x => (x.1, x.2, kept)
  | b :: r, k, kept, x =>
    if c.b ≤ b then settleG c r (k + 1) kept x
    else if x.1.f (b + 1) = 0 then settleG c r (k + 1) kept (release c x b)
    else if kept ≠ k then settleG c r (k + 1) (kept + 1) (x.1, putS x.2 (at_ c 15 kept 0) b)
    else settleG c r (k + 1) (kept + 1) x
def settle (c : Cfg) (p : St) (s : W.S) : St × W.S :=
  let z := settleG c p.lim 0 0 (p, s)
  ({ z.1 with nl := z.2.2, lim := [] }, z.2.1)
def top (c : Cfg) (p : St) : Int × Bool := if p.nt = 0 then (-1, false) else (at_ c 13 (p.nt - 1) 0, true)
def wipe (c : Cfg) (b : Int) : Nat → W.S → W.S
  | 0, s => s
  | k + 1, s => putS (wipe c b k s) (at_ c 16 b k) 0
def take (c : Cfg) (b : Int) (p : St) (s : W.S) : St × W.S :=
  if p.nt = 0 ∨ at_ c 11 b 0 = -1 then (p, s) else ({ p with nt := p.nt - 1 }, wipe c b 8 (putS s (at_ c 11 b 0) 1))
def give (c : Cfg) (b : Int) (p : St) (s : W.S) : St × W.S :=
  if limit c ≤ p.nl ∨ at_ c 11 b 0 = -1 then (p, s) else ({ p with nl := p.nl + 1 }, putS (putS s (at_ c 11 b 0) 2) (at_ c 15 p.nl 0) b)
def end_ (c : Cfg) (p : St) (s : W.S) : W.S :=
  let s1 := if p.nt ≠ p.wt then putS s (at_ c 12 0 0) p.nt else s
  if p.nl ≠ p.wl then putS s1 (at_ c 14 0 0) p.nl else s1
/-- What holds of it whatever replies come. -/
structure Ok (c : Cfg) (p : St) : Prop where
  next : 0 ≤ p.next ∧ p.next ≤ 1000
  s : 0 ≤ p.s ∧ p.s ≤ 2
  wt : 0 ≤ p.wt ∧ p.wt ≤ c.b
  wl : 0 ≤ p.wl ∧ p.wl ≤ limit c
  nt : 0 ≤ p.nt ∧ p.nt ≤ c.b
  nl : 0 ≤ p.nl ∧ p.nl ≤ limit c
  f : ∀ z, 0 ≤ p.f z ∧ p.f z ≤ p.next
  lim : ∀ b ∈ p.lim, 0 ≤ b ∧ b ≤ 18446744073709551615
  len : (p.lim.length : Int) ≤ p.wl
  cnt : p.s = 0 → p.next ≤ c.t + 1 ∧ p.lim = [] ∨ c.t + 1 < p.next ∧ p.next = c.t + 2 + p.lim.length ∧ (p.lim.length : Int) < p.wl
theorem ok_new (c : Cfg) (h : Y.Ok c) : Ok c new0 := by
  have h1 := h.b1; have h2 := limit_pos h; have h3 := h.t1
  exact ⟨by simp [new0], by simp [new0], by simp [new0]; omega, by simp [new0]; omega, by simp [new0]; omega, by simp [new0]; omega, by simp [new0], by simp [new0], by simp [new0], fun _ => .inl ⟨by simp [new0]; omega, rfl⟩⟩
theorem ok_fin {c : Cfg} {p : St} (hn : 0 ≤ p.next ∧ p.next ≤ 1000) (hs : p.s = 0) (hwt : 0 ≤ p.wt ∧ p.wt ≤ c.b) (hwl : 0 ≤ p.wl ∧ p.wl ≤ limit c) (hnt : 0 ≤ p.nt ∧ p.nt ≤ c.b) (hnl : 0 ≤ p.nl ∧ p.nl ≤ limit c) (hf : ∀ z, 0 ≤ p.f z ∧ p.f z ≤ p.next) (hlim : ∀ b ∈ p.lim, 0 ≤ b ∧ b ≤ 18446744073709551615) (hlen : (p.lim.length : Int) ≤ p.wl)
    (hc : p.next ≤ c.t + 1 ∧ p.lim = [] ∨ c.t + 1 < p.next ∧ p.next = c.t + 2 + p.lim.length) : Ok c (fin c p) := by
  unfold fin
  split
  · rename_i hx
    exact ⟨hn, by simp, hwt, hwl, hwt, hwl, hf, hlim, hlen, by simp⟩
  · rename_i hx
    refine ⟨hn, by omega, hwt, hwl, hnt, hnl, hf, hlim, hlen, fun _ => ?_⟩
    rcases hc with h | ⟨h1, h2⟩
    · exact .inl h
    · exact .inr ⟨h1, h2, by omega⟩
theorem ok_tell {c : Cfg} (h : Y.Ok c) {p : St} (hp : Ok c p) (seq v s : Int) (hv : 0 ≤ v ∧ v ≤ 18446744073709551615) : Ok c (tell c seq v s p) := by
  have hb1 := h.b1; have hl := limit_pos h; have ht1 := h.t1; have ht8 := h.t8
  obtain ⟨n1, s1, a1, a2, a3, a4, f1, l1, l2, c1⟩ := id hp
  unfold tell
  by_cases h0 : p.s ≠ 0
  · rw [if_pos h0]; exact hp
  rw [if_neg h0]
  have hs0 : p.s = 0 := Classical.not_not.1 h0
  have c1 := c1 hs0
  by_cases h1 : p.next < c.t
  · rw [if_pos h1]
    have hle : p.lim = [] := by rcases c1 with c1 | c1; exact c1.2; omega
    refine ok_fin (by dsimp only; omega) hs0 a1 a2 a3 a4 (fun z => ?_) l1 l2 (.inl ⟨by dsimp only; omega, hle⟩)
    dsimp only [bump]
    have := f1 z; have := f1 v
    split <;> omega
  rw [if_neg h1]
  by_cases h2 : seq < s
  · rw [if_pos h2]
    exact ⟨n1, by simp, a1, a2, a3, a4, f1, l1, l2, by simp⟩
  rw [if_neg h2]
  have f2 : ∀ z, 0 ≤ p.f z ∧ p.f z ≤ p.next + 1 := fun z => by have := f1 z; omega
  by_cases h3 : p.next = c.t
  · rw [if_pos h3]
    have hle : p.lim = [] := by rcases c1 with c1 | c1; exact c1.2; omega
    exact ok_fin (by dsimp only; omega) hs0 (by dsimp only; omega) a2 a3 a4 f2 l1 l2 (.inl ⟨by dsimp only; omega, hle⟩)
  rw [if_neg h3]
  by_cases h4 : p.next = c.t + 1
  · rw [if_pos h4]
    have hle : p.lim = [] := by rcases c1 with c1 | c1; exact c1.2; omega
    exact ok_fin (by dsimp only; omega) hs0 a1 (by dsimp only; omega) a3 a4 f2 l1 (by dsimp only; rw [hle]; simp; omega) (.inr ⟨by dsimp only; omega, by dsimp only; rw [hle]; simp; omega⟩)
  rw [if_neg h4]
  have c1 : c.t + 1 < p.next ∧ p.next = c.t + 2 + p.lim.length ∧ (p.lim.length : Int) < p.wl := by
    rcases c1 with c1 | c1
    · omega
    · exact c1
  refine ok_fin (by dsimp only; omega) hs0 a1 a2 a3 a4 f2 (fun b hb => ?_) (by simp; omega) (.inr ⟨by dsimp only; omega, by simp; omega⟩)
  rcases List.mem_append.1 hb with hb | hb
  · exact l1 b hb
  · obtain rfl : b = v := by simpa using hb
    exact hv
end Go.Tum.P
namespace Go.Proofs.Ytccioehckfdjdaa
open Go.RowKit Go.Tum Go.Tum.Y
/-- The state, with the map and the row that it holds. -/
def poolT (c : Cfg) (seq : Int) (b : Nat) (p : P.St) : Thing :=
  exT (fun x : Nat × Value => andT (blkT b 162 (P.poolL (mapCells c) seq (.map (some x.1)) x.2 p)) (andT (mapT Try.prog 22 3 .u64 .i64 x.1 p.next.toNat p.f) (rowT 0 22 1 x.2 p.lim.length (p.lim.map (Value.int .u64)))))
theorem poolT_of {w0 w : World} {R : List Thing} {c : Cfg} {seq : Int} {b : Nat} {p : P.St} (hS : Sep w0 w (poolT c seq b p :: R)) :
    ∃ mb la lc, Sep w0 w (blkT b 162 (P.poolL (mapCells c) seq (.map (some mb)) (.slice la p.lim.length lc) p) :: mapT Try.prog 22 3 .u64 .i64 mb p.next.toNat p.f :: rowT 0 22 1 (.slice la p.lim.length lc) p.lim.length (p.lim.map (Value.int .u64)) :: R) := by
  obtain ⟨⟨mb, v⟩, h1⟩ := hS.ofEx
  have h2 := h1.ofAnd
  have h3 := (Sep.ofAnd (h2.pull 1 rfl)).sub (Ts' := _ :: _ :: _ :: R) (2 :: 0 :: 1 :: (List.range R.length).map (· + 3)) (by
    simp only [List.map_cons, List.map_map]
    refine congrArg _ (congrArg _ (congrArg _ ?_))
    apply List.ext_getElem?
    intro i
    simp only [List.getElem?_map]
    by_cases hi : i < R.length
    · simp [List.getElem?_range hi, List.getElem?_eq_getElem hi]
    · rw [List.getElem?_eq_none (by simp; omega), List.getElem?_eq_none (by omega)]; rfl) (by
    rw [List.nodup_cons, List.nodup_cons, List.nodup_cons]
    refine ⟨by simp, by simp, by simp, ?_⟩
    exact (List.nodup_range).map (f := (· + 3)) (fun a b h => by simpa using h))
  obtain ⟨la, lc, rfl⟩ := h3.form 2 rfl
  exact ⟨mb, la, lc, h3⟩
theorem poolT_to {w0 w : World} {R : List Thing} {c : Cfg} {seq : Int} {b mb n k : Nat} {v : Value} {p : P.St} (hn : n ≤ p.next.toNat) (hk : k = p.lim.length)
    (hS : Sep w0 w (blkT b 162 (P.poolL (mapCells c) seq (.map (some mb)) v p) :: mapT Try.prog 22 3 .u64 .i64 mb n p.f :: rowT 0 22 1 v k (p.lim.map (Value.int .u64)) :: R)) : Sep w0 w (poolT c seq b p :: R) := by
  subst hk
  have hS2 : Sep w0 w (blkT b 162 (P.poolL (mapCells c) seq (.map (some mb)) v p) :: mapT Try.prog 22 3 .u64 .i64 mb p.next.toNat p.f :: rowT 0 22 1 v p.lim.length (p.lim.map (Value.int .u64)) :: R) := by
    obtain ⟨fp, hp, _, hset⟩ := hS.get 1 rfl
    obtain ⟨h0, D, h1, h2⟩ := hp
    exact hset (mapT Try.prog 22 3 .u64 .i64 mb p.next.toNat p.f) w fp ⟨h0, D, h1.mono hn, h2⟩ (Fr.refl _ _) (fun q hq => .inl hq)
  have h3 := Sep.back 1 (Ts := blkT b 162 (P.poolL (mapCells c) seq (.map (some mb)) v p) :: mapT Try.prog 22 3 .u64 .i64 mb p.next.toNat p.f :: R) (T := andT (mapT Try.prog 22 3 .u64 .i64 mb p.next.toNat p.f) (rowT 0 22 1 v p.lim.length (p.lim.map (Value.int .u64)))) (by simp) (Sep.toAnd ((hS2.pull 2 rfl).pull 2 rfl))
  exact Sep.toEx (A := Nat × Value) (fun x : Nat × Value => andT (blkT b 162 (P.poolL (mapCells c) seq (.map (some x.1)) x.2 p)) (andT (mapT Try.prog 22 3 .u64 .i64 x.1 p.next.toNat p.f) (rowT 0 22 1 x.2 p.lim.length (p.lim.map (Value.int .u64))))) (a := (mb, v)) (Sep.toAnd h3)
end Go.Proofs.Ytccioehckfdjdaa
