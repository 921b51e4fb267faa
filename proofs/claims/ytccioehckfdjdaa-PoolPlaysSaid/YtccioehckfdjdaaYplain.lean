/- Where each thing stands in the shared memory: plain. -/
import Derived.Test.YtccioehckfdjdaaSep
namespace Go.Tum.Y
open Go.Tum

/-- How great everything is. -/
structure Cfg where
  t : Int
  b : Int
  w : Int
  f : Int
  fi : Int
  la : Int
deriving DecidableEq
/-- Numbers that may be. -/
structure Ok (c : Cfg) : Prop where
  t1 : 1 ≤ c.t
  t8 : c.t ≤ 8
  b1 : 1 ≤ c.b
  b64 : c.b ≤ 64
  w0 : 0 ≤ c.w
  w64 : c.w ≤ 64
  f1 : 1 ≤ c.f
  f1000 : c.f ≤ 1000
  fl : c.fi ≤ c.la
  l47 : c.la ≤ 140737488355328
instance okDec (c : Cfg) : Decidable (Ok c) :=
  if h : 1 ≤ c.t ∧ c.t ≤ 8 ∧ 1 ≤ c.b ∧ c.b ≤ 64 ∧ 0 ≤ c.w ∧ c.w ≤ 64 ∧ 1 ≤ c.f ∧ c.f ≤ 1000 ∧ c.fi ≤ c.la ∧ c.la ≤ 140737488355328 then
    isTrue ⟨h.1, h.2.1, h.2.2.1, h.2.2.2.1, h.2.2.2.2.1, h.2.2.2.2.2.1, h.2.2.2.2.2.2.1, h.2.2.2.2.2.2.2.1, h.2.2.2.2.2.2.2.2.1, h.2.2.2.2.2.2.2.2.2⟩
  else isFalse fun k => h ⟨k.t1, k.t8, k.b1, k.b64, k.w0, k.w64, k.f1, k.f1000, k.fl, k.l47⟩
def right (c : Cfg) : Bool := decide (Ok c)

def limit (c : Cfg) : Int := c.t * (c.w + 1)
def cap (c : Cfg) : Int := c.t * (c.w + 3) + 3 * limit c + 2
def stride (c : Cfg) : Int := 8 + cap c
def fTag (c : Cfg) : Int := 1 + c.t * stride c
def fRoot (c : Cfg) : Int := fTag c + c.t * 3
def fLife (c : Cfg) : Int := fRoot c + 16
def fTop (c : Cfg) : Int := fLife c + c.b
def fStack (c : Cfg) : Int := fTop c + 1
def fLim (c : Cfg) : Int := fStack c + c.b
def fLimbo (c : Cfg) : Int := fLim c + 1
def fWord (c : Cfg) : Int := fLimbo c + limit c
def size (c : Cfg) : Int := fWord c + c.b * 8
/-- The map, as it stands in memory. -/
def mapCells (c : Cfg) : List Value :=
  [.int .i64 c.t, .int .i64 c.b, .int .i64 c.w, .int .i64 c.f, .int .u64 c.fi, .int .u64 c.la,
    .int .i64 0, .int .i64 0, .int .i64 0, .int .i64 0, .int .i64 0, .int .i64 0, .int .i64 0, .int .i64 (fTag c), .int .i64 0, .int .i64 0,
    .int .i64 (fRoot c), .int .i64 (fLife c), .int .i64 (fTop c), .int .i64 (fStack c), .int .i64 (fLim c), .int .i64 (fLimbo c), .int .i64 (fWord c), .int .i64 (size c)]
def cfgV (c : Cfg) : Value := .agg #[.int .i64 c.t, .int .i64 c.b, .int .i64 c.w, .int .i64 c.f, .int .u64 c.fi, .int .u64 c.la]
def mapV (c : Cfg) : Value := .agg (mapCells c).toArray

theorem mul_bd {x y : Int} {a b : Int} (hx : 0 ≤ x) (hy : 0 ≤ y) (ha : x ≤ a) (hb : y ≤ b) : 0 ≤ x * y ∧ x * y ≤ a * b :=
  ⟨Int.mul_nonneg hx hy, Int.mul_le_mul ha hb hy (by omega)⟩
theorem limit_bd {c : Cfg} (h : Ok c) : 0 ≤ c.t * (c.w + 1) ∧ c.t * (c.w + 1) ≤ 520 := by
  have h1 := h.t1; have h2 := h.t8; have h3 := h.w0; have h4 := h.w64
  have := mul_bd (x := c.t) (y := c.w + 1) (a := 8) (b := 65) (by omega) (by omega) h2 (by omega)
  omega
theorem t3_bd {c : Cfg} (h : Ok c) : 0 ≤ c.t * (c.w + 3) ∧ c.t * (c.w + 3) ≤ 536 := by
  have h1 := h.t1; have h2 := h.t8; have h3 := h.w0; have h4 := h.w64
  have := mul_bd (x := c.t) (y := c.w + 3) (a := 8) (b := 67) (by omega) (by omega) h2 (by omega)
  omega
theorem limit_pos {c : Cfg} (h : Ok c) : 1 ≤ limit c ∧ limit c ≤ 520 := by
  have h1 := h.t1; have h3 := h.w0
  have h2 := limit_bd h
  have h4 : 1 * 1 ≤ c.t * (c.w + 1) := Int.mul_le_mul h1 (by omega) (by omega) (by omega)
  unfold limit; omega
theorem cap_bd {c : Cfg} (h : Ok c) : 5 ≤ cap c ∧ cap c ≤ 2098 := by
  have h1 := limit_pos h; have h2 := t3_bd h
  unfold cap; omega
theorem stride_bd {c : Cfg} (h : Ok c) : 13 ≤ stride c ∧ stride c ≤ 2106 := by
  have := cap_bd h; unfold stride; omega
theorem ts_bd {c : Cfg} (h : Ok c) : 13 ≤ c.t * stride c ∧ c.t * stride c ≤ 16848 := by
  have h1 := h.t1; have h2 := h.t8; have h3 := stride_bd h
  have h4 := mul_bd (x := c.t) (y := stride c) (a := 8) (b := 2106) (by omega) (by omega) h2 (by omega)
  have h5 : 1 * 13 ≤ c.t * stride c := Int.mul_le_mul h1 (by omega) (by omega) (by omega)
  omega
/-- All places, in a row. -/
structure Bds (c : Cfg) : Prop where
  tag : 14 ≤ fTag c ∧ fTag c ≤ 16849
  root : fRoot c = fTag c + c.t * 3
  life : fLife c = fRoot c + 16
  top : fTop c = fLife c + c.b
  stack : fStack c = fTop c + 1
  lim : fLim c = fStack c + c.b
  limbo : fLimbo c = fLim c + 1
  word : fWord c = fLimbo c + limit c
  size_ : size c = fWord c + c.b * 8
theorem bds {c : Cfg} (h : Ok c) : Bds c := ⟨by have := ts_bd h; unfold fTag; omega, rfl, rfl, rfl, rfl, rfl, rfl, rfl, rfl⟩
theorem size_bd {c : Cfg} (h : Ok c) : 0 ≤ size c ∧ size c ≤ 18100 := by
  have h1 := bds h; have h2 := limit_pos h; have := h.t1; have := h.t8; have := h.b1; have := h.b64
  have := h1.tag; have := h1.root; have := h1.life; have := h1.top; have := h1.stack; have := h1.lim; have := h1.limbo; have := h1.word; have := h1.size_
  omega
end Go.Tum.Y
