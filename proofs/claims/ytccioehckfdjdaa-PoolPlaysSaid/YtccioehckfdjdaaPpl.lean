/- Plain: a pool and a set, beside the document's, behind acts. -/
import Derived.Test.YtccioehckfdjdaaMPrs
set_option linter.unusedSimpArgs false
set_option linter.unusedVariables false
namespace Go.Tum.P
open Go.Tum.Y Go.Tum Go.Tum.W
/-- A pool and a set that stand as the document's do. -/
structure PP (c : Cfg) (R : Nat) (wt wl : Int) (p : St) (s : S) (top nl : Int) (q : List (Int × Int)) : Prop where
  like : Like p top nl wt wl
  rep : Rep s R q
  top : 0 ≤ top ∧ top ≤ c.b
  nl : 0 ≤ nl ∧ nl ≤ limit c
theorem PP.take {c : Cfg} (hok : Y.Ok c) {R : Nat} {wt wl : Int} {p : St} {s : S} {top nl : Int} {q : List (Int × Int)} (h : PP c R wt wl p s top nl q) (b : Int) :
    PP c R wt wl (take c b p s).1 (take c b p s).2 (rtakeP c b R top q).1 nl (rtakeP c b R top q).2 := by
  obtain ⟨h1, h2⟩ := take_like hok h.rep h.like b
  have ha := take_acts c b p s
  refine ⟨h1, h2, ?_, h.nl⟩
  have e1 := h1.top; have e2 := h.like.top
  have := ha.nt; have := ha.nt0; have := h.top
  omega
theorem PP.give {c : Cfg} (hok : Y.Ok c) {R : Nat} {wt wl : Int} {p : St} {s : S} {top nl : Int} {q : List (Int × Int)} (h : PP c R wt wl p s top nl q) (b : Int) :
    PP c R wt wl (give c b p s).1 (give c b p s).2 top (rgiveP c b R nl q).1 (rgiveP c b R nl q).2 := by
  obtain ⟨h1, h2⟩ := give_like hok h.rep h.like b
  have ha := give_acts c b p s
  refine ⟨h1, h2, h.top, ?_⟩
  have e1 := h1.nl; have e2 := h.like.nl
  have := ha.nl; have := ha.nlm; have := h.nl
  omega
theorem PP.back {c : Cfg} {R : Nat} {wt wl : Int} {p : St} {s : S} {top nl : Int} {q : List (Int × Int)} (h : PP c R wt wl p s top nl q) {mt ml : Int} (h1 : 0 ≤ mt ∧ mt ≤ c.b) (h2 : 0 ≤ ml ∧ ml ≤ limit c) (a : Int) :
    PP c R wt wl { p with nt := mt, nl := ml } (W.back s a).1 mt ml (rback q a).1 :=
  ⟨⟨rfl, rfl, h.like.wt, h.like.wl⟩, (rep_back h.rep a).2, h1, h2⟩
theorem rtakeP_len (c : Cfg) (b : Int) (R : Nat) (top : Int) (q : List (Int × Int)) : (rtakeP c b R top q).2.length ≤ q.length + 9 := by
  unfold rtakeP
  split
  · dsimp only; omega
  · have h1 := rwipe_len c b R (rp1 R q (at_ c 11 b 0) 1) 8
    have h2 := rp1_len R q (at_ c 11 b 0) 1
    dsimp only; omega
theorem rgiveP_len (c : Cfg) (b : Int) (R : Nat) (nl : Int) (q : List (Int × Int)) : (rgiveP c b R nl q).2.length ≤ q.length + 2 := by
  unfold rgiveP
  split
  · dsimp only; omega
  · have h1 := rp1_len R q (at_ c 11 b 0) 2
    have h2 := rp1_len R (rp1 R q (at_ c 11 b 0) 2) (at_ c 15 nl 0) b
    dsimp only; omega
theorem rback_len (q : List (Int × Int)) (a : Int) : (rback q a).1.length ≤ q.length := by
  unfold rback
  split
  · exact Nat.le_refl _
  · simp
    omega
theorem rsettleG_len (c : Cfg) (ns : List Int) (R : Nat) : ∀ (L : List Int) (k top nl : Int) (q : List (Int × Int)), (rsettleG c ns R L k top nl q).2.2.length ≤ q.length + 2 * L.length
  | [], _, _, _, _ => Nat.le_refl _
  | b :: L, k, top, nl, q => by
    unfold rsettleG
    have h1 := rp1_len R q (at_ c 15 nl 0) b
    have h2 := rp1_len R q (at_ c 11 b 0) 0
    have h3 := rp1_len R (rp1 R q (at_ c 11 b 0) 0) (at_ c 13 top 0) b
    rw [List.length_cons]
    split
    · have := rsettleG_len c ns R L (k + 1) top nl q; omega
    · split
      · split
        · have := rsettleG_len c ns R L (k + 1) top (nl + 1) (rp1 R q (at_ c 15 nl 0) b); omega
        · have := rsettleG_len c ns R L (k + 1) top (nl + 1) q; omega
      · split
        · have := rsettleG_len c ns R L (k + 1) (top + 1) nl (rp1 R (rp1 R q (at_ c 11 b 0) 0) (at_ c 13 top 0) b); omega
        · have := rsettleG_len c ns R L (k + 1) top nl (rp1 R q (at_ c 11 b 0) 0); omega
theorem rsettleG_bd (c : Cfg) (ns : List Int) (R : Nat) : ∀ (L : List Int) (k top nl : Int) (q : List (Int × Int)), 0 ≤ top ∧ top ≤ c.b → 0 ≤ nl → (0 ≤ (rsettleG c ns R L k top nl q).1 ∧ (rsettleG c ns R L k top nl q).1 ≤ c.b) ∧ 0 ≤ (rsettleG c ns R L k top nl q).2.1 ∧ (rsettleG c ns R L k top nl q).2.1 ≤ nl + L.length
  | [], _, _, _, _, h1, h2 => ⟨h1, h2, by simp [rsettleG]⟩
  | b :: L, k, top, nl, q, h1, h2 => by
    unfold rsettleG
    rw [List.length_cons]
    split
    · have := rsettleG_bd c ns R L (k + 1) top nl q h1 h2; omega
    · split
      · split
        · have := rsettleG_bd c ns R L (k + 1) top (nl + 1) (rp1 R q (at_ c 15 nl 0) b) h1 (by omega); omega
        · have := rsettleG_bd c ns R L (k + 1) top (nl + 1) q h1 (by omega); omega
      · split
        · have := rsettleG_bd c ns R L (k + 1) (top + 1) nl (rp1 R (rp1 R q (at_ c 11 b 0) 0) (at_ c 13 top 0) b) (by omega) h2; omega
        · have := rsettleG_bd c ns R L (k + 1) top nl (rp1 R q (at_ c 11 b 0) 0) h1 h2; omega
theorem PP.settle {c : Cfg} {R : Nat} {p : St} (hp : Ok c p) {ns : List Int} (hf : p.f = bumps (fun _ => 0) ns) :
    PP c R p.wt p.wl (settle c p ⟨R, [], []⟩).1 (settle c p ⟨R, [], []⟩).2 (rsettleG c ns R p.lim 0 p.nt 0 []).1 (rsettleG c ns R p.lim 0 p.nt 0 []).2.1 (rsettleG c ns R p.lim 0 p.nt 0 []).2.2 := by
  obtain ⟨h1, h2⟩ := settle_like (c := c) (R := R) (top := p.nt) (nl := p.nl) (wt := p.wt) (wl := p.wl) hf (rep_new R) ⟨rfl, rfl, rfl, rfl⟩
  have h3 := rsettleG_bd c ns R p.lim 0 p.nt 0 [] hp.nt (Int.le_refl _)
  have := hp.len; have := hp.wl
  exact ⟨h1, h2, h3.1, h3.2.1, by omega⟩
end Go.Tum.P
