/- Several texts in one: Wrep, Wslot, Wclose. -/
import Derived.Test.YtccioehckfdjdaaWplain
import Derived.Test.YtccioehckfdjdaaRows
import Derived.Deep.QuietTactic
import Derived.BigQuiet
import Derived.Deep.LoopGhost
import Derived.Outline
import Derived.Test.YtccioehckfdjdaaMBase
/- How a *wset.Set lies in memory. -/
section
namespace Go.Tum.W
open Go.Tum Go.RowKit

/-- Entries, and changes, as cells. -/
def ents (l : List (Int × Int)) : List Value := l.flatMap fun e => [.int .i64 e.1, .int .u64 e.2]
def chs (l : List (Int × Int × Bool)) : List Value := l.flatMap fun c => [.int .i64 c.1, .int .u64 c.2.1, .bool c.2.2]

theorem ents_append (l l' : List (Int × Int)) : ents (l ++ l') = ents l ++ ents l' := List.flatMap_append
theorem chs_append (l l' : List (Int × Int × Bool)) : chs (l ++ l') = chs l ++ chs l' := List.flatMap_append
theorem ents_length (l : List (Int × Int)) : (ents l).length = l.length * 2 := by
  induction l with
  | nil => rfl
  | cons a l ih => simp only [ents, List.flatMap_cons, List.length_append] at *; simp [ih]; omega
theorem chs_length (l : List (Int × Int × Bool)) : (chs l).length = l.length * 3 := by
  induction l with
  | nil => rfl
  | cons a l ih => simp only [chs, List.flatMap_cons, List.length_append] at *; simp [ih]; omega
theorem ents_take (l : List (Int × Int)) : ∀ n, (ents l).take (n * 2) = ents (l.take n) := by
  induction l with
  | nil => intro n; simp [ents]
  | cons a l ih =>
    intro n
    cases n with
    | zero => simp [ents]
    | succ n =>
      have := ih n
      simp only [ents, List.flatMap_cons, List.take_succ_cons] at *
      rw [show (n + 1) * 2 = n * 2 + 1 + 1 from by omega]
      simpa using this
theorem chs_take (l : List (Int × Int × Bool)) : ∀ n, (chs l).take (n * 3) = chs (l.take n) := by
  induction l with
  | nil => intro n; simp [chs]
  | cons a l ih =>
    intro n
    cases n with
    | zero => simp [chs]
    | succ n =>
      have := ih n
      simp only [chs, List.flatMap_cons, List.take_succ_cons] at *
      rw [show (n + 1) * 3 = n * 3 + 1 + 1 + 1 from by omega]
      simpa using this
theorem ents_get (l : List (Int × Int)) : ∀ i (hi : i < l.length), (ents l)[i * 2]? = some (.int .i64 l[i].1) ∧ (ents l)[i * 2 + 1]? = some (.int .u64 l[i].2) := by
  induction l with
  | nil => intro i hi; simp at hi
  | cons a l ih =>
    intro i hi
    cases i with
    | zero => simp [ents]
    | succ i =>
      have := ih i (by simpa using hi)
      simp only [ents, List.flatMap_cons] at *
      rw [show (i + 1) * 2 = i * 2 + 1 + 1 from by omega]
      simpa using this
theorem chs_get (l : List (Int × Int × Bool)) : ∀ i (hi : i < l.length), (chs l)[i * 3]? = some (.int .i64 l[i].1) ∧ (chs l)[i * 3 + 1]? = some (.int .u64 l[i].2.1) ∧ (chs l)[i * 3 + 2]? = some (.bool l[i].2.2) := by
  induction l with
  | nil => intro i hi; simp at hi
  | cons a l ih =>
    intro i hi
    cases i with
    | zero => simp [chs]
    | succ i =>
      have := ih i (by simpa using hi)
      simp only [chs, List.flatMap_cons] at *
      rw [show (i + 1) * 3 = i * 3 + 1 + 1 + 1 from by omega]
      simpa using this
theorem ents_set (l : List (Int × Int)) : ∀ i v, (ents l).set (i * 2 + 1) (.int .u64 v) = ents (l.set i ((l.getD i (0, 0)).1, v)) := by
  induction l with
  | nil => intro i v; simp [ents]
  | cons a l ih =>
    intro i v
    cases i with
    | zero => simp [ents]
    | succ i =>
      have := ih i v
      simp only [ents, List.flatMap_cons, List.set_cons_succ] at *
      rw [show (i + 1) * 2 + 1 = (i * 2 + 1) + 1 + 1 from by omega]
      simpa using this

/-- A *Set at block b, its three slices, its table. -/
structure SetAt (w : World) (base b : Nat) (vl vt vd : Value) (m : Nat) (tab : List Int) (pos : Nat → Nat) (s : S) : Prop where
  hb : base ≤ b
  blk : Blk w b 168 [.int .i64 s.room, vl, vt, vd]
  rlist : w.ownsRow base 136 2 vl s.list.length (ents s.list)
  rtab : w.ownsRow base 3 1 vt m (tab.map (Value.int .i64))
  rdone : w.ownsRow base 174 3 vd s.done.length (chs s.done)
  ok : TabOK m tab s.list pos
  room : s.room ≤ 65536
  few : s.list.length ≤ s.room
  big : 2 * s.room ≤ m
  two : 2 ≤ m
  bl : vl.ownBlock ≠ some b
  bt : vt.ownBlock ≠ some b
  bd : vd.ownBlock ≠ some b
  lt : vl.ownBlock = none ∨ vl.ownBlock ≠ vt.ownBlock
  ld : vl.ownBlock = none ∨ vl.ownBlock ≠ vd.ownBlock
  dt : vd.ownBlock = none ∨ vd.ownBlock ≠ vt.ownBlock

theorem SetAt.vt_form {w : World} {base b : Nat} {vl vt vd : Value} {m : Nat} {tab : List Int} {pos : Nat → Nat} {s : S} (h : SetAt w base b vl vt vd m tab pos s) :
    ∃ bt c, vt = .slice (some ⟨bt, 0, none⟩) m c ∧ bt < w.heap.size ∧ base ≤ bt ∧ m ≤ c ∧ c ≤ maxLen := by
  rcases ownsRow_form h.rtab with ⟨_, h0⟩ | ⟨g, cap, h1, h2, h3, h4⟩
  · have := h.two; omega
  · exact ⟨g, cap, h1, h2, h3, h4⟩

theorem SetAt.vl_form {w : World} {base b : Nat} {vl vt vd : Value} {m : Nat} {tab : List Int} {pos : Nat → Nat} {s : S} (h : SetAt w base b vl vt vd m tab pos s) (hp : 0 < s.list.length) :
    ∃ bl c, vl = .slice (some ⟨bl, 0, none⟩) s.list.length c ∧ bl < w.heap.size ∧ base ≤ bl ∧ s.list.length ≤ c ∧ c ≤ maxLen := by
  rcases ownsRow_form h.rlist with ⟨_, h0⟩ | ⟨g, cap, h1, h2, h3, h4⟩
  · omega
  · exact ⟨g, cap, h1, h2, h3, h4⟩

theorem SetAt.drewN {w : World} {base b : Nat} {vl vt vd : Value} {m : Nat} {tab : List Int} {pos : Nat → Nat} {s : S} (h : SetAt w base b vl vt vd m tab pos s) (n : Nat) :
    SetAt (w.drewN n) base b vl vt vd m tab pos s :=
  { h with blk := h.blk.drewN n, rlist := ownsRow_fr h.rlist ((Fr.refl [] w).drewN n) (fun _ _ => by simp), rtab := ownsRow_fr h.rtab ((Fr.refl [] w).drewN n) (fun _ _ => by simp), rdone := ownsRow_fr h.rdone ((Fr.refl [] w).drewN n) (fun _ _ => by simp) }

/-- What the places hold, for the walk. -/
theorem SetAt.tab_cell {w : World} {base b : Nat} {vl vd : Value} {m bt c : Nat} {tab : List Int} {pos : Nat → Nat} {s : S} (h : SetAt w base b vl (.slice (some ⟨bt, 0, none⟩) m c) vd m tab pos s)
    {k : Nat} {x : Int} (hk : tab[k]? = some x) : w.cell? ⟨bt, k, none⟩ = some (.int .i64 x) :=
  ownsRow_cell h.rtab k _ (by simp [hk])

theorem SetAt.list_cell {w : World} {base b : Nat} {vt vd : Value} {m bl c : Nat} {tab : List Int} {pos : Nat → Nat} {s : S} (h : SetAt w base b (.slice (some ⟨bl, 0, none⟩) s.list.length c) vt vd m tab pos s)
    {i : Nat} (hi : i < s.list.length) : w.cell? ⟨bl, i * 2, none⟩ = some (.int .i64 s.list[i].1) ∧ w.cell? ⟨bl, i * 2 + 1, none⟩ = some (.int .u64 s.list[i].2) :=
  ⟨ownsRow_cell h.rlist _ _ (ents_get _ i hi).1, ownsRow_cell h.rlist _ _ (ents_get _ i hi).2⟩

end Go.Tum.W
end

/- The walk of (*wset.Set).slot: it tells the place of a cell in the table. -/
section
namespace Go.Proofs.Ytccioehckfdjdaa
open Go.RowKit Go.Tum Go.Tum.W

def SlotPost (w : World) (m : Nat) (tab : List Int) (l : List (Int × Int)) (pos : Nat → Nat) (a : Int) (e : Ending) (w' : World) : Prop :=
  ∃ k n : Nat, e = .returned (.int .i64 k) ∧ Slot m tab l pos a k ∧ w' = w.drewN n

def SlotRel (w : World) (m : Nat) (l : List (Int × Int)) (pos : Nat → Nat) (a : Int) (D g : Nat) (v : Value) (wr : World) : Prop :=
  ∃ d q : Nat, g + d = D ∧ v = .int .i64 (((hash m a + d) % m : Nat) : Int) ∧ (∀ d', d' < d → ∃ j, ∃ hj : j < l.length, pos j = (hash m a + d') % m ∧ l[j].1 ≠ a) ∧ wr = w.drewN q

set_option maxHeartbeats 400000 in
theorem slot_any (base b : Nat) (a : Int) (w : World) (vl vt vd : Value) (m : Nat) (tab : List Int) (pos : Nat → Nat) (s : S) (h : SetAt w base b vl vt vd m tab pos s) :
    Calls Try.prog 107 #[.pointer (some ⟨b, 0, none⟩), .int .i64 a] w (SlotPost w m tab s.list pos a) := by
  obtain ⟨bt, c, rfl, hbt, hb2, hmc, hcm⟩ := h.vt_form
  have hm0 := h.ok.pos0
  have hm1 := h.ok.bound
  have h1 := h.blk.cell 1
  have h2 := h.blk.cell 2
  simp only [List.getElem?_cons_succ, List.getElem?_cons_zero] at h1 h2
  unfold maxLen at hcm
  obtain ⟨hh1, hh2⟩ := hash_spec m a hm0 hm1
  obtain ⟨D, hD, hDf⟩ := h.ok.free (hash m a)
  have H := Lib.hid h; clear h
  have HF := Lib.hid hDf; clear hDf
  have HH := Lib.hid hh1; clear hh1
  have HL := Lib.hid hh2; clear hh2
  go_enter Try.func107, Try.ntmps107
  go_wp2
  go_loopg [6] D (fun g v wr => SlotRel w m s.list pos a D g v wr)
  case atStart => exact ⟨0, 0, rfl, by rw [HH.out, Nat.add_zero, Nat.mod_eq_of_lt HL.out], fun _ h => by omega, rfl⟩
  case round =>
    obtain ⟨d, q, hg, rfl, hw, rfl⟩ := hrel
    have HW := Lib.hid hw; clear hw
    have HG := Lib.hid hg; clear hg
    have hkm : (hash m a + d) % m < m := Nat.mod_lt _ hm0
    have HS : Hid (((hash m a + d) % m + 1) % m = (hash m a + (d + 1)) % m) := by rw [Nat.mod_add_mod]; rfl
    have HK : Hid (∀ x, x = (hash m a + d) % m → Slot m tab s.list pos a x → Slot m tab s.list pos a ((hash m a + d) % m)) := fun x e h => e ▸ h
    have HdD : d ≤ D := by have := HG.out; omega
    have hon := H.out.ok.only ((hash m a + d) % m) hkm
    have HZ : Hid (tab[(hash m a + d) % m]? = some 0 → Slot m tab s.list pos a ((hash m a + d) % m)) := fun h0 => H.out.ok.slot_zero (by omega) HW.out h0
    have HN : Hid (d = D → tab[(hash m a + d) % m]? = some 0) := fun e => by rw [e]; exact HF.out
    generalize hk : (hash m a + d) % m = k at *
    have HKE := Lib.hid hk; clear hk
    rcases hon with h0 | ⟨i, hi, hp⟩
    · have htc := H.out.tab_cell h0
      have HZ' := Lib.hid (HZ.out h0)
      clear h0
      go_wp2
      go_quiet (fail)
      go_wp2
      go_ret
      exact ⟨k, _, rfl, HZ'.out, World.drewN_drewN _ _ _⟩
    · obtain ⟨bl, c', rfl, hbl, _, hlc, _⟩ := H.out.vl_form (by omega)
      have hti := H.out.ok.at_ i hi
      rw [hp] at hti
      have htc := H.out.tab_cell hti
      have hlc1 := (H.out.list_cell hi).1
      have hnz : (((i : Int) + 1) != 0) = true := by simp; omega
      have hii : ((i : Int) + 1) - 1 = i := by omega
      have hll : s.list.length ≤ 1000000 := by have := H.out.ok.few; omega
      have HP := Lib.hid hp; clear hp
      have HT := Lib.hid hti; clear hti
      by_cases he : s.list[i].1 = a
      · have hxe : (s.list[i].1 != a) = false := by simp [he]
        have HS2 : Hid (Slot m tab s.list pos a k) := by have := H.out.ok.slot_hit hi he; rw [HP.out] at this; exact this
        have HE := Lib.hid he; clear he
        go_wp2
        go_quiet (fail)
        go_wp2
        go_ret
        exact ⟨k, _, rfl, HS2.out, World.drewN_drewN _ _ _⟩
      · have hxe : (s.list[i].1 != a) = true := by simp [he]
        have HE := Lib.hid he; clear he
        have HB : Hid (bits BinOp.and IntKind.i64 (((k : Nat) : Int) + 1) ((m : Int) - 1) = (((k + 1) % m : Nat) : Int)) := by
          obtain ⟨p, hp⟩ := H.out.ok.pow
          have := and_i64_mask (k + 1) m p hp (by omega) (by omega)
          have e : (((k + 1 : Nat)) : Int) = (k : Int) + 1 := by omega
          rw [e] at this
          exact this
        go_wp2
        go_quiet (fail)
        go_wp2
        go_roundg (gk - 1)
        case measure =>
          have : d ≠ D := fun e => by
            have h1 := HN.out e
            rw [HT.out] at h1
            simp at h1
            omega
          have := HG.out
          omega
        case rel =>
          have hne : d ≠ D := fun e => by
            have h1 := HN.out e
            rw [HT.out] at h1
            simp at h1
            omega
          have hgg := HG.out
          refine ⟨d + 1, _, by omega, by rw [HB.out, HS.out], ?_, rfl⟩
          intro d' hd'
          by_cases e : d' = d
          · subst e; exact ⟨i, hi, by rw [HP.out, HKE.out], HE.out⟩
          · exact HW.out d' (by omega)
end Go.Proofs.Ytccioehckfdjdaa
end

/- What Put and Back make of a *Set in memory, stated of worlds alone. -/
section
namespace Go.Tum.W
open Go.Tum Go.RowKit

def fpOf (b : Nat) (vl vt vd : Value) : List Nat := b :: (vl.ownBlock.toList ++ vt.ownBlock.toList ++ vd.ownBlock.toList)
theorem mem_fpOf {b : Nat} {vl vt vd : Value} {k : Nat} : k ∈ fpOf b vl vt vd ↔ k = b ∨ vl.ownBlock = some k ∨ vt.ownBlock = some k ∨ vd.ownBlock = some k := by
  simp [fpOf]

/-- A *Set at block b that owns the blocks fp. -/
def IsSet (w : World) (base b : Nat) (fp : List Nat) (s : S) : Prop :=
  ∃ vl vt vd m tab pos, SetAt w base b vl vt vd m tab pos s ∧ fp = fpOf b vl vt vd

theorem SetAt.lt_fp {w : World} {base b : Nat} {vl vt vd : Value} {m : Nat} {tab : List Int} {pos : Nat → Nat} {s : S} (h : SetAt w base b vl vt vd m tab pos s) :
    ∀ k ∈ fpOf b vl vt vd, base ≤ k ∧ k < w.heap.size := by
  intro k hk
  rcases mem_fpOf.1 hk with rfl | h1 | h1 | h1
  · exact ⟨h.hb, h.blk.lt⟩
  · exact h.rlist.lt k h1
  · exact h.rtab.lt k h1
  · exact h.rdone.lt k h1

theorem IsSet.lt {w : World} {base b : Nat} {fp : List Nat} {s : S} (h : IsSet w base b fp s) : ∀ k ∈ fp, base ≤ k ∧ k < w.heap.size := by
  obtain ⟨vl, vt, vd, m, tab, pos, hs, rfl⟩ := h
  exact hs.lt_fp

theorem SetAt.fr {fp : List Nat} {w w' : World} {base b : Nat} {vl vt vd : Value} {m : Nat} {tab : List Int} {pos : Nat → Nat} {s : S} (h : SetAt w base b vl vt vd m tab pos s) (f : Fr fp w w')
    (hn : ∀ k ∈ fpOf b vl vt vd, k ∉ fp) : SetAt w' base b vl vt vd m tab pos s :=
  { h with
    blk := h.blk.fr f (hn b (mem_fpOf.2 (.inl rfl)))
    rlist := ownsRow_fr h.rlist f (fun k e => hn k (mem_fpOf.2 (.inr (.inl e))))
    rtab := ownsRow_fr h.rtab f (fun k e => hn k (mem_fpOf.2 (.inr (.inr (.inl e)))))
    rdone := ownsRow_fr h.rdone f (fun k e => hn k (mem_fpOf.2 (.inr (.inr (.inr e))))) }

/-- A set stays what it is where nothing of its own is turned. -/
theorem IsSet.fr {fp fp' : List Nat} {w w' : World} {base b : Nat} {s : S} (h : IsSet w base b fp s) (f : Fr fp' w w') (hn : ∀ k ∈ fp, k ∉ fp') : IsSet w' base b fp s := by
  obtain ⟨vl, vt, vd, m, tab, pos, hs, rfl⟩ := h
  exact ⟨vl, vt, vd, m, tab, pos, hs.fr f hn, rfl⟩

/-- What a step of a set leaves: the set, what it owns now, the rest of memory. -/
def SetStep (w w' : World) (base b : Nat) (fp : List Nat) (s' : S) : Prop :=
  ∃ fp', IsSet w' base b fp' s' ∧ Fr fp w w' ∧ ∀ k ∈ fp', k ∈ fp ∨ w.heap.size ≤ k

/-- An entry that is there is turned. -/
theorem put_hit_close {w W0 w1 : World} {base b bl cl : Nat} {vt vd : Value} {m : Nat} {tab : List Int} {pos : Nat → Nat} {s : S} {a v old : Int} {i : Nat} {g c' : Nat}
    (h : SetAt w base b (.slice (some ⟨bl, 0, none⟩) s.list.length cl) vt vd m tab pos s) (hx : idx s.list a = some i) (hi : i < s.list.length) (ho : s.list[i].2 = old)
    (hf : Fr [] w W0) (hg : W0.grownBy w1 vd.ownBlock)
    (hd : w1.ownsRow base 174 3 (.slice (some ⟨g, 0, none⟩) (s.done.length + 1) c') (s.done.length + 1) (chs s.done ++ [.int .i64 (i : Int), .int .u64 old, .bool false]))
    (hgg : vd.ownBlock = some g ∨ w.heap.size ≤ g) :
    SetStep w ((w1.setCell ⟨b, 3, none⟩ (.slice (some ⟨g, 0, none⟩) (s.done.length + 1) c')).setCell ⟨bl, i * 2 + 1, none⟩ (.int .u64 v)) base b (fpOf b (.slice (some ⟨bl, 0, none⟩) s.list.length cl) vt vd) (put s a v).1 := by
  have hbl : bl < w.heap.size := (h.rlist.lt bl rfl).2
  have hblt := h.blk.lt
  have hnb : vd.ownBlock ≠ some b := h.bd
  have hblb : bl ≠ b := fun e => h.bl (by simp [Value.ownBlock, e])
  have hgb : g ≠ b := by rcases hgg with e | e; (intro e2; subst e2; exact hnb e); omega
  have hgbl : g ≠ bl := by
    rcases hgg with e | e
    · intro e2; subst e2
      rcases h.ld with e3 | e3
      · simp [Value.ownBlock] at e3
      · exact e3 (by rw [e]; rfl)
    · omega
  have hput : put s a v = ({ s with list := s.list.set i (a, v), done := s.done ++ [((i : Int), old, false)] }, 0) := by
    simp [put, hx, ← ho, List.getD, List.getElem?_eq_getElem hi]
  rw [hput]
  have hai : s.list[i].1 = a := (idx_some hx).2
  have hset : s.list.set i (a, v) = s.list.set i ((s.list.getD i (0, 0)).1, v) := by
    simp [List.getD, List.getElem?_eq_getElem hi, hai]
  have hld : vd.ownBlock ≠ some bl := fun e => by
    rcases h.ld with e3 | e3
    · simp [Value.ownBlock] at e3
    · exact e3 (by rw [e]; rfl)
  have htd : vt.ownBlock ≠ vd.ownBlock := fun e => by
    rcases h.dt with e3 | e3
    · obtain ⟨bt, c, rfl, _⟩ := h.vt_form
      rw [e3] at e; simp [Value.ownBlock] at e
    · exact e3 e.symm
  have htl : vt.ownBlock ≠ some bl := fun e => by
    rcases h.lt with e3 | e3
    · simp [Value.ownBlock] at e3
    · exact e3 (by rw [e]; rfl)
  refine ⟨_, ⟨.slice (some ⟨bl, 0, none⟩) s.list.length cl, vt, .slice (some ⟨g, 0, none⟩) (s.done.length + 1) c', m, tab, pos, ?_, rfl⟩, ?_, ?_⟩
  · refine ⟨h.hb, ?_, ?_, ?_, ?_, ?_, h.room, by simpa using h.few, h.big, h.two, h.bl, h.bt, by simpa [Value.ownBlock] using hgb, h.lt, .inr (by simpa [Value.ownBlock] using Ne.symm hgbl), .inr ?_⟩
    · exact (((h.blk.fr hf (by simp)).grown hg (fun e => hnb e.symm)).set 3 _).setOther _ (Ne.symm hblb)
    · have h1 := ownsRow_fr h.rlist hf (fun _ _ => by simp)
      have h2 := h1.kept hg (.inr (by simpa [Value.ownBlock] using Ne.symm hld))
      have h3 := ownsRow_setCell h2 (a := ⟨b, 3, none⟩) (by simpa [Value.ownBlock] using hblb) (.slice (some ⟨g, 0, none⟩) (s.done.length + 1) c')
      have h4 := ownsRow_set h3 (i * 2 + 1) (.int .u64 v)
      rw [ents_set, ← hset] at h4
      simpa using h4
    · have h1 := ownsRow_fr h.rtab hf (fun _ _ => by simp)
      have h2 := h1.kept hg (.inr htd)
      exact ownsRow_setCell (ownsRow_setCell h2 (a := ⟨b, 3, none⟩) h.bt _) (a := ⟨bl, i * 2 + 1, none⟩) htl _
    · have h1 := ownsRow_setCell (ownsRow_setCell hd (a := ⟨b, 3, none⟩) (by simpa [Value.ownBlock] using hgb) (.slice (some ⟨g, 0, none⟩) (s.done.length + 1) c')) (a := ⟨bl, i * 2 + 1, none⟩) (by simpa [Value.ownBlock] using hgbl) (.int .u64 v)
      simpa [chs] using h1
    · rw [hset]; exact h.ok.set i v
    · intro e
      rcases hgg with e1 | e1
      · exact htd (by rw [← e, e1]; rfl)
      · have := (h.rtab.lt g (by rw [← e]; rfl)).2; omega
  · refine ((((hf.mono (fun _ h => by simp at h)).grown hg (fun k e => .inl (mem_fpOf.2 (.inr (.inr (.inr e)))))).setCell (p := ⟨b, 3, none⟩) (.inl (mem_fpOf.2 (.inl rfl))) _).setCell (p := ⟨bl, i * 2 + 1, none⟩) (.inl (mem_fpOf.2 (.inr (.inl rfl)))) _)
  · intro k hk
    rcases mem_fpOf.1 hk with e | e | e | e
    · exact .inl (mem_fpOf.2 (.inl e))
    · exact .inl (mem_fpOf.2 (.inr (.inl e)))
    · exact .inl (mem_fpOf.2 (.inr (.inr (.inl e))))
    · simp [Value.ownBlock] at e
      subst e
      rcases hgg with e1 | e1
      · exact .inl (mem_fpOf.2 (.inr (.inr (.inr e1))))
      · exact .inr e1

/-- A new entry. -/
theorem put_new_close {w W0 w1 W2 w3 : World} {base b bt ct : Nat} {vl vd : Value} {m : Nat} {tab : List Int} {pos : Nat → Nat} {s : S} {a v : Int} {k g c' g2 c2 : Nat}
    (h : SetAt w base b vl (.slice (some ⟨bt, 0, none⟩) m ct) vd m tab pos s) (hx : idx s.list a = none) (hroom : s.list.length < s.room)
    (hk : k < m) (h0 : tab[k]? = some 0) (hw : ∃ d, d < m ∧ k = (hash m a + d) % m ∧ ∀ d', d' < d → ∃ j, j < s.list.length ∧ pos j = (hash m a + d') % m)
    (hf : Fr [] w W0) (hg : W0.grownBy w1 vd.ownBlock)
    (hd : w1.ownsRow base 174 3 (.slice (some ⟨g, 0, none⟩) (s.done.length + 1) c') (s.done.length + 1) (chs s.done ++ [.int .i64 (s.list.length : Int), .int .u64 0, .bool true]))
    (hgg : vd.ownBlock = some g ∨ w.heap.size ≤ g)
    (hf2 : Fr [] (w1.setCell ⟨b, 3, none⟩ (.slice (some ⟨g, 0, none⟩) (s.done.length + 1) c')) W2) (hg2 : W2.grownBy w3 vl.ownBlock)
    (hl : w3.ownsRow base 136 2 (.slice (some ⟨g2, 0, none⟩) (s.list.length + 1) c2) (s.list.length + 1) (ents s.list ++ [.int .i64 a, .int .u64 v]))
    (hgg2 : vl.ownBlock = some g2 ∨ w1.heap.size ≤ g2) {z : World} (hz : Fr [] ((w3.setCell ⟨b, 1, none⟩ (.slice (some ⟨g2, 0, none⟩) (s.list.length + 1) c2))) z) :
    SetStep w (z.setCell ⟨bt, k, none⟩ (.int .i64 ((s.list.length : Int) + 1))) base b (fpOf b vl (.slice (some ⟨bt, 0, none⟩) m ct) vd) (put s a v).1 := by
  have hbt : bt < w.heap.size := (h.rtab.lt bt rfl).2
  have hblt := h.blk.lt
  have hnb : vd.ownBlock ≠ some b := h.bd
  have hlb : vl.ownBlock ≠ some b := h.bl
  have hbtb : bt ≠ b := fun e => h.bt (by simp [Value.ownBlock, e])
  have hs1 : w.heap.size ≤ w1.heap.size := Nat.le_trans hf.size hg.size
  have hgb : g ≠ b := by rcases hgg with e | e; (intro e2; subst e2; exact hnb e); omega
  have hg2b : g2 ≠ b := by rcases hgg2 with e | e; (intro e2; subst e2; exact hlb e); omega
  have hdt : vd.ownBlock ≠ some bt := fun e => by
    rcases h.dt with e3 | e3
    · rw [e] at e3; cases e3
    · exact e3 (by rw [e]; rfl)
  have hlt' : vl.ownBlock ≠ some bt := fun e => by
    rcases h.lt with e3 | e3
    · rw [e] at e3; cases e3
    · exact e3 (by rw [e]; rfl)
  have hgbt : g ≠ bt := by rcases hgg with e | e; (intro e2; subst e2; exact hdt e); omega
  have hg2bt : g2 ≠ bt := by rcases hgg2 with e | e; (intro e2; subst e2; exact hlt' e); omega
  have hglt : g < w1.heap.size := (hd.lt g rfl).2
  have hgl : vl.ownBlock ≠ some g := fun e => by
    have := (h.rlist.lt g e).2
    rcases hgg with e1 | e1
    · rcases h.ld with e3 | e3
      · rw [e] at e3; cases e3
      · exact e3 (by rw [e, e1])
    · omega
  have hgg2' : g2 ≠ g := by rcases hgg2 with e | e; (intro e2; subst e2; exact hgl e); omega
  have hld : vl.ownBlock = none ∨ vl.ownBlock ≠ vd.ownBlock := h.ld
  have hput : put s a v = ({ s with list := s.list ++ [(a, v)], done := s.done ++ [((s.list.length : Int), 0, true)] }, 0) := by
    simp [put, hx]; omega
  rw [hput]
  refine ⟨_, ⟨.slice (some ⟨g2, 0, none⟩) (s.list.length + 1) c2, .slice (some ⟨bt, 0, none⟩) m ct, .slice (some ⟨g, 0, none⟩) (s.done.length + 1) c', m, tab.set k ((s.list.length : Int) + 1), (fun i => if i = s.list.length then k else pos i), ?_, rfl⟩, ?_, ?_⟩
  · refine ⟨h.hb, ?_, ?_, ?_, ?_, ?_, h.room, by simp; omega, h.big, h.two, by simpa [Value.ownBlock] using hg2b, by simpa [Value.ownBlock] using hbtb, by simpa [Value.ownBlock] using hgb,
      .inr (by simpa [Value.ownBlock] using hg2bt), .inr (by simpa [Value.ownBlock] using hgg2'), .inr (by simpa [Value.ownBlock] using hgbt)⟩
    · have h1 := (((h.blk.fr hf (by simp)).grown hg (fun e => hnb e.symm)).set 3 (.slice (some ⟨g, 0, none⟩) (s.done.length + 1) c'))
      have h2 := ((h1.fr hf2 (by simp)).grown hg2 (fun e => hlb e.symm)).set 1 (.slice (some ⟨g2, 0, none⟩) (s.list.length + 1) c2)
      exact (h2.fr hz (by simp)).setOther _ (Ne.symm hbtb)
    · have h1 := ownsRow_setCell hl (a := ⟨b, 1, none⟩) (by simpa [Value.ownBlock] using hg2b) (.slice (some ⟨g2, 0, none⟩) (s.list.length + 1) c2)
      have h2 := ownsRow_fr h1 hz (fun _ _ => by simp)
      have h3 := ownsRow_setCell h2 (a := ⟨bt, k, none⟩) (by simpa [Value.ownBlock] using hg2bt) (.int .i64 ((s.list.length : Int) + 1))
      simpa [ents] using h3
    · have h1 := (ownsRow_fr h.rtab hf (fun _ _ => by simp)).kept hg (.inr (by simpa [Value.ownBlock] using Ne.symm hdt))
      have h2 := ownsRow_fr (ownsRow_setCell h1 (a := ⟨b, 3, none⟩) h.bt (.slice (some ⟨g, 0, none⟩) (s.done.length + 1) c')) hf2 (fun _ _ => by simp)
      have h3 := h2.kept hg2 (.inr (by simpa [Value.ownBlock] using Ne.symm hlt'))
      have h4 := ownsRow_fr (ownsRow_setCell h3 (a := ⟨b, 1, none⟩) h.bt (.slice (some ⟨g2, 0, none⟩) (s.list.length + 1) c2)) hz (fun _ _ => by simp)
      have h5 := ownsRow_set h4 k (.int .i64 ((s.list.length : Int) + 1))
      rw [List.map_set]
      exact h5
    · have h1 := ownsRow_setCell hd (a := ⟨b, 3, none⟩) (by simpa [Value.ownBlock] using hgb) (.slice (some ⟨g, 0, none⟩) (s.done.length + 1) c')
      have h2 := (ownsRow_fr h1 hf2 (fun _ _ => by simp)).kept hg2 (.inr (by simpa [Value.ownBlock] using Ne.symm hgl))
      have h4 := ownsRow_fr (ownsRow_setCell h2 (a := ⟨b, 1, none⟩) (by simpa [Value.ownBlock] using hgb) (.slice (some ⟨g2, 0, none⟩) (s.list.length + 1) c2)) hz (fun _ _ => by simp)
      have h5 := ownsRow_setCell h4 (a := ⟨bt, k, none⟩) (by simpa [Value.ownBlock] using hgbt) (.int .i64 ((s.list.length : Int) + 1))
      simpa [chs] using h5
    · exact h.ok.push hk hx h0 hw (by have := h.big; have := h.two; omega)
  · have hs2 := hf2.size
    have e1 : Fr (fpOf b vl (.slice (some ⟨bt, 0, none⟩) m ct) vd) w (w1.setCell ⟨b, 3, none⟩ (.slice (some ⟨g, 0, none⟩) (s.done.length + 1) c')) :=
      ((hf.mono (fun _ h => by simp at h)).grown hg (fun k e => .inl (mem_fpOf.2 (.inr (.inr (.inr e)))))).setCell (p := ⟨b, 3, none⟩) (.inl (mem_fpOf.2 (.inl rfl))) _
    have e2 := ((e1.trans (hf2.mono (fun _ h => by simp at h))).grown hg2 (fun k e => .inl (mem_fpOf.2 (.inr (.inl e))))).setCell (p := ⟨b, 1, none⟩) (.inl (mem_fpOf.2 (.inl rfl))) (.slice (some ⟨g2, 0, none⟩) (s.list.length + 1) c2)
    exact (e2.trans (hz.mono (fun _ h => by simp at h))).setCell (p := ⟨bt, k, none⟩) (.inl (mem_fpOf.2 (.inr (.inr (.inl rfl))))) _
  · intro x hx
    rcases mem_fpOf.1 hx with e | e | e | e
    · exact .inl (mem_fpOf.2 (.inl e))
    · simp [Value.ownBlock] at e
      subst e
      rcases hgg2 with e1 | e1
      · exact .inl (mem_fpOf.2 (.inr (.inl e1)))
      · exact .inr (by omega)
    · exact .inl (mem_fpOf.2 (.inr (.inr (.inl e))))
    · simp [Value.ownBlock] at e
      subst e
      rcases hgg with e1 | e1
      · exact .inl (mem_fpOf.2 (.inr (.inr (.inr e1))))
      · exact .inr e1

end Go.Tum.W
end
