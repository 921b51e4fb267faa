/- The walk of (*wset.Set).slot: it tells the place of a cell in the table. -/
import Derived.Test.YtccioehckfdjdaaRows
import Derived.Test.YtccioehckfdjdaaWrep
import Derived.Deep.QuietTactic
import Derived.BigQuiet
import Derived.Deep.LoopGhost
import Derived.Outline
namespace Go.Proofs.Ytccioehckfdjdaa
open Go.RowKit Go.Tum Go.Tum.W

def SlotPost (w : World) (m : Nat) (tab : List Int) (l : List (Int × Int)) (pos : Nat → Nat) (a : Int) (e : Ending) (w' : World) : Prop :=
  ∃ k n : Nat, e = .returned (.int .i64 k) ∧ Slot m tab l pos a k ∧ w' = w.drewN n

def SlotRel (w : World) (m : Nat) (l : List (Int × Int)) (pos : Nat → Nat) (a : Int) (D g : Nat) (v : Value) (wr : World) : Prop :=
  ∃ d q : Nat, g + d = D ∧ v = .int .i64 (((hash m a + d) % m : Nat) : Int) ∧ (∀ d', d' < d → ∃ j, ∃ hj : j < l.length, pos j = (hash m a + d') % m ∧ l[j].1 ≠ a) ∧ wr = w.drewN q

set_option maxHeartbeats 400000 in
theorem slot_any (base b : Nat) (a : Int) (w : World) (vl vt vd : Value) (m : Nat) (tab : List Int) (pos : Nat → Nat) (s : S) (h : SetAt w base b vl vt vd m tab pos s) :
    Calls Try.prog 107 #[.pointer (some ⟨b, 0, none⟩), .int .i64 a] w (SlotPost w m tab s.list pos a) := by
  obtain ⟨bt, c, rfl, hbt, hb2, hmc, hcm⟩ := h.vt_form
  have hm0 := h.ok.pos0
  have hm1 := h.ok.bound
  have h1 := h.blk.cell 1
  have h2 := h.blk.cell 2
  simp only [List.getElem?_cons_succ, List.getElem?_cons_zero] at h1 h2
  unfold maxLen at hcm
  obtain ⟨hh1, hh2⟩ := hash_spec m a hm0 hm1
  obtain ⟨D, hD, hDf⟩ := h.ok.free (hash m a)
  have H := Lib.hid h; clear h
  have HF := Lib.hid hDf; clear hDf
  have HH := Lib.hid hh1; clear hh1
  have HL := Lib.hid hh2; clear hh2
  go_enter Try.func107, Try.ntmps107
  go_wp2
  go_loopg [6] D (fun g v wr => SlotRel w m s.list pos a D g v wr)
  case atStart => exact ⟨0, 0, rfl, by rw [HH.out, Nat.add_zero, Nat.mod_eq_of_lt HL.out], fun _ h => by omega, rfl⟩
  case round =>
    obtain ⟨d, q, hg, rfl, hw, rfl⟩ := hrel
    have HW := Lib.hid hw; clear hw
    have HG := Lib.hid hg; clear hg
    have hkm : (hash m a + d) % m < m := Nat.mod_lt _ hm0
    have HS : Hid (((hash m a + d) % m + 1) % m = (hash m a + (d + 1)) % m) := by rw [Nat.mod_add_mod]; rfl
    have HK : Hid (∀ x, x = (hash m a + d) % m → Slot m tab s.list pos a x → Slot m tab s.list pos a ((hash m a + d) % m)) := fun x e h => e ▸ h
    have HdD : d ≤ D := by have := HG.out; omega
    have hon := H.out.ok.only ((hash m a + d) % m) hkm
    have HZ : Hid (tab[(hash m a + d) % m]? = some 0 → Slot m tab s.list pos a ((hash m a + d) % m)) := fun h0 => H.out.ok.slot_zero (by omega) HW.out h0
    have HN : Hid (d = D → tab[(hash m a + d) % m]? = some 0) := fun e => by rw [e]; exact HF.out
    generalize hk : (hash m a + d) % m = k at *
    have HKE := Lib.hid hk; clear hk
    rcases hon with h0 | ⟨i, hi, hp⟩
    · have htc := H.out.tab_cell h0
      have HZ' := Lib.hid (HZ.out h0)
      clear h0
      go_wp2
      go_quiet (fail)
      go_wp2
      go_ret
      exact ⟨k, _, rfl, HZ'.out, World.drewN_drewN _ _ _⟩
    · obtain ⟨bl, c', rfl, hbl, _, hlc, _⟩ := H.out.vl_form (by omega)
      have hti := H.out.ok.at_ i hi
      rw [hp] at hti
      have htc := H.out.tab_cell hti
      have hlc1 := (H.out.list_cell hi).1
      have hnz : (((i : Int) + 1) != 0) = true := by simp; omega
      have hii : ((i : Int) + 1) - 1 = i := by omega
      have hll : s.list.length ≤ 1000000 := by have := H.out.ok.few; omega
      have HP := Lib.hid hp; clear hp
      have HT := Lib.hid hti; clear hti
      by_cases he : s.list[i].1 = a
      · have hxe : (s.list[i].1 != a) = false := by simp [he]
        have HS2 : Hid (Slot m tab s.list pos a k) := by have := H.out.ok.slot_hit hi he; rw [HP.out] at this; exact this
        have HE := Lib.hid he; clear he
        go_wp2
        go_quiet (fail)
        go_wp2
        go_ret
        exact ⟨k, _, rfl, HS2.out, World.drewN_drewN _ _ _⟩
      · have hxe : (s.list[i].1 != a) = true := by simp [he]
        have HE := Lib.hid he; clear he
        have HB : Hid (bits BinOp.and IntKind.i64 (((k : Nat) : Int) + 1) ((m : Int) - 1) = (((k + 1) % m : Nat) : Int)) := by
          obtain ⟨p, hp⟩ := H.out.ok.pow
          have := and_i64_mask (k + 1) m p hp (by omega) (by omega)
          have e : (((k + 1 : Nat)) : Int) = (k : Int) + 1 := by omega
          rw [e] at this
          exact this
        go_wp2
        go_quiet (fail)
        go_wp2
        go_roundg (gk - 1)
        case measure =>
          have : d ≠ D := fun e => by
            have h1 := HN.out e
            rw [HT.out] at h1
            simp at h1
            omega
          have := HG.out
          omega
        case rel =>
          have hne : d ≠ D := fun e => by
            have h1 := HN.out e
            rw [HT.out] at h1
            simp at h1
            omega
          have hgg := HG.out
          refine ⟨d + 1, _, by omega, by rw [HB.out, HS.out], ?_, rfl⟩
          intro d' hd'
          by_cases e : d' = d
          · subst e; exact ⟨i, hi, by rw [HP.out, HKE.out], HE.out⟩
          · exact HW.out d' (by omega)
end Go.Proofs.Ytccioehckfdjdaa
