/- The walk of wset.New. -/
import Derived.Test.YtccioehckfdjdaaWget
namespace Go.Proofs.Ytccioehckfdjdaa
open Go.RowKit Go.Tum Go.Tum.W

def NewRel (w : World) (r : Nat) (g : Nat) (v : Value) (wr : World) : Prop :=
  w = wr ∧ ∃ p z : Nat, z = 2 ^ p ∧ 1 ≤ p ∧ v = .int .i64 (z : Int) ∧ (p = 1 ∨ z < 4 * r) ∧ g = 4 * r + 2 - z

def roomOf (r : Int) : Nat := (min (max r 0) 65536).toNat

def NewPost (w : World) (base : Nat) (r : Int) (e : Ending) (w' : World) : Prop :=
  ∃ b fp, e = .returned (.pointer (some ⟨b, 0, none⟩)) ∧ IsSet w' base b fp ⟨roomOf r, [], []⟩ ∧ Fr [] w w' ∧ ∀ k ∈ fp, w.heap.size ≤ k

theorem W_infoInt : (Try.prog.info? 3).map (fun i => (i.zero, i.size, i.bytes)) = some (some (.int .i64 0), 1, 8) := by kernel_rfl

theorem new_close {w w1 : World} {base r z p : Nat} {ρ : Int} (hρ : ρ = (r : Int)) (hz : z = 2 ^ p) (hp : 1 ≤ p) (hz4 : p = 1 ∨ z < 4 * r) (hr : r ≤ 65536) (hzr : 2 * r ≤ z) (hbase : base ≤ w.heap.size)
    (ho : w1.ownsRow base 3 1 (.slice (some ⟨w.heap.size, 0, none⟩) z z) z (madeCells (Value.int IntKind.i64 0).cells (z * 1)).toList) (hg : w.grownBy w1 none) :
    let w2 := w1.alloc (.cells #[.int .i64 ρ, .slice none 0 0, .slice (some ⟨w.heap.size, 0, none⟩) z z, .slice none 0 0] 168)
    ∃ fp, IsSet w2 base w1.heap.size fp ⟨r, [], []⟩ ∧ Fr [] w w2 ∧ ∀ k ∈ fp, w.heap.size ≤ k := by
  subst hρ
  have hlt := (ho.lt w.heap.size rfl).2
  have hz2 : 2 ≤ z := by
    rw [hz]
    exact Nat.le_trans (show 2 ≤ 2 ^ 1 by decide) (Nat.pow_le_pow_right (by decide) hp)
  have hzb : z ≤ 1000000 := by rcases hz4 with e | e; (rw [hz, e]; decide); omega
  refine ⟨fpOf w1.heap.size (.slice none 0 0) (.slice (some ⟨w.heap.size, 0, none⟩) z z) (.slice none 0 0),
    ⟨.slice none 0 0, .slice (some ⟨w.heap.size, 0, none⟩) z z, .slice none 0 0, z, List.replicate z 0, fun _ => 0, ?_, rfl⟩, ?_, ?_⟩
  · refine ⟨by omega, Blk.new _ _ _, ?_, ?_, ?_, ?_, hr, Nat.zero_le _, hzr, hz2, by simp [Value.ownBlock], ?_, by simp [Value.ownBlock], .inl rfl, .inl rfl, .inl rfl⟩
    · exact World.ownsRow_nil _ _ _ _
    · have := ho.alloc (.cells #[.int .i64 r, .slice none 0 0, .slice (some ⟨w.heap.size, 0, none⟩) z z, .slice none 0 0] 168)
      rw [show (Value.int IntKind.i64 0).cells = #[Value.int IntKind.i64 0] from rfl, toList_madeCells_one, Nat.mul_one] at this
      rw [List.map_replicate]
      exact this
    · exact World.ownsRow_nil _ _ _ _
    · subst hz; exact TabOK.new p hzb
    · simp [Value.ownBlock]; omega
  · exact ((Fr.refl [] w).grown hg (fun k e => by cases e)).alloc _
  · intro k hk
    rcases mem_fpOf.1 hk with e | e | e | e
    · subst e; exact hg.size
    · simp [Value.ownBlock] at e
    · simp [Value.ownBlock] at e; omega
    · simp [Value.ownBlock] at e

set_option maxHeartbeats 1000000 in
set_option maxRecDepth 100000 in
theorem new_any (base : Nat) (r : Int) (w : World) (hbase : base ≤ w.heap.size) :
    Calls Try.prog 34 #[.int .i64 r] w (NewPost w base r) := by
  obtain ⟨i0, hi3, hz0, hz1, hz2⟩ := info_parts W_infoInt
  have hr1 : roomOf r ≤ 65536 := by unfold roomOf; omega
  obtain ⟨ρ, h1, h2⟩ : ∃ ρ : Int, (r < 0 ∧ ρ = 0 ∨ 65536 < r ∧ ρ = 65536 ∨ (0 ≤ r ∧ r ≤ 65536) ∧ ρ = r) ∧ ρ = (roomOf r : Int) := by
    by_cases h : r < 0
    · exact ⟨0, .inl ⟨h, rfl⟩, by unfold roomOf; omega⟩
    · by_cases h2 : 65536 < r
      · exact ⟨65536, .inr (.inl ⟨h2, rfl⟩), by unfold roomOf; omega⟩
      · exact ⟨r, .inr (.inr ⟨⟨by omega, by omega⟩, rfl⟩), by unfold roomOf; omega⟩
  unfold NewPost
  generalize roomOf r = R at *
  have hR1 := Int.le_of_eq h2
  have hR2 := Int.le_of_eq h2.symm
  have HR := Lib.hid h2
  clear h2
  rcases h1 with ⟨hc, rfl⟩ | ⟨hc, h65⟩ | ⟨⟨hc, hc'⟩, rfl⟩
  · go_enter Try.func34, Try.ntmps34
    go_wp2_with fail
    go_loopg [3] (4 * R) (fun g v wr => NewRel w R g v wr)
    case atStart => exact ⟨rfl, 1, 2, rfl, Nat.le_refl _, rfl, .inl rfl, by omega⟩
    case round =>
      obtain ⟨rfl, p, z, hz, hp, rfl, hz4, hg⟩ := hrel
      have hzb : z ≤ 300000 := by rcases hz4 with e | e; (rw [hz, e]; decide); omega
      have HZ := Lib.hid hz; have HG := Lib.hid hg; have H4 := Lib.hid hz4
      clear hz hg hz4
      go_wp2_with (at_make; refine wpList_make_full _ rfl _ _ 70 rfl base 3 i0 _ 1 Try.underlying70 hi3 hz0 hz1 .i64 .i64 _ _ z rfl rfl rfl rfl (by rw [hz2]; omega) (by unfold maxLen; omega) hbase ?_; intro w1 ho hg1)
      go_ret
      obtain ⟨fp, h1, h2, h3⟩ := new_close HR.out HZ.out hp H4.out hr1 (by omega) hbase ho hg1
      exact ⟨_, fp, rfl, h1, h2, h3⟩
  · have H65 := Lib.hid h65; clear h65
    go_enter Try.func34, Try.ntmps34
    go_wp2_with fail
    rw [← H65.out]
    go_loopg [3] (4 * R) (fun g v wr => NewRel w R g v wr)
    case atStart => exact ⟨rfl, 1, 2, rfl, Nat.le_refl _, rfl, .inl rfl, by omega⟩
    case round =>
      obtain ⟨rfl, p, z, hz, hp, rfl, hz4, hg⟩ := hrel
      have hzb : z ≤ 300000 := by rcases hz4 with e | e; (rw [hz, e]; decide); omega
      have HZ := Lib.hid hz; have HG := Lib.hid hg; have H4 := Lib.hid hz4
      clear hz hg hz4
      by_cases hlt : z < 2 * R
      · go_wp2_with fail
        go_roundg (4 * R + 2 - 2 * z)
        case measure =>
          have := HG.out
          have h3 : 2 ≤ z := by rw [HZ.out]; exact Nat.le_trans (show 2 ≤ 2 ^ 1 by decide) (Nat.pow_le_pow_right (by decide) hp)
          omega
        case rel => exact ⟨rfl, p + 1, 2 * z, by rw [HZ.out, Nat.pow_succ]; omega, by omega, by go_num, .inr (by omega), by omega⟩
      · go_wp2_with (at_make; refine wpList_make_full _ rfl _ _ 70 rfl base 3 i0 _ 1 Try.underlying70 hi3 hz0 hz1 .i64 .i64 _ _ z rfl rfl rfl rfl (by rw [hz2]; omega) (by unfold maxLen; omega) hbase ?_; intro w1 ho hg1)
        go_ret
        obtain ⟨fp, h1, h2, h3⟩ := new_close HR.out HZ.out hp H4.out hr1 (by omega) hbase ho hg1
        exact ⟨_, fp, rfl, h1, h2, h3⟩
  · go_enter Try.func34, Try.ntmps34
    go_wp2_with fail
    go_loopg [3] (4 * R) (fun g v wr => NewRel w R g v wr)
    case atStart => exact ⟨rfl, 1, 2, rfl, Nat.le_refl _, rfl, .inl rfl, by omega⟩
    case round =>
      obtain ⟨rfl, p, z, hz, hp, rfl, hz4, hg⟩ := hrel
      have hzb : z ≤ 300000 := by rcases hz4 with e | e; (rw [hz, e]; decide); omega
      have HZ := Lib.hid hz; have HG := Lib.hid hg; have H4 := Lib.hid hz4
      clear hz hg hz4
      by_cases hlt : z < 2 * R
      · go_wp2_with fail
        go_roundg (4 * R + 2 - 2 * z)
        case measure =>
          have := HG.out
          have h3 : 2 ≤ z := by rw [HZ.out]; exact Nat.le_trans (show 2 ≤ 2 ^ 1 by decide) (Nat.pow_le_pow_right (by decide) hp)
          omega
        case rel => exact ⟨rfl, p + 1, 2 * z, by rw [HZ.out, Nat.pow_succ]; omega, by omega, by go_num, .inr (by omega), by omega⟩
      · go_wp2_with (at_make; refine wpList_make_full _ rfl _ _ 70 rfl base 3 i0 _ 1 Try.underlying70 hi3 hz0 hz1 .i64 .i64 _ _ z rfl rfl rfl rfl (by rw [hz2]; omega) (by unfold maxLen; omega) hbase ?_; intro w1 ho hg1)
        go_ret
        obtain ⟨fp, h1, h2, h3⟩ := new_close HR.out HZ.out hp H4.out hr1 (by omega) hbase ho hg1
        exact ⟨_, fp, rfl, h1, h2, h3⟩
end Go.Proofs.Ytccioehckfdjdaa
