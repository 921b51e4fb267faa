/- The walk of WsetPlays. -/
import Derived.Test.YtdhcaelhjpgliaaPuts
import Derived.Test.YtdhcaelhjpgliaaRput
import Derived.Test.YtdhcaelhjpgliaaLeaf
namespace Go.Proofs.Ytdhcaelhjpgliaa
open Go.RowKit Go.Tum Go.Tum.W

/-- A step of the law's: is all behind a mark undone, the mark, a cell, what it becomes. -/
def enOp (o : Bool × Int × Int × Int) : List Value := [.bool o.1, .int .i64 o.2.1, .int .i64 o.2.2.1, .int .u64 o.2.2.2]

/-- A set, and the document's, side by side. -/
structure MP (w0 wr : World) (b : Nat) (fp : List Nat) (s : S) (B R : Nat) (sv : Value) (p : List (Int × Int)) : Prop where
  x : Live w0 wr b fp s
  row : Row wr w0.heap.size sv p
  blk : Blk wr B 28 [.int .i64 R, sv]
  bfp : B ∉ fp
  sfp : ∀ k, sv.ownBlock = some k → k ∉ fp
  sb : ∀ k, sv.ownBlock = some k → k ≠ B
  base : w0.heap.size ≤ B
theorem MP.fr0 {w0 wr w' : World} {b : Nat} {fp : List Nat} {s : S} {B R : Nat} {sv : Value} {p : List (Int × Int)} (h : MP w0 wr b fp s B R sv p) (f : Fr [] wr w') : MP w0 w' b fp s B R sv p :=
  ⟨h.x.fr0 f, h.row.fr f (by simp), h.blk.fr f (by simp), h.bfp, h.sfp, h.sb, h.base⟩
theorem MP.turn {w0 wr w' : World} {b : Nat} {fp fp' : List Nat} {s s' : S} {B R : Nat} {sv : Value} {p : List (Int × Int)} (h : MP w0 wr b fp s B R sv p) (hx : Live w0 w' b fp' s') (f : Fr fp wr w') (hn : ∀ k ∈ fp', k ∈ fp ∨ wr.heap.size ≤ k) : MP w0 w' b fp' s' B R sv p :=
  ⟨hx, h.row.fr f h.sfp, h.blk.fr f h.bfp, fun hm => by have := h.blk.lt; rcases hn _ hm with h1 | h1; exact h.bfp h1; omega,
    fun k hk hm => by have := (World.ownsRow.lt h.row k hk).2; rcases hn _ hm with h1 | h1; exact h.sfp k hk h1; omega, h.sb, h.base⟩
/-- The document's set is another one. -/
theorem MP.put {w0 wr : World} {b : Nat} {fp : List Nat} {s : S} {B R : Nat} {sv sv' : Value} {p p' : List (Int × Int)} (h : MP w0 wr b fp s B R sv p) (hr : Row wr w0.heap.size sv' p')
    (h1 : ∀ k, sv'.ownBlock = some k → k ∉ fp) (h2 : ∀ k, sv'.ownBlock = some k → k ≠ B) : MP w0 ((wr.setCell ⟨B, 0, none⟩ (.int .i64 R)).setCell ⟨B, 1, none⟩ sv') b fp s B R sv' p' := by
  have f : Fr [B] wr ((wr.setCell ⟨B, 0, none⟩ (.int .i64 R)).setCell ⟨B, 1, none⟩ sv') := ((Fr.refl [B] wr).setCell (.inl (by simp)) _).setCell (.inl (by simp)) _
  refine ⟨h.x.fr f (fun k hk hm => ?_) (by simpa using h.base), hr.fr f (fun k hk hm => h2 k hk (by simpa using hm)), (h.blk.set 0 _).set 1 _, h.bfp, h1, h2, h.base⟩
  simp at hm; subst hm; exact h.bfp hk

set_option maxHeartbeats 4000000 in
set_option maxRecDepth 100000 in
theorem plays_law (room : Int) (v : Value) (ask most : Int) (L : List (Bool × Int × Int × Int)) (w : World) (ha : ArgE enOp 4 w v L) (_ : L.length ≤ maxLen) :
    Calls Try.prog 3 #[.int .i64 room, v, .int .i64 ask, .int .i64 most] w fun e w' => e = .returned (.bool true) ∧ Fr [] w w' := by
  obtain ⟨r, hr, er⟩ : ∃ r : Nat, r < 8 ∧ bits .and .i64 most 7 = (r : Int) := and_i64_low most 3 (by decide)
  obtain ⟨aa, ca, rfl⟩ := ha.len
  by_cases h1 : 40 < L.length
  · have h1i : (40 : Int) < (L.length : Int) := by omega
    have HA := Lib.hid ha; have HE := Lib.hid er
    clear ha er
    go_enter Try.func3, Try.ntmps3
    go_wp2_with fail
    refine (alive_any w).mono ?_
    rintro e w1 ⟨rfl, hf1⟩
    go_wp2_with fail
    go_ret
    exact ⟨rfl, hf1⟩
  have h1i : (L.length : Int) ≤ 40 := by omega
  have HA := Lib.hid ha; have HE := Lib.hid er
  clear ha er
  go_enter Try.func3, Try.ntmps3
  go_wp2_with fail
  refine (alive_any w).mono ?_
  rintro e w1 ⟨rfl, hf1⟩
  go_wp2_with fail
  refine (live_new hf1 room).mono ?_
  rintro e w2 ⟨b, fp, rfl, h, hf2, hfp⟩
  have H := Lib.hid h; have HF := Lib.hid (hf1.trans hf2)
  clear h hf1 hf2
  go_wp2_with fail
  refine (rnew_any room w2).mono ?_
  rintro e w3 ⟨rfl, hf3⟩
  have hR : roomOf room ≤ 65536 := by unfold roomOf; omega
  have hrep := rep_new (roomOf room)
  generalize roomOf room = R at *
  have hM : MP w (w3.alloc (.cells #[.int .i64 R, .slice none 0 0] 28)) b fp ⟨R, [], []⟩ w3.heap.size R (.slice none 0 0) [] :=
    ⟨H.out.fr0 (hf3.alloc _), World.ownsRow_nil _ _ _ _, Blk.new _ _ _, fun hm => by have := (H.out.1.lt _ hm).2; have := hf3.size; omega, by simp [Value.ownBlock], by simp [Value.ownBlock], by have := (HF.out.trans hf3).size; omega⟩
  have HM := Lib.hid hM; have HREP := Lib.hid hrep
  clear hM hrep hf3
  go_wp2_with fail
  go_loopg [35] L.length (fun g vi wr => ∃ k, g + k = L.length ∧ vi = .int .i64 (k : Int) ∧ ∃ fp s sv p, MP w wr b fp s w3.heap.size R sv p ∧ Rep s R p ∧ p.length ≤ k)
  case atStart => exact ⟨0, by omega, rfl, fp, _, _, _, HM.out, HREP.out, by simp⟩
  case round =>
    clear HM HREP H hfp HF
    obtain ⟨k, hg, rfl, fp, s, sv, p, h, hrep, hpk⟩ := hrel
    generalize w3.heap.size = B at *
    by_cases hk : k < L.length
    · have hki : (k : Int) < (L.length : Int) := by omega
      obtain ⟨x, rfl, hx, c0, c1⟩ := (HA.out.fr h.x.2.1).at hk
      obtain ⟨la, lc, rfl⟩ := ownsRow_any h.row
      generalize L[k] = o at *
      obtain ⟨ob, om, oa, ov⟩ := o
      have d0 := c0 _ rfl
      have d1 := c1 0 _ rfl
      have d2 := c1 1 _ rfl
      have d3 := c1 2 _ rfl
      clear c0 c1
      have HBX := Lib.hid (Blk.new wr 32 [.bool ob, .int .i64 om, .int .i64 oa, .int .u64 ov])
      have HM := Lib.hid (h.fr0 ((Fr.refl [] _).alloc (.cells #[.bool ob, .int .i64 om, .int .i64 oa, .int .u64 ov] 32)))
      have b0 := h.blk.cell 0
      have b1 := h.blk.cell 1
      have bl := h.blk.lt
      have hbx : ∀ q, (Value.slice la p.length lc).ownBlock = some q → q ≠ wr.heap.size := fun q e => by have := (World.ownsRow.lt h.row q e).2; omega
      simp only [List.getElem?_cons_zero, List.getElem?_cons_succ] at b0 b1
      have hrl : (rall p).length ≤ p.length := rallTo_length p p.length
      have HREP := Lib.hid hrep
      have hbf : wr.heap.size ∉ fp := fun hm => by have := (h.x.1.lt _ hm).2; omega
      clear h hrep
      cases ob with
      | true =>
        have hrb := rep_back HREP.out om
        have hbk : W.back s om = ((W.back s om).1, (rback p om).2) := Prod.ext rfl hrb.1
        have hpl : (rback p om).1.length ≤ k := by unfold rback; split <;> simp <;> omega
        have HREP' := Lib.hid hrb.2
        have HBK := Lib.hid hbk
        clear hrb hbk
        go_wp2_with fail
        refine (rback_any _ _ _ p om _ HM.out.row (by omega)).mono ?_
        rintro e w4 ⟨sv4, rfl, hf4, hr4, hk4⟩
        obtain ⟨la4, lc4, rfl⟩ := ownsRow_any hr4
        have hM4 := HM.out.fr0 hf4
        have hbx4 := HBX.out.fr hf4 (by simp)
        have e0 := hM4.blk.cell 0
        have e1 := hM4.blk.cell 1
        have f0 := hM4.blk.froz 0
        have f1 := hM4.blk.froz 1
        have bl4 := hM4.blk.lt
        have x0 := hbx4.cell 0
        have x1 := hbx4.cell 1
        have x2 := hbx4.cell 2
        have xl := hbx4.lt
        have hne : B ≠ wr.heap.size := by omega
        simp only [List.getElem?_cons_zero, List.getElem?_cons_succ] at e0 e1 x0 x1 x2
        have HM4 := Lib.hid hM4; have HBX4 := Lib.hid hbx4; have HR4 := Lib.hid hr4; have HK4 := Lib.hid hk4
        clear hM4 hbx4 hr4 hk4 hf4 HM HBX
        generalize (rback p om).1 = p4 at *
        generalize (rback p om).2 = ok at *
        have hput := (HM4.out.put HR4.out (fun q hq => HM4.out.sfp q (by rw [← HK4.out]; exact hq)) (fun q hq => HM4.out.sb q (by rw [← HK4.out]; exact hq))).fr0 ((Fr.refl [] _).alloc (.cells #[.int .i64 R, .slice la4 p4.length lc4] 28))
        have hbx5 := ((HBX4.out.setOther (a := ⟨B, 0, none⟩) (.int .i64 R) (Ne.symm hne)).setOther (a := ⟨B, 1, none⟩) (.slice la4 p4.length lc4) (Ne.symm hne)).alloc (.cells #[.int .i64 R, .slice la4 p4.length lc4] 28)
        have hdl := HREP.out.done
        have HPUT := Lib.hid hput; have HBX5 := Lib.hid hbx5
        clear hput hbx5 HM4 HBX4
        go_wp2_with fail
        refine (live_back_to HPUT.out.x HBK.out (by omega)).mono ?_
        rintro e w5 ⟨rfl, h5, hf5⟩
        have hM6 := HPUT.out.turn h5 hf5 (fun k hk => .inl hk)
        have hbx6 := HBX5.out.fr hf5 hbf
        have hokk : (ok != ok) = false := by simp
        clear h5 hf5 HPUT HBX5 e0 e1 f0 f1 x0 x1 x2 xl
        generalize (W.back s om).1 = s6 at *
        clear hdl
        have hpl' : p4.length ≤ k + 1 := by omega
        obtain ⟨fp6, hM7, hbf6⟩ : ∃ fp6, MP w w5 b fp6 s6 B R (.slice la4 p4.length lc4) p4 ∧ wr.heap.size ∉ fp6 := ⟨fp, hM6, hbf⟩
        clear hM6 hbf HR4 HK4 HBK bl4 hpl
        have hrl6 : (rall p4).length ≤ p4.length := rallTo_length p4 p4.length
        have e0 := hM7.blk.cell 0
        have e1 := hM7.blk.cell 1
        have bl7 := hM7.blk.lt
        simp only [List.getElem?_cons_zero, List.getElem?_cons_succ] at e0 e1
        have HM7 := Lib.hid hM7; have HBX7 := Lib.hid hbx6
        clear hM7 hbx6
        go_wp2_with fail
        refine (rall_any w.heap.size R _ p4 _ HM7.out.row (by omega) (by have := HM7.out.base; omega)).mono ?_
        rintro e w6 ⟨vw, rfl, hvw, hfw, hkw⟩
        obtain ⟨lw, cw, rfl⟩ := ownsRow_any hvw
        have hM8 := HM7.out.fr0 hfw
        have hbx8 := HBX7.out.fr hfw (by simp)
        have HVW := Lib.hid hvw; have HM8 := Lib.hid hM8; have HBX8 := Lib.hid hbx8
        clear hvw hM8 hbx8 hfw HM7 HBX7 e0 e1
        have hdn := HREP'.out.done
        have hli := HREP'.out.list
        have hro := HREP'.out.room_
        have HM9 := Lib.hid (HM8.out.fr0 ((Fr.refl [] _).drew))
        have HVW9 := Lib.hid (ownsRow_fr HVW.out ((Fr.refl [] _).drew) (by simp))
        have HBX9 := Lib.hid (HBX8.out.fr ((Fr.refl [] _).drew) (by simp))
        have b90 := HM8.out.blk.cell 0
        have b91 := HM8.out.blk.cell 1
        simp only [List.getElem?_cons_zero, List.getElem?_cons_succ] at b90 b91
        have bl9 := HM8.out.blk.lt
        have hn1 : ((p4.length : Int) != (p4.length : Int)) = false := by simp
        have hn2 : (((rall p4).length : Int) != ((rall p4).length : Int)) = false := by simp
        have hn3 : ((R : Int) != (R : Int)) = false := by simp
        have hsame : (rall p4 == rall p4) = true := by simp
        have HDN := Lib.hid hdn; have HLI := Lib.hid hli; have HRO := Lib.hid hro
        clear hdn hli hro HM8 HVW HBX8
        go_wp2_with fail
        refine wp_region_fr [(1, [0, 2, 3, 4]), (2, [1]), (1, [5, 6, 7, 9, 10]), (2, [8]), (1, [11, 12, 13, 14, 16, 17]), (2, [15]), (0, [18, 19, 20, 21, 23]), (2, [22]), (2, [24]), (0, [25, 26, 27, 28, 29, 30, 33, 34, 35, 36, 37]), (2, [31]), (0, [32, 38, 39])] [] (by kernel_rfl) (by kernel_rfl) ?_
        simp only [theOps, nthOp, List.map_cons, List.map_nil, Array.getD_eq_getD_getElem?, List.getElem?_toArray, List.getElem?_cons_succ, List.getElem?_cons_zero, Option.getD_some]
        repeat ((first | refine wpSegs_soft ?_ | refine wpSegs_pure ?_); (repeat (first | go_big_quiet_step (fail) | quiet_step (fail))); refine wpQuiet_nil ?_)
        refine wpSegs_keep ?_
        go_wp2_with fail
        refine (live_mark HM9.out.x).mono ?_
        rintro e w7 ⟨rfl, rfl⟩
        rw [HDN.out]
        go_wp2_with fail
        refine ⟨⟨⟨_, (by exact ⟨rfl, rfl, rfl, Nat.le_refl _, fun _ _ _ => rfl⟩)⟩, rfl⟩, ?_⟩
        repeat ((first | refine wpSegs_soft ?_ | refine wpSegs_pure ?_); (repeat (first | go_big_quiet_step (fail) | quiet_step (fail))); refine wpQuiet_nil ?_)
        refine wpSegs_keep ?_
        go_wp2_with fail
        refine (live_len HM9.out.x).mono ?_
        rintro e w7 ⟨rfl, rfl⟩
        rw [HLI.out]
        go_wp2_with fail
        refine ⟨⟨⟨_, (by exact ⟨rfl, rfl, rfl, Nat.le_refl _, fun _ _ _ => rfl⟩)⟩, rfl⟩, ?_⟩
        repeat ((first | refine wpSegs_soft ?_ | refine wpSegs_pure ?_); (repeat (first | go_big_quiet_step (fail) | quiet_step (fail))); refine wpQuiet_nil ?_)
        refine wpSegs_keep ?_
        go_wp2_with fail
        refine (live_room HM9.out.x).mono ?_
        rintro e w7 ⟨rfl, rfl⟩
        rw [HRO.out]
        go_wp2_with fail
        refine ⟨⟨⟨_, (by exact ⟨rfl, rfl, rfl, Nat.le_refl _, fun _ _ _ => rfl⟩)⟩, rfl⟩, ?_⟩
        repeat ((first | refine wpSegs_soft ?_ | refine wpSegs_pure ?_); (repeat (first | go_big_quiet_step (fail) | quiet_step (fail))); refine wpQuiet_nil ?_)
        refine wpSegs_keep ?_
        go_wp2_with fail
        refine (live_all HM9.out.x 100).mono ?_
        rintro e w7 ⟨vx, rfl, hv, hf, hkk⟩
        rw [HLI.out, List.take_of_length_le (by show (rall p4).length ≤ 100; omega)] at hv
        obtain ⟨lx, cx, rfl⟩ := ownsRow_any hv
        have HM7 := Lib.hid (HM9.out.fr0 hf); have HVW7 := Lib.hid (ownsRow_fr HVW9.out hf (by simp)); have HBX7 := Lib.hid (HBX9.out.fr hf (by simp)); have HVX := Lib.hid hv
        have HF7 := Lib.hid hf
        clear hv hf hkk HM9 HVW9 HBX9
        go_wp2_with fail
        refine ⟨⟨⟨_, (by exact HF7.out)⟩, rfl⟩, ?_⟩
        refine wpSegs_keep ?_
        go_wp2_with fail
        refine (same_any _ _ _ _ _ _ _ HVX.out HVW7.out (by omega) (by omega)).mono ?_
        rintro e w8 ⟨rfl, n8, rfl⟩
        rw [hsame]
        have HM8 := Lib.hid (HM7.out.fr0 ((Fr.refl [] _).drewN n8)); have HBX8 := Lib.hid (HBX7.out.fr ((Fr.refl [] _).drewN n8) (by simp))
        clear HM7 HBX7 HVX
        go_wp2_with fail
        refine ⟨⟨⟨_, (by exact HF7.out.drewN n8)⟩, rfl⟩, ?_⟩
        have HE2 := HE.out
        repeat ((first | refine wpSegs_soft ?_ | refine wpSegs_pure ?_); (repeat (first | go_big_quiet_step (fail) | quiet_step (fail))); refine wpQuiet_nil ?_)
        refine wpSegs_keep ?_
        go_wp2_with fail
        all_goals
          refine (live_all HM8.out.x r).mono ?_
          rintro e w9 ⟨vz, rfl, hv, hf, hkk⟩
          rw [HLI.out] at hv
          have hlr : (List.take (Int.toNat (r : Int)) (rall p4)).length = min r (rall p4).length := by simp
          first
            | rw [Nat.min_eq_left (by omega)] at hlr
            | rw [Nat.min_eq_right (by omega)] at hlr
          obtain ⟨lz, cz, rfl⟩ := ownsRow_any hv
          rw [hlr]
          have hn4 : ((r : Int) != (r : Int)) = false := by simp
          have HM9 := Lib.hid (HM8.out.fr0 hf); have HBX9 := Lib.hid (HBX8.out.fr hf (by simp))
          have HF9 := Lib.hid ((HF7.out.drewN n8).trans hf)
          clear hv hf hkk HM8 HBX8 hlr
          go_wp2_with fail
          refine ⟨⟨⟨_, (by exact HF9.out)⟩, rfl⟩, ?_⟩
          repeat ((first | refine wpSegs_soft ?_ | refine wpSegs_pure ?_); (repeat (first | go_big_quiet_step (fail) | quiet_step (fail))); refine wpQuiet_nil ?_)
          refine wpSegs_done ?_
          have y2 := HBX9.out.cell 2
          simp only [List.getElem?_cons_zero, List.getElem?_cons_succ] at y2
          have yl := HBX9.out.lt
          have z0 := HM9.out.blk.cell 0
          have z1 := HM9.out.blk.cell 1
          simp only [List.getElem?_cons_zero, List.getElem?_cons_succ] at z0 z1
          have zl := HM9.out.blk.lt
          clear b90 b91 HE2
          go_wp2_with fail
          have HX := Lib.hid (Blk.new w9 3 [.int .i64 oa, .int .i64 ask])
          have HM10 := Lib.hid (HM9.out.fr0 ((Fr.refl [] _).alloc (.cells #[.int .i64 oa, .int .i64 ask] 3)))
          clear HM9 HBX9 y2 yl z0 z1 HF9 HF7
          generalize w9.alloc (.cells #[.int .i64 oa, .int .i64 ask] 3) = w10 at *
          generalize w9.heap.size = X at *
          have hall : ∀ a, ((rget p4 a), W.get s6 a) = (rget p4 a, ((rget p4 a).1, (rget p4 a).2)) := fun a => by rw [rep_get HREP'.out a]
          have HALL := Lib.hid hall; clear hall
          generalize gk = GK at *
          go_loopg [120] 2 (fun g vi wr' => ∃ j, g + j = 2 ∧ vi = .int .i64 (j : Int) ∧ MP w wr' b fp6 s6 B R (.slice la4 p4.length lc4) p4 ∧ Blk wr' X 3 [.int .i64 oa, .int .i64 ask])
          case atStart => exact ⟨0, by omega, rfl, HM10.out, HX.out⟩
          case round =>
            clear HM10 HX
            obtain ⟨j, hgj, rfl, hm, hx⟩ := hrel
            have HM := Lib.hid hm
            have b0 := hm.blk.cell 0
            have b1 := hm.blk.cell 1
            have x0 := hx.cell 0
            have x1 := hx.cell 1
            simp only [List.getElem?_cons_zero, List.getElem?_cons_succ] at b0 b1 x0 x1
            have bl := hm.blk.lt
            have HX := Lib.hid hx
            have xl := hx.lt
            clear hm hx
            obtain rfl | rfl | rfl : j = 0 ∨ j = 1 ∨ j = 2 := by omega
            · clear x1
              go_wp2_with fail
              refine (live_get_to (v := (rget p4 oa).1) (r := (rget p4 oa).2) HM.out.x (congrArg Prod.snd (HALL.out oa))).mono ?_
              rintro e w11 ⟨rfl, n11, rfl⟩
              have HM2 := Lib.hid (HM.out.fr0 ((Fr.refl [] _).drewN n11)); have HX2 := Lib.hid (HX.out.fr ((Fr.refl [] _).drewN n11) (by simp))
              have b0' : (wr.drewN n11).cell? ⟨B, 0, none⟩ = some (.int .i64 R) := b0
              have b1' : (wr.drewN n11).cell? ⟨B, 1, none⟩ = some (.slice la4 p4.length lc4) := b1
              have bl' : B < (wr.drewN n11).heap.size := bl
              clear b0 b1 bl HM HX xl
              clear x0
              generalize wr.drewN n11 = W11 at *
              go_wp2_with fail
              refine (rget_any _ _ _ p4 oa _ HM2.out.row (by omega)).mono ?_
              rintro e w12 ⟨rfl, hf12⟩
              have HM3 := Lib.hid (HM2.out.fr0 hf12); have HX3 := Lib.hid (HX2.out.fr hf12 (by simp))
              clear hf12 HM2 HX2
              have hv1 : ((rget p4 oa).1 != (rget p4 oa).1) = false := by simp
              have hv2 : ((rget p4 oa).2 != (rget p4 oa).2) = false := by simp
              generalize (rget p4 oa).1 = gv at *
              generalize (rget p4 oa).2 = gb at *
              go_wp2_with fail
              go_roundg 1
              case measure => omega
              case rel => exact ⟨1, by omega, rfl, HM3.out, HX3.out⟩
            · clear x0
              go_wp2_with fail
              refine (live_get_to (v := (rget p4 ask).1) (r := (rget p4 ask).2) HM.out.x (congrArg Prod.snd (HALL.out ask))).mono ?_
              rintro e w11 ⟨rfl, n11, rfl⟩
              have HM2 := Lib.hid (HM.out.fr0 ((Fr.refl [] _).drewN n11)); have HX2 := Lib.hid (HX.out.fr ((Fr.refl [] _).drewN n11) (by simp))
              have b0' : (wr.drewN n11).cell? ⟨B, 0, none⟩ = some (.int .i64 R) := b0
              have b1' : (wr.drewN n11).cell? ⟨B, 1, none⟩ = some (.slice la4 p4.length lc4) := b1
              have bl' : B < (wr.drewN n11).heap.size := bl
              clear b0 b1 bl HM HX xl
              clear x1
              generalize wr.drewN n11 = W11 at *
              go_wp2_with fail
              refine (rget_any _ _ _ p4 ask _ HM2.out.row (by omega)).mono ?_
              rintro e w12 ⟨rfl, hf12⟩
              have HM3 := Lib.hid (HM2.out.fr0 hf12); have HX3 := Lib.hid (HX2.out.fr hf12 (by simp))
              clear hf12 HM2 HX2
              have hv1 : ((rget p4 ask).1 != (rget p4 ask).1) = false := by simp
              have hv2 : ((rget p4 ask).2 != (rget p4 ask).2) = false := by simp
              generalize (rget p4 ask).1 = gv at *
              generalize (rget p4 ask).2 = gb at *
              go_wp2_with fail
              go_roundg 0
              case measure => omega
              case rel => exact ⟨2, by omega, rfl, HM3.out, HX3.out⟩
            · go_wp2_with fail
              go_roundg (L.length - (k + 1))
              case measure => omega
              case rel => exact ⟨k + 1, by omega, rfl, fp6, _, _, _, HM.out, HREP'.out, hpl'⟩
      | false =>
        have hrb := rep_put HREP.out oa ov
        have hbk : W.put s oa ov = ((W.put s oa ov).1, (rput R p oa ov).2) := Prod.ext rfl hrb.1
        have hpl : (rput R p oa ov).1.length ≤ k + 1 := by unfold rput; split <;> simp <;> omega
        have HREP' := Lib.hid hrb.2
        have HBK := Lib.hid hbk
        clear hrb hbk
        go_wp2_with fail
        refine (rput_any _ _ _ p oa ov _ HM.out.row (by omega) (by have := HM.out.base; have := HM.out.blk.lt; omega) hR).mono ?_
        rintro e w4 ⟨sv4, rfl, hf4, hr4, hk4⟩
        obtain ⟨la4, lc4, rfl⟩ := ownsRow_any hr4
        have hM4 := HM.out.fr0 hf4
        have hbx4 := HBX.out.fr hf4 (by simp)
        have e0 := hM4.blk.cell 0
        have e1 := hM4.blk.cell 1
        have f0 := hM4.blk.froz 0
        have f1 := hM4.blk.froz 1
        have bl4 := hM4.blk.lt
        have x0 := hbx4.cell 0
        have x2 := hbx4.cell 2
        have x3 := hbx4.cell 3
        have xl := hbx4.lt
        have hne : B ≠ wr.heap.size := by omega
        simp only [List.getElem?_cons_zero, List.getElem?_cons_succ] at e0 e1 x0 x2 x3
        have HM4 := Lib.hid hM4; have HBX4 := Lib.hid hbx4; have HR4 := Lib.hid hr4; have HK4 := Lib.hid hk4
        clear hM4 hbx4 hr4 hk4 hf4 HBX
        generalize (rput R p oa ov).1 = p4 at *
        generalize (rput R p oa ov).2 = ok at *
        have hlt6 : ∀ q ∈ fp, q < wr.heap.size + 1 := fun q hq => by have := (HM.out.x.1.lt q hq).2; simpa using this
        have hput := (HM4.out.put HR4.out (fun q hq => by
            rcases HK4.out q hq with h1 | h1
            · exact HM4.out.sfp q h1
            · intro hm; have := hlt6 q hm; simp at h1; omega) (fun q hq => by
            rcases HK4.out q hq with h1 | h1
            · exact HM4.out.sb q h1
            · simp at h1; omega)).fr0 ((Fr.refl [] _).alloc (.cells #[.int .i64 R, .slice la4 p4.length lc4] 28))
        have hbx5 := ((HBX4.out.setOther (a := ⟨B, 0, none⟩) (.int .i64 R) (Ne.symm hne)).setOther (a := ⟨B, 1, none⟩) (.slice la4 p4.length lc4) (Ne.symm hne)).alloc (.cells #[.int .i64 R, .slice la4 p4.length lc4] 28)
        have hdl := HREP.out.done
        have HPUT := Lib.hid hput; have HBX5 := Lib.hid hbx5
        clear hput hbx5 HM4 HBX4 HM hlt6
        go_wp2_with fail
        refine (live_put_to HPUT.out.x HBK.out (by omega)).mono ?_
        rintro e w5 ⟨rfl, fp5, h5, hf5, hn5⟩
        have hM6 := HPUT.out.turn h5 hf5 hn5
        have hbx6 := HBX5.out.fr hf5 hbf
        have hbf5 : wr.heap.size ∉ fp5 := fun hm => by
          have := HBX5.out.lt
          rcases hn5 _ hm with h1 | h1
          · exact hbf h1
          · omega
        have hokk : (ok != ok) = false := by simp
        clear h5 hf5 HPUT HBX5 e0 e1 f0 f1 x0 x2 x3 xl hn5
        generalize (W.put s oa ov).1 = s6 at *
        clear hdl
        have hpl' : p4.length ≤ k + 1 := hpl
        obtain ⟨fp6, hM7, hbf6⟩ : ∃ fp6, MP w w5 b fp6 s6 B R (.slice la4 p4.length lc4) p4 ∧ wr.heap.size ∉ fp6 := ⟨fp5, hM6, hbf5⟩
        clear hM6 hbf HR4 HK4 HBK bl4 hpl hbf5
        have hrl6 : (rall p4).length ≤ p4.length := rallTo_length p4 p4.length
        have e0 := hM7.blk.cell 0
        have e1 := hM7.blk.cell 1
        have bl7 := hM7.blk.lt
        simp only [List.getElem?_cons_zero, List.getElem?_cons_succ] at e0 e1
        have HM7 := Lib.hid hM7; have HBX7 := Lib.hid hbx6
        clear hM7 hbx6
        go_wp2_with fail
        refine (rall_any w.heap.size R _ p4 _ HM7.out.row (by omega) (by have := HM7.out.base; omega)).mono ?_
        rintro e w6 ⟨vw, rfl, hvw, hfw, hkw⟩
        obtain ⟨lw, cw, rfl⟩ := ownsRow_any hvw
        have hM8 := HM7.out.fr0 hfw
        have hbx8 := HBX7.out.fr hfw (by simp)
        have HVW := Lib.hid hvw; have HM8 := Lib.hid hM8; have HBX8 := Lib.hid hbx8
        clear hvw hM8 hbx8 hfw HM7 HBX7 e0 e1
        have hdn := HREP'.out.done
        have hli := HREP'.out.list
        have hro := HREP'.out.room_
        have HM9 := Lib.hid (HM8.out.fr0 ((Fr.refl [] _).drew))
        have HVW9 := Lib.hid (ownsRow_fr HVW.out ((Fr.refl [] _).drew) (by simp))
        have HBX9 := Lib.hid (HBX8.out.fr ((Fr.refl [] _).drew) (by simp))
        have b90 := HM8.out.blk.cell 0
        have b91 := HM8.out.blk.cell 1
        simp only [List.getElem?_cons_zero, List.getElem?_cons_succ] at b90 b91
        have bl9 := HM8.out.blk.lt
        have hn1 : ((p4.length : Int) != (p4.length : Int)) = false := by simp
        have hn2 : (((rall p4).length : Int) != ((rall p4).length : Int)) = false := by simp
        have hn3 : ((R : Int) != (R : Int)) = false := by simp
        have hsame : (rall p4 == rall p4) = true := by simp
        have HDN := Lib.hid hdn; have HLI := Lib.hid hli; have HRO := Lib.hid hro
        clear hdn hli hro HM8 HVW HBX8
        go_wp2_with fail
        refine wp_region_fr [(1, [0, 2, 3, 4]), (2, [1]), (1, [5, 6, 7, 9, 10]), (2, [8]), (1, [11, 12, 13, 14, 16, 17]), (2, [15]), (0, [18, 19, 20, 21, 23]), (2, [22]), (2, [24]), (0, [25, 26, 27, 28, 29, 30, 33, 34, 35, 36, 37]), (2, [31]), (0, [32, 38, 39])] [] (by kernel_rfl) (by kernel_rfl) ?_
        simp only [theOps, nthOp, List.map_cons, List.map_nil, Array.getD_eq_getD_getElem?, List.getElem?_toArray, List.getElem?_cons_succ, List.getElem?_cons_zero, Option.getD_some]
        repeat ((first | refine wpSegs_soft ?_ | refine wpSegs_pure ?_); (repeat (first | go_big_quiet_step (fail) | quiet_step (fail))); refine wpQuiet_nil ?_)
        refine wpSegs_keep ?_
        go_wp2_with fail
        refine (live_mark HM9.out.x).mono ?_
        rintro e w7 ⟨rfl, rfl⟩
        rw [HDN.out]
        go_wp2_with fail
        refine ⟨⟨⟨_, (by exact ⟨rfl, rfl, rfl, Nat.le_refl _, fun _ _ _ => rfl⟩)⟩, rfl⟩, ?_⟩
        repeat ((first | refine wpSegs_soft ?_ | refine wpSegs_pure ?_); (repeat (first | go_big_quiet_step (fail) | quiet_step (fail))); refine wpQuiet_nil ?_)
        refine wpSegs_keep ?_
        go_wp2_with fail
        refine (live_len HM9.out.x).mono ?_
        rintro e w7 ⟨rfl, rfl⟩
        rw [HLI.out]
        go_wp2_with fail
        refine ⟨⟨⟨_, (by exact ⟨rfl, rfl, rfl, Nat.le_refl _, fun _ _ _ => rfl⟩)⟩, rfl⟩, ?_⟩
        repeat ((first | refine wpSegs_soft ?_ | refine wpSegs_pure ?_); (repeat (first | go_big_quiet_step (fail) | quiet_step (fail))); refine wpQuiet_nil ?_)
        refine wpSegs_keep ?_
        go_wp2_with fail
        refine (live_room HM9.out.x).mono ?_
        rintro e w7 ⟨rfl, rfl⟩
        rw [HRO.out]
        go_wp2_with fail
        refine ⟨⟨⟨_, (by exact ⟨rfl, rfl, rfl, Nat.le_refl _, fun _ _ _ => rfl⟩)⟩, rfl⟩, ?_⟩
        repeat ((first | refine wpSegs_soft ?_ | refine wpSegs_pure ?_); (repeat (first | go_big_quiet_step (fail) | quiet_step (fail))); refine wpQuiet_nil ?_)
        refine wpSegs_keep ?_
        go_wp2_with fail
        refine (live_all HM9.out.x 100).mono ?_
        rintro e w7 ⟨vx, rfl, hv, hf, hkk⟩
        rw [HLI.out, List.take_of_length_le (by show (rall p4).length ≤ 100; omega)] at hv
        obtain ⟨lx, cx, rfl⟩ := ownsRow_any hv
        have HM7 := Lib.hid (HM9.out.fr0 hf); have HVW7 := Lib.hid (ownsRow_fr HVW9.out hf (by simp)); have HBX7 := Lib.hid (HBX9.out.fr hf (by simp)); have HVX := Lib.hid hv
        have HF7 := Lib.hid hf
        clear hv hf hkk HM9 HVW9 HBX9
        go_wp2_with fail
        refine ⟨⟨⟨_, (by exact HF7.out)⟩, rfl⟩, ?_⟩
        refine wpSegs_keep ?_
        go_wp2_with fail
        refine (same_any _ _ _ _ _ _ _ HVX.out HVW7.out (by omega) (by omega)).mono ?_
        rintro e w8 ⟨rfl, n8, rfl⟩
        rw [hsame]
        have HM8 := Lib.hid (HM7.out.fr0 ((Fr.refl [] _).drewN n8)); have HBX8 := Lib.hid (HBX7.out.fr ((Fr.refl [] _).drewN n8) (by simp))
        clear HM7 HBX7 HVX
        go_wp2_with fail
        refine ⟨⟨⟨_, (by exact HF7.out.drewN n8)⟩, rfl⟩, ?_⟩
        have HE2 := HE.out
        repeat ((first | refine wpSegs_soft ?_ | refine wpSegs_pure ?_); (repeat (first | go_big_quiet_step (fail) | quiet_step (fail))); refine wpQuiet_nil ?_)
        refine wpSegs_keep ?_
        go_wp2_with fail
        all_goals
          refine (live_all HM8.out.x r).mono ?_
          rintro e w9 ⟨vz, rfl, hv, hf, hkk⟩
          rw [HLI.out] at hv
          have hlr : (List.take (Int.toNat (r : Int)) (rall p4)).length = min r (rall p4).length := by simp
          first
            | rw [Nat.min_eq_left (by omega)] at hlr
            | rw [Nat.min_eq_right (by omega)] at hlr
          obtain ⟨lz, cz, rfl⟩ := ownsRow_any hv
          rw [hlr]
          have hn4 : ((r : Int) != (r : Int)) = false := by simp
          have HM9 := Lib.hid (HM8.out.fr0 hf); have HBX9 := Lib.hid (HBX8.out.fr hf (by simp))
          have HF9 := Lib.hid ((HF7.out.drewN n8).trans hf)
          clear hv hf hkk HM8 HBX8 hlr
          go_wp2_with fail
          refine ⟨⟨⟨_, (by exact HF9.out)⟩, rfl⟩, ?_⟩
          repeat ((first | refine wpSegs_soft ?_ | refine wpSegs_pure ?_); (repeat (first | go_big_quiet_step (fail) | quiet_step (fail))); refine wpQuiet_nil ?_)
          refine wpSegs_done ?_
          have y2 := HBX9.out.cell 2
          simp only [List.getElem?_cons_zero, List.getElem?_cons_succ] at y2
          have yl := HBX9.out.lt
          have z0 := HM9.out.blk.cell 0
          have z1 := HM9.out.blk.cell 1
          simp only [List.getElem?_cons_zero, List.getElem?_cons_succ] at z0 z1
          have zl := HM9.out.blk.lt
          clear b90 b91 HE2
          go_wp2_with fail
          have HX := Lib.hid (Blk.new w9 3 [.int .i64 oa, .int .i64 ask])
          have HM10 := Lib.hid (HM9.out.fr0 ((Fr.refl [] _).alloc (.cells #[.int .i64 oa, .int .i64 ask] 3)))
          clear HM9 HBX9 y2 yl z0 z1 HF9 HF7
          generalize w9.alloc (.cells #[.int .i64 oa, .int .i64 ask] 3) = w10 at *
          generalize w9.heap.size = X at *
          have hall : ∀ a, ((rget p4 a), W.get s6 a) = (rget p4 a, ((rget p4 a).1, (rget p4 a).2)) := fun a => by rw [rep_get HREP'.out a]
          have HALL := Lib.hid hall; clear hall
          generalize gk = GK at *
          go_loopg [120] 2 (fun g vi wr' => ∃ j, g + j = 2 ∧ vi = .int .i64 (j : Int) ∧ MP w wr' b fp6 s6 B R (.slice la4 p4.length lc4) p4 ∧ Blk wr' X 3 [.int .i64 oa, .int .i64 ask])
          case atStart => exact ⟨0, by omega, rfl, HM10.out, HX.out⟩
          case round =>
            clear HM10 HX
            obtain ⟨j, hgj, rfl, hm, hx⟩ := hrel
            have HM := Lib.hid hm
            have b0 := hm.blk.cell 0
            have b1 := hm.blk.cell 1
            have x0 := hx.cell 0
            have x1 := hx.cell 1
            simp only [List.getElem?_cons_zero, List.getElem?_cons_succ] at b0 b1 x0 x1
            have bl := hm.blk.lt
            have HX := Lib.hid hx
            have xl := hx.lt
            clear hm hx
            obtain rfl | rfl | rfl : j = 0 ∨ j = 1 ∨ j = 2 := by omega
            · clear x1
              go_wp2_with fail
              refine (live_get_to (v := (rget p4 oa).1) (r := (rget p4 oa).2) HM.out.x (congrArg Prod.snd (HALL.out oa))).mono ?_
              rintro e w11 ⟨rfl, n11, rfl⟩
              have HM2 := Lib.hid (HM.out.fr0 ((Fr.refl [] _).drewN n11)); have HX2 := Lib.hid (HX.out.fr ((Fr.refl [] _).drewN n11) (by simp))
              have b0' : (wr.drewN n11).cell? ⟨B, 0, none⟩ = some (.int .i64 R) := b0
              have b1' : (wr.drewN n11).cell? ⟨B, 1, none⟩ = some (.slice la4 p4.length lc4) := b1
              have bl' : B < (wr.drewN n11).heap.size := bl
              clear b0 b1 bl HM HX xl
              clear x0
              generalize wr.drewN n11 = W11 at *
              go_wp2_with fail
              refine (rget_any _ _ _ p4 oa _ HM2.out.row (by omega)).mono ?_
              rintro e w12 ⟨rfl, hf12⟩
              have HM3 := Lib.hid (HM2.out.fr0 hf12); have HX3 := Lib.hid (HX2.out.fr hf12 (by simp))
              clear hf12 HM2 HX2
              have hv1 : ((rget p4 oa).1 != (rget p4 oa).1) = false := by simp
              have hv2 : ((rget p4 oa).2 != (rget p4 oa).2) = false := by simp
              generalize (rget p4 oa).1 = gv at *
              generalize (rget p4 oa).2 = gb at *
              go_wp2_with fail
              go_roundg 1
              case measure => omega
              case rel => exact ⟨1, by omega, rfl, HM3.out, HX3.out⟩
            · clear x0
              go_wp2_with fail
              refine (live_get_to (v := (rget p4 ask).1) (r := (rget p4 ask).2) HM.out.x (congrArg Prod.snd (HALL.out ask))).mono ?_
              rintro e w11 ⟨rfl, n11, rfl⟩
              have HM2 := Lib.hid (HM.out.fr0 ((Fr.refl [] _).drewN n11)); have HX2 := Lib.hid (HX.out.fr ((Fr.refl [] _).drewN n11) (by simp))
              have b0' : (wr.drewN n11).cell? ⟨B, 0, none⟩ = some (.int .i64 R) := b0
              have b1' : (wr.drewN n11).cell? ⟨B, 1, none⟩ = some (.slice la4 p4.length lc4) := b1
              have bl' : B < (wr.drewN n11).heap.size := bl
              clear b0 b1 bl HM HX xl
              clear x1
              generalize wr.drewN n11 = W11 at *
              go_wp2_with fail
              refine (rget_any _ _ _ p4 ask _ HM2.out.row (by omega)).mono ?_
              rintro e w12 ⟨rfl, hf12⟩
              have HM3 := Lib.hid (HM2.out.fr0 hf12); have HX3 := Lib.hid (HX2.out.fr hf12 (by simp))
              clear hf12 HM2 HX2
              have hv1 : ((rget p4 ask).1 != (rget p4 ask).1) = false := by simp
              have hv2 : ((rget p4 ask).2 != (rget p4 ask).2) = false := by simp
              generalize (rget p4 ask).1 = gv at *
              generalize (rget p4 ask).2 = gb at *
              go_wp2_with fail
              go_roundg 0
              case measure => omega
              case rel => exact ⟨2, by omega, rfl, HM3.out, HX3.out⟩
            · go_wp2_with fail
              go_roundg (L.length - (k + 1))
              case measure => omega
              case rel => exact ⟨k + 1, by omega, rfl, fp6, _, _, _, HM.out, HREP'.out, hpl'⟩
    · have hM := Lib.hid h
      go_wp2_with fail
      go_ret
      exact ⟨rfl, hM.out.x.2.1⟩
end Go.Proofs.Ytdhcaelhjpgliaa
