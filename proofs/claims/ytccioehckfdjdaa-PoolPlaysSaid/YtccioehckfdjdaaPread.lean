/- law10's read: a pool that replies were handed. -/
import Derived.Test.YtccioehckfdjdaaPtell
set_option linter.unusedSimpArgs false
set_option linter.unusedVariables false
namespace Go.Tum.P
open Go.Tum.Y
/-- Replies are handed on, as long as it asks. -/
def feed (c : Cfg) (seq : Int) : List O3 → Nat → St → St × Nat
  | [], k, p => (p, k)
  | o :: r, k, p => if p.s ≠ 0 then (p, k) else feed c seq r (k + 1) (tell c seq o.v o.s p)
theorem ask_snd (c : Cfg) (p : St) : (ask c p).2 = decide (p.s = 0) := by
  unfold ask
  by_cases h : p.s = 0
  · rw [if_neg (by simpa using h)]
    split
    · simp [h]
    · split
      · simp [h]
      · split <;> simp [h]
  · rw [if_pos h]; simp [h]
theorem feed_ok {c : Cfg} (h : Y.Ok c) (seq : Int) : ∀ (l : List O3) (k : Nat) (p : St), Ok c p → (∀ o ∈ l, 0 ≤ o.v ∧ o.v ≤ 18446744073709551615) → Ok c (feed c seq l k p).1
  | [], _, _, hp, _ => hp
  | o :: r, k, p, hp, hl => by
    unfold feed
    split
    · exact hp
    · exact feed_ok h seq r (k + 1) _ (ok_tell h hp seq o.v o.s (hl o (by simp))) (fun x hx => hl x (by simp [hx]))
end Go.Tum.P
namespace Go.Proofs.Ytccioehckfdjdaa
open Go.RowKit Go.Tum Go.Tum.Y
set_option maxRecDepth 100000 in
set_option maxHeartbeats 8000000 in
theorem pread_any (w : World) (c : Cfg) (hok : Y.Ok c) (seq : Int) (oa : Option Addr) (n oc : Nat) (l : List O3) (hl : l.length = n) (hn : n ≤ 100000) (hO : ArgE enO 3 w (.slice oa n oc) l) (hG : ∀ o ∈ l, 0 ≤ o.v ∧ o.v ≤ 18446744073709551615) :
    Calls Try.prog 32 #[mapV c, .int .u64 seq, .slice oa n oc] w fun e w' => ∃ b, e = .returned (.tuple #[.pointer (some ⟨b, 0, none⟩), .int .i64 (P.feed c seq l 0 P.new0).2]) ∧ Sep w w' [poolT c seq b (P.feed c seq l 0 P.new0).1] := by
  have hsz : (mapCells c).length = 24 := rfl
  obtain ⟨FIN, hFIN⟩ : ∃ FIN, P.feed c seq l 0 P.new0 = FIN := ⟨_, rfl⟩
  rw [hFIN]
  have HN := Lib.hid (fun w => pnew_any w c seq)
  have HK := Lib.hid (fun (w' : World) (R : List Thing) (b : Nat) (p : P.St) hp hS => pask_of (w0 := w) (w := w') (R := R) b c hok seq p hp hS)
  have HT := Lib.hid (fun (w' : World) (R : List Thing) (b : Nat) (x s : Int) (ok : Bool) hx (p : P.St) hp hS => ptell_of (w0 := w) (w := w') (R := R) b c hok seq x s ok hx p hp hS)
  have HOK := Lib.hid (fun (p : P.St) (v s : Int) (hv : 0 ≤ v ∧ v ≤ 18446744073709551615) hp => P.ok_tell hok (p := p) hp seq v s hv)
  have HO0 := Lib.hid (P.ok_new c hok)
  have HO := Lib.hid hO; clear hO
  have HGG := Lib.hid hG; clear hG
  unfold mapV at *
  generalize mapCells c = cs at *
  have HS := Lib.hid ((Sep.nil (Fr.refl [] w)).new 31 cs)
  go_enter Try.func32, Try.ntmps32
  go_wp2_with (refine wpList_load_any 31 _ rfl rfl _ 0 rfl cs _ (HS.out.blk 0 rfl).range Try.underlying31 rfl (by rw [hsz]; kernel_rfl) ?_)
  refine (HN.out _).mono ?_
  rintro e w2 ⟨b, rfl, hn2⟩
  have HS1 := Lib.hid (HS.out.fresh hn2.toFresh); clear hn2 HS
  have hni : (n : Int) ≤ 100000 := by omega
  go_wp2_with fail
  go_loopg [18] n (fun g vi wr => ∃ (j : Nat) (p : P.St), g + j = n ∧ vi = .int .i64 (j : Int) ∧ (P.Ok c p ∧ P.feed c seq (l.drop j) j p = FIN) ∧ Sep w wr [poolT c seq b p, blkT w.heap.size 31 cs])
  case atStart => exact ⟨0, P.new0, by omega, rfl, ⟨HO0.out, hFIN⟩, HS1.out⟩
  case round =>
    clear HS1
    obtain ⟨j, p, hgj, rfl, ⟨hp, hF⟩, hS⟩ := hrel
    by_cases hj : j < n
    · have hji : (j : Int) < (n : Int) := by omega
      have hjl : j < l.length := by omega
      obtain ⟨x, rfl, hx, c0, c1⟩ := (HO.out.fr hS.fr).at hjl
      have hgo := HGG.out l[j] (List.getElem_mem hjl)
      rw [List.drop_eq_getElem_cons hjl] at hF
      generalize l[j] = o at *
      obtain ⟨ov, os, ook⟩ := o
      have d0 := c0 _ rfl
      have d1 := c1 0 _ rfl
      have d2 := c1 1 _ rfl
      unfold P.feed at hF
      dsimp only at hF hgo
      have HS := Lib.hid (hS.new 55 [.int .u64 ov, .int .u64 os, .bool ook]); clear hS c0 c1
      go_wp2_with fail
      refine (HK.out _ _ b p hp (HS.out.pull 1 rfl)).mono ?_
      rintro e w3 ⟨rfl, hf⟩
      have HS := Lib.hid ((HS.out.fr0 hf).new 43 (enP p0)); clear hf d0 d1 d2 hx
      rw [P.ask_snd]
      have honeP := enP_one (P.ask c p).1
      generalize (P.ask c p).1 = aa at *
      by_cases h0 : p.s = 0
      · rw [if_neg (by simpa using h0)] at hF
        rw [decide_eq_true h0]
        clear h0
        go_wp2_with (refine wpList_store_sep HS.out 0 rfl (enP aa) 43 _ _ rfl rfl rfl rfl rfl (by kernel_rfl) honeP (fun wA hA _ => ?_); have o0 := (hA.blk 1 rfl).cell 0; have o1 := (hA.blk 1 rfl).cell 1; have o2 := (hA.blk 1 rfl).cell 2; have ol := (hA.blk 1 rfl).lt; simp only [List.set_cons_zero, List.set_cons_succ, List.getElem?_cons_zero, List.getElem?_cons_succ] at o0 o1 o2; have HA := Lib.hid hA; clear hA)
        refine (HT.out _ _ b ov os ook hgo p hp (HA.out.pull 2 rfl)).mono ?_
        rintro e w4 ⟨rfl, h4⟩
        have HS4 := Lib.hid ((h4.pull 3 rfl).pull 1 rfl); clear h4 HA HS o0 o1 o2 ol
        go_wp2_with fail
        go_roundg (n - (j + 1))
        case measure => omega
        case rel => exact ⟨j + 1, _, by omega, by go_num, ⟨HOK.out p ov os hgo hp, hF⟩, HS4.out.sub [0, 1] rfl (by decide)⟩
      · rw [if_pos h0] at hF
        rw [decide_eq_false h0]
        clear h0
        go_wp2_with (refine wpList_store_sep HS.out 0 rfl (enP aa) 43 _ _ rfl rfl rfl rfl rfl (by kernel_rfl) honeP (fun wA hA _ => ?_); have HA := Lib.hid hA; clear hA)
        subst hF
        refine bodyPost_ret (v := .tuple #[.pointer (some ⟨b, 0, none⟩), .int .i64 (j : Int)]) (by simp [results, Try.results32, go_sem]) rfl ?_
        exact ⟨b, rfl, HA.out.sub [2] rfl (by decide)⟩
    · obtain rfl : j = n := by omega
      rw [List.drop_of_length_le (by omega)] at hF
      unfold P.feed at hF
      go_wp2_with fail
      go_ret2
      subst hF
      exact ⟨b, rfl, (hS.pull 1 rfl).tail⟩
end Go.Proofs.Ytccioehckfdjdaa
