/- The walk of help's Tell. -/
import Derived.Test.YtccioehckfdjdaaHent
import Derived.Test.YtccioehckfdjdaaHask
import Derived.Test.YtccioehckfdjdaaEq
set_option linter.unusedSimpArgs false
set_option linter.unusedVariables false
namespace Go.Proofs.Ytccioehckfdjdaa
open Go.RowKit Go.Tum Go.Tum.Y Go.Tum.Sc
/-- A thread that does a transaction, with the entries that it holds. -/
def helpT (c : Cfg) (who owner seq : Int) (b : Nat) (h : H.H) : Thing :=
  exT (fun v : Value => andT (blkT b 181 (H.hL (mapCells c) who owner seq v h)) (rowT 0 136 2 v h.list.length (flat enE h.list)))
theorem helpT_of {w0 w : World} {R : List Thing} {c : Cfg} {who owner seq : Int} {b : Nat} {h : H.H} (hS : Sep w0 w (helpT c who owner seq b h :: R)) :
    ∃ la lc, Sep w0 w (blkT b 181 (H.hL (mapCells c) who owner seq (.slice la h.list.length lc) h) :: rowT 0 136 2 (.slice la h.list.length lc) h.list.length (flat enE h.list) :: R) := by
  obtain ⟨v, h1⟩ := hS.ofEx
  have h2 := h1.ofAnd
  obtain ⟨la, lc, rfl⟩ := h2.form 1 rfl
  exact ⟨la, lc, h2⟩
theorem helpT_to {w0 w : World} {R : List Thing} {c : Cfg} {who owner seq : Int} {b : Nat} {h : H.H} {v : Value} {n : Nat} (hn : n = h.list.length)
    (hS : Sep w0 w (blkT b 181 (H.hL (mapCells c) who owner seq v h) :: rowT 0 136 2 v n (flat enE h.list) :: R)) : Sep w0 w (helpT c who owner seq b h :: R) := by
  subst hn
  exact Sep.toEx (A := Value) (fun v => andT (blkT b 181 (H.hL (mapCells c) who owner seq v h)) (rowT 0 136 2 v h.list.length (flat enE h.list))) hS.toAnd
theorem eql_cell (w : World) (a b x y : Int) : (binOp .eql 41 (.agg #[.int .u64 a, .int .u64 b]) (.agg #[.int .u64 x, .int .u64 y])).run Try.prog w = .ok (.bool (decide (a = x ∧ b = y))) w := by
  have h2 := Try.underlying41
  have h4 := Try.underlying22
  have p2 : Try.prog.stoodInHeld 41 = false := by kernel_rfl
  simp only [run_eql_struct]
  rw [run_equalIn_struct w 9999 41 _ _ (by unfold Program.fieldsOf; rw [h2]) p2]
  simp [Program.fieldsOf, h2, h4, p2, Op.eqFields, go_sem]
  repeat (first | rfl | (split <;> simp_all))
theorem uwrap_id (x : Int) (h0 : 0 ≤ x) (h1 : x ≤ 18446744073709551615) : IntKind.u64.wrap x = x := by rw [IntKind.wrap_u64]; omega
set_option maxRecDepth 100000 in
set_option maxHeartbeats 8000000 in
theorem htell_3 {w0 w : World} {R : List Thing} (b : Nat) (c : Cfg) (hok : Ok c) (who owner seq : Int) (L : List (Int × Int)) (n : Int) (kn : Nat) (held cv cc nx x s : Int) (ok : Bool) (hx : 0 ≤ x ∧ x ≤ 18446744073709551615) (hs : 0 ≤ s) (hg : H.Good c ⟨L, n, kn, held, cv, cc, nx⟩) (hnx : nx = 3) (hS : Sep w0 w (helpT c who owner seq b ⟨L, n, kn, held, cv, cc, nx⟩ :: R)) :
    Calls Try.prog 67 #[.pointer (some ⟨b, 0, none⟩), .agg #[.int .u64 x, .int .u64 s, .bool ok]] w fun e w' => e = .returned (.tuple #[]) ∧ Sep w0 w' (helpT c who owner seq b (H.tell c seq x s ⟨L, n, kn, held, cv, cc, nx⟩) :: R) := by
  subst hnx
  have htl : H.tell c seq x s ⟨L, n, kn, held, cv, cc, 3⟩ = ⟨L, n, kn, -1, cv, cc, 4⟩ := by simp [H.tell]
  rw [htl]; clear htl
  obtain ⟨la, lc, hS⟩ := helpT_of hS
  dsimp only at hS
  have hmi : ((L.length : Nat) : Int) ≤ 100000 := by have := hg.2.2.2.1; dsimp only at this; omega
  have HTO := Lib.hid (fun (w' : World) (R' : List Thing) (v : Value) (n' : Nat) (h' : H.H) (hn : n' = h'.list.length) (hS : Sep w0 w' (blkT b 181 (H.hL (mapCells c) who owner seq v h') :: rowT 0 136 2 v n' (flat enE h'.list) :: R')) => helpT_to (c := c) hn hS)
  have HO := Lib.hid (fun (w' : World) (hB : Blk w' b 181 (H.hL (mapCells c) who owner seq (.slice la L.length lc) ⟨L, n, kn, held, cv, cc, 3⟩)) => hopen_any w' c hok b who owner seq (.slice la L.length lc) ⟨L, n, kn, held, cv, cc, 3⟩ hB)
  have hsz : (mapCells c).length = 24 := rfl
  generalize at_ c 4 owner 0 = a4 at HO
  have HS := Lib.hid (hS.new 55 [.int .u64 x, .int .u64 s, .bool ok]); clear hS
  generalize hth : helpT c who owner seq b ⟨L, n, kn, -1, cv, cc, 4⟩ = TH
  have HTO2 := Lib.hid (HTO.out); clear HTO
  generalize hcs : mapCells c = cs at *
  generalize hLm : L.length = m at *
  go_enter Try.func67, Try.ntmps67
  go_wp2_with fail
  refine (HO.out _ (HS.out.blk 1 rfl)).mono ?_
  rintro e w1 ⟨rfl, hf⟩
  have hS := (HS.out.fr0 hf).new 41 [.int .u64 1, .int .u64 seq]
  have z0 := (hS.blk 1 rfl).cell 0
  have z1 := (hS.blk 1 rfl).cell 1
  have zl := (hS.blk 1 rfl).lt
  simp only [List.getElem?_cons_zero, List.getElem?_cons_succ] at z0 z1
  have hS := hS.new 41 [.int .u64 x, .int .u64 s]
  simp only [World.size_alloc] at hS
  have HS := Lib.hid hS; clear hS hf HO
  have k24 := ((HS.out.blk 3 rfl).cell 24).trans (H.hL_at hsz who owner seq (.slice la m lc) ⟨L, n, kn, held, cv, cc, _⟩).1
  have k26 := ((HS.out.blk 3 rfl).cell 26).trans (H.hL_at hsz who owner seq (.slice la m lc) ⟨L, n, kn, held, cv, cc, _⟩).2.2.1
  have k27 := ((HS.out.blk 3 rfl).cell 27).trans (H.hL_at hsz who owner seq (.slice la m lc) ⟨L, n, kn, held, cv, cc, _⟩).2.2.2.1
  have k28 := ((HS.out.blk 3 rfl).cell 28).trans (H.hL_at hsz who owner seq (.slice la m lc) ⟨L, n, kn, held, cv, cc, _⟩).2.2.2.2.1
  have k29 := ((HS.out.blk 3 rfl).cell 29).trans (H.hL_at hsz who owner seq (.slice la m lc) ⟨L, n, kn, held, cv, cc, _⟩).2.2.2.2.2.1
  have k30 := ((HS.out.blk 3 rfl).cell 30).trans (H.hL_at hsz who owner seq (.slice la m lc) ⟨L, n, kn, held, cv, cc, _⟩).2.2.2.2.2.2.1
  have k33 := ((HS.out.blk 3 rfl).cell 33).trans (H.hL_at hsz who owner seq (.slice la m lc) ⟨L, n, kn, held, cv, cc, _⟩).2.2.2.2.2.2.2.2.2
  have f28 := (HS.out.blk 3 rfl).froz 28
  have f30 := (HS.out.blk 3 rfl).froz 30
  have f33 := (HS.out.blk 3 rfl).froz 33
  have f27 := (HS.out.blk 3 rfl).froz 27
  have kl := (HS.out.blk 3 rfl).lt
  try dsimp only at k24 k26 k27 k28 k29 k30 k33
  have c0 := (HS.out.blk 0 rfl).cell 0
  have c1 := (HS.out.blk 0 rfl).cell 1
  have i0 := (HS.out.blk 1 rfl).cell 0
  have i1 := (HS.out.blk 1 rfl).cell 1
  have cl := (HS.out.blk 0 rfl).lt
  have il := (HS.out.blk 1 rfl).lt
  simp only [List.getElem?_cons_zero, List.getElem?_cons_succ] at c0 c1 i0 i1
  have hS2 := (HS.out.set 3 rfl 30 (.int .i64 (-1))).set 3 rfl 33 (.int .i64 4)
  simp only [List.set_cons_zero, List.set_cons_succ, H.hL_held hsz, H.hL_next hsz] at hS2
  have HS2 := Lib.hid hS2; clear hS2
  go_wp2_with fail
  go_end0
  refine ⟨rfl, ?_⟩
  rw [← hth]
  exact HTO2.out _ _ _ _ ⟨L, n, kn, -1, cv, cc, 4⟩ hLm.symm HS2.out.tail.tail.tail
set_option maxRecDepth 100000 in
set_option maxHeartbeats 8000000 in
theorem htell_7 {w0 w : World} {R : List Thing} (b : Nat) (c : Cfg) (hok : Ok c) (who owner seq : Int) (L : List (Int × Int)) (n : Int) (kn : Nat) (held cv cc nx x s : Int) (ok : Bool) (hx : 0 ≤ x ∧ x ≤ 18446744073709551615) (hs : 0 ≤ s) (hg : H.Good c ⟨L, n, kn, held, cv, cc, nx⟩) (hnx : nx = 7) (hS : Sep w0 w (helpT c who owner seq b ⟨L, n, kn, held, cv, cc, nx⟩ :: R)) :
    Calls Try.prog 67 #[.pointer (some ⟨b, 0, none⟩), .agg #[.int .u64 x, .int .u64 s, .bool ok]] w fun e w' => e = .returned (.tuple #[]) ∧ Sep w0 w' (helpT c who owner seq b (H.tell c seq x s ⟨L, n, kn, held, cv, cc, nx⟩) :: R) := by
  subst hnx
  have htl : H.tell c seq x s ⟨L, n, kn, held, cv, cc, 7⟩ = ⟨L, n, kn, held, cv, cc, 8⟩ := by simp [H.tell]
  rw [htl]; clear htl
  obtain ⟨la, lc, hS⟩ := helpT_of hS
  dsimp only at hS
  have hmi : ((L.length : Nat) : Int) ≤ 100000 := by have := hg.2.2.2.1; dsimp only at this; omega
  have HTO := Lib.hid (fun (w' : World) (R' : List Thing) (v : Value) (n' : Nat) (h' : H.H) (hn : n' = h'.list.length) (hS : Sep w0 w' (blkT b 181 (H.hL (mapCells c) who owner seq v h') :: rowT 0 136 2 v n' (flat enE h'.list) :: R')) => helpT_to (c := c) hn hS)
  have HO := Lib.hid (fun (w' : World) (hB : Blk w' b 181 (H.hL (mapCells c) who owner seq (.slice la L.length lc) ⟨L, n, kn, held, cv, cc, 7⟩)) => hopen_any w' c hok b who owner seq (.slice la L.length lc) ⟨L, n, kn, held, cv, cc, 7⟩ hB)
  have hsz : (mapCells c).length = 24 := rfl
  generalize at_ c 4 owner 0 = a4 at HO
  have HS := Lib.hid (hS.new 55 [.int .u64 x, .int .u64 s, .bool ok]); clear hS
  generalize hth : helpT c who owner seq b ⟨L, n, kn, held, cv, cc, 8⟩ = TH
  have HTO2 := Lib.hid (HTO.out); clear HTO
  generalize hcs : mapCells c = cs at *
  generalize hLm : L.length = m at *
  go_enter Try.func67, Try.ntmps67
  go_wp2_with fail
  refine (HO.out _ (HS.out.blk 1 rfl)).mono ?_
  rintro e w1 ⟨rfl, hf⟩
  have hS := (HS.out.fr0 hf).new 41 [.int .u64 1, .int .u64 seq]
  have z0 := (hS.blk 1 rfl).cell 0
  have z1 := (hS.blk 1 rfl).cell 1
  have zl := (hS.blk 1 rfl).lt
  simp only [List.getElem?_cons_zero, List.getElem?_cons_succ] at z0 z1
  have hS := hS.new 41 [.int .u64 x, .int .u64 s]
  simp only [World.size_alloc] at hS
  have HS := Lib.hid hS; clear hS hf HO
  have k24 := ((HS.out.blk 3 rfl).cell 24).trans (H.hL_at hsz who owner seq (.slice la m lc) ⟨L, n, kn, held, cv, cc, _⟩).1
  have k26 := ((HS.out.blk 3 rfl).cell 26).trans (H.hL_at hsz who owner seq (.slice la m lc) ⟨L, n, kn, held, cv, cc, _⟩).2.2.1
  have k27 := ((HS.out.blk 3 rfl).cell 27).trans (H.hL_at hsz who owner seq (.slice la m lc) ⟨L, n, kn, held, cv, cc, _⟩).2.2.2.1
  have k28 := ((HS.out.blk 3 rfl).cell 28).trans (H.hL_at hsz who owner seq (.slice la m lc) ⟨L, n, kn, held, cv, cc, _⟩).2.2.2.2.1
  have k29 := ((HS.out.blk 3 rfl).cell 29).trans (H.hL_at hsz who owner seq (.slice la m lc) ⟨L, n, kn, held, cv, cc, _⟩).2.2.2.2.2.1
  have k30 := ((HS.out.blk 3 rfl).cell 30).trans (H.hL_at hsz who owner seq (.slice la m lc) ⟨L, n, kn, held, cv, cc, _⟩).2.2.2.2.2.2.1
  have k33 := ((HS.out.blk 3 rfl).cell 33).trans (H.hL_at hsz who owner seq (.slice la m lc) ⟨L, n, kn, held, cv, cc, _⟩).2.2.2.2.2.2.2.2.2
  have f28 := (HS.out.blk 3 rfl).froz 28
  have f30 := (HS.out.blk 3 rfl).froz 30
  have f33 := (HS.out.blk 3 rfl).froz 33
  have f27 := (HS.out.blk 3 rfl).froz 27
  have kl := (HS.out.blk 3 rfl).lt
  try dsimp only at k24 k26 k27 k28 k29 k30 k33
  have c0 := (HS.out.blk 0 rfl).cell 0
  have c1 := (HS.out.blk 0 rfl).cell 1
  have i0 := (HS.out.blk 1 rfl).cell 0
  have i1 := (HS.out.blk 1 rfl).cell 1
  have cl := (HS.out.blk 0 rfl).lt
  have il := (HS.out.blk 1 rfl).lt
  simp only [List.getElem?_cons_zero, List.getElem?_cons_succ] at c0 c1 i0 i1
  have hS2 := (HS.out.set 3 rfl 33 (.int .i64 8))
  simp only [List.set_cons_zero, List.set_cons_succ, H.hL_next hsz] at hS2
  have HS2 := Lib.hid hS2; clear hS2
  go_wp2_with fail
  go_end0
  refine ⟨rfl, ?_⟩
  rw [← hth]
  exact HTO2.out _ _ _ _ ⟨L, n, kn, held, cv, cc, 8⟩ hLm.symm HS2.out.tail.tail.tail
set_option maxRecDepth 100000 in
set_option maxHeartbeats 8000000 in
theorem htell_6 {w0 w : World} {R : List Thing} (b : Nat) (c : Cfg) (hok : Ok c) (who owner seq : Int) (L : List (Int × Int)) (n : Int) (kn : Nat) (held cv cc nx x s : Int) (ok : Bool) (hx : 0 ≤ x ∧ x ≤ 18446744073709551615) (hs : 0 ≤ s) (hg : H.Good c ⟨L, n, kn, held, cv, cc, nx⟩) (hnx : nx = 6) (hS : Sep w0 w (helpT c who owner seq b ⟨L, n, kn, held, cv, cc, nx⟩ :: R)) :
    Calls Try.prog 67 #[.pointer (some ⟨b, 0, none⟩), .agg #[.int .u64 x, .int .u64 s, .bool ok]] w fun e w' => e = .returned (.tuple #[]) ∧ Sep w0 w' (helpT c who owner seq b (H.tell c seq x s ⟨L, n, kn, held, cv, cc, nx⟩) :: R) := by
  subst hnx
  have hkl := hg.2.2.2.2.2 (by simp)
  dsimp only at hkl
  have htl : H.tell c seq x s ⟨L, n, kn, held, cv, cc, 6⟩ = H.entry c ⟨L, n, kn, held, cv, cc, 6⟩ (kn + 1) := by simp [H.tell]
  rw [htl]; clear htl
  obtain ⟨la, lc, hS⟩ := helpT_of hS
  dsimp only at hS
  have hmi : ((L.length : Nat) : Int) ≤ 100000 := by have := hg.2.2.2.1; dsimp only at this; omega
  have HTO := Lib.hid (fun (w' : World) (R' : List Thing) (v : Value) (n' : Nat) (h' : H.H) (hn : n' = h'.list.length) (hS : Sep w0 w' (blkT b 181 (H.hL (mapCells c) who owner seq v h') :: rowT 0 136 2 v n' (flat enE h'.list) :: R')) => helpT_to (c := c) hn hS)
  have HO := Lib.hid (fun (w' : World) (hB : Blk w' b 181 (H.hL (mapCells c) who owner seq (.slice la L.length lc) ⟨L, n, kn, held, cv, cc, 6⟩)) => hopen_any w' c hok b who owner seq (.slice la L.length lc) ⟨L, n, kn, held, cv, cc, 6⟩ hB)
  have hsz : (mapCells c).length = 24 := rfl
  generalize at_ c 4 owner 0 = a4 at HO
  have HS := Lib.hid (hS.new 55 [.int .u64 x, .int .u64 s, .bool ok]); clear hS
  have hek := H.entry_keeps c ⟨L, n, kn, held, cv, cc, 6⟩ (kn + 1)
  have HE := Lib.hid (fun (w' : World) (R' : List Thing) hS => hentry_any (w0 := w0) (w := w') (R := R') b c hok who owner seq la L.length lc ⟨L, n, kn, held, cv, cc, 6⟩ (kn + 1) rfl (by omega) (by omega) hS)
  have hkni : (kn : Int) < (L.length : Int) := by omega
  generalize H.entry c ⟨L, n, kn, held, cv, cc, 6⟩ (kn + 1) = he at *
  generalize hth : helpT c who owner seq b he = TH
  generalize hcs : mapCells c = cs at *
  generalize hLm : L.length = m at *
  go_enter Try.func67, Try.ntmps67
  go_wp2_with fail
  refine (HO.out _ (HS.out.blk 1 rfl)).mono ?_
  rintro e w1 ⟨rfl, hf⟩
  have hS := (HS.out.fr0 hf).new 41 [.int .u64 1, .int .u64 seq]
  have z0 := (hS.blk 1 rfl).cell 0
  have z1 := (hS.blk 1 rfl).cell 1
  have zl := (hS.blk 1 rfl).lt
  simp only [List.getElem?_cons_zero, List.getElem?_cons_succ] at z0 z1
  have hS := hS.new 41 [.int .u64 x, .int .u64 s]
  simp only [World.size_alloc] at hS
  have HS := Lib.hid hS; clear hS hf HO
  have k24 := ((HS.out.blk 3 rfl).cell 24).trans (H.hL_at hsz who owner seq (.slice la m lc) ⟨L, n, kn, held, cv, cc, _⟩).1
  have k26 := ((HS.out.blk 3 rfl).cell 26).trans (H.hL_at hsz who owner seq (.slice la m lc) ⟨L, n, kn, held, cv, cc, _⟩).2.2.1
  have k27 := ((HS.out.blk 3 rfl).cell 27).trans (H.hL_at hsz who owner seq (.slice la m lc) ⟨L, n, kn, held, cv, cc, _⟩).2.2.2.1
  have k28 := ((HS.out.blk 3 rfl).cell 28).trans (H.hL_at hsz who owner seq (.slice la m lc) ⟨L, n, kn, held, cv, cc, _⟩).2.2.2.2.1
  have k29 := ((HS.out.blk 3 rfl).cell 29).trans (H.hL_at hsz who owner seq (.slice la m lc) ⟨L, n, kn, held, cv, cc, _⟩).2.2.2.2.2.1
  have k30 := ((HS.out.blk 3 rfl).cell 30).trans (H.hL_at hsz who owner seq (.slice la m lc) ⟨L, n, kn, held, cv, cc, _⟩).2.2.2.2.2.2.1
  have k33 := ((HS.out.blk 3 rfl).cell 33).trans (H.hL_at hsz who owner seq (.slice la m lc) ⟨L, n, kn, held, cv, cc, _⟩).2.2.2.2.2.2.2.2.2
  have f28 := (HS.out.blk 3 rfl).froz 28
  have f30 := (HS.out.blk 3 rfl).froz 30
  have f33 := (HS.out.blk 3 rfl).froz 33
  have f27 := (HS.out.blk 3 rfl).froz 27
  have kl := (HS.out.blk 3 rfl).lt
  try dsimp only at k24 k26 k27 k28 k29 k30 k33
  have c0 := (HS.out.blk 0 rfl).cell 0
  have c1 := (HS.out.blk 0 rfl).cell 1
  have i0 := (HS.out.blk 1 rfl).cell 0
  have i1 := (HS.out.blk 1 rfl).cell 1
  have cl := (HS.out.blk 0 rfl).lt
  have il := (HS.out.blk 1 rfl).lt
  simp only [List.getElem?_cons_zero, List.getElem?_cons_succ] at c0 c1 i0 i1
  go_wp2_with fail
  refine (HE.out _ _ HS.out.tail.tail.tail).mono ?_
  rintro e w3 ⟨rfl, hS⟩
  have HS3 := Lib.hid hS; clear hS
  go_wp2_with fail
  go_end0
  refine ⟨rfl, ?_⟩
  rw [← hth]
  refine HTO.out _ _ (.slice la m lc) m he ?_ ?_
  · rw [hek.1]; exact hLm.symm
  · rw [hek.1]; exact HS3.out
set_option maxRecDepth 100000 in
set_option maxHeartbeats 8000000 in
theorem htell_0 {w0 w : World} {R : List Thing} (b : Nat) (c : Cfg) (hok : Ok c) (who owner seq : Int) (L : List (Int × Int)) (n : Int) (kn : Nat) (held cv cc nx x s : Int) (ok : Bool) (hx : 0 ≤ x ∧ x ≤ 18446744073709551615) (hs : 0 ≤ s) (hg : H.Good c ⟨L, n, kn, held, cv, cc, nx⟩) (hnx : nx = 0) (hS : Sep w0 w (helpT c who owner seq b ⟨L, n, kn, held, cv, cc, nx⟩ :: R)) :
    Calls Try.prog 67 #[.pointer (some ⟨b, 0, none⟩), .agg #[.int .u64 x, .int .u64 s, .bool ok]] w fun e w' => e = .returned (.tuple #[]) ∧ Sep w0 w' (helpT c who owner seq b (H.tell c seq x s ⟨L, n, kn, held, cv, cc, nx⟩) :: R) := by
  subst hnx
  have hcb := cap_bd hok
  have htl : H.tell c seq x s ⟨L, n, kn, held, cv, cc, 0⟩ = H.read ⟨L, min x (cap c), kn, held, cv, cc, 0⟩ := by simp [H.tell]
  rw [htl]; clear htl
  have HCP := Lib.hid (fun w => cap_any w c hok)
  obtain ⟨la, lc, hS⟩ := helpT_of hS
  dsimp only at hS
  have hmi : ((L.length : Nat) : Int) ≤ 100000 := by have := hg.2.2.2.1; dsimp only at this; omega
  have HTO := Lib.hid (fun (w' : World) (R' : List Thing) (v : Value) (n' : Nat) (h' : H.H) (hn : n' = h'.list.length) (hS : Sep w0 w' (blkT b 181 (H.hL (mapCells c) who owner seq v h') :: rowT 0 136 2 v n' (flat enE h'.list) :: R')) => helpT_to (c := c) hn hS)
  have HO := Lib.hid (fun (w' : World) (hB : Blk w' b 181 (H.hL (mapCells c) who owner seq (.slice la L.length lc) ⟨L, n, kn, held, cv, cc, 0⟩)) => hopen_any w' c hok b who owner seq (.slice la L.length lc) ⟨L, n, kn, held, cv, cc, 0⟩ hB)
  have hsz : (mapCells c).length = 24 := rfl
  generalize at_ c 4 owner 0 = a4 at HO
  have HS := Lib.hid (hS.new 55 [.int .u64 x, .int .u64 s, .bool ok]); clear hS
  generalize cap c = cp at *
  have hmin : (if cp < x then cp else x) = min x cp := by split <;> omega
  have hmb : 0 ≤ min x cp ∧ min x cp ≤ cp := by omega
  generalize min x cp = mn at *
  have HRD := Lib.hid (fun (w' : World) (R' : List Thing) hS => hread_any (w0 := w0) (w := w') (R := R') b (mapCells c) hsz who owner seq la L.length lc ⟨L, mn, kn, held, cv, cc, 0⟩ rfl hS)
  have hrl : (H.read ⟨L, mn, kn, held, cv, cc, 0⟩).list = L := rfl
  generalize H.read ⟨L, mn, kn, held, cv, cc, 0⟩ = hr at *
  generalize hth : helpT c who owner seq b hr = TH
  unfold mapV at HCP
  generalize hcs : mapCells c = cs at *
  generalize hLm : L.length = m at *
  go_enter Try.func67, Try.ntmps67
  go_wp2_with fail
  refine (HO.out _ (HS.out.blk 1 rfl)).mono ?_
  rintro e w1 ⟨rfl, hf⟩
  have hS := (HS.out.fr0 hf).new 41 [.int .u64 1, .int .u64 seq]
  have z0 := (hS.blk 1 rfl).cell 0
  have z1 := (hS.blk 1 rfl).cell 1
  have zl := (hS.blk 1 rfl).lt
  simp only [List.getElem?_cons_zero, List.getElem?_cons_succ] at z0 z1
  have hS := hS.new 41 [.int .u64 x, .int .u64 s]
  simp only [World.size_alloc] at hS
  have HS := Lib.hid hS; clear hS hf HO
  have k24 := ((HS.out.blk 3 rfl).cell 24).trans (H.hL_at hsz who owner seq (.slice la m lc) ⟨L, n, kn, held, cv, cc, _⟩).1
  have k26 := ((HS.out.blk 3 rfl).cell 26).trans (H.hL_at hsz who owner seq (.slice la m lc) ⟨L, n, kn, held, cv, cc, _⟩).2.2.1
  have k27 := ((HS.out.blk 3 rfl).cell 27).trans (H.hL_at hsz who owner seq (.slice la m lc) ⟨L, n, kn, held, cv, cc, _⟩).2.2.2.1
  have k28 := ((HS.out.blk 3 rfl).cell 28).trans (H.hL_at hsz who owner seq (.slice la m lc) ⟨L, n, kn, held, cv, cc, _⟩).2.2.2.2.1
  have k29 := ((HS.out.blk 3 rfl).cell 29).trans (H.hL_at hsz who owner seq (.slice la m lc) ⟨L, n, kn, held, cv, cc, _⟩).2.2.2.2.2.1
  have k30 := ((HS.out.blk 3 rfl).cell 30).trans (H.hL_at hsz who owner seq (.slice la m lc) ⟨L, n, kn, held, cv, cc, _⟩).2.2.2.2.2.2.1
  have k33 := ((HS.out.blk 3 rfl).cell 33).trans (H.hL_at hsz who owner seq (.slice la m lc) ⟨L, n, kn, held, cv, cc, _⟩).2.2.2.2.2.2.2.2.2
  have f28 := (HS.out.blk 3 rfl).froz 28
  have f30 := (HS.out.blk 3 rfl).froz 30
  have f33 := (HS.out.blk 3 rfl).froz 33
  have f27 := (HS.out.blk 3 rfl).froz 27
  have kl := (HS.out.blk 3 rfl).lt
  try dsimp only at k24 k26 k27 k28 k29 k30 k33
  have c0 := (HS.out.blk 0 rfl).cell 0
  have c1 := (HS.out.blk 0 rfl).cell 1
  have i0 := (HS.out.blk 1 rfl).cell 0
  have i1 := (HS.out.blk 1 rfl).cell 1
  have cl := (HS.out.blk 0 rfl).lt
  have il := (HS.out.blk 1 rfl).lt
  simp only [List.getElem?_cons_zero, List.getElem?_cons_succ] at c0 c1 i0 i1
  have hmd := (HS.out.blk 3 rfl).drew
  have hcw : IntKind.u64.wrap cp = cp := uwrap_id cp (by omega) (by omega)
  have hmw : IntKind.i64.wrap mn = mn := wrap_i64_id _ (by omega) (by omega)
  go_wp2_with fail
  refine wp_region_fr [(1, [0, 1, 2, 3, 4, 5, 6]), (2, [7]), (0, [8, 9, 10, 11, 12]), (3, [13])] [] (by kernel_rfl) (by kernel_rfl) ?_
  simp only [theOps, nthOp, List.map_cons, List.map_nil, Array.getD_eq_getD_getElem?, List.getElem?_toArray, List.getElem?_cons_succ, List.getElem?_cons_zero, Option.getD_some]
  refine wpSegs_soft ?_
  iterate 6 (first | go_big_quiet_step (fail) | quiet_step (fail))
  refine wpQuiet_load_mid 31 _ b 0 cs _ rfl rfl rfl (rangeAt_pre hmd (by simp <;> omega)) Try.underlying31 rfl (by rw [hsz]; kernel_rfl) ?_
  simp only [Act.put, List.setIfInBounds_toArray, List.set_cons_zero, List.set_cons_succ]
  repeat (first | go_big_quiet_step (fail) | quiet_step (fail))
  refine wpQuiet_nil ?_
  refine wpSegs_keep ?_
  go_wp2_with fail
  refine (HCP.out _).mono ?_
  rintro e w2 ⟨rfl, hf⟩
  have HF := Lib.hid hf
  have HS := Lib.hid (HS.out.drew.fr0 hf)
  clear hf
  go_wp2_with fail
  refine ⟨⟨⟨_, (by exact HF.out)⟩, rfl⟩, ?_⟩
  repeat ((first | refine wpSegs_soft ?_ | refine wpSegs_pure ?_ | refine wpSegs_here ?_); (repeat (first | go_big_quiet_step (fail) | quiet_step (fail))); refine wpQuiet_nil ?_)
  clear c0 c1 i0 i1 cl il z0 z1 zl
  clear k24 k26 k27 k28 k29 k30 k33 f28 f30 f33 f27 kl
  have k24 := ((HS.out.blk 3 rfl).cell 24).trans (H.hL_at hsz who owner seq (.slice la m lc) ⟨L, n, kn, held, cv, cc, 0⟩).1
  have k26 := ((HS.out.blk 3 rfl).cell 26).trans (H.hL_at hsz who owner seq (.slice la m lc) ⟨L, n, kn, held, cv, cc, 0⟩).2.2.1
  have k27 := ((HS.out.blk 3 rfl).cell 27).trans (H.hL_at hsz who owner seq (.slice la m lc) ⟨L, n, kn, held, cv, cc, 0⟩).2.2.2.1
  have k28 := ((HS.out.blk 3 rfl).cell 28).trans (H.hL_at hsz who owner seq (.slice la m lc) ⟨L, n, kn, held, cv, cc, 0⟩).2.2.2.2.1
  have k29 := ((HS.out.blk 3 rfl).cell 29).trans (H.hL_at hsz who owner seq (.slice la m lc) ⟨L, n, kn, held, cv, cc, 0⟩).2.2.2.2.2.1
  have k30 := ((HS.out.blk 3 rfl).cell 30).trans (H.hL_at hsz who owner seq (.slice la m lc) ⟨L, n, kn, held, cv, cc, 0⟩).2.2.2.2.2.2.1
  have k33 := ((HS.out.blk 3 rfl).cell 33).trans (H.hL_at hsz who owner seq (.slice la m lc) ⟨L, n, kn, held, cv, cc, 0⟩).2.2.2.2.2.2.2.2.2
  have f28 := (HS.out.blk 3 rfl).froz 28
  have f30 := (HS.out.blk 3 rfl).froz 30
  have f33 := (HS.out.blk 3 rfl).froz 33
  have f27 := (HS.out.blk 3 rfl).froz 27
  have kl := (HS.out.blk 3 rfl).lt
  try dsimp only at k24 k26 k27 k28 k29 k30 k33
  refine wpSegs_hard ?_
  go_wp2_with fail
  refine wpSegs_done ?_
  have hS2 := (HS.out.set 3 rfl 28 (.int .i64 mn))
  simp only [List.set_cons_zero, List.set_cons_succ, H.hL_n hsz] at hS2
  have HS2 := Lib.hid hS2; clear hS2
  go_wp2_with fail
  refine (HRD.out _ _ HS2.out.tail.tail.tail).mono ?_
  rintro e w3 ⟨rfl, hS⟩
  have HS3 := Lib.hid hS; clear hS
  go_wp2_with fail
  go_end0
  refine ⟨rfl, ?_⟩
  rw [← hth]
  refine HTO.out _ _ (.slice la m lc) m hr ?_ ?_
  · rw [hrl]; exact hLm.symm
  · rw [hrl]; exact HS3.out
theorem H_infoEntry : (Try.prog.info? 136).map (fun i => (i.zero, i.size, i.bytes)) = some (some (.agg #[.int .i64 0, .int .u64 0]), 2, 16) := by kernel_rfl
set_option maxRecDepth 100000 in
set_option maxHeartbeats 8000000 in
theorem htell_1 {w0 w : World} {R : List Thing} (b : Nat) (c : Cfg) (hok : Ok c) (who owner seq : Int) (L : List (Int × Int)) (n : Int) (kn : Nat) (held cv cc nx x s : Int) (ok : Bool) (hx : 0 ≤ x ∧ x ≤ 18446744073709551615) (hs : 0 ≤ s) (hg : H.Good c ⟨L, n, kn, held, cv, cc, nx⟩) (hnx : nx = 1) (hS : Sep w0 w (helpT c who owner seq b ⟨L, n, kn, held, cv, cc, nx⟩ :: R)) :
    Calls Try.prog 67 #[.pointer (some ⟨b, 0, none⟩), .agg #[.int .u64 x, .int .u64 s, .bool ok]] w fun e w' => e = .returned (.tuple #[]) ∧ Sep w0 w' (helpT c who owner seq b (H.tell c seq x s ⟨L, n, kn, held, cv, cc, nx⟩) :: R) := by
  subst hnx
  have htl : H.tell c seq x s ⟨L, n, kn, held, cv, cc, 1⟩ = H.read ⟨L ++ [(H.placeOf s, x)], n, kn, held, cv, cc, 1⟩ := by simp [H.tell]
  rw [htl]; clear htl
  obtain ⟨ti0, hi0, hz0, hz1, hz2⟩ := info_parts H_infoEntry
  obtain ⟨la, lc, hS⟩ := helpT_of hS
  dsimp only at hS
  have hmi : ((L.length : Nat) : Int) ≤ 100000 := by have := hg.2.2.2.1; dsimp only at this; omega
  have HTO := Lib.hid (fun (w' : World) (R' : List Thing) (v : Value) (n' : Nat) (h' : H.H) (hn : n' = h'.list.length) (hS : Sep w0 w' (blkT b 181 (H.hL (mapCells c) who owner seq v h') :: rowT 0 136 2 v n' (flat enE h'.list) :: R')) => helpT_to (c := c) hn hS)
  have HO := Lib.hid (fun (w' : World) (hB : Blk w' b 181 (H.hL (mapCells c) who owner seq (.slice la L.length lc) ⟨L, n, kn, held, cv, cc, 1⟩)) => hopen_any w' c hok b who owner seq (.slice la L.length lc) ⟨L, n, kn, held, cv, cc, 1⟩ hB)
  have hsz : (mapCells c).length = 24 := rfl
  generalize at_ c 4 owner 0 = a4 at HO
  have HS := Lib.hid (hS.new 55 [.int .u64 x, .int .u64 s, .bool ok]); clear hS
  have HPL := Lib.hid (fun w => place_any w s hs)
  generalize H.placeOf s = ps at *
  have HRD := Lib.hid (fun (w' : World) (R' : List Thing) (la : Option Addr) (m lc : Nat) (hm : m = (L ++ [(ps, x)]).length) hS => hread_any (w0 := w0) (w := w') (R := R') b (mapCells c) hsz who owner seq la m lc ⟨L ++ [(ps, x)], n, kn, held, cv, cc, 1⟩ hm hS)
  have hrl : (H.read ⟨L ++ [(ps, x)], n, kn, held, cv, cc, 1⟩).list = L ++ [(ps, x)] := rfl
  generalize H.read ⟨L ++ [(ps, x)], n, kn, held, cv, cc, 1⟩ = hr at *
  generalize hth : helpT c who owner seq b hr = TH
  generalize hcs : mapCells c = cs at *
  generalize hLm : L.length = m at *
  go_enter Try.func67, Try.ntmps67
  go_wp2_with fail
  refine (HO.out _ (HS.out.blk 1 rfl)).mono ?_
  rintro e w1 ⟨rfl, hf⟩
  have hS := (HS.out.fr0 hf).new 41 [.int .u64 1, .int .u64 seq]
  have z0 := (hS.blk 1 rfl).cell 0
  have z1 := (hS.blk 1 rfl).cell 1
  have zl := (hS.blk 1 rfl).lt
  simp only [List.getElem?_cons_zero, List.getElem?_cons_succ] at z0 z1
  have hS := hS.new 41 [.int .u64 x, .int .u64 s]
  simp only [World.size_alloc] at hS
  have HS := Lib.hid hS; clear hS hf HO
  have k24 := ((HS.out.blk 3 rfl).cell 24).trans (H.hL_at hsz who owner seq (.slice la m lc) ⟨L, n, kn, held, cv, cc, _⟩).1
  have k26 := ((HS.out.blk 3 rfl).cell 26).trans (H.hL_at hsz who owner seq (.slice la m lc) ⟨L, n, kn, held, cv, cc, _⟩).2.2.1
  have k27 := ((HS.out.blk 3 rfl).cell 27).trans (H.hL_at hsz who owner seq (.slice la m lc) ⟨L, n, kn, held, cv, cc, _⟩).2.2.2.1
  have k28 := ((HS.out.blk 3 rfl).cell 28).trans (H.hL_at hsz who owner seq (.slice la m lc) ⟨L, n, kn, held, cv, cc, _⟩).2.2.2.2.1
  have k29 := ((HS.out.blk 3 rfl).cell 29).trans (H.hL_at hsz who owner seq (.slice la m lc) ⟨L, n, kn, held, cv, cc, _⟩).2.2.2.2.2.1
  have k30 := ((HS.out.blk 3 rfl).cell 30).trans (H.hL_at hsz who owner seq (.slice la m lc) ⟨L, n, kn, held, cv, cc, _⟩).2.2.2.2.2.2.1
  have k33 := ((HS.out.blk 3 rfl).cell 33).trans (H.hL_at hsz who owner seq (.slice la m lc) ⟨L, n, kn, held, cv, cc, _⟩).2.2.2.2.2.2.2.2.2
  have f28 := (HS.out.blk 3 rfl).froz 28
  have f30 := (HS.out.blk 3 rfl).froz 30
  have f33 := (HS.out.blk 3 rfl).froz 33
  have f27 := (HS.out.blk 3 rfl).froz 27
  have kl := (HS.out.blk 3 rfl).lt
  try dsimp only at k24 k26 k27 k28 k29 k30 k33
  have c0 := (HS.out.blk 0 rfl).cell 0
  have c1 := (HS.out.blk 0 rfl).cell 1
  have i0 := (HS.out.blk 1 rfl).cell 0
  have i1 := (HS.out.blk 1 rfl).cell 1
  have cl := (HS.out.blk 0 rfl).lt
  have il := (HS.out.blk 1 rfl).lt
  simp only [List.getElem?_cons_zero, List.getElem?_cons_succ] at c0 c1 i0 i1
  go_wp2_with fail
  refine wp_region_fr [(1, [1, 2, 3, 4, 5, 6, 8, 9]), (0, [0]), (2, [7]), (0, [10]), (2, [11]), (3, [12]), (0, [13, 14]), (3, [15])] [] (by kernel_rfl) (by kernel_rfl) ?_
  simp only [theOps, nthOp, List.map_cons, List.map_nil, Array.getD_eq_getD_getElem?, List.getElem?_toArray, List.getElem?_cons_succ, List.getElem?_cons_zero, Option.getD_some]
  repeat ((first | refine wpSegs_soft ?_ | refine wpSegs_pure ?_ | refine wpSegs_here ?_); (repeat (first | go_big_quiet_step (fail) | quiet_step (fail))); refine wpQuiet_nil ?_)
  refine wpSegs_keep ?_
  go_wp2_with fail
  refine (HPL.out _).mono ?_
  rintro e w2 ⟨rfl, hf⟩
  have HF := Lib.hid hf
  have HS := Lib.hid (HS.out.drew.fr0 hf)
  clear hf
  go_wp2_with fail
  refine ⟨⟨⟨_, (by exact HF.out)⟩, rfl⟩, ?_⟩
  repeat ((first | refine wpSegs_soft ?_ | refine wpSegs_pure ?_ | refine wpSegs_here ?_); (repeat (first | go_big_quiet_step (fail) | quiet_step (fail))); refine wpQuiet_nil ?_)
  refine wpSegs_keep ?_
  go_wp2_with fail
  have HS := Lib.hid (HS.out.new 136 [.int .i64 ps, .int .u64 x])
  have HF := Lib.hid (HF.out.alloc (.cells #[.int .i64 ps, .int .u64 x] 136))
  refine ⟨⟨⟨_, (by exact HF.out)⟩, rfl⟩, ?_⟩
  repeat ((first | refine wpSegs_soft ?_ | refine wpSegs_pure ?_ | refine wpSegs_here ?_); (repeat (first | go_big_quiet_step (fail) | quiet_step (fail))); refine wpQuiet_nil ?_)
  refine wpSegs_hard ?_
  go_wp2_with (at_builtin; go_must (refine wpList_push_blk _ rfl _ _ 113 rfl 0 136 ti0 _ 2 16 Try.underlying113 hi0 hz0 hz1 hz2 rfl (by decide) (.slice la m lc) m (flat enE L) rfl (HS.out.row 5 rfl) (enE (ps, x)) _ _ rfl (HS.out.blk 0 rfl) rfl (enE_one _) (by unfold maxLen; omega) (by omega) (Nat.zero_le _) ?_))
  intro g2 c2' w4 hown hg2 hgg hc1 hc2'
  have h3 := HS.out.grown 5 rfl hown hg2 (fun q e => by
    rcases hgg with h1 | h1
    · exact .inl (h1.trans e)
    · right; simp only [Value.ownBlock, Option.some.injEq] at e; rw [← e, h1]; simp <;> omega)
  simp only [List.set_cons_zero, List.set_cons_succ] at h3
  rw [show flat enE L ++ enE (ps, x) = flat enE (L ++ [(ps, x)]) by rw [flat_app, flat_one]] at h3
  have HS := Lib.hid h3.tail
  clear h3 hown hg2 hgg hc1 hc2'
  go_wp2_with fail
  repeat ((first | refine wpSegs_soft ?_ | refine wpSegs_pure ?_ | refine wpSegs_here ?_); (repeat (first | go_big_quiet_step (fail) | quiet_step (fail))); refine wpQuiet_nil ?_)
  refine wpSegs_hard ?_
  clear c0 c1 i0 i1 cl il z0 z1 zl
  clear k24 k26 k27 k28 k29 k30 k33 f28 f30 f33 f27 kl
  have k27 := ((HS.out.blk 3 rfl).cell 27).trans (H.hL_at hsz who owner seq (.slice la m lc) ⟨L, n, kn, held, cv, cc, 1⟩).2.2.2.1
  have f27 := (HS.out.blk 3 rfl).froz 27
  have kl := (HS.out.blk 3 rfl).lt
  have hS2 := HS.out.set 3 rfl 27 (.slice (some ⟨g2, 0, none⟩) (m + 1) c2')
  simp only [List.set_cons_zero, List.set_cons_succ, H.hL_list hsz] at hS2
  have HS2 := Lib.hid hS2; clear hS2
  go_wp2_with fail
  refine wpSegs_done ?_
  go_wp2_with fail
  refine (HRD.out _ _ _ _ _ (by simp [hLm]) HS2.out.tail.tail.tail).mono ?_
  rintro e w5 ⟨rfl, hS⟩
  have HS3 := Lib.hid hS; clear hS
  go_wp2_with fail
  go_end0
  refine ⟨rfl, ?_⟩
  rw [← hth]
  refine HTO.out _ _ (.slice (some ⟨g2, 0, none⟩) (m + 1) c2') (m + 1) hr ?_ ?_
  · rw [hrl]; simp [hLm]
  · rw [hrl]; exact HS3.out
set_option maxRecDepth 100000 in
set_option maxHeartbeats 8000000 in
theorem htell_2 {w0 w : World} {R : List Thing} (b : Nat) (c : Cfg) (hok : Ok c) (who owner seq : Int) (L : List (Int × Int)) (n : Int) (kn : Nat) (held cv cc nx x s : Int) (ok : Bool) (hx : 0 ≤ x ∧ x ≤ 18446744073709551615) (hs : 0 ≤ s) (hg : H.Good c ⟨L, n, kn, held, cv, cc, nx⟩) (hnx : nx = 2) (hS : Sep w0 w (helpT c who owner seq b ⟨L, n, kn, held, cv, cc, nx⟩ :: R)) :
    Calls Try.prog 67 #[.pointer (some ⟨b, 0, none⟩), .agg #[.int .u64 x, .int .u64 s, .bool ok]] w fun e w' => e = .returned (.tuple #[]) ∧ Sep w0 w' (helpT c who owner seq b (H.tell c seq x s ⟨L, n, kn, held, cv, cc, nx⟩) :: R) := by
  subst hnx
  have hek := H.entry_keeps c ⟨L, n, kn, held, cv, cc, 2⟩ 0
  have htl : H.tell c seq x s ⟨L, n, kn, held, cv, cc, 2⟩ = H.unl (decide (x = 1 ∧ s = seq)) (H.entry c ⟨L, n, kn, held, cv, cc, 2⟩ 0) := by simp [H.tell]
  rw [htl]; clear htl
  have huk := H.unl_keeps (decide (x = 1 ∧ s = seq)) (H.entry c ⟨L, n, kn, held, cv, cc, 2⟩ 0)
  generalize his : decide (x = 1 ∧ s = seq) = is at *
  have HIS := Lib.hid his; clear his
  obtain ⟨la, lc, hS⟩ := helpT_of hS
  dsimp only at hS
  have hmi : ((L.length : Nat) : Int) ≤ 100000 := by have := hg.2.2.2.1; dsimp only at this; omega
  have HTO := Lib.hid (fun (w' : World) (R' : List Thing) (v : Value) (n' : Nat) (h' : H.H) (hn : n' = h'.list.length) (hS : Sep w0 w' (blkT b 181 (H.hL (mapCells c) who owner seq v h') :: rowT 0 136 2 v n' (flat enE h'.list) :: R')) => helpT_to (c := c) hn hS)
  have HO := Lib.hid (fun (w' : World) (hB : Blk w' b 181 (H.hL (mapCells c) who owner seq (.slice la L.length lc) ⟨L, n, kn, held, cv, cc, 2⟩)) => hopen_any w' c hok b who owner seq (.slice la L.length lc) ⟨L, n, kn, held, cv, cc, 2⟩ hB)
  have hsz : (mapCells c).length = 24 := rfl
  generalize at_ c 4 owner 0 = a4 at HO
  have HS := Lib.hid (hS.new 55 [.int .u64 x, .int .u64 s, .bool ok]); clear hS
  have HE := Lib.hid (fun (w' : World) (R' : List Thing) hS => hentry_any (w0 := w0) (w := w') (R := R') b c hok who owner seq la L.length lc ⟨L, n, kn, held, cv, cc, 2⟩ 0 rfl (by omega) (by omega) hS)
  have HU := Lib.hid (fun (w' : World) (R' : List Thing) h' is hS => hunless_any (w0 := w0) (w := w') (R := R') b (mapCells c) hsz who owner seq (.slice la L.length lc) h' is hS)
  generalize H.entry c ⟨L, n, kn, held, cv, cc, 2⟩ 0 = he at *
  generalize hth : helpT c who owner seq b (H.unl is he) = TH
  generalize hcs : mapCells c = cs at *
  generalize hLm : L.length = m at *
  go_enter Try.func67, Try.ntmps67
  go_wp2_with fail
  refine (HO.out _ (HS.out.blk 1 rfl)).mono ?_
  rintro e w1 ⟨rfl, hf⟩
  have hS := (HS.out.fr0 hf).new 41 [.int .u64 1, .int .u64 seq]
  have z0 := (hS.blk 1 rfl).cell 0
  have z1 := (hS.blk 1 rfl).cell 1
  have zl := (hS.blk 1 rfl).lt
  simp only [List.getElem?_cons_zero, List.getElem?_cons_succ] at z0 z1
  have hS := hS.new 41 [.int .u64 x, .int .u64 s]
  simp only [World.size_alloc] at hS
  have HS := Lib.hid hS; clear hS hf HO
  have k24 := ((HS.out.blk 3 rfl).cell 24).trans (H.hL_at hsz who owner seq (.slice la m lc) ⟨L, n, kn, held, cv, cc, _⟩).1
  have k26 := ((HS.out.blk 3 rfl).cell 26).trans (H.hL_at hsz who owner seq (.slice la m lc) ⟨L, n, kn, held, cv, cc, _⟩).2.2.1
  have k27 := ((HS.out.blk 3 rfl).cell 27).trans (H.hL_at hsz who owner seq (.slice la m lc) ⟨L, n, kn, held, cv, cc, _⟩).2.2.2.1
  have k28 := ((HS.out.blk 3 rfl).cell 28).trans (H.hL_at hsz who owner seq (.slice la m lc) ⟨L, n, kn, held, cv, cc, _⟩).2.2.2.2.1
  have k29 := ((HS.out.blk 3 rfl).cell 29).trans (H.hL_at hsz who owner seq (.slice la m lc) ⟨L, n, kn, held, cv, cc, _⟩).2.2.2.2.2.1
  have k30 := ((HS.out.blk 3 rfl).cell 30).trans (H.hL_at hsz who owner seq (.slice la m lc) ⟨L, n, kn, held, cv, cc, _⟩).2.2.2.2.2.2.1
  have k33 := ((HS.out.blk 3 rfl).cell 33).trans (H.hL_at hsz who owner seq (.slice la m lc) ⟨L, n, kn, held, cv, cc, _⟩).2.2.2.2.2.2.2.2.2
  have f28 := (HS.out.blk 3 rfl).froz 28
  have f30 := (HS.out.blk 3 rfl).froz 30
  have f33 := (HS.out.blk 3 rfl).froz 33
  have f27 := (HS.out.blk 3 rfl).froz 27
  have kl := (HS.out.blk 3 rfl).lt
  try dsimp only at k24 k26 k27 k28 k29 k30 k33
  have c0 := (HS.out.blk 0 rfl).cell 0
  have c1 := (HS.out.blk 0 rfl).cell 1
  have i0 := (HS.out.blk 1 rfl).cell 0
  have i1 := (HS.out.blk 1 rfl).cell 1
  have cl := (HS.out.blk 0 rfl).lt
  have il := (HS.out.blk 1 rfl).lt
  simp only [List.getElem?_cons_zero, List.getElem?_cons_succ] at c0 c1 i0 i1
  go_wp2_with fail
  have hS := (HS.out.pull 4 rfl).pull 4 rfl
  simp only [List.eraseIdx_cons_succ, List.eraseIdx_cons_zero] at hS
  refine (HE.out _ _ hS).mono ?_
  rintro e w3 ⟨rfl, hS3⟩
  have HS3 := Lib.hid hS3
  clear hS hS3 HS
  have HEQ : ∀ w, (binOp .eql 41 (.agg #[.int .u64 x, .int .u64 s]) (.agg #[.int .u64 1, .int .u64 seq])).run Try.prog w = .ok (.bool is) w := fun w => by rw [← HIS.out]; exact eql_cell w x s 1 seq
  go_wp2_with (first | (refine wpList_load_any 41 _ rfl rfl _ 0 rfl [.int .u64 x, .int .u64 s] _ (HS3.out.blk 2 rfl).range Try.underlying41 rfl (by kernel_rfl) ?_) | (refine wpList_load_any 41 _ rfl rfl _ 0 rfl [.int .u64 1, .int .u64 seq] _ (HS3.out.blk 3 rfl).range Try.underlying41 rfl (by kernel_rfl) ?_))
  refine (HU.out _ _ _ _ HS3.out).mono ?_
  rintro e w4 ⟨rfl, hS⟩
  have HS4 := Lib.hid hS; clear hS
  go_wp2_with fail
  go_end0
  refine ⟨rfl, ?_⟩
  rw [← hth]
  have hS := (((HS4.out.pull 2 rfl).tail.pull 2 rfl).tail.pull 2 rfl).tail
  refine HTO.out _ _ (.slice la m lc) m (H.unl is he) ?_ ?_
  · rw [huk.1, hek.1]; exact hLm.symm
  · rw [huk.1, hek.1]; exact hS
set_option maxRecDepth 100000 in
set_option maxHeartbeats 8000000 in
theorem htell_4 {w0 w : World} {R : List Thing} (b : Nat) (c : Cfg) (hok : Ok c) (who owner seq : Int) (L : List (Int × Int)) (n : Int) (kn : Nat) (held cv cc nx x s : Int) (ok : Bool) (hx : 0 ≤ x ∧ x ≤ 18446744073709551615) (hs : 0 ≤ s) (hg : H.Good c ⟨L, n, kn, held, cv, cc, nx⟩) (hnx : nx = 4) (hS : Sep w0 w (helpT c who owner seq b ⟨L, n, kn, held, cv, cc, nx⟩ :: R)) :
    Calls Try.prog 67 #[.pointer (some ⟨b, 0, none⟩), .agg #[.int .u64 x, .int .u64 s, .bool ok]] w fun e w' => e = .returned (.tuple #[]) ∧ Sep w0 w' (helpT c who owner seq b (H.tell c seq x s ⟨L, n, kn, held, cv, cc, nx⟩) :: R) := by
  subst hnx
  have hkl := hg.2.2.2.2.2 (by simp)
  dsimp only at hkl
  have hknm : kn < L.length := by omega
  have hkni : (kn : Int) < (L.length : Int) := by omega
  have hnth : ∀ n held cv cc nx, H.nth ⟨L, n, kn, held, cv, cc, nx⟩ (kn : Int).toNat = L[kn]'hknm := fun _ _ _ _ _ => by
    unfold H.nth
    simp [List.getD_eq_getElem?_getD, List.getElem?_eq_getElem hknm]
  have htl : H.tell c seq x s ⟨L, n, kn, held, cv, cc, 4⟩ = H.unl (decide (x = 1 ∧ s = seq)) ⟨L, n, kn, (whA c (L[kn]'hknm).1).2.1, cv, cc, 5⟩ := by simp [H.tell, H.nth, List.getD_eq_getElem?_getD, List.getElem?_eq_getElem hknm]
  rw [htl]; clear htl
  have HWH := Lib.hid (fun p => what_all hok p)
  unfold Tells at HWH
  generalize his : decide (x = 1 ∧ s = seq) = is at *
  have HIS := Lib.hid his; clear his
  obtain ⟨la, lc, hS⟩ := helpT_of hS
  dsimp only at hS
  have hmi : ((L.length : Nat) : Int) ≤ 100000 := by have := hg.2.2.2.1; dsimp only at this; omega
  have HTO := Lib.hid (fun (w' : World) (R' : List Thing) (v : Value) (n' : Nat) (h' : H.H) (hn : n' = h'.list.length) (hS : Sep w0 w' (blkT b 181 (H.hL (mapCells c) who owner seq v h') :: rowT 0 136 2 v n' (flat enE h'.list) :: R')) => helpT_to (c := c) hn hS)
  have HO := Lib.hid (fun (w' : World) (hB : Blk w' b 181 (H.hL (mapCells c) who owner seq (.slice la L.length lc) ⟨L, n, kn, held, cv, cc, 4⟩)) => hopen_any w' c hok b who owner seq (.slice la L.length lc) ⟨L, n, kn, held, cv, cc, 4⟩ hB)
  have hsz : (mapCells c).length = 24 := rfl
  generalize at_ c 4 owner 0 = a4 at HO
  have HS := Lib.hid (hS.new 55 [.int .u64 x, .int .u64 s, .bool ok]); clear hS
  have HU := Lib.hid (fun (w' : World) (R' : List Thing) h' is hS => hunless_any (w0 := w0) (w := w') (R := R') b (mapCells c) hsz who owner seq (.slice la L.length lc) h' is hS)
  have hLk : Hid (L[kn]'hknm = L[kn]'hknm) := rfl
  have HFL := Lib.hid (fun (w' : World) (g lc : Nat) (hr : w'.ownsRow 0 136 2 (.slice (some ⟨g, 0, none⟩) L.length lc) L.length (flat enE L)) => ownsRow_cell hr (kn * 2) _ (by have := flat_get enE_len L kn hknm 0 (by decide); simpa [enE] using this))
  generalize L[kn]'hknm = E at *
  obtain ⟨E1, E2⟩ := E
  dsimp only at HFL
  have HW := Lib.hid (HWH.out E1)
  generalize whA c E1 = wa at *
  obtain ⟨wa1, wa2, wa3⟩ := wa
  dsimp only at HW
  dsimp only
  unfold mapV at HW
  have huk := H.unl_keeps is ⟨L, n, kn, wa2, cv, cc, 5⟩
  generalize hth : helpT c who owner seq b (H.unl is ⟨L, n, kn, wa2, cv, cc, 5⟩) = TH
  generalize hcs : mapCells c = cs at *
  generalize hLm : L.length = m at *
  go_enter Try.func67, Try.ntmps67
  go_wp2_with fail
  refine (HO.out _ (HS.out.blk 1 rfl)).mono ?_
  rintro e w1 ⟨rfl, hf⟩
  have hS := (HS.out.fr0 hf).new 41 [.int .u64 1, .int .u64 seq]
  have z0 := (hS.blk 1 rfl).cell 0
  have z1 := (hS.blk 1 rfl).cell 1
  have zl := (hS.blk 1 rfl).lt
  simp only [List.getElem?_cons_zero, List.getElem?_cons_succ] at z0 z1
  have hS := hS.new 41 [.int .u64 x, .int .u64 s]
  simp only [World.size_alloc] at hS
  have HS := Lib.hid hS; clear hS hf HO
  have k24 := ((HS.out.blk 3 rfl).cell 24).trans (H.hL_at hsz who owner seq (.slice la m lc) ⟨L, n, kn, held, cv, cc, _⟩).1
  have k26 := ((HS.out.blk 3 rfl).cell 26).trans (H.hL_at hsz who owner seq (.slice la m lc) ⟨L, n, kn, held, cv, cc, _⟩).2.2.1
  have k27 := ((HS.out.blk 3 rfl).cell 27).trans (H.hL_at hsz who owner seq (.slice la m lc) ⟨L, n, kn, held, cv, cc, _⟩).2.2.2.1
  have k28 := ((HS.out.blk 3 rfl).cell 28).trans (H.hL_at hsz who owner seq (.slice la m lc) ⟨L, n, kn, held, cv, cc, _⟩).2.2.2.2.1
  have k29 := ((HS.out.blk 3 rfl).cell 29).trans (H.hL_at hsz who owner seq (.slice la m lc) ⟨L, n, kn, held, cv, cc, _⟩).2.2.2.2.2.1
  have k30 := ((HS.out.blk 3 rfl).cell 30).trans (H.hL_at hsz who owner seq (.slice la m lc) ⟨L, n, kn, held, cv, cc, _⟩).2.2.2.2.2.2.1
  have k33 := ((HS.out.blk 3 rfl).cell 33).trans (H.hL_at hsz who owner seq (.slice la m lc) ⟨L, n, kn, held, cv, cc, _⟩).2.2.2.2.2.2.2.2.2
  have f28 := (HS.out.blk 3 rfl).froz 28
  have f30 := (HS.out.blk 3 rfl).froz 30
  have f33 := (HS.out.blk 3 rfl).froz 33
  have f27 := (HS.out.blk 3 rfl).froz 27
  have kl := (HS.out.blk 3 rfl).lt
  try dsimp only at k24 k26 k27 k28 k29 k30 k33
  have c0 := (HS.out.blk 0 rfl).cell 0
  have c1 := (HS.out.blk 0 rfl).cell 1
  have i0 := (HS.out.blk 1 rfl).cell 0
  have i1 := (HS.out.blk 1 rfl).cell 1
  have cl := (HS.out.blk 0 rfl).lt
  have il := (HS.out.blk 1 rfl).lt
  simp only [List.getElem?_cons_zero, List.getElem?_cons_succ] at c0 c1 i0 i1
  have hmd := (HS.out.blk 3 rfl).drew
  have hrow := HS.out.row 4 rfl
  obtain ⟨g0, hla⟩ : ∃ g, la = some ⟨g, 0, none⟩ := by
    rcases ownsRow_form hrow with ⟨_, e⟩ | ⟨g, cap, e, _⟩
    · omega
    · simp only [Value.slice.injEq] at e; exact ⟨g, e.1⟩
  subst hla
  have y0 := HFL.out _ _ _ hrow
  clear hrow HFL
  go_wp2_with fail
  refine wp_region_fr [(1, [1, 2, 3, 4, 5, 6, 7, 8, 9, 10, 11, 12, 13, 14, 15]), (0, [0]), (3, [16]), (0, [17, 18, 19, 21, 22, 20]), (3, [23])] [] (by kernel_rfl) (by kernel_rfl) ?_
  simp only [theOps, nthOp, List.map_cons, List.map_nil, Array.getD_eq_getD_getElem?, List.getElem?_toArray, List.getElem?_cons_succ, List.getElem?_cons_zero, Option.getD_some]
  refine wpSegs_soft ?_
  iterate 3 (first | go_big_quiet_step (fail) | quiet_step (fail))
  refine wpQuiet_load_mid 31 _ b 0 cs _ rfl rfl rfl (rangeAt_pre hmd (by simp <;> omega)) Try.underlying31 rfl (by rw [hsz]; kernel_rfl) ?_
  simp only [Act.put, List.setIfInBounds_toArray, List.set_cons_zero, List.set_cons_succ]
  repeat (first | go_big_quiet_step (fail) | quiet_step (fail))
  refine wpQuiet_nil ?_
  repeat ((first | refine wpSegs_soft ?_ | refine wpSegs_pure ?_ | refine wpSegs_here ?_); (repeat (first | go_big_quiet_step (fail) | quiet_step (fail))); refine wpQuiet_nil ?_)
  refine wpSegs_hard ?_
  go_wp2_with fail
  refine (HW.out _).mono ?_
  rintro e w2 ⟨rfl, hf⟩
  have HS := Lib.hid (HS.out.drew.fr0 hf)
  clear hf
  go_wp2_with fail
  repeat ((first | refine wpSegs_soft ?_ | refine wpSegs_pure ?_ | refine wpSegs_here ?_); (repeat (first | go_big_quiet_step (fail) | quiet_step (fail))); refine wpQuiet_nil ?_)
  clear c0 c1 i0 i1 cl il z0 z1 zl
  clear k24 k26 k27 k28 k29 k30 k33 f28 f30 f33 f27 kl
  have k30 := ((HS.out.blk 3 rfl).cell 30).trans (H.hL_at hsz who owner seq _ ⟨L, n, kn, held, cv, cc, 4⟩).2.2.2.2.2.2.1
  have k33 := ((HS.out.blk 3 rfl).cell 33).trans (H.hL_at hsz who owner seq _ ⟨L, n, kn, held, cv, cc, 4⟩).2.2.2.2.2.2.2.2.2
  have f30 := (HS.out.blk 3 rfl).froz 30
  have f33 := (HS.out.blk 3 rfl).froz 33
  have kl := (HS.out.blk 3 rfl).lt
  have hS2 := (HS.out.set 3 rfl 30 (.int .i64 wa2)).set 3 rfl 33 (.int .i64 5)
  simp only [List.set_cons_zero, List.set_cons_succ, H.hL_held hsz, H.hL_next hsz] at hS2
  have HS2 := Lib.hid hS2; clear hS2
  refine wpSegs_hard ?_
  go_wp2_with fail
  refine wpSegs_done ?_
  have hS3 := (HS2.out.pull 4 rfl).pull 4 rfl
  simp only [List.eraseIdx_cons_succ, List.eraseIdx_cons_zero] at hS3
  have HS3 := Lib.hid hS3; clear hS3
  have HEQ : ∀ w, (binOp .eql 41 (.agg #[.int .u64 x, .int .u64 s]) (.agg #[.int .u64 1, .int .u64 seq])).run Try.prog w = .ok (.bool is) w := fun w => by rw [← HIS.out]; exact eql_cell w x s 1 seq
  go_wp2_with (first | (refine wpList_load_any 41 _ rfl rfl _ 0 rfl [.int .u64 x, .int .u64 s] _ (HS3.out.blk 2 rfl).range Try.underlying41 rfl (by kernel_rfl) ?_) | (refine wpList_load_any 41 _ rfl rfl _ 0 rfl [.int .u64 1, .int .u64 seq] _ (HS3.out.blk 3 rfl).range Try.underlying41 rfl (by kernel_rfl) ?_))
  refine (HU.out _ _ _ _ HS3.out).mono ?_
  rintro e w4 ⟨rfl, hS⟩
  have HS4 := Lib.hid hS; clear hS
  go_wp2_with fail
  go_end0
  refine ⟨rfl, ?_⟩
  rw [← hth]
  have hS := (((HS4.out.pull 2 rfl).tail.pull 2 rfl).tail.pull 2 rfl).tail
  refine HTO.out _ _ (.slice (some ⟨g0, 0, none⟩) m lc) m (H.unl is ⟨L, n, kn, wa2, cv, cc, 5⟩) ?_ ?_
  · rw [huk.1]; exact hLm.symm
  · rw [huk.1]; exact hS
set_option maxRecDepth 100000 in
set_option maxHeartbeats 8000000 in
theorem htell_5 {w0 w : World} {R : List Thing} (b : Nat) (c : Cfg) (hok : Ok c) (who owner seq : Int) (L : List (Int × Int)) (n : Int) (kn : Nat) (held cv cc nx x s : Int) (ok : Bool) (hx : 0 ≤ x ∧ x ≤ 18446744073709551615) (hs : 0 ≤ s) (hg : H.Good c ⟨L, n, kn, held, cv, cc, nx⟩) (hnx : nx = 5) (hS : Sep w0 w (helpT c who owner seq b ⟨L, n, kn, held, cv, cc, nx⟩ :: R)) :
    Calls Try.prog 67 #[.pointer (some ⟨b, 0, none⟩), .agg #[.int .u64 x, .int .u64 s, .bool ok]] w fun e w' => e = .returned (.tuple #[]) ∧ Sep w0 w' (helpT c who owner seq b (H.tell c seq x s ⟨L, n, kn, held, cv, cc, nx⟩) :: R) := by
  subst hnx
  have hkl := hg.2.2.2.2.2 (by simp)
  dsimp only at hkl
  obtain ⟨h', hh'⟩ : ∃ h', h' = H.tell c seq x s ⟨L, n, kn, held, cv, cc, 5⟩ := ⟨_, rfl⟩
  rw [← hh']
  have hek := H.entry_keeps c ⟨L, n, kn, held, x, s, 6⟩ (kn + 1)
  by_cases hss : seq ≤ s
  · have htl : h' = H.entry c ⟨L, n, kn, held, x, s, 6⟩ (kn + 1) := by rw [hh']; simp [H.tell, hss]
    have dss : decide (s ≥ seq) = true := by simpa using hss
    rw [htl]
    clear hh' htl hss
    obtain ⟨la, lc, hS⟩ := helpT_of hS
    dsimp only at hS
    have hmi : ((L.length : Nat) : Int) ≤ 100000 := by have := hg.2.2.2.1; dsimp only at this; omega
    have HTO := Lib.hid (fun (w' : World) (R' : List Thing) (v : Value) (n' : Nat) (h' : H.H) (hn : n' = h'.list.length) (hS : Sep w0 w' (blkT b 181 (H.hL (mapCells c) who owner seq v h') :: rowT 0 136 2 v n' (flat enE h'.list) :: R')) => helpT_to (c := c) hn hS)
    have HO := Lib.hid (fun (w' : World) (hB : Blk w' b 181 (H.hL (mapCells c) who owner seq (.slice la L.length lc) ⟨L, n, kn, held, cv, cc, 5⟩)) => hopen_any w' c hok b who owner seq (.slice la L.length lc) ⟨L, n, kn, held, cv, cc, 5⟩ hB)
    have hsz : (mapCells c).length = 24 := rfl
    generalize at_ c 4 owner 0 = a4 at HO
    have HS := Lib.hid (hS.new 55 [.int .u64 x, .int .u64 s, .bool ok]); clear hS
    have HE := Lib.hid (fun (w' : World) (R' : List Thing) hS => hentry_any (w0 := w0) (w := w') (R := R') b c hok who owner seq la L.length lc ⟨L, n, kn, held, x, s, 6⟩ (kn + 1) rfl (by omega) (by omega) hS)
    have hkni : (kn : Int) < (L.length : Int) := by omega
    generalize H.entry c ⟨L, n, kn, held, x, s, 6⟩ (kn + 1) = he at *
    generalize hth : helpT c who owner seq b he = TH
    generalize hcs : mapCells c = cs at *
    generalize hLm : L.length = m at *
    go_enter Try.func67, Try.ntmps67
    go_wp2_with fail
    refine (HO.out _ (HS.out.blk 1 rfl)).mono ?_
    rintro e w1 ⟨rfl, hf⟩
    have hS := (HS.out.fr0 hf).new 41 [.int .u64 1, .int .u64 seq]
    have z0 := (hS.blk 1 rfl).cell 0
    have z1 := (hS.blk 1 rfl).cell 1
    have zl := (hS.blk 1 rfl).lt
    simp only [List.getElem?_cons_zero, List.getElem?_cons_succ] at z0 z1
    have hS := hS.new 41 [.int .u64 x, .int .u64 s]
    simp only [World.size_alloc] at hS
    have HS := Lib.hid hS; clear hS hf HO
    have k24 := ((HS.out.blk 3 rfl).cell 24).trans (H.hL_at hsz who owner seq (.slice la m lc) ⟨L, n, kn, held, cv, cc, _⟩).1
    have k26 := ((HS.out.blk 3 rfl).cell 26).trans (H.hL_at hsz who owner seq (.slice la m lc) ⟨L, n, kn, held, cv, cc, _⟩).2.2.1
    have k27 := ((HS.out.blk 3 rfl).cell 27).trans (H.hL_at hsz who owner seq (.slice la m lc) ⟨L, n, kn, held, cv, cc, _⟩).2.2.2.1
    have k28 := ((HS.out.blk 3 rfl).cell 28).trans (H.hL_at hsz who owner seq (.slice la m lc) ⟨L, n, kn, held, cv, cc, _⟩).2.2.2.2.1
    have k29 := ((HS.out.blk 3 rfl).cell 29).trans (H.hL_at hsz who owner seq (.slice la m lc) ⟨L, n, kn, held, cv, cc, _⟩).2.2.2.2.2.1
    have k30 := ((HS.out.blk 3 rfl).cell 30).trans (H.hL_at hsz who owner seq (.slice la m lc) ⟨L, n, kn, held, cv, cc, _⟩).2.2.2.2.2.2.1
    have k33 := ((HS.out.blk 3 rfl).cell 33).trans (H.hL_at hsz who owner seq (.slice la m lc) ⟨L, n, kn, held, cv, cc, _⟩).2.2.2.2.2.2.2.2.2
    have f28 := (HS.out.blk 3 rfl).froz 28
    have f30 := (HS.out.blk 3 rfl).froz 30
    have f33 := (HS.out.blk 3 rfl).froz 33
    have f27 := (HS.out.blk 3 rfl).froz 27
    have kl := (HS.out.blk 3 rfl).lt
    try dsimp only at k24 k26 k27 k28 k29 k30 k33
    have c0 := (HS.out.blk 0 rfl).cell 0
    have c1 := (HS.out.blk 0 rfl).cell 1
    have i0 := (HS.out.blk 1 rfl).cell 0
    have i1 := (HS.out.blk 1 rfl).cell 1
    have cl := (HS.out.blk 0 rfl).lt
    have il := (HS.out.blk 1 rfl).lt
    simp only [List.getElem?_cons_zero, List.getElem?_cons_succ] at c0 c1 i0 i1
    have k31 := ((HS.out.blk 3 rfl).cell 31).trans (H.hL_at hsz who owner seq (.slice la m lc) ⟨L, n, kn, held, cv, cc, 5⟩).2.2.2.2.2.2.2.1
    have k32 := ((HS.out.blk 3 rfl).cell 32).trans (H.hL_at hsz who owner seq (.slice la m lc) ⟨L, n, kn, held, cv, cc, 5⟩).2.2.2.2.2.2.2.2.1
    have f31 := (HS.out.blk 3 rfl).froz 31
    have f32 := (HS.out.blk 3 rfl).froz 32
    have hS2 := ((HS.out.set 3 rfl 31 (.int .u64 x)).set 3 rfl 32 (.int .u64 s)).set 3 rfl 33 (.int .i64 6)
    simp only [List.set_cons_zero, List.set_cons_succ, H.hL_cv hsz, H.hL_cs hsz, H.hL_next hsz] at hS2
    have HS2 := Lib.hid hS2; clear hS2
    go_wp2_with fail
    clear k31 k32 f31 f32
    clear c0 c1 i0 i1 cl il z0 z1 zl
    clear k24 k26 k27 k28 k29 k30 k33 f28 f30 f33 f27 kl
    have c1 := (HS2.out.blk 0 rfl).cell 1
    simp only [List.getElem?_cons_zero, List.getElem?_cons_succ] at c1
    have k26 := ((HS2.out.blk 3 rfl).cell 26).trans (H.hL_at hsz who owner seq (.slice la m lc) ⟨L, n, kn, held, x, s, 6⟩).2.2.1
    have kl := (HS2.out.blk 3 rfl).lt
    generalize World.setCell _ _ _ = w5 at HS2 c1 k26 kl ⊢
    refine wp_region_fr [(1, [0, 1, 2, 3, 4, 5, 6])] [] (by kernel_rfl) (by kernel_rfl) ?_
    simp only [theOps, nthOp, List.map_cons, List.map_nil, Array.getD_eq_getD_getElem?, List.getElem?_toArray, List.getElem?_cons_succ, List.getElem?_cons_zero, Option.getD_some]
    repeat ((first | refine wpSegs_soft ?_ | refine wpSegs_pure ?_ | refine wpSegs_here ?_); (repeat (first | go_big_quiet_step (fail) | quiet_step (fail))); refine wpQuiet_nil ?_)
    refine wpSegs_done ?_
    have HS3 := Lib.hid HS2.out.drew
    have k29 := ((HS3.out.blk 3 rfl).cell 29).trans (H.hL_at hsz who owner seq (.slice la m lc) ⟨L, n, kn, held, x, s, 6⟩).2.2.2.2.2.1
    dsimp only at k29
    go_wp2_with fail
    refine (HE.out _ _ HS3.out.tail.tail.tail).mono ?_
    rintro e w3 ⟨rfl, hS⟩
    have HS4 := Lib.hid hS; clear hS
    go_wp2_with fail
    go_end0
    refine ⟨rfl, ?_⟩
    rw [← hth]
    refine HTO.out _ _ (.slice la m lc) m he ?_ ?_
    · rw [hek.1]; exact hLm.symm
    · rw [hek.1]; exact HS4.out
  · have htl : h' = ⟨L, n, kn, held, x, s, 6⟩ := by rw [hh']; simp [H.tell, hss]
    have dss : decide (s ≥ seq) = false := by simpa using hss
    rw [htl]
    clear hh' htl hss hek
    obtain ⟨la, lc, hS⟩ := helpT_of hS
    dsimp only at hS
    have hmi : ((L.length : Nat) : Int) ≤ 100000 := by have := hg.2.2.2.1; dsimp only at this; omega
    have HTO := Lib.hid (fun (w' : World) (R' : List Thing) (v : Value) (n' : Nat) (h' : H.H) (hn : n' = h'.list.length) (hS : Sep w0 w' (blkT b 181 (H.hL (mapCells c) who owner seq v h') :: rowT 0 136 2 v n' (flat enE h'.list) :: R')) => helpT_to (c := c) hn hS)
    have HO := Lib.hid (fun (w' : World) (hB : Blk w' b 181 (H.hL (mapCells c) who owner seq (.slice la L.length lc) ⟨L, n, kn, held, cv, cc, 5⟩)) => hopen_any w' c hok b who owner seq (.slice la L.length lc) ⟨L, n, kn, held, cv, cc, 5⟩ hB)
    have hsz : (mapCells c).length = 24 := rfl
    generalize at_ c 4 owner 0 = a4 at HO
    have HS := Lib.hid (hS.new 55 [.int .u64 x, .int .u64 s, .bool ok]); clear hS
    generalize hhe : (⟨L, n, kn, held, x, s, 6⟩ : H.H) = he
    generalize hth : helpT c who owner seq b he = TH
    generalize hcs : mapCells c = cs at *
    generalize hLm : L.length = m at *
    go_enter Try.func67, Try.ntmps67
    go_wp2_with fail
    refine (HO.out _ (HS.out.blk 1 rfl)).mono ?_
    rintro e w1 ⟨rfl, hf⟩
    have hS := (HS.out.fr0 hf).new 41 [.int .u64 1, .int .u64 seq]
    have z0 := (hS.blk 1 rfl).cell 0
    have z1 := (hS.blk 1 rfl).cell 1
    have zl := (hS.blk 1 rfl).lt
    simp only [List.getElem?_cons_zero, List.getElem?_cons_succ] at z0 z1
    have hS := hS.new 41 [.int .u64 x, .int .u64 s]
    simp only [World.size_alloc] at hS
    have HS := Lib.hid hS; clear hS hf HO
    have k24 := ((HS.out.blk 3 rfl).cell 24).trans (H.hL_at hsz who owner seq (.slice la m lc) ⟨L, n, kn, held, cv, cc, _⟩).1
    have k26 := ((HS.out.blk 3 rfl).cell 26).trans (H.hL_at hsz who owner seq (.slice la m lc) ⟨L, n, kn, held, cv, cc, _⟩).2.2.1
    have k27 := ((HS.out.blk 3 rfl).cell 27).trans (H.hL_at hsz who owner seq (.slice la m lc) ⟨L, n, kn, held, cv, cc, _⟩).2.2.2.1
    have k28 := ((HS.out.blk 3 rfl).cell 28).trans (H.hL_at hsz who owner seq (.slice la m lc) ⟨L, n, kn, held, cv, cc, _⟩).2.2.2.2.1
    have k29 := ((HS.out.blk 3 rfl).cell 29).trans (H.hL_at hsz who owner seq (.slice la m lc) ⟨L, n, kn, held, cv, cc, _⟩).2.2.2.2.2.1
    have k30 := ((HS.out.blk 3 rfl).cell 30).trans (H.hL_at hsz who owner seq (.slice la m lc) ⟨L, n, kn, held, cv, cc, _⟩).2.2.2.2.2.2.1
    have k33 := ((HS.out.blk 3 rfl).cell 33).trans (H.hL_at hsz who owner seq (.slice la m lc) ⟨L, n, kn, held, cv, cc, _⟩).2.2.2.2.2.2.2.2.2
    have f28 := (HS.out.blk 3 rfl).froz 28
    have f30 := (HS.out.blk 3 rfl).froz 30
    have f33 := (HS.out.blk 3 rfl).froz 33
    have f27 := (HS.out.blk 3 rfl).froz 27
    have kl := (HS.out.blk 3 rfl).lt
    try dsimp only at k24 k26 k27 k28 k29 k30 k33
    have c0 := (HS.out.blk 0 rfl).cell 0
    have c1 := (HS.out.blk 0 rfl).cell 1
    have i0 := (HS.out.blk 1 rfl).cell 0
    have i1 := (HS.out.blk 1 rfl).cell 1
    have cl := (HS.out.blk 0 rfl).lt
    have il := (HS.out.blk 1 rfl).lt
    simp only [List.getElem?_cons_zero, List.getElem?_cons_succ] at c0 c1 i0 i1
    have k31 := ((HS.out.blk 3 rfl).cell 31).trans (H.hL_at hsz who owner seq (.slice la m lc) ⟨L, n, kn, held, cv, cc, 5⟩).2.2.2.2.2.2.2.1
    have k32 := ((HS.out.blk 3 rfl).cell 32).trans (H.hL_at hsz who owner seq (.slice la m lc) ⟨L, n, kn, held, cv, cc, 5⟩).2.2.2.2.2.2.2.2.1
    have f31 := (HS.out.blk 3 rfl).froz 31
    have f32 := (HS.out.blk 3 rfl).froz 32
    have hS2 := ((HS.out.set 3 rfl 31 (.int .u64 x)).set 3 rfl 32 (.int .u64 s)).set 3 rfl 33 (.int .i64 6)
    simp only [List.set_cons_zero, List.set_cons_succ, H.hL_cv hsz, H.hL_cs hsz, H.hL_next hsz] at hS2
    have HS2 := Lib.hid hS2; clear hS2
    go_wp2_with fail
    clear k31 k32 f31 f32
    clear c0 c1 i0 i1 cl il z0 z1 zl
    clear k24 k26 k27 k28 k29 k30 k33 f28 f30 f33 f27 kl
    have c1 := (HS2.out.blk 0 rfl).cell 1
    simp only [List.getElem?_cons_zero, List.getElem?_cons_succ] at c1
    have k26 := ((HS2.out.blk 3 rfl).cell 26).trans (H.hL_at hsz who owner seq (.slice la m lc) ⟨L, n, kn, held, x, s, 6⟩).2.2.1
    have kl := (HS2.out.blk 3 rfl).lt
    generalize World.setCell _ _ _ = w5 at HS2 c1 k26 kl ⊢
    refine wp_region_fr [(1, [0, 1, 2, 3, 4, 5, 6])] [] (by kernel_rfl) (by kernel_rfl) ?_
    simp only [theOps, nthOp, List.map_cons, List.map_nil, Array.getD_eq_getD_getElem?, List.getElem?_toArray, List.getElem?_cons_succ, List.getElem?_cons_zero, Option.getD_some]
    repeat ((first | refine wpSegs_soft ?_ | refine wpSegs_pure ?_ | refine wpSegs_here ?_); (repeat (first | go_big_quiet_step (fail) | quiet_step (fail))); refine wpQuiet_nil ?_)
    refine wpSegs_done ?_
    have HS3 := Lib.hid HS2.out.drew
    have k29 := ((HS3.out.blk 3 rfl).cell 29).trans (H.hL_at hsz who owner seq (.slice la m lc) ⟨L, n, kn, held, x, s, 6⟩).2.2.2.2.2.1
    dsimp only at k29
    go_wp2_with fail
    go_end0
    refine ⟨rfl, ?_⟩
    rw [← hth, ← hhe]
    exact HTO.out _ _ (.slice la m lc) m ⟨L, n, kn, held, x, s, 6⟩ hLm.symm HS3.out.tail.tail.tail
set_option maxRecDepth 100000 in
set_option maxHeartbeats 8000000 in
theorem htell_8 {w0 w : World} {R : List Thing} (b : Nat) (c : Cfg) (hok : Ok c) (who owner seq : Int) (L : List (Int × Int)) (n : Int) (kn : Nat) (held cv cc nx x s : Int) (ok : Bool) (hx : 0 ≤ x ∧ x ≤ 18446744073709551615) (hs : 0 ≤ s) (hg : H.Good c ⟨L, n, kn, held, cv, cc, nx⟩) (hnx : nx = 8) (hS : Sep w0 w (helpT c who owner seq b ⟨L, n, kn, held, cv, cc, nx⟩ :: R)) :
    Calls Try.prog 67 #[.pointer (some ⟨b, 0, none⟩), .agg #[.int .u64 x, .int .u64 s, .bool ok]] w fun e w' => e = .returned (.tuple #[]) ∧ Sep w0 w' (helpT c who owner seq b (H.tell c seq x s ⟨L, n, kn, held, cv, cc, nx⟩) :: R) := by
  subst hnx
  have htl : H.tell c seq x s ⟨L, n, kn, held, cv, cc, 8⟩ = ⟨L, n, kn, held, cv, cc, 8⟩ := by simp [H.tell]
  rw [htl]; clear htl
  obtain ⟨la, lc, hS⟩ := helpT_of hS
  dsimp only at hS
  have hmi : ((L.length : Nat) : Int) ≤ 100000 := by have := hg.2.2.2.1; dsimp only at this; omega
  have HTO := Lib.hid (fun (w' : World) (R' : List Thing) (v : Value) (n' : Nat) (h' : H.H) (hn : n' = h'.list.length) (hS : Sep w0 w' (blkT b 181 (H.hL (mapCells c) who owner seq v h') :: rowT 0 136 2 v n' (flat enE h'.list) :: R')) => helpT_to (c := c) hn hS)
  have HO := Lib.hid (fun (w' : World) (hB : Blk w' b 181 (H.hL (mapCells c) who owner seq (.slice la L.length lc) ⟨L, n, kn, held, cv, cc, 8⟩)) => hopen_any w' c hok b who owner seq (.slice la L.length lc) ⟨L, n, kn, held, cv, cc, 8⟩ hB)
  have hsz : (mapCells c).length = 24 := rfl
  generalize at_ c 4 owner 0 = a4 at HO
  have HS := Lib.hid (hS.new 55 [.int .u64 x, .int .u64 s, .bool ok]); clear hS
  generalize hth : helpT c who owner seq b ⟨L, n, kn, held, cv, cc, 8⟩ = TH
  have HTO2 := Lib.hid (HTO.out); clear HTO
  generalize hcs : mapCells c = cs at *
  generalize hLm : L.length = m at *
  go_enter Try.func67, Try.ntmps67
  go_wp2_with fail
  refine (HO.out _ (HS.out.blk 1 rfl)).mono ?_
  rintro e w1 ⟨rfl, hf⟩
  have hS := (HS.out.fr0 hf).new 41 [.int .u64 1, .int .u64 seq]
  have z0 := (hS.blk 1 rfl).cell 0
  have z1 := (hS.blk 1 rfl).cell 1
  have zl := (hS.blk 1 rfl).lt
  simp only [List.getElem?_cons_zero, List.getElem?_cons_succ] at z0 z1
  have hS := hS.new 41 [.int .u64 x, .int .u64 s]
  simp only [World.size_alloc] at hS
  have HS := Lib.hid hS; clear hS hf HO
  have k24 := ((HS.out.blk 3 rfl).cell 24).trans (H.hL_at hsz who owner seq (.slice la m lc) ⟨L, n, kn, held, cv, cc, _⟩).1
  have k26 := ((HS.out.blk 3 rfl).cell 26).trans (H.hL_at hsz who owner seq (.slice la m lc) ⟨L, n, kn, held, cv, cc, _⟩).2.2.1
  have k27 := ((HS.out.blk 3 rfl).cell 27).trans (H.hL_at hsz who owner seq (.slice la m lc) ⟨L, n, kn, held, cv, cc, _⟩).2.2.2.1
  have k28 := ((HS.out.blk 3 rfl).cell 28).trans (H.hL_at hsz who owner seq (.slice la m lc) ⟨L, n, kn, held, cv, cc, _⟩).2.2.2.2.1
  have k29 := ((HS.out.blk 3 rfl).cell 29).trans (H.hL_at hsz who owner seq (.slice la m lc) ⟨L, n, kn, held, cv, cc, _⟩).2.2.2.2.2.1
  have k30 := ((HS.out.blk 3 rfl).cell 30).trans (H.hL_at hsz who owner seq (.slice la m lc) ⟨L, n, kn, held, cv, cc, _⟩).2.2.2.2.2.2.1
  have k33 := ((HS.out.blk 3 rfl).cell 33).trans (H.hL_at hsz who owner seq (.slice la m lc) ⟨L, n, kn, held, cv, cc, _⟩).2.2.2.2.2.2.2.2.2
  have f28 := (HS.out.blk 3 rfl).froz 28
  have f30 := (HS.out.blk 3 rfl).froz 30
  have f33 := (HS.out.blk 3 rfl).froz 33
  have f27 := (HS.out.blk 3 rfl).froz 27
  have kl := (HS.out.blk 3 rfl).lt
  try dsimp only at k24 k26 k27 k28 k29 k30 k33
  have c0 := (HS.out.blk 0 rfl).cell 0
  have c1 := (HS.out.blk 0 rfl).cell 1
  have i0 := (HS.out.blk 1 rfl).cell 0
  have i1 := (HS.out.blk 1 rfl).cell 1
  have cl := (HS.out.blk 0 rfl).lt
  have il := (HS.out.blk 1 rfl).lt
  simp only [List.getElem?_cons_zero, List.getElem?_cons_succ] at c0 c1 i0 i1
  go_wp2_with fail
  go_end0
  refine ⟨rfl, ?_⟩
  rw [← hth]
  exact HTO2.out _ _ _ _ ⟨L, n, kn, held, cv, cc, 8⟩ hLm.symm HS.out.tail.tail.tail
end Go.Proofs.Ytccioehckfdjdaa
