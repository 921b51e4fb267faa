/- Sums in whichever order, plain; the walk of CellAdds. -/
import Derived.Test.YtbgmcekbldponaaClaw
import Derived.Test.YtbgmcekbldponaaCsteps
set_option linter.unusedSimpArgs false
set_option linter.unusedVariables false
namespace Go.Tum.C
open Go.Tum
def tot (f : Nat → Int) : Nat → Int
  | 0 => 0
  | n + 1 => tot f n + f n
theorem tot_congr {f g : Nat → Int} : ∀ n, (∀ i, i < n → f i = g i) → tot f n = tot g n
  | 0, _ => rfl
  | n + 1, h => by simp only [tot]; rw [tot_congr n (fun i hi => h i (by omega)), h n (by omega)]
theorem tot_front (f : Nat → Int) : ∀ n, tot f (n + 1) = f 0 + tot (fun i => f (i + 1)) n
  | 0 => by simp [tot]
  | n + 1 => by
    have := tot_front f n
    simp only [tot] at *
    rw [this]; omega
theorem tot_rev (f : Nat → Int) : ∀ n, tot (fun i => f (n - 1 - i)) n = tot f n
  | 0 => rfl
  | n + 1 => by
    rw [tot_front]
    have h1 : tot (fun i => f (n + 1 - 1 - (i + 1))) n = tot (fun i => f (n - 1 - i)) n := tot_congr n (fun i _ => by congr 1; omega)
    rw [h1, tot_rev f n]
    simp only [tot]
    rw [show n + 1 - 1 - 0 = n by omega]; omega
theorem tot_turn (f : Nat → Int) (n : Nat) (hn : 0 < n) : ∀ t, tot (fun i => f ((i + t) % n)) n = tot f n
  | 0 => tot_congr n (fun i hi => by rw [Nat.add_zero, Nat.mod_eq_of_lt hi])
  | t + 1 => by
    have h1 := tot_front (fun i => f ((i + t) % n)) n
    simp only [tot] at h1
    rw [tot_turn f n hn t] at h1
    have h2 : tot (fun i => f ((i + 1 + t) % n)) n = tot (fun i => f ((i + (t + 1)) % n)) n := tot_congr n (fun i _ => by rw [Nat.add_assoc, Nat.add_comm 1 t])
    rw [h2] at h1
    have h3 : (n + t) % n = (0 + t) % n := by rw [Nat.add_mod_left, Nat.zero_add]
    rw [h3] at h1
    omega
/-- Backwards, and turned round: the same sum. -/
theorem tot_perm (f : Nat → Int) (n : Nat) (hn : 0 < n) (t : Nat) : tot (fun i => f ((n - 1 - i + t) % n)) n = tot f n := by
  have := tot_rev (fun i => f ((i + t) % n)) n
  rw [this, tot_turn f n hn t]

/-- Numbers added, one after the other, modulo 2^64. -/
def acc (c : Int) (f : Nat → Int) : Nat → Int
  | 0 => c
  | n + 1 => IntKind.u64.wrap (acc c f n + f n)
theorem wrap_wrap (x y : Int) : IntKind.u64.wrap (IntKind.u64.wrap x + y) = IntKind.u64.wrap (x + y) := by
  rw [IntKind.wrap_u64, IntKind.wrap_u64, IntKind.wrap_u64, Int.emod_add_emod]
theorem acc_tot (c : Int) (f : Nat → Int) : ∀ n, acc c f (n + 1) = IntKind.u64.wrap (c + tot f (n + 1))
  | 0 => by simp [acc, tot]
  | n + 1 => by
    have h := acc_tot c f n
    rw [acc, h, wrap_wrap]
    simp only [tot]
    congr 1; omega
theorem acc_eq (c : Int) (f g : Nat → Int) (n : Nat) (h : tot f n = tot g n) : acc c f n = acc c g n := by
  cases n with
  | zero => rfl
  | succ n => rw [acc_tot, acc_tot, h]

/-- Two cells, and steps. -/
def two (c d : Int × Int) (st : List Int) (tr : List Ev) : M := ⟨[c, d], st, tr⟩
theorem two_err (c d : Int × Int) (st : List Int) (tr : List Ev) (who : Nat) (hw : who < 8) (a : Int) (ha : a = 0 ∨ a = 1) (o1 o2 n1 n2 : Int) : err (two c d st tr).cells.length who ⟨3, a, o1, o2, n1, n2⟩ = 0 := by
  unfold err two
  rw [if_neg (by omega), if_neg (by dsimp only; omega), if_neg (by simp; omega)]
theorem two_add0 (c d : Int × Int) (st : List Int) (tr : List Ev) (who : Nat) (hw : who < 8) (n1 n2 : Int) :
    (two c d st tr).told who ⟨3, 0, 0, 0, n1, n2⟩ = ⟨c.1, c.2, true⟩ ∧ ∃ st' tr', (two c d st tr).step who ⟨3, 0, 0, 0, n1, n2⟩ = two (IntKind.u64.wrap (c.1 + n1), c.2) d st' tr' ∧ tr'.length = tr.length + 1 := by
  have e := two_err c d st tr who hw 0 (.inl rfl) 0 0 n1 n2
  unfold M.told M.step
  rw [if_pos e, if_pos e]
  exact ⟨by simp [outOf, M.at, two], _, _, by simp only [two, becomes, M.at]; simp; exact ⟨rfl, rfl⟩, by simp [two]⟩
theorem two_add1 (c d : Int × Int) (st : List Int) (tr : List Ev) (who : Nat) (hw : who < 8) (n1 n2 : Int) :
    (two c d st tr).told who ⟨3, 1, 0, 0, n1, n2⟩ = ⟨d.1, d.2, true⟩ ∧ ∃ st' tr', (two c d st tr).step who ⟨3, 1, 0, 0, n1, n2⟩ = two c (IntKind.u64.wrap (d.1 + n1), d.2) st' tr' ∧ tr'.length = tr.length + 1 := by
  have e := two_err c d st tr who hw 1 (.inr rfl) 0 0 n1 n2
  unfold M.told M.step
  rw [if_pos e, if_pos e]
  exact ⟨by simp [outOf, M.at, two], _, _, by simp only [two, becomes, M.at]; simp; exact ⟨rfl, rfl⟩, by simp [two]⟩
def enU (n : Int) : List Value := [.int .u64 n]
end Go.Tum.C
namespace Go.Proofs.Ytbgmcekbldponaa
open Go.RowKit Go.Tum Go.Tum.C
set_option maxHeartbeats 8000000 in
set_option maxRecDepth 100000 in
theorem adds_law (c1 c2 : Int) (v : Value) (turn : Int) (L : List Int) (w : World) (ha : ArgE enU 1 w v L) (hL : L.length ≤ maxLen) :
    Calls Try.prog 5 #[.agg #[.int .u64 c1, .int .u64 c2], v, .int .i64 turn] w fun e w' => e = .returned (.bool true) ∧ Fr [] w w' := by
  obtain ⟨tn, htn, etn⟩ : ∃ r : Nat, r < 64 ∧ bits .and .i64 turn 63 = (r : Int) := and_i64_low turn 6 (by decide)
  obtain ⟨la, lc, rfl⟩ := ha.len
  have HA := Lib.hid ha; have HE := Lib.hid etn
  clear ha etn
  by_cases h60 : 40 < L.length
  · have h1i : (40 : Int) < (L.length : Int) := by omega
    go_enter Try.func5, Try.ntmps5
    go_wp2_with fail
    refine (alive_any _).mono ?_
    rintro e w1 ⟨rfl, hf⟩
    have HF := Lib.hid (((Fr.refl [] w).alloc (.cells #[.int .u64 c1, .int .u64 c2] 35)).trans hf)
    clear hf
    go_wp2_with fail
    go_ret
    exact ⟨rfl, HF.out⟩
  have h1i : (L.length : Int) ≤ 40 := by omega
  go_enter Try.func5, Try.ntmps5
  go_wp2_with fail
  refine (alive_any _).mono ?_
  rintro e w1 ⟨rfl, hf⟩
  have hS := ((Sep.nil (Fr.refl [] w)).new 35 [.int .u64 c1, .int .u64 c2]).fr0 hf
  have p0 := (hS.blk 0 rfl).cell 0
  have p1 := (hS.blk 0 rfl).cell 1
  simp only [List.getElem?_cons_zero, List.getElem?_cons_succ] at p0 p1
  have HS := Lib.hid hS
  clear hS hf
  go_wp2_with fail
  refine (new_any w1 2 (by decide)).mono ?_
  rintro e w2 ⟨b, rfl, hF⟩
  have hS := HS.out.fresh hF
  clear hF HS p0 p1
  have p0 := (hS.blk 1 rfl).cell 0
  have p1 := (hS.blk 1 rfl).cell 1
  simp only [List.getElem?_cons_zero, List.getElem?_cons_succ] at p0 p1
  have HS := Lib.hid hS
  clear hS
  go_wp2_with fail
  refine (set_any HS.out 0 (c1, c2)).mono ?_
  rintro e w3 ⟨rfl, hS⟩
  clear HS p0 p1
  have p0 := (hS.blk 1 rfl).cell 0
  have p1 := (hS.blk 1 rfl).cell 1
  simp only [List.getElem?_cons_zero, List.getElem?_cons_succ] at p0 p1
  have HS := Lib.hid hS
  clear hS
  go_wp2_with fail
  refine (set_any HS.out 1 (c1, c2)).mono ?_
  rintro e w4 ⟨rfl, hS⟩
  clear HS p0 p1
  rw [show M.put (M.put (newM 2) 0 (c1, c2)) 1 (c1, c2) = two (c1, c2) (c1, c2) [0, 0, 0, 0, 0, 0, 0, 0] [] from rfl] at hS
  have p0 := (hS.blk 1 rfl).cell 0
  have p1 := (hS.blk 1 rfl).cell 1
  simp only [List.getElem?_cons_zero, List.getElem?_cons_succ] at p0 p1
  have HS := Lib.hid hS
  clear hS
  go_wp2_with fail
  clear p0 p1
  go_loopg [9, 39] L.length (fun g vs vi wr => ∃ k, g + k = L.length ∧ vs = .int .u64 (acc c1 (fun i => L.getD i 0) k) ∧ vi = .int .i64 (k : Int) ∧ ∃ st tr, tr.length ≤ 2 * k ∧
    Sep w wr [memT b (two (acc c1 (fun i => L.getD i 0) k, c2) (acc c1 (fun i => L.getD ((L.length - 1 - i + tn) % L.length) 0) k, c2) st tr), blkT w.heap.size 35 [.int .u64 c1, .int .u64 c2]])
  case atStart => exact ⟨0, by omega, rfl, rfl, _, _, by simp, HS.out⟩
  case round =>
    clear HS
    obtain ⟨k, hg, rfl, rfl, st, tr, htr, hS⟩ := hrel
    by_cases hk : k < L.length
    · have hki : (k : Int) < (L.length : Int) := by omega
      obtain ⟨q8, hq8, eq8⟩ : ∃ r : Nat, r < 8 ∧ bits .and .i64 (k : Int) 7 = (r : Int) := and_i64_low k 3 (by decide)
      obtain ⟨x, rfl, hx, c0, _⟩ := (HA.out).at hk
      have d0 := c0 (.int .u64 L[k]) rfl
      have hjl : (L.length - 1 - k + tn) % L.length < L.length := Nat.mod_lt _ (by omega)
      obtain ⟨x', e', hx', c0', _⟩ := (HA.out).at hjl
      obtain rfl : x = x' := by simpa using e'
      have d1 := c0' (.int .u64 (L[(L.length - 1 - k + tn) % L.length])) rfl
      clear c0 c0' e'
      simp only [Nat.mul_one] at d0 d1
      have D1 := Lib.hid d1; clear d1
      have hxw := Nat.lt_of_lt_of_le hx hS.base
      have d0 := hS.fr.cell d0 (by simp)
      have hn1 : acc c1 (fun i => L.getD i 0) (k + 1) = IntKind.u64.wrap (acc c1 (fun i => L.getD i 0) k + L[k]) := by simp [acc, List.getD_eq_getElem?_getD, hk]
      have hn2 : acc c1 (fun i => L.getD ((L.length - 1 - i + tn) % L.length) 0) (k + 1) = IntKind.u64.wrap (acc c1 (fun i => L.getD ((L.length - 1 - i + tn) % L.length) 0) k + L[(L.length - 1 - k + tn) % L.length]) := by
        simp [acc, List.getD_eq_getElem?_getD, hjl]
      have hj : ((L.length : Int) - 1 - (k : Int) + (tn : Int)) % (L.length : Int) = (((L.length - 1 - k + tn) % L.length : Nat) : Int) := by
        rw [Int.natCast_emod]; congr 1; omega
      generalize L[(L.length - 1 - k + tn) % L.length] = y at *
      generalize (L.length - 1 - k + tn) % L.length = j at *
      generalize L[k] = z at *
      have hji : (j : Int) < (L.length : Int) := by omega
      have hnn : (0 : Int) ≤ (L.length : Int) - 1 - (k : Int) + (tn : Int) := by omega
      have HN1 := Lib.hid hn1; have HN2 := Lib.hid hn2
      clear hn1 hn2
      generalize acc c1 (fun i => L.getD i 0) k = A at *
      generalize acc c1 (fun i => L.getD ((L.length - 1 - i + tn) % L.length) 0) k = B at *
      obtain ⟨g1, st1, tr1, g2, g3⟩ := two_add0 (A, c2) (B, c2) st tr q8 hq8 z 9
      have G1 := Lib.hid g1; have G2 := Lib.hid g2
      clear g1 g2
      have p0 := (hS.blk 1 rfl).cell 0
      have p1 := (hS.blk 1 rfl).cell 1
      simp only [List.getElem?_cons_zero, List.getElem?_cons_succ] at p0 p1
      have HS := Lib.hid hS
      clear hS
      have HEQ := eq8
      have HJ := Lib.hid hj; clear hj
      go_wp2_with fail
      refine (do_to HS.out (by show tr.length ≤ 100000; omega) ((q8 : Nat) : Int) ⟨3, 0, 0, 0, z, 9⟩ G1.out (two_err _ _ _ _ q8 hq8 0 (.inl rfl) _ _ _ _) G2.out).mono ?_
      rintro e w5 ⟨rfl, hS⟩
      unfold outV
      dsimp only
      have hS := hS.new 41 [.int .u64 A, .int .u64 c2, .bool true]
      clear HS p0 p1
      have HS := Lib.hid hS
      have d1 := hS.fr.cell D1.out (by simp)
      clear d0
      obtain ⟨g1, st2, tr2, g2, g4⟩ := two_add1 (IntKind.u64.wrap (A + z), c2) (B, c2) st1 tr1 q8 hq8 y 0
      have G3 := Lib.hid g1; have G4 := Lib.hid g2
      clear g1 g2 hS
      have HJ2 := HJ.out
      have HE2 := HE.out
      go_wp2_with fail
      clear HJ2 HE2
      refine ((HS.out.call 1 rfl (fun R hR => do_to hR (by show tr1.length ≤ 100000; omega) ((q8 : Nat) : Int) ⟨3, 1, 0, 0, y, 0⟩ G3.out (two_err _ _ _ _ q8 hq8 1 (.inr rfl) _ _ _ _) G4.out))).mono ?_
      rintro e w6 ⟨rfl, hS⟩
      unfold outV
      dsimp only
      have hS := hS.new 41 [.int .u64 B, .int .u64 c2, .bool true]
      have p0 := (hS.blk 3 rfl).cell 0
      have p1 := (hS.blk 3 rfl).cell 1
      have u0 := (hS.blk 1 rfl).cell 0
      have u1 := (hS.blk 1 rfl).cell 1
      have u2 := (hS.blk 1 rfl).cell 2
      simp only [List.getElem?_cons_zero, List.getElem?_cons_succ] at p0 p1 u0 u1 u2
      have hS : Sep w _ [memT b (two (IntKind.u64.wrap (A + z), c2) (IntKind.u64.wrap (B + y), c2) st2 tr2), blkT w.heap.size 35 [.int .u64 c1, .int .u64 c2]] := hS.sub [2, 3] rfl (by decide)
      clear HS d1
      have HS := Lib.hid hS
      clear hS
      go_wp2_with fail
      go_roundg (L.length - (k + 1))
      case measure => omega
      case rel => exact ⟨k + 1, by omega, by rw [HN1.out], by go_num, st2, tr2, by omega, by rw [HN1.out, HN2.out]; exact HS.out⟩
    · obtain rfl : k = L.length := by omega
      have hsum : acc c1 (fun i => L.getD ((L.length - 1 - i + tn) % L.length) 0) L.length = acc c1 (fun i => L.getD i 0) L.length := by
        refine acc_eq _ _ _ _ ?_
        rcases Nat.eq_zero_or_pos L.length with h0 | h0
        · rw [h0]; rfl
        · exact tot_perm (fun i => L.getD i 0) L.length h0 tn
      rw [hsum] at hS
      clear hsum
      generalize acc c1 (fun i => L.getD i 0) L.length = A at *
      have HS := Lib.hid hS
      clear hS
      go_wp2_with fail
      obtain ⟨_, vc, vt, hM⟩ := sep_mem HS.out 0 rfl
      refine (peek_any _ b vc vt _ 0 hM).mono ?_
      rintro e w10 ⟨rfl, hf⟩
      rw [show peek (two (A, c2) (A, c2) st tr) 0 = ((A, c2), true) from rfl]
      have hS := (HS.out.fr0 hf).new 35 [.int .u64 A, .int .u64 c2]
      clear hM hf HS
      have HS := Lib.hid hS
      clear hS
      go_wp2_with fail
      obtain ⟨_, vc, vt, hM⟩ := sep_mem HS.out 1 rfl
      refine (peek_any _ b vc vt _ 1 hM).mono ?_
      rintro e w11 ⟨rfl, hf⟩
      rw [show peek (two (A, c2) (A, c2) st tr) 1 = ((A, c2), true) from rfl]
      have hS := (HS.out.fr0 hf).new 35 [.int .u64 A, .int .u64 c2]
      have q0 := (hS.blk 1 rfl).cell 0
      have q1 := (hS.blk 1 rfl).cell 1
      have p0 := (hS.blk 3 rfl).cell 0
      have p1 := (hS.blk 3 rfl).cell 1
      simp only [List.getElem?_cons_zero, List.getElem?_cons_succ] at q0 q1 p0 p1
      have ql := (hS.blk 1 rfl).lt
      clear hM hf HS
      have HF := Lib.hid hS.fr
      clear hS
      go_wp2_with fail
      go_ret
      exact ⟨rfl, HF.out⟩
end Go.Proofs.Ytbgmcekbldponaa
