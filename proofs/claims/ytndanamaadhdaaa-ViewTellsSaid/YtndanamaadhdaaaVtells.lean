/- The law ViewTells, walked. -/
import Derived.Test.YtndanamaadhdaaaVphase
import Derived.Test.YtndanamaadhdaaaVrq
set_option linter.unusedSimpArgs false
set_option linter.unusedVariables false
namespace Go.Proofs.Ytndanamaadhdaaa
open Go.RowKit Go.Tum Go.Tum.Y Go.Tum.Vw
set_option maxRecDepth 100000 in
set_option maxHeartbeats 4000000 in
theorem tells_s0 (w : World) (c : Cfg) (who seq : Int) (a va : Option Addr) (m lc n vc : Nat) (hrc : right c = false) : Calls Try.prog 4 #[cfgV c, .int .i64 who, .int .u64 seq, .slice a m lc, .slice va n vc] w fun e w' => e = .returned (.bool true) ∧ Fr [] w w' := by
  have HS := Lib.hid ((Sep.nil (Fr.refl [] w)).new 24 (cfgL c))
  have HR := Lib.hid (fun w => rright09_any w c)
  have hsz6 : (cfgL c).length = 6 := rfl
  rw [show cfgV c = .agg (cfgL c).toArray from rfl]
  generalize cfgL c = cl at *
  go_enter Try.func4, Try.ntmps4
  go_wp2_with fail
  refine (alive09_any _).mono ?_
  rintro e w1 ⟨rfl, hf⟩
  have HS := Lib.hid (HS.out.fr0 hf)
  clear hf
  go_wp2_with (first | (refine wpList_load_any 24 _ rfl rfl _ 0 rfl cl _ (HS.out.blk 0 rfl).range Try.underlying24 rfl (by rw [hsz6]; kernel_rfl) ?_))
  refine (HR.out _).mono ?_
  rintro e w1 ⟨rfl, hf⟩
  have HS := Lib.hid (HS.out.fr0 hf)
  clear hf
  rw [hrc]
  go_wp2_with fail
  go_ret
  exact ⟨rfl, HS.out.fr⟩
set_option maxRecDepth 100000 in
set_option maxHeartbeats 4000000 in
theorem tells_s1 (w : World) (c : Cfg) (who seq : Int) (a va : Option Addr) (m lc n vc : Nat) (hrc : right c = true) (d1 : decide ((m : Int) > 20) = true) : Calls Try.prog 4 #[cfgV c, .int .i64 who, .int .u64 seq, .slice a m lc, .slice va n vc] w fun e w' => e = .returned (.bool true) ∧ Fr [] w w' := by
  have HS := Lib.hid ((Sep.nil (Fr.refl [] w)).new 24 (cfgL c))
  have HR := Lib.hid (fun w => rright09_any w c)
  have hsz6 : (cfgL c).length = 6 := rfl
  rw [show cfgV c = .agg (cfgL c).toArray from rfl]
  generalize cfgL c = cl at *
  go_enter Try.func4, Try.ntmps4
  go_wp2_with fail
  refine (alive09_any _).mono ?_
  rintro e w1 ⟨rfl, hf⟩
  have HS := Lib.hid (HS.out.fr0 hf)
  clear hf
  go_wp2_with (first | (refine wpList_load_any 24 _ rfl rfl _ 0 rfl cl _ (HS.out.blk 0 rfl).range Try.underlying24 rfl (by rw [hsz6]; kernel_rfl) ?_))
  refine (HR.out _).mono ?_
  rintro e w1 ⟨rfl, hf⟩
  have HS := Lib.hid (HS.out.fr0 hf)
  clear hf
  rw [hrc]
  go_wp2_with fail
  go_ret
  exact ⟨rfl, HS.out.fr⟩
set_option maxRecDepth 100000 in
set_option maxHeartbeats 4000000 in
theorem tells_s2 (w : World) (c : Cfg) (who seq : Int) (a va : Option Addr) (m lc n vc : Nat) (hrc : right c = true) (d1 : decide ((m : Int) > 20) = false) (d2 : decide ((n : Int) > 60) = true) : Calls Try.prog 4 #[cfgV c, .int .i64 who, .int .u64 seq, .slice a m lc, .slice va n vc] w fun e w' => e = .returned (.bool true) ∧ Fr [] w w' := by
  have HS := Lib.hid ((Sep.nil (Fr.refl [] w)).new 24 (cfgL c))
  have HR := Lib.hid (fun w => rright09_any w c)
  have hsz6 : (cfgL c).length = 6 := rfl
  rw [show cfgV c = .agg (cfgL c).toArray from rfl]
  generalize cfgL c = cl at *
  go_enter Try.func4, Try.ntmps4
  go_wp2_with fail
  refine (alive09_any _).mono ?_
  rintro e w1 ⟨rfl, hf⟩
  have HS := Lib.hid (HS.out.fr0 hf)
  clear hf
  go_wp2_with (first | (refine wpList_load_any 24 _ rfl rfl _ 0 rfl cl _ (HS.out.blk 0 rfl).range Try.underlying24 rfl (by rw [hsz6]; kernel_rfl) ?_))
  refine (HR.out _).mono ?_
  rintro e w1 ⟨rfl, hf⟩
  have HS := Lib.hid (HS.out.fr0 hf)
  clear hf
  rw [hrc]
  go_wp2_with fail
  go_ret
  exact ⟨rfl, HS.out.fr⟩
set_option maxRecDepth 100000 in
set_option maxHeartbeats 40000000 in
theorem tells_good (w : World) (c : Cfg) (h : Ok c) (who seq : Int) (a va : Option Addr) (m lc n vc : Nat) (L : List Rq) (U : List Int) (hLm : L.length = m) (hL : ArgE enR 3 w (.slice a m lc) L) (hm : m ≤ 20) (hU : ArgE enU 1 w (.slice va n vc) U) (hUn : U.length = n) (hn : n ≤ 60) (hrc : right c = true) :
    Calls Try.prog 4 #[cfgV c, .int .i64 who, .int .u64 seq, .slice a m lc, .slice va n vc] w fun e w' => e = .returned (.bool true) ∧ Fr [] w w' := by
  subst hLm
  have d1 : decide ((L.length : Int) > 20) = false := by simp; omega
  have d2 : decide ((n : Int) > 60) = false := by simp; omega
  have ht1 := h.t1
  have ht8 := h.t8
  obtain ⟨b8, hb8, hbe⟩ := and_i64_low who 8 (by decide)
  obtain ⟨q, hq⟩ : ∃ q : Int, q = (b8 : Int) := ⟨_, rfl⟩
  have hbe2 : bits .and .i64 who 255 = q := by rw [hq]; exact hbe
  have hq0 : 0 ≤ q ∧ q ≤ 255 := by rw [hq]; omega
  obtain ⟨r, hr⟩ : ∃ r, Int.tmod q c.t = r := ⟨_, rfl⟩
  have HRT : Hid (∀ w, Calls Try.prog 8 #[.agg (cfgL c).toArray, .int .i64 who, .int .u64 seq] w fun e w' => ∃ b, e = .returned (.tuple #[mapV c, .pointer (some ⟨b, 0, none⟩), .agg (xL c r seq (-1) false).toArray]) ∧ Sep w w' [blkT b 72 (vwL (mapCells c) r seq vNew)]) := fun w => right_law w c h who seq q r hbe2 hr ⟨ht1, ht8⟩ hq0
  clear hbe hb8 hbe2 hr hq
  have hsz : (mapCells c).length = 24 := rfl
  have hone := oneMapV c
  have hoX := xL_one c r seq (-1) false
  have hlX : (xL c r seq (-1) false).length = 10 := rfl
  have HBG : Hid (∀ (w0 w : World) (R : List Thing) (b : Nat) (v : V) (kind a block : Int), Sep w0 w (blkT b 72 (vwL (mapCells c) r seq v) :: R) → Calls Try.prog 9 #[.pointer (some ⟨b, 0, none⟩), .agg (cfgL c).toArray, .agg #[.int .i64 kind, .int .i64 a, .int .i64 block]] w fun e w' => e = .returned (.tuple #[]) ∧ Sep w0 w' (blkT b 72 (vwL (mapCells c) r seq (beg c kind a block v)) :: R)) := fun w0 w R b v kind a block hS => begin_law b c h r seq v kind a block hS
  have HAK := Lib.hid (fun w b v hB => vask_any w c h b r seq v hB)
  unfold mapV at *
  generalize mapCells c = cs at *
  generalize xL c r seq (-1) false = xl at *
  have HS := Lib.hid ((Sep.nil (Fr.refl [] w)).new 24 (cfgL c))
  have HR := Lib.hid (fun w => rright09_any w c)
  have hsz6 : (cfgL c).length = 6 := rfl
  rw [show cfgV c = .agg (cfgL c).toArray from rfl]
  generalize cfgL c = cl at *
  go_enter Try.func4, Try.ntmps4
  go_wp2_with fail
  refine (alive09_any _).mono ?_
  rintro e w1 ⟨rfl, hf⟩
  have HS := Lib.hid (HS.out.fr0 hf)
  clear hf
  go_wp2_with (first | (refine wpList_load_any 24 _ rfl rfl _ 0 rfl cl _ (HS.out.blk 0 rfl).range Try.underlying24 rfl (by rw [hsz6]; kernel_rfl) ?_))
  refine (HR.out _).mono ?_
  rintro e w1 ⟨rfl, hf⟩
  have HS := Lib.hid (HS.out.fr0 hf)
  clear hf
  rw [hrc]
  go_wp2_with (first | (refine wpList_load_any 24 _ rfl rfl _ 0 rfl cl _ (HS.out.blk 0 rfl).range Try.underlying24 rfl (by rw [hsz6]; kernel_rfl) ?_))
  refine (HRT.out _).mono ?_
  rintro e w2 ⟨b, rfl, hN⟩
  have hS := HS.out.append hN
  simp only [List.cons_append, List.nil_append] at hS
  have hS := (hS.new 31 zeroMap).new 34 [Value.int .i64 0, Value.int .i64 0, Value.int .i64 0, Value.int .i64 0, Value.int .u64 0, Value.int .u64 0, Value.int .i64 0, Value.int .u64 0, Value.int .i64 0, Value.bool false]
  simp only [World.size_alloc] at hS
  have HS := Lib.hid hS; clear hS hN HRT HR
  have hlz : cs.length = zeroMap.length := hsz
  go_wp2_with (first | (refine wpList_store_sep HS.out 1 rfl cs 31 _ _ rfl rfl rfl rfl hlz (by rw [hsz]; kernel_rfl) hone (fun wA hA _ => ?_); have HA := Lib.hid hA; clear hA) | (refine wpList_store_sep HA.out 0 rfl xl 34 _ _ rfl rfl rfl rfl (by rw [hlX]; rfl) (by rw [hlX]; kernel_rfl) hoX (fun wB hB _ => ?_); have HB := Lib.hid hB; clear hB))
  have hS := HB.out
  simp only [List.set_cons_zero, List.set_cons_succ] at hS
  have hS : Sep w wB [blkT b 72 (vwL cs r seq vNew), blkT w.heap.size 24 cl] := hS.tail.tail
  have HS := Lib.hid hS; clear hS HA HB hlz
  have hni : (L.length : Int) ≤ 20 := by omega
  have hnn : (n : Int) ≤ 60 := by omega
  go_loopg [14, 48] L.length (fun gk vk vi wr => ∃ (i k : Nat) (v : V), gk + i = L.length ∧ k ≤ n ∧ vk = .int .i64 (k : Int) ∧ vi = .int .i64 (i : Int) ∧ v.s ≠ 2 ∧ Sep w wr [blkT b 72 (vwL cs r seq v), blkT w.heap.size 24 cl])
  case atStart => exact ⟨0, 0, vNew, by omega, by omega, rfl, rfl, by simp [vNew], HS.out⟩
  case round =>
    clear HS
    obtain ⟨i, k, v, hg, hkn, rfl, rfl, hvs, hS⟩ := hrel
    by_cases hi : i < L.length
    · have hii : (i : Int) < (L.length : Int) := by omega
      obtain ⟨x, rfl, hx, e0, e1⟩ := (hL.fr hS.fr).at hi
      generalize L[i] = Q at *
      obtain ⟨K, A, B⟩ := Q
      have y0 := e0 _ rfl
      have y1 := e1 0 _ rfl
      have y2 := e1 1 _ rfl
      clear e0 e1
      have HSB := Lib.hid (hS.new 38 [.int .i64 K, .int .i64 A, .int .i64 B])
      have HCL := Lib.hid (HSB.out.blk 2 rfl).range
      clear hS
      go_wp2_with (refine wpList_load_any 24 _ rfl rfl _ 0 rfl cl _ HCL.out Try.underlying24 rfl (by rw [hsz6]; kernel_rfl) ?_)
      refine (HSB.out.call 1 rfl (fun R hR => HBG.out _ _ R b v K A B hR)).mono ?_
      rintro e w4 ⟨rfl, hS⟩
      simp only [List.set_cons_zero, List.set_cons_succ] at hS
      have hph := ph_beg (c := c) K A B v hvs
      generalize beg c K A B v = u at hS hph
      have HS := Lib.hid hS; clear hS y0 y1 y2 HSB HCL
      have HPH := Lib.hid hph; clear hph
      go_wp2_with fail
      refine (HAK.out _ b u (HS.out.blk 1 rfl)).mono ?_
      rintro e w5 ⟨rfl, hf⟩
      generalize hok : (Vw.ask c r u).2 = okb
      generalize (Vw.ask c r u).1 = o
      have hS := (HS.out.fr0 hf).new 43 (enP o)
      have HS := Lib.hid hS; clear hS hf
      have HOK := Lib.hid hok; clear hok
      have honeO := enP_one o
      go_wp2_with (refine wpList_store_new 43 _ (enP o).toArray rfl _ _ rfl rfl rfl (by kernel_rfl) (by simp [enP]) (all_oneCell_toArray honeO) ?_)
      go_loopg [14, 17, 18, 19, 20] (rank u) (fun g2 v14 v17 v18 v19 v20 wr2 => ∃ (k : Nat) (u : V) (last : Int) (told : Bool) (X : Nat) (o : P6), g2 = rank u ∧ k ≤ n ∧ v14 = .int .i64 (k : Int) ∧ v17 = .int .u64 last ∧ v18 = .bool told ∧ v19 = .pointer (some ⟨X, 0, none⟩) ∧ v20 = .bool (Vw.ask c r u).2 ∧ Ph K u told last ∧ Sep w wr2 [blkT X 43 (enP o), blkT wr.heap.size 38 [.int .i64 K, .int .i64 A, .int .i64 B], blkT b 72 (vwL cs r seq u), blkT w.heap.size 24 cl])
      case atStart => exact ⟨k, u, 0, false, _, o, rfl, hkn, rfl, rfl, rfl, rfl, by rw [HOK.out], HPH.out, HS.out⟩
      case round =>
        clear HS honeO HPH HOK
        obtain ⟨k2, u2, last, told, X, o2, hg2, hk2, rfl, rfl, rfl, rfl, rfl, hph, hS⟩ := hrel
        have HS := Lib.hid hS; clear hS
        by_cases h0 : u2.step = 0
        · rw [ask_off c r u2 h0]
          rcases hph.fin h0 with ⟨hs, hk⟩ | ⟨hs, hv⟩
          · by_cases hK : K = 2
            · subst hK
              clear hk hph h0
              go_wp2_with fail
              refine (vend_any _ b cs hsz r seq u2 (HS.out.blk 2 rfl)).mono ?_
              rintro e w8 ⟨rfl, hf⟩
              rw [hs]
              have HS := Lib.hid (HS.out.fr0 hf); clear hf
              have q0 := (HS.out.blk 1 rfl).cell 0
              have ql := (HS.out.blk 1 rfl).lt
              simp only [List.getElem?_cons_zero, List.getElem?_cons_succ] at q0
              go_wp2_with fail
              go_roundg (L.length - (i + 1))
              case measure => omega
              case rel => exact ⟨i + 1, k2, u2, by omega, hk2, rfl, by go_num, by omega, HS.out.tail.tail⟩
            · have hKb : (K == 2) = false := by simpa using hK
              have hKc : (K != 2) = true := by simp [hK]
              obtain ⟨rfl, hv⟩ : told = true ∧ u2.val = last := by rcases hk with h | h; exact absurd h hK; exact h
              clear hk hph h0 hK
              go_wp2_with fail
              refine (vend_any _ b cs hsz r seq u2 (HS.out.blk 2 rfl)).mono ?_
              rintro e w8 ⟨rfl, hf⟩
              rw [hs, hv]
              have HS := Lib.hid (HS.out.fr0 hf); clear hf
              have q0 := (HS.out.blk 1 rfl).cell 0
              have ql := (HS.out.blk 1 rfl).lt
              simp only [List.getElem?_cons_zero, List.getElem?_cons_succ] at q0
              go_wp2_with fail
              go_roundg (L.length - (i + 1))
              case measure => omega
              case rel => exact ⟨i + 1, k2, u2, by omega, hk2, rfl, by go_num, by omega, HS.out.tail.tail⟩
          · clear hph h0
            go_wp2_with fail
            refine (vend_any _ b cs hsz r seq u2 (HS.out.blk 2 rfl)).mono ?_
            rintro e w8 ⟨rfl, hf⟩
            rw [hs, hv]
            have HS := Lib.hid (HS.out.fr0 hf); clear hf
            have q0 := (HS.out.blk 1 rfl).cell 0
            have ql := (HS.out.blk 1 rfl).lt
            simp only [List.getElem?_cons_zero, List.getElem?_cons_succ] at q0
            go_wp2_with fail
            go_roundg (L.length - (i + 1))
            case measure => omega
            case rel => exact ⟨i + 1, k2, u2, by omega, hk2, rfl, by go_num, by omega, HS.out.tail.tail⟩
        · rw [ask_on c r u2 (by have := hph.rng; omega)]
          have htl := hph.tell h0 seq
          have HTL := Lib.hid htl; clear htl hph h0
          by_cases hke : k2 = n
          · have hq : ((k2 : Int) == (n : Int)) = true := by simp [hke]
            go_wp2_with fail
            go_ret
            exact ⟨rfl, HS.out.fr⟩
          · have hq : ((k2 : Int) == (n : Int)) = false := by simp; omega
            have hkl : (k2 : Int) < (n : Int) := by omega
            obtain ⟨z, rfl, hzw, hc0, _⟩ := hU.at (i := k2) (by omega)
            generalize U[k2]'(by omega) = uv at hc0
            have z0 := HS.out.fr.cell (hc0 _ rfl) (by simp)
            simp only [Nat.mul_one] at z0
            clear hc0
            obtain ⟨hp2, hr2⟩ := HTL.out uv
            have HP2 := Lib.hid hp2; clear hp2 HTL
            go_wp2_with fail
            refine (HS.out.call 2 rfl (fun R hR => vtell_any b cs hsz r seq u2 uv seq true hR)).mono ?_
            rintro e w6 ⟨rfl, hS⟩
            simp only [List.set_cons_zero, List.set_cons_succ] at hS
            generalize Vw.tell seq uv seq u2 = u3 at hS HP2 hr2
            have HS := Lib.hid hS
            have HS2 := Lib.hid (hS.new 43 (enP o2)); clear hS z0
            have honeO := enP_one o2
            go_wp2_with (first | (refine wpList_load_any 43 _ rfl rfl _ 0 rfl (enP o2) _ (HS.out.blk 0 rfl).range Try.underlying43 rfl (by kernel_rfl) ?_) | (refine wpList_store_new 43 _ (enP o2).toArray rfl _ _ rfl rfl rfl (by kernel_rfl) (by simp [enP]) (all_oneCell_toArray honeO) ?_))
            refine (HAK.out _ b u3 (HS2.out.blk 3 rfl)).mono ?_
            rintro e w7 ⟨rfl, hf⟩
            have HS := Lib.hid (HS2.out.fr0 hf); clear hf HS2
            go_wp2_with fail
            go_roundg (rank u3)
            case measure => omega
            case rel => exact ⟨k2 + 1, u3, uv, true, _, o2, rfl, by omega, by go_num, rfl, rfl, rfl, rfl, HP2.out, HS.out.snd⟩
    · obtain rfl : i = L.length := by omega
      have HS := Lib.hid hS; clear hS
      go_wp2_with fail
      go_ret
      exact ⟨rfl, HS.out.fr⟩
theorem tells_any (w : World) (c : Cfg) (who seq : Int) (a va : Option Addr) (m lc n vc : Nat) (L : List Rq) (U : List Int) (hL : ArgE enR 3 w (.slice a m lc) L) (hU : ArgE enU 1 w (.slice va n vc) U) (hLm : m = L.length) (hUn : n = U.length) :
    Calls Try.prog 4 #[cfgV c, .int .i64 who, .int .u64 seq, .slice a m lc, .slice va n vc] w fun e w' => e = .returned (.bool true) ∧ Fr [] w w' := by
  by_cases h0 : right c = true
  · by_cases h1 : m > 20
    · exact tells_s1 w c who seq a va m lc n vc h0 (by simp; omega)
    · by_cases h2 : n > 60
      · exact tells_s2 w c who seq a va m lc n vc h0 (by simp; omega) (by simp; omega)
      · exact tells_good w c (by unfold right at h0; simpa using h0) who seq a va m lc n vc L U hLm.symm hL (by omega) hU hUn.symm (by omega) h0
  · exact tells_s0 w c who seq a va m lc n vc (by simpa using h0)
theorem tells_row (a b d f g l who seq : Int) (v v' : Value) (L : List Rq) (U : List Int) (w : World) (hL : ArgE enR 3 w v L) (hU : ArgE enU 1 w v' U) (_ : L.length ≤ maxLen) (_ : U.length ≤ maxLen) :
    Calls Try.prog 4 #[.agg #[.int .i64 a, .int .i64 b, .int .i64 d, .int .i64 f, .int .u64 g, .int .u64 l], .int .i64 who, .int .u64 seq, v, v'] w fun e w' => e = .returned (.bool true) ∧ Fr [] w w' := by
  obtain ⟨a1, c1, rfl, _⟩ := id hL
  obtain ⟨a2, c2, rfl, _⟩ := id hU
  exact tells_any w ⟨a, b, d, f, g, l⟩ who seq a1 a2 _ c1 _ c2 L U hL hU rfl rfl
end Go.Proofs.Ytndanamaadhdaaa
