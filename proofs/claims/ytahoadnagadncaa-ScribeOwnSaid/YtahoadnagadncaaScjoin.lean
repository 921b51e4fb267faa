/- Ask, and the document's Write, whatever has been done. -/
import Derived.Test.YtahoadnagadncaaScclear
import Derived.Test.YtahoadnagadncaaScask
set_option linter.unusedSimpArgs false
set_option linter.unusedVariables false
namespace Go.Proofs.Ytahoadnagadncaa
open Go.RowKit Go.Tum Go.Tum.Y Go.Tum.Sc
theorem ask_any (w : World) (c : Cfg) (h : Ok c) (b : Nat) (who seq : Int) (la : Option Addr) (n lc d : Nat) (K : List (Int × Int)) (hB : Blk w b 75 (scL (mapCells c) who seq (.slice la n lc) d)) (hr : w.ownsRow 0 56 2 (.slice la n lc) n (flat enE K)) (hK : K.length = n) (hn : n ≤ 100000) (hd : d ≤ 100000) :
    Calls Try.prog 12 #[.pointer (some ⟨b, 0, none⟩)] w fun e w' => e = .returned (.tuple #[.agg (enP (if d ≤ n + 1 then Sc.opAt c who seq K n d else p0)).toArray, .bool (decide (d ≤ n + 1))]) ∧ Fr [] w w' := by
  by_cases h1 : d ≤ n + 1
  · rw [if_pos h1, decide_eq_true h1]
    have hdn : decide (d > n + 1) = false := by simp; omega
    unfold Sc.opAt
    by_cases h2 : d < n
    · rw [if_pos h2]
      obtain ⟨g, rfl⟩ : ∃ g, la = some ⟨g, 0, none⟩ := by
        rcases ownsRow_form hr with ⟨_, e⟩ | ⟨g, cap, e, _⟩
        · omega
        · simp only [Value.slice.injEq] at e; exact ⟨g, e.1⟩
      have hgd : K.getD d (0, 0) = K[d]'(by omega) := by simp [List.getD_eq_getElem?_getD, List.getElem?_eq_getElem (show d < K.length by omega)]
      unfold logOp; rw [hgd]
      exact ask_log w c h b who seq g n lc d K hB hr hK hn hd hdn h2
    · rw [if_neg h2]
      by_cases h3 : d = n
      · rw [if_pos h3]; exact ask_len w c h b who seq la n lc d hB hn hd hdn h3
      · rw [if_neg h3]; exact ask_open w c h b who seq la n lc d hB hn hd hdn h2 h3
  · rw [if_neg h1, decide_eq_false h1]
    exact ask_done w c h b who seq la n lc d hB hn hd (by simp; omega)
theorem write_any (w : World) (c : Cfg) (h : Ok c) (who seq : Int) (a : Option Addr) (m lc : Nat) (L : List (Int × Int)) (hLm : L.length = m) (hL : ArgE enE 2 w (.slice a m lc) L) (hm : m ≤ 1000) (oa : Option Addr) (n oc : Nat) (hn : n ≤ 100000) (l : List O3) (hl : l.length = n) (hO : ArgE enO 3 w (.slice oa n oc) l) (k : Nat) (hk : k = min L.length (cap c).toNat) :
    Calls Try.prog 10 #[cfgV c, .int .i64 who, .int .u64 seq, .slice a m lc, .agg (tapeL (.slice oa n oc) ⟨0, p0, false⟩).toArray] w fun e w' => e = .returned (.agg (tapeL (.slice oa n oc) (upTo (Sc.opAt c who seq (L.take k) k) n (k + 2))).toArray) ∧ Fr [] w w' := by
  have hcb := cap_bd h
  rw [← wrote_upTo]
  by_cases hc : (m : Int) ≤ cap c
  · obtain rfl : k = m := by omega
    rw [List.take_of_length_le (by omega)]
    exact write_all w c h who seq a k lc L hLm hL hm oa n oc _ (by decide) hn l hl hO hc
  · exact write_cut w c h who seq a m lc L hLm hL hm oa n oc _ (by decide) hn l hl hO k (by omega) (by omega)
end Go.Proofs.Ytahoadnagadncaa
