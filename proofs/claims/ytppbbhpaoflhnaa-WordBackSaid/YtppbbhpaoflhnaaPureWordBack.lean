/- The law WordBack in plain numbers: for every word, place, count and other word its Lean function answers true. Conditions: the numbers are of their kinds. -/
import Derived.Test.YtppbbhpaoflhnaaPWordBackx2
import Derived.Test.YtppbbhpaoflhnaaBits
namespace Go.Proofs.Ytppbbhpaoflhnaa.Pure
open Go.RowKit Go.Proofs.Ytppbbhpaoflhnaa.PWordBack Go.Proofs.Ytppbbhpaoflhnaa.Bits Go.Proofs.YtppbbhpaoflhnaaW.PrintWords Go.Proofs.YtppbbhpaoflhnaaW.PrintLast Go.Proofs.YtppbbhpaoflhnaaW.PrintMore

namespace WordBack
theorem word_mask_eq (n : Int) : word_mask.f n = some (U (low n)) := by
  unfold word_mask.f
  by_cases h : n < 1
  · rw [if_pos h]
    have : n.toNat = 0 := by omega
    unfold low
    rw [this]
    rfl
  · rw [if_neg h]
    by_cases h2 : n > 63
    · rw [if_pos h2]
      unfold low
      rw [Nat.min_eq_right (by omega)]
      rfl
    · rw [if_neg h2, if_pos (by omega), low_one n (by omega) (by omega)]
theorem word_Zext_eq (v : BitVec 64) (n : Int) : word_Zext.f (U v) n = some (U (zx v n)) := by
  unfold word_Zext.f
  rw [word_mask_eq]
  simp only [Option.bind_some]
  rw [and_U]
  rfl
theorem word_Bits_eq (v : BitVec 64) (lo n : Int) : word_Bits.f (U v) lo n = some (U (bs v lo n)) := by
  unfold word_Bits.f bs
  by_cases h : lo < 0
  · rw [if_pos h, if_pos h]; rfl
  · rw [if_neg h, if_neg h]
    by_cases h2 : lo > 63
    · rw [if_pos h2, if_pos h2]; rfl
    · rw [if_neg h2, if_neg h2, if_pos (by omega), shr_U, word_Zext_eq]
      rfl
theorem word_Put_eq (v : BitVec 64) (lo n : Int) (x : BitVec 64) : word_Put.f (U v) lo n (U x) = some (U (pt v lo n x)) := by
  unfold word_Put.f pt
  by_cases h : lo < 0
  · rw [if_pos h, if_pos h]
  · rw [if_neg h, if_neg h]
    by_cases h2 : lo > 63
    · rw [if_pos h2, if_pos h2]
    · rw [if_neg h2, if_neg h2, word_mask_eq]
      simp only [Option.bind_some]
      rw [if_pos (by omega), shl_U, shl_U, andNot_U, and_U, or_U]
theorem head_eq (k : Nat) (hk : 4 ≤ k) : ravelinlaw01_head.f k = some true :=
  at_rounds ravelinlaw01_head.mono hk (by decide +kernel)

theorem back (v : BitVec 64) (lo n : Int) : pt v lo n (bs v lo n) = v := by
  by_cases h : lo < 0
  · unfold pt; rw [if_pos h]
  · by_cases h2 : lo > 63
    · unfold pt; rw [if_neg h, if_pos h2]
    · refine ext64 fun j hj => ?_
      rw [pt_at v lo n _ (by omega) (by omega) j hj]
      split
      · rename_i hc
        rw [bs_at v lo n (by omega) (by omega) _ (by omega)]
        have e : lo.toNat + (j - lo.toNat) = j := by omega
        have e2 : ((j - lo.toNat : Nat) : Int) < n := by omega
        simp [e, e2]
      · rfl
theorem mine (v x : BitVec 64) (lo n : Int) (h0 : 0 ≤ lo) (h1 : lo ≤ 63) (_hn : 1 ≤ n) (_hs : n ≤ 64 - lo) : bs (pt v lo n x) lo n = zx x n := by
  refine ext64 fun j hj => ?_
  rw [bs_at _ lo n h0 h1 j hj, zx_at x n j hj]
  by_cases h : (j : Int) < n
  · rw [pt_at v lo n x h0 h1 _ (by omega), if_pos ⟨by omega, by omega⟩]
    have e : lo.toNat + j - lo.toNat = j := by omega
    rw [e]
  · simp [h]
theorem lows (v x : BitVec 64) (lo n : Int) (h0 : 0 ≤ lo) (h1 : lo ≤ 63) : zx (pt v lo n x) lo = zx v lo := by
  refine ext64 fun j hj => ?_
  rw [zx_at _ lo j hj, zx_at v lo j hj]
  by_cases h : (j : Int) < lo
  · rw [pt_at v lo n x h0 h1 _ hj, if_neg (by omega)]
  · simp [h]
theorem highs (v x : BitVec 64) (lo n : Int) (h0 : 0 ≤ lo) (h1 : lo ≤ 63) (_hn : 1 ≤ n) (_hs : n ≤ 64 - lo) : bs (pt v lo n x) (lo + n) 64 = bs v (lo + n) 64 := by
  by_cases h : lo + n > 63
  · have e : ∀ z : BitVec 64, bs z (lo + n) 64 = 0#64 := fun z => by
      unfold bs
      rw [if_neg (by omega), if_pos h]
    rw [e, e]
  · refine ext64 fun j hj => ?_
    rw [bs_at _ (lo + n) 64 (by omega) (by omega) j hj, bs_at _ (lo + n) 64 (by omega) (by omega) j hj]
    by_cases hb : (lo + n).toNat + j < 64
    · rw [pt_at v lo n x h0 h1 _ hb, if_neg (by omega)]
    · rw [BitVec.getLsbD_of_ge _ _ (by omega), BitVec.getLsbD_of_ge _ _ (by omega)]
theorem holds (v x lo n : Int) (hv : (Lit.int .u64 v).wf = true) (hx : (Lit.int .u64 x).wf = true) : ∃ k, ravelinlaw01_WordBack.f k v x lo n = some true := by
  obtain ⟨v, rfl⟩ := U_of hv
  obtain ⟨x, rfl⟩ := U_of hx
  refine ⟨10, ?_⟩
  unfold ravelinlaw01_WordBack.f
  simp only [ravelinlaw01_WordBack.j0]
  rw [head_eq _ (by omega), word_Bits_eq]
  simp only [Option.bind_some]
  rw [word_Put_eq, back]
  simp only [Option.bind_some, if_true, beq_self_eq_true]
  by_cases h0 : lo < 0
  · rw [if_pos h0]
  · rw [if_neg h0]
    by_cases h1 : lo > 63
    · rw [if_pos h1]
    · rw [if_neg h1]
      by_cases h2 : n < 1
      · rw [if_pos h2]
      · rw [if_neg h2]
        have e : wrap64 (64 - lo) = 64 - lo := by unfold wrap64; omega
        rw [e]
        by_cases h3 : n > 64 - lo
        · simp only [h3, decide_true, if_true]
        · simp only [h3, decide_false, Bool.false_eq_true, if_false]
          have e2 : wrap64 (lo + n) = lo + n := by unfold wrap64; omega
          rw [e2, word_Put_eq]
          simp only [Option.bind_some]
          rw [word_Bits_eq, word_Zext_eq]
          simp only [Option.bind_some]
          rw [word_Zext_eq, word_Zext_eq]
          simp only [Option.bind_some]
          rw [word_Bits_eq, word_Bits_eq]
          simp only [Option.bind_some]
          rw [mine v x lo n (by omega) (by omega) (by omega) (by omega), lows v x lo n (by omega) (by omega), highs v x lo n (by omega) (by omega) (by omega) (by omega)]
          simp
end WordBack
end Go.Proofs.Ytppbbhpaoflhnaa.Pure
