/- The law WordApart in plain numbers: for every two words, places, counts and other words its Lean function answers true. Conditions: the numbers are of their kinds. -/
import Derived.Test.YtppbbhpaoflhnaaPWordApartx2
import Derived.Test.YtppbbhpaoflhnaaBits
namespace Go.Proofs.Ytppbbhpaoflhnaa.Pure
open Go.RowKit Go.Proofs.Ytppbbhpaoflhnaa.PWordApart Go.Proofs.Ytppbbhpaoflhnaa.Bits Go.Proofs.YtppbbhpaoflhnaaW.PrintWords Go.Proofs.YtppbbhpaoflhnaaW.PrintLast Go.Proofs.YtppbbhpaoflhnaaW.PrintMore

namespace WordApart
theorem word_mask_eq (n : Int) : word_mask.f n = some (U (low n)) := by
  unfold word_mask.f
  by_cases h : n < 1
  · rw [if_pos h]
    have : n.toNat = 0 := by omega
    unfold low
    rw [this]
    rfl
  · rw [if_neg h]
    by_cases h2 : n > 63
    · rw [if_pos h2]
      unfold low
      rw [Nat.min_eq_right (by omega)]
      rfl
    · rw [if_neg h2, if_pos (by omega), low_one n (by omega) (by omega)]
theorem word_Zext_eq (v : BitVec 64) (n : Int) : word_Zext.f (U v) n = some (U (zx v n)) := by
  unfold word_Zext.f
  rw [word_mask_eq]
  simp only [Option.bind_some]
  rw [and_U]
  rfl
theorem word_Bits_eq (v : BitVec 64) (lo n : Int) : word_Bits.f (U v) lo n = some (U (bs v lo n)) := by
  unfold word_Bits.f bs
  by_cases h : lo < 0
  · rw [if_pos h, if_pos h]; rfl
  · rw [if_neg h, if_neg h]
    by_cases h2 : lo > 63
    · rw [if_pos h2, if_pos h2]; rfl
    · rw [if_neg h2, if_neg h2, if_pos (by omega), shr_U, word_Zext_eq]
      rfl
theorem word_Put_eq (v : BitVec 64) (lo n : Int) (x : BitVec 64) : word_Put.f (U v) lo n (U x) = some (U (pt v lo n x)) := by
  unfold word_Put.f pt
  by_cases h : lo < 0
  · rw [if_pos h, if_pos h]
  · rw [if_neg h, if_neg h]
    by_cases h2 : lo > 63
    · rw [if_pos h2, if_pos h2]
    · rw [if_neg h2, if_neg h2, word_mask_eq]
      simp only [Option.bind_some]
      rw [if_pos (by omega), shl_U, shl_U, andNot_U, and_U, or_U]
theorem head_eq (k : Nat) (hk : 4 ≤ k) : ravelinlaw01_head.f k = some true :=
  at_rounds ravelinlaw01_head.mono hk (by decide +kernel)

theorem orders (v x y : BitVec 64) (lo n lo2 n2 : Int) (h0 : 0 ≤ lo) (h1 : lo ≤ 63) (g0 : 0 ≤ lo2) (g1 : lo2 ≤ 63) (ha : lo + n ≤ lo2) :
    pt (pt v lo n x) lo2 n2 y = pt (pt v lo2 n2 y) lo n x := by
  refine ext64 fun j hj => ?_
  rw [pt_at _ lo2 n2 y g0 g1 j hj, pt_at v lo n x h0 h1 j hj, pt_at _ lo n x h0 h1 j hj, pt_at v lo2 n2 y g0 g1 j hj]
  by_cases a : lo ≤ (j : Int) ∧ (j : Int) - lo < n
  · rw [if_pos a, if_pos a, if_neg (by omega)]
  · rw [if_neg a, if_neg a]
theorem there (v x y : BitVec 64) (lo n lo2 n2 : Int) (h0 : 0 ≤ lo) (h1 : lo ≤ 63) (g0 : 0 ≤ lo2) (g1 : lo2 ≤ 63) (ha : lo + n ≤ lo2) :
    bs (pt (pt v lo n x) lo2 n2 y) lo n = zx x n := by
  refine ext64 fun j hj => ?_
  rw [bs_at _ lo n h0 h1 j hj, zx_at x n j hj]
  by_cases h : (j : Int) < n
  · rw [pt_at _ lo2 n2 y g0 g1 _ (by omega), if_neg (by omega), pt_at v lo n x h0 h1 _ (by omega), if_pos ⟨by omega, by omega⟩]
    have e : lo.toNat + j - lo.toNat = j := by omega
    rw [e]
  · simp [h]
theorem holds (v x lo n w y lo2 n2 : Int) (hv : (Lit.int .u64 v).wf = true) (hx : (Lit.int .u64 x).wf = true) (hy : (Lit.int .u64 y).wf = true) :
    ∃ k, ravelinlaw01_WordApart.f k v x lo n w y lo2 n2 = some true := by
  obtain ⟨v, rfl⟩ := U_of hv
  obtain ⟨x, rfl⟩ := U_of hx
  obtain ⟨y, rfl⟩ := U_of hy
  refine ⟨10, ?_⟩
  unfold ravelinlaw01_WordApart.f
  simp only [ravelinlaw01_WordApart.j0]
  rw [head_eq _ (by omega)]
  simp only [Option.bind_some, if_true]
  by_cases a1 : lo < 0
  · rw [if_pos a1]
  rw [if_neg a1]
  by_cases a2 : lo2 < 0
  · rw [if_pos a2]
  rw [if_neg a2]
  by_cases a3 : n < 1
  · rw [if_pos a3]
  rw [if_neg a3]
  by_cases a4 : n2 < 1
  · rw [if_pos a4]
  rw [if_neg a4]
  by_cases a5 : lo > 63
  · rw [if_pos a5]
  rw [if_neg a5]
  by_cases a6 : lo2 > 63
  · rw [if_pos a6]
  rw [if_neg a6]
  by_cases a7 : n > 64
  · rw [if_pos a7]
  rw [if_neg a7]
  by_cases a8 : n2 > 64
  · rw [if_pos a8]
  rw [if_neg a8]
  have e : wrap64 (lo + n) = lo + n := by unfold wrap64; omega
  rw [e]
  by_cases a9 : lo + n > lo2
  · simp only [a9, decide_true, if_true]
  · simp only [a9, decide_false, Bool.false_eq_true, if_false]
    rw [word_Put_eq]
    simp only [Option.bind_some]
    rw [word_Put_eq, word_Put_eq]
    simp only [Option.bind_some]
    rw [word_Put_eq]
    simp only [Option.bind_some]
    rw [orders v x y lo n lo2 n2 (by omega) (by omega) (by omega) (by omega) (by omega), if_pos rfl, word_Bits_eq, word_Zext_eq]
    simp only [Option.bind_some]
    rw [← orders v x y lo n lo2 n2 (by omega) (by omega) (by omega) (by omega) (by omega), there v x y lo n lo2 n2 (by omega) (by omega) (by omega) (by omega) (by omega)]
    simp
end WordApart
end Go.Proofs.Ytppbbhpaoflhnaa.Pure
