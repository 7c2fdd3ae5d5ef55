/- The law WordFits answers true for every number and every list of counts of bits: word.Fits is the reference's Fits, and Fits just if Sext is the number. Conditions: those of the row alone. -/
import Derived.Test.YtppbbhpaoflhnaaPWordFitsx2
import Derived.Test.YtppbbhpaoflhnaaBits
namespace Go.Proofs.Ytppbbhpaoflhnaa.Pure
open Go.RowKit Go.Proofs.Ytppbbhpaoflhnaa.PWordFits Go.Proofs.Ytppbbhpaoflhnaa.Bits Go.Proofs.YtppbbhpaoflhnaaW.PrintWords Go.Proofs.YtppbbhpaoflhnaaW.PrintLast Go.Proofs.YtppbbhpaoflhnaaW.PrintMore

namespace WordFits
theorem word_Sext_eq (v : BitVec 64) (n : Int) : word_Sext.f (U v) n = some (sx v n).toInt := by
  unfold word_Sext.f
  by_cases h : n < 1
  · rw [if_pos h, sx_none v n h]; rfl
  · rw [if_neg h]
    have e : wrap64 (64 - mn n 64) = ((64 - min n.toNat 64 : Nat) : Int) := by
      unfold wrap64 mn
      split <;> omega
    rw [e, if_pos (by omega), shl_U, wrap64_U, sar_U _ _ (by omega)]
    unfold sx
    rw [if_neg h]
    rfl
theorem word_mask_eq (n : Int) : word_mask.f n = some (U (low n)) := by
  unfold word_mask.f
  by_cases h : n < 1
  · rw [if_pos h]
    have : n.toNat = 0 := by omega
    unfold low
    rw [this]
    rfl
  · rw [if_neg h]
    by_cases h2 : n > 63
    · rw [if_pos h2]
      unfold low
      rw [Nat.min_eq_right (by omega)]
      rfl
    · rw [if_neg h2, if_pos (by omega), low_one n (by omega) (by omega)]
theorem word_Zext_eq (v : BitVec 64) (n : Int) : word_Zext.f (U v) n = some (U (zx v n)) := by
  unfold word_Zext.f
  rw [word_mask_eq]
  simp only [Option.bind_some]
  rw [and_U]
  rfl
theorem word_Bits_eq (v : BitVec 64) (lo n : Int) : word_Bits.f (U v) lo n = some (U (bs v lo n)) := by
  unfold word_Bits.f bs
  by_cases h : lo < 0
  · rw [if_pos h, if_pos h]; rfl
  · rw [if_neg h, if_neg h]
    by_cases h2 : lo > 63
    · rw [if_pos h2, if_pos h2]; rfl
    · rw [if_neg h2, if_neg h2, if_pos (by omega), shr_U, word_Zext_eq]
      rfl
theorem head_eq (k : Nat) (hk : 4 ≤ k) : ravelinlaw01_head.f k = some true :=
  at_rounds ravelinlaw01_head.mono hk (by decide +kernel)
theorem bit_eq (v : BitVec 64) (i : Int) (h0 : 0 ≤ i) (h : i ≤ 63) : ravelinref01_bit.f (U v) i = some (U ((v >>> i.toNat) &&& 1#64)) := by
  unfold ravelinref01_bit.f
  have e : IntKind.u64.wrap i = i := by
    simp only [IntKind.wrap, IntKind.bits, IntKind.signed, Bool.false_and, Bool.false_eq_true, if_false]
    omega
  rw [e, if_pos h0, shr_U]
  have e1 : (1 : Int) = U 1#64 := by decide
  rw [e1, and_U]
theorem wrapU_small (i : Int) (h0 : 0 ≤ i) (h : i ≤ 64) : IntKind.u64.wrap i = i := by
  simp only [IntKind.wrap, IntKind.bits, IntKind.signed, Bool.false_and, Bool.false_eq_true, if_false]
  omega
theorem wrap64_small (i : Int) (h0 : -1000 ≤ i) (h : i ≤ 1000) : wrap64 i = i := by
  unfold wrap64
  omega
theorem ref_Zext_loop (v : BitVec 64) (n : Int) (d : Nat) : ∀ (k : Nat) (i : Nat) (out : BitVec 64), i ≤ 64 → 64 - i = d → d < k →
    (∀ j, j < 64 → out.getLsbD j = (decide (j < i ∧ (j : Int) < n) && v.getLsbD j)) →
    ravelinref01_Zext.l0 k (U v) n (U out) i = some (U (zx v n)) := by
  induction d with
  | zero =>
    intro k i out hi hd hk hout
    obtain ⟨k, rfl⟩ : ∃ m, k = m + 1 := ⟨k - 1, by omega⟩
    simp only [ravelinref01_Zext.l0]
    have hz : out = zx v n := ext64 fun j hj => by
      rw [hout j hj, zx_at v n j hj]
      congr 1
      simp only [decide_eq_decide]
      omega
    rw [hz]
    split
    · rw [if_neg (by omega)]
    · rfl
  | succ d ih =>
    intro k i out hi hd hk hout
    obtain ⟨k, rfl⟩ : ∃ m, k = m + 1 := ⟨k - 1, by omega⟩
    simp only [ravelinref01_Zext.l0]
    by_cases hlt : (i : Int) < n
    · rw [if_pos hlt, if_pos (by omega), bit_eq v i (by omega) (by omega)]
      simp only [Option.bind_some]
      rw [wrapU_small _ (by omega) (by omega), if_pos (by omega), shl_U, or_U, wrap64_small _ (by omega) (by omega)]
      refine ih k (i + 1) _ (by omega) (by omega) (by omega) fun j hj => ?_
      rw [BitVec.getLsbD_or, hout j hj, bit_at _ _ _ _ hj]
      by_cases e : j = i
      · subst e
        have a2 : j < j + 1 ∧ (j : Int) < n := by omega
        simp [a2]
      · have a1 : (j < i ∧ (j : Int) < n) ↔ (j < i + 1 ∧ (j : Int) < n) := by omega
        simp [e, a1]
    · rw [if_neg hlt]
      have hz : out = zx v n := ext64 fun j hj => by
        rw [hout j hj, zx_at v n j hj]
        congr 1
        simp only [decide_eq_decide]
        omega
      rw [hz]
theorem ref_Zext_eq (k : Nat) (hk : 65 ≤ k) (v : BitVec 64) (n : Int) : ravelinref01_Zext.f k (U v) n = some (U (zx v n)) := by
  unfold ravelinref01_Zext.f
  exact ref_Zext_loop v n 64 k 0 0#64 (by omega) (by omega) (by omega) fun j _ => by simp
theorem ref_Sext_loop (v : BitVec 64) (n : Int) (h1 : 1 ≤ n) (h2 : n ≤ 63) (d : Nat) : ∀ (k : Nat) (i : Nat) (out : BitVec 64), i ≤ 64 → n ≤ i → 64 - i = d → d < k →
    (∀ j, j < 64 → out.getLsbD j = (decide (j < i) && v.getLsbD (if (j : Int) < n then j else n.toNat - 1))) →
    ravelinref01_Sext.l0 k (U v) n (U out) i = some (sx v n).toInt := by
  induction d with
  | zero =>
    intro k i out hi hn hd hk hout
    obtain ⟨k, rfl⟩ : ∃ m, k = m + 1 := ⟨k - 1, by omega⟩
    simp only [ravelinref01_Sext.l0]
    have hz : out = sx v n := ext64 fun j hj => by
      rw [hout j hj, sx_at v n h1 (by omega) j hj]
      have : j < i := by omega
      simp [this]
    rw [hz, if_neg (by omega), wrap64_U]
  | succ d ih =>
    intro k i out hi hn hd hk hout
    obtain ⟨k, rfl⟩ : ∃ m, k = m + 1 := ⟨k - 1, by omega⟩
    simp only [ravelinref01_Sext.l0]
    rw [if_pos (by omega), wrap64_small (n - 1) (by omega) (by omega), bit_eq v (n - 1) (by omega) (by omega)]
    simp only [Option.bind_some]
    rw [wrapU_small _ (by omega) (by omega), if_pos (by omega), shl_U, or_U, wrap64_small _ (by omega) (by omega)]
    refine ih k (i + 1) _ (by omega) (by omega) (by omega) (by omega) fun j hj => ?_
    rw [BitVec.getLsbD_or, hout j hj, bit_at _ _ _ _ hj]
    have en : (n - 1).toNat = n.toNat - 1 := by omega
    by_cases e : j = i
    · subst e
      have a0 : ¬ (j : Int) < n := by omega
      simp [a0, en]
    · have a1 : (j < i) ↔ (j < i + 1) := by omega
      simp [e, a1]
theorem ref_Sext_eq (k : Nat) (hk : 65 ≤ k) (v : BitVec 64) (n : Int) : ravelinref01_Sext.f k (U v) n = some (sx v n).toInt := by
  unfold ravelinref01_Sext.f
  by_cases h : n < 1
  · rw [if_pos h, sx_none v n h]; rfl
  · rw [if_neg h]
    by_cases h2 : n ≥ 64
    · rw [if_pos h2, sx_full v n h2, wrap64_U]
    · rw [if_neg h2, ref_Zext_eq k hk]
      simp only [Option.bind_some]
      obtain ⟨m, rfl⟩ : ∃ m : Nat, n = m := ⟨n.toNat, by omega⟩
      refine ref_Sext_loop v m (by omega) (by omega) (64 - m) k m _ (by omega) (by omega) (by omega) (by omega) fun j hj => ?_
      rw [zx_at _ _ _ hj]
      by_cases e : j < m
      · have : (j : Int) < m := by omega
        simp [e]
      · have : ¬ (j : Int) < m := by omega
        simp [e]
theorem toInt_of {v : Int} (h : (Lit.int .i64 v).wf = true) : ∃ x : BitVec 64, v = x.toInt := by
  have h' : -9223372036854775808 ≤ v ∧ v ≤ 9223372036854775807 := by
    simpa [Lit.wf, IntKind.min, IntKind.max, IntKind.bits, IntKind.signed] using h
  refine ⟨BitVec.ofInt 64 v, ?_⟩
  rw [BitVec.toInt_ofInt]
  rw [Int.bmod_def]
  split <;> omega
theorem word_Fits_eq (x : BitVec 64) (n : Int) : word_Fits.f x.toInt n = some ((sx x n).toInt == x.toInt) := by
  unfold word_Fits.f
  rw [wrapU_toInt, word_Sext_eq x n]
  rfl
theorem ref_Fits_eq (k : Nat) (hk : 65 ≤ k) (x : BitVec 64) (n : Int) : ravelinref01_Fits.f k x.toInt n = some ((sx x n).toInt == x.toInt) := by
  unfold ravelinref01_Fits.f
  by_cases h : n < 1
  · rw [if_pos h, sx_none x n h]
    have e : (0#64).toInt = 0 := rfl
    rw [e]
    congr 1
    rw [Bool.eq_iff_iff, beq_iff_eq, beq_iff_eq]
    exact eq_comm
  · rw [if_neg h]
    by_cases h2 : n ≥ 64
    · rw [if_pos h2, sx_full x n h2]
      simp
    · rw [if_neg h2, wrapU_toInt, ref_Sext_eq k hk]
      rfl
theorem loop (x : BitVec 64) (l : List Int) (hl : l.length ≤ 1000000000000000) (d : Nat) : ∀ (k : Nat) (i : Nat), i ≤ l.length → l.length - i = d → d + 65 < k →
    ravelinlaw01_WordFits.l0 k x.toInt l true i = some true := by
  induction d with
  | zero =>
    intro k i hi hd hk
    obtain ⟨k, rfl⟩ : ∃ m, k = m + 1 := ⟨k - 1, by omega⟩
    simp only [ravelinlaw01_WordFits.l0]
    rw [if_neg (by omega)]
  | succ d ih =>
    intro k i hi hd hk
    obtain ⟨k, rfl⟩ : ∃ m, k = m + 1 := ⟨k - 1, by omega⟩
    simp only [ravelinlaw01_WordFits.l0]
    have hx := ih k (i + 1) (by omega) (by omega) (by omega)
    have ew : wrap64 ((i : Int) + 1) = ((i + 1 : Nat) : Int) := by unfold wrap64; omega
    rw [if_pos (by omega), if_pos (by omega), word_Fits_eq x _]
    simp only [Option.bind_some]
    rw [ref_Fits_eq k (by omega) x]
    simp only [Option.bind_some]
    rw [wrapU_toInt, word_Sext_eq x _]
    simp only [Option.bind_some, bne_self_eq_false, Bool.false_eq_true, if_false]
    rw [ew, hx]
    simp
end WordFits
theorem WordFits : ravelinlaw01_WordFits.Pure := by
  intro a l wa _ _ _
  obtain ⟨x, rfl⟩ := WordFits.toInt_of wa
  refine ⟨l.length + 70, ?_⟩
  unfold ravelinlaw01_WordFits.f
  rw [WordFits.head_eq _ (by omega)]
  exact WordFits.loop x l (by omega) l.length (l.length + 70) 0 (by omega) (by omega) (by omega)

end Go.Proofs.Ytppbbhpaoflhnaa.Pure
