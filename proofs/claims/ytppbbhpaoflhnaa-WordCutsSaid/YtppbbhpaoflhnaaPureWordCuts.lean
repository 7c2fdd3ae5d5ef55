/- The law WordCuts in plain numbers: for every list of words, places, counts and other words its Lean function answers true. Conditions: the numbers are of their kinds; the list is no longer than a slice can be. -/
import Derived.Test.YtppbbhpaoflhnaaPWordCutsx3
import Derived.Test.YtppbbhpaoflhnaaBits
namespace Go.Proofs.Ytppbbhpaoflhnaa.Pure
open Go.RowKit Go.Proofs.Ytppbbhpaoflhnaa.PWordCuts Go.Proofs.Ytppbbhpaoflhnaa.Bits Go.Proofs.YtppbbhpaoflhnaaW.PrintWords Go.Proofs.YtppbbhpaoflhnaaW.PrintLast Go.Proofs.YtppbbhpaoflhnaaW.PrintMore

namespace WordCuts
theorem word_mask_eq (n : Int) : word_mask.f n = some (U (low n)) := by
  unfold word_mask.f
  by_cases h : n < 1
  · rw [if_pos h]
    have : n.toNat = 0 := by omega
    unfold low
    rw [this]
    rfl
  · rw [if_neg h]
    by_cases h2 : n > 63
    · rw [if_pos h2]
      unfold low
      rw [Nat.min_eq_right (by omega)]
      rfl
    · rw [if_neg h2, if_pos (by omega), low_one n (by omega) (by omega)]
theorem word_Zext_eq (v : BitVec 64) (n : Int) : word_Zext.f (U v) n = some (U (zx v n)) := by
  unfold word_Zext.f
  rw [word_mask_eq]
  simp only [Option.bind_some]
  rw [and_U]
  rfl
theorem word_Bits_eq (v : BitVec 64) (lo n : Int) : word_Bits.f (U v) lo n = some (U (bs v lo n)) := by
  unfold word_Bits.f bs
  by_cases h : lo < 0
  · rw [if_pos h, if_pos h]; rfl
  · rw [if_neg h, if_neg h]
    by_cases h2 : lo > 63
    · rw [if_pos h2, if_pos h2]; rfl
    · rw [if_neg h2, if_neg h2, if_pos (by omega), shr_U, word_Zext_eq]
      rfl
theorem word_Put_eq (v : BitVec 64) (lo n : Int) (x : BitVec 64) : word_Put.f (U v) lo n (U x) = some (U (pt v lo n x)) := by
  unfold word_Put.f pt
  by_cases h : lo < 0
  · rw [if_pos h, if_pos h]
  · rw [if_neg h, if_neg h]
    by_cases h2 : lo > 63
    · rw [if_pos h2, if_pos h2]
    · rw [if_neg h2, if_neg h2, word_mask_eq]
      simp only [Option.bind_some]
      rw [if_pos (by omega), shl_U, shl_U, andNot_U, and_U, or_U]
theorem word_Sext_eq (v : BitVec 64) (n : Int) : word_Sext.f (U v) n = some (sx v n).toInt := by
  unfold word_Sext.f
  by_cases h : n < 1
  · rw [if_pos h, sx_none v n h]; rfl
  · rw [if_neg h]
    have e : wrap64 (64 - mn n 64) = ((64 - min n.toNat 64 : Nat) : Int) := by
      unfold wrap64 mn
      split <;> omega
    rw [e, if_pos (by omega), shl_U, wrap64_U, sar_U _ _ (by omega)]
    unfold sx
    rw [if_neg h]
    rfl
theorem head_eq (k : Nat) (hk : 4 ≤ k) : ravelinlaw01_head.f k = some true :=
  at_rounds ravelinlaw01_head.mono hk (by decide +kernel)
theorem bit_eq (v : BitVec 64) (i : Int) (h0 : 0 ≤ i) (h : i ≤ 63) : ravelinref01_bit.f (U v) i = some (U ((v >>> i.toNat) &&& 1#64)) := by
  unfold ravelinref01_bit.f
  have e : IntKind.u64.wrap i = i := by
    simp only [IntKind.wrap, IntKind.bits, IntKind.signed, Bool.false_and, Bool.false_eq_true, if_false]
    omega
  rw [e, if_pos h0, shr_U]
  have e1 : (1 : Int) = U 1#64 := by decide
  rw [e1, and_U]
theorem wrapU_small (i : Int) (h0 : 0 ≤ i) (h : i ≤ 64) : IntKind.u64.wrap i = i := by
  simp only [IntKind.wrap, IntKind.bits, IntKind.signed, Bool.false_and, Bool.false_eq_true, if_false]
  omega
theorem wrap64_small (i : Int) (h0 : -1000 ≤ i) (h : i ≤ 1000) : wrap64 i = i := by
  unfold wrap64
  omega
theorem ref_Zext_loop (v : BitVec 64) (n : Int) (d : Nat) : ∀ (k : Nat) (i : Nat) (out : BitVec 64), i ≤ 64 → 64 - i = d → d < k →
    (∀ j, j < 64 → out.getLsbD j = (decide (j < i ∧ (j : Int) < n) && v.getLsbD j)) →
    ravelinref01_Zext.l0 k (U v) n (U out) i = some (U (zx v n)) := by
  induction d with
  | zero =>
    intro k i out hi hd hk hout
    obtain ⟨k, rfl⟩ : ∃ m, k = m + 1 := ⟨k - 1, by omega⟩
    simp only [ravelinref01_Zext.l0]
    have hz : out = zx v n := ext64 fun j hj => by
      rw [hout j hj, zx_at v n j hj]
      congr 1
      simp only [decide_eq_decide]
      omega
    rw [hz]
    split
    · rw [if_neg (by omega)]
    · rfl
  | succ d ih =>
    intro k i out hi hd hk hout
    obtain ⟨k, rfl⟩ : ∃ m, k = m + 1 := ⟨k - 1, by omega⟩
    simp only [ravelinref01_Zext.l0]
    by_cases hlt : (i : Int) < n
    · rw [if_pos hlt, if_pos (by omega), bit_eq v i (by omega) (by omega)]
      simp only [Option.bind_some]
      rw [wrapU_small _ (by omega) (by omega), if_pos (by omega), shl_U, or_U, wrap64_small _ (by omega) (by omega)]
      refine ih k (i + 1) _ (by omega) (by omega) (by omega) fun j hj => ?_
      rw [BitVec.getLsbD_or, hout j hj, bit_at _ _ _ _ hj]
      by_cases e : j = i
      · subst e
        have a2 : j < j + 1 ∧ (j : Int) < n := by omega
        simp [a2]
      · have a1 : (j < i ∧ (j : Int) < n) ↔ (j < i + 1 ∧ (j : Int) < n) := by omega
        simp [e, a1]
    · rw [if_neg hlt]
      have hz : out = zx v n := ext64 fun j hj => by
        rw [hout j hj, zx_at v n j hj]
        congr 1
        simp only [decide_eq_decide]
        omega
      rw [hz]
theorem ref_Zext_eq (k : Nat) (hk : 65 ≤ k) (v : BitVec 64) (n : Int) : ravelinref01_Zext.f k (U v) n = some (U (zx v n)) := by
  unfold ravelinref01_Zext.f
  exact ref_Zext_loop v n 64 k 0 0#64 (by omega) (by omega) (by omega) fun j _ => by simp
theorem ref_Sext_loop (v : BitVec 64) (n : Int) (h1 : 1 ≤ n) (h2 : n ≤ 63) (d : Nat) : ∀ (k : Nat) (i : Nat) (out : BitVec 64), i ≤ 64 → n ≤ i → 64 - i = d → d < k →
    (∀ j, j < 64 → out.getLsbD j = (decide (j < i) && v.getLsbD (if (j : Int) < n then j else n.toNat - 1))) →
    ravelinref01_Sext.l0 k (U v) n (U out) i = some (sx v n).toInt := by
  induction d with
  | zero =>
    intro k i out hi hn hd hk hout
    obtain ⟨k, rfl⟩ : ∃ m, k = m + 1 := ⟨k - 1, by omega⟩
    simp only [ravelinref01_Sext.l0]
    have hz : out = sx v n := ext64 fun j hj => by
      rw [hout j hj, sx_at v n h1 (by omega) j hj]
      have : j < i := by omega
      simp [this]
    rw [hz, if_neg (by omega), wrap64_U]
  | succ d ih =>
    intro k i out hi hn hd hk hout
    obtain ⟨k, rfl⟩ : ∃ m, k = m + 1 := ⟨k - 1, by omega⟩
    simp only [ravelinref01_Sext.l0]
    rw [if_pos (by omega), wrap64_small (n - 1) (by omega) (by omega), bit_eq v (n - 1) (by omega) (by omega)]
    simp only [Option.bind_some]
    rw [wrapU_small _ (by omega) (by omega), if_pos (by omega), shl_U, or_U, wrap64_small _ (by omega) (by omega)]
    refine ih k (i + 1) _ (by omega) (by omega) (by omega) (by omega) fun j hj => ?_
    rw [BitVec.getLsbD_or, hout j hj, bit_at _ _ _ _ hj]
    have en : (n - 1).toNat = n.toNat - 1 := by omega
    by_cases e : j = i
    · subst e
      have a0 : ¬ (j : Int) < n := by omega
      simp [a0, en]
    · have a1 : (j < i) ↔ (j < i + 1) := by omega
      simp [e, a1]
theorem ref_Sext_eq (k : Nat) (hk : 65 ≤ k) (v : BitVec 64) (n : Int) : ravelinref01_Sext.f k (U v) n = some (sx v n).toInt := by
  unfold ravelinref01_Sext.f
  by_cases h : n < 1
  · rw [if_pos h, sx_none v n h]; rfl
  · rw [if_neg h]
    by_cases h2 : n ≥ 64
    · rw [if_pos h2, sx_full v n h2, wrap64_U]
    · rw [if_neg h2, ref_Zext_eq k hk]
      simp only [Option.bind_some]
      obtain ⟨m, rfl⟩ : ∃ m : Nat, n = m := ⟨n.toNat, by omega⟩
      refine ref_Sext_loop v m (by omega) (by omega) (64 - m) k m _ (by omega) (by omega) (by omega) (by omega) fun j hj => ?_
      rw [zx_at _ _ _ hj]
      by_cases e : j < m
      · have : (j : Int) < m := by omega
        simp [e]
      · have : ¬ (j : Int) < m := by omega
        simp [e]
theorem ref_Bits_loop (v : BitVec 64) (lo n : Int) (hl0 : 0 ≤ lo) (hl1 : lo ≤ 63) (d : Nat) : ∀ (k : Nat) (i : Nat) (out : BitVec 64), lo + i ≤ 64 → 64 - (lo + i) = d → d < k →
    (∀ j, j < 64 → out.getLsbD j = (decide (j < i ∧ (j : Int) < n) && v.getLsbD (lo.toNat + j))) →
    ravelinref01_Bits.l0 k (U v) lo n (U out) i = some (U (bs v lo n)) := by
  induction d with
  | zero =>
    intro k i out hi hd hk hout
    obtain ⟨k, rfl⟩ : ∃ m, k = m + 1 := ⟨k - 1, by omega⟩
    simp only [ravelinref01_Bits.l0]
    have hz : out = bs v lo n := ext64 fun j hj => by
      rw [hout j hj, bs_at v lo n hl0 hl1 j hj]
      by_cases h : j < i
      · simp [h]
      · have : v.getLsbD (lo.toNat + j) = false := BitVec.getLsbD_of_ge _ _ (by omega)
        simp [this]
    rw [hz, wrap64_small _ (by omega) (by omega)]
    split
    · rw [if_neg (by omega)]
    · rfl
  | succ d ih =>
    intro k i out hi hd hk hout
    obtain ⟨k, rfl⟩ : ∃ m, k = m + 1 := ⟨k - 1, by omega⟩
    simp only [ravelinref01_Bits.l0]
    by_cases hlt : (i : Int) < n
    · rw [if_pos hlt, wrap64_small (lo + i) (by omega) (by omega), if_pos (by omega), bit_eq v (lo + i) (by omega) (by omega)]
      simp only [Option.bind_some]
      rw [wrapU_small _ (by omega) (by omega), if_pos (by omega), shl_U, or_U, wrap64_small _ (by omega) (by omega)]
      refine ih k (i + 1) _ (by omega) (by omega) (by omega) fun j hj => ?_
      rw [BitVec.getLsbD_or, hout j hj, bit_at _ _ _ _ hj]
      have en : (lo + (i : Int)).toNat = lo.toNat + i := by omega
      by_cases e : j = i
      · subst e
        have a2 : j < j + 1 ∧ (j : Int) < n := by omega
        simp [a2, en]
      · have a1 : (j < i ∧ (j : Int) < n) ↔ (j < i + 1 ∧ (j : Int) < n) := by omega
        simp [e, a1]
    · rw [if_neg hlt]
      have hz : out = bs v lo n := ext64 fun j hj => by
        rw [hout j hj, bs_at v lo n hl0 hl1 j hj]
        congr 1
        simp only [decide_eq_decide]
        omega
      rw [hz]
theorem ref_Bits_eq (k : Nat) (hk : 70 ≤ k) (v : BitVec 64) (lo n : Int) : ravelinref01_Bits.f k (U v) lo n = some (U (bs v lo n)) := by
  obtain ⟨k, rfl⟩ : ∃ m, k = m + 1 := ⟨k - 1, by omega⟩
  unfold ravelinref01_Bits.f
  simp only [ravelinref01_Bits.j0]
  by_cases h : lo < 0
  · rw [if_pos h]; unfold bs; rw [if_pos h]; rfl
  · rw [if_neg h]
    by_cases h2 : lo > 63
    · rw [if_pos h2]; unfold bs; rw [if_neg h, if_pos h2]; rfl
    · rw [if_neg h2]
      by_cases h3 : n < 1
      · simp only [h3, decide_true, if_true]
        have : bs v lo n = 0#64 := ext64 fun j hj => by
          rw [bs_at v lo n (by omega) (by omega) j hj]
          have : ¬ (j : Int) < n := by omega
          simp [this]
        rw [this]; rfl
      · simp only [h3, decide_false, Bool.false_eq_true, if_false]
        exact ref_Bits_loop v lo n (by omega) (by omega) (64 - lo).toNat k 0 0#64 (by omega) (by omega) (by omega) fun j _ => by simp
theorem ref_Put_loop (v : BitVec 64) (lo n : Int) (x : BitVec 64) (hl0 : 0 ≤ lo) (hl1 : lo ≤ 63) (d : Nat) : ∀ (k : Nat) (i : Nat) (out : BitVec 64), i ≤ 64 → 64 - i = d → d < k →
    (∀ j, j < 64 → out.getLsbD j = (decide (j < i) && (pt v lo n x).getLsbD j)) →
    ravelinref01_Put.l0 k (U v) lo n (U x) (U out) i = some (U (pt v lo n x)) := by
  induction d with
  | zero =>
    intro k i out hi hd hk hout
    obtain ⟨k, rfl⟩ : ∃ m, k = m + 1 := ⟨k - 1, by omega⟩
    simp only [ravelinref01_Put.l0]
    have hz : out = pt v lo n x := ext64 fun j hj => by
      rw [hout j hj]
      have : j < i := by omega
      simp [this]
    rw [hz, if_neg (by omega)]
  | succ d ih =>
    intro k i out hi hd hk hout
    obtain ⟨k, rfl⟩ : ∃ m, k = m + 1 := ⟨k - 1, by omega⟩
    simp only [ravelinref01_Put.l0]
    have step : ∀ (z : BitVec 64) (a : Nat), z.getLsbD a = (pt v lo n x).getLsbD i → ∀ j, j < 64 → (out ||| (((z >>> a) &&& 1#64) <<< i)).getLsbD j = (decide (j < i + 1) && (pt v lo n x).getLsbD j) := by
      intro z a hz j hj
      rw [BitVec.getLsbD_or, hout j hj, bit_at _ _ _ _ hj]
      by_cases e : j = i
      · subst e
        simp [hz]
      · have a1 : (j < i) ↔ (j < i + 1) := by omega
        simp [e, a1]
    rw [if_pos (by omega), bit_eq v i (by omega) (by omega)]
    simp only [Option.bind_some]
    rw [wrapU_small _ (by omega) (by omega), wrap64_small ((i : Int) - lo) (by omega) (by omega), wrap64_small ((i : Int) + 1) (by omega) (by omega), shl_U, or_U]
    have hpt := pt_at v lo n x hl0 hl1 i (by omega)
    have eN : ((i : Int)).toNat = i := by omega
    rw [eN]
    by_cases hge : (i : Int) ≥ lo
    · rw [if_pos hge]
      by_cases hlt : (i : Int) - lo < n
      · rw [if_pos hlt, bit_eq x ((i : Int) - lo) (by omega) (by omega)]
        simp only [Option.bind_some]
        rw [if_pos (by omega), shl_U, or_U, eN]
        refine ih k (i + 1) _ (by omega) (by omega) (by omega) (step x _ ?_)
        rw [hpt, if_pos ⟨by omega, hlt⟩]
        congr 1
        omega
      · rw [if_neg hlt, if_pos (by omega)]
        refine ih k (i + 1) _ (by omega) (by omega) (by omega) (step v _ ?_)
        rw [hpt, if_neg (by omega)]
    · rw [if_neg hge, if_pos (by omega)]
      refine ih k (i + 1) _ (by omega) (by omega) (by omega) (step v _ ?_)
      rw [hpt, if_neg (by omega)]
theorem ref_Put_eq (k : Nat) (hk : 70 ≤ k) (v : BitVec 64) (lo n : Int) (x : BitVec 64) : ravelinref01_Put.f k (U v) lo n (U x) = some (U (pt v lo n x)) := by
  obtain ⟨k, rfl⟩ : ∃ m, k = m + 1 := ⟨k - 1, by omega⟩
  unfold ravelinref01_Put.f
  simp only [ravelinref01_Put.j0]
  by_cases h : lo < 0
  · rw [if_pos h]; unfold pt; rw [if_pos h]; rfl
  · rw [if_neg h]
    by_cases h2 : lo > 63
    · rw [if_pos h2]; unfold pt; rw [if_neg h, if_pos h2]; rfl
    · rw [if_neg h2]
      by_cases h3 : n < 1
      · simp only [h3, decide_true, if_true]
        have : pt v lo n x = v := ext64 fun j hj => by
          rw [pt_at v lo n x (by omega) (by omega) j hj, if_neg (by omega)]
        rw [this]
      · simp only [h3, decide_false, Bool.false_eq_true, if_false]
        exact ref_Put_loop v lo n x (by omega) (by omega) 64 k 0 0#64 (by omega) (by omega) (by omega) fun j _ => by simp

theorem loop (l : List S36) (hl : l.length ≤ 1000000000000000) (hw : ∀ x ∈ l, (Lit.int .u64 x.f0).wf = true ∧ (Lit.int .u64 x.f1).wf = true) (d : Nat) : ∀ (k : Nat) (i : Nat), i ≤ l.length → l.length - i = d → 2 * d + 80 < k →
    ravelinlaw01_WordCuts.l0 k l true i = some true := by
  induction d with
  | zero =>
    intro k i hi hd hk
    obtain ⟨k, rfl⟩ : ∃ m, k = m + 1 := ⟨k - 1, by omega⟩
    simp only [ravelinlaw01_WordCuts.l0]
    rw [if_neg (by omega)]
  | succ d ih =>
    intro k i hi hd hk
    obtain ⟨k, rfl⟩ : ∃ m, k = m + 2 := ⟨k - 2, by omega⟩
    simp only [ravelinlaw01_WordCuts.l0]
    have hm : rd_T36 l i ∈ l := by
      unfold rd_T36
      have hi' : (i : Int).toNat < l.length := by omega
      rw [List.getD_eq_getElem?_getD, List.getElem?_eq_getElem hi']
      exact List.getElem_mem hi'
    obtain ⟨w0, w1⟩ := hw _ hm
    obtain ⟨v, hv⟩ := U_of w0
    obtain ⟨x, hx⟩ := U_of w1
    have hx2 := ih k (i + 1) (by omega) (by omega) (by omega)
    have ew : wrap64 ((i : Int) + 1) = ((i + 1 : Nat) : Int) := by unfold wrap64; omega
    rw [if_pos (by omega), if_pos (by omega), hv, hx, word_Zext_eq]
    simp only [Option.bind_some]
    rw [ref_Zext_eq _ (by omega)]
    simp only [Option.bind_some]
    rw [if_pos trivial, word_Sext_eq]
    simp only [Option.bind_some]
    rw [ref_Sext_eq _ (by omega)]
    simp only [Option.bind_some]
    simp only [ravelinlaw01_WordCuts.j1, bne_self_eq_false, Bool.false_eq_true, if_false]
    rw [word_Bits_eq]
    simp only [Option.bind_some]
    rw [ref_Bits_eq _ (by omega)]
    simp only [Option.bind_some]
    rw [if_pos trivial, word_Put_eq]
    simp only [Option.bind_some]
    rw [ref_Put_eq _ (by omega)]
    simp only [Option.bind_some]
    rw [if_pos trivial, ew, hx2]
theorem holds (l : List S36) (hl : l.length ≤ 1000000000000000) (hw : ∀ x ∈ l, (Lit.int .u64 x.f0).wf = true ∧ (Lit.int .u64 x.f1).wf = true) : ∃ k, ravelinlaw01_WordCuts.f k l = some true := by
  refine ⟨2 * l.length + 90, ?_⟩
  unfold ravelinlaw01_WordCuts.f
  rw [head_eq _ (by omega)]
  exact loop l hl hw l.length _ 0 (by omega) (by omega) (by omega)
end WordCuts
end Go.Proofs.Ytppbbhpaoflhnaa.Pure
