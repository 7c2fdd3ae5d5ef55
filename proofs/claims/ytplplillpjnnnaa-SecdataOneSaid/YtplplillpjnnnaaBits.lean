/- Plain lemmas on words of 64 bits (numbers below 2^64 as BitVec 64): the operations of Go on uint64, as BitVec tells them. No conditions beyond those in each lemma. -/
import Derived.Test.YtplplillpjnnnaaWMore
namespace Go.Proofs.Ytplplillpjnnnaa.Bits
open Go.RowKit Go.Proofs.YtplplillpjnnnaaW.PrintWords Go.Proofs.YtplplillpjnnnaaW.PrintLast Go.Proofs.YtplplillpjnnnaaW.PrintMore

/-- The number of a word. -/
def U (x : BitVec 64) : Int := (x.toNat : Int)

theorem U_nonneg (x : BitVec 64) : 0 ≤ U x := by unfold U; omega
theorem U_lt (x : BitVec 64) : U x < 18446744073709551616 := by unfold U; have := x.isLt; omega
theorem U_inj {x y : BitVec 64} (h : U x = U y) : x = y := by
  unfold U at h; exact BitVec.eq_of_toNat_eq (by omega)
theorem U_of {v : Int} (h : (Lit.int .u64 v).wf = true) : ∃ x : BitVec 64, v = U x := by
  have h' : 0 ≤ v ∧ v ≤ 18446744073709551615 := by
    simpa [Lit.wf, IntKind.min, IntKind.max, IntKind.bits, IntKind.signed] using h
  refine ⟨BitVec.ofNat 64 v.toNat, ?_⟩
  unfold U
  rw [BitVec.toNat_ofNat, Nat.mod_eq_of_lt (by omega)]
  omega
theorem ofInt_U (x : BitVec 64) : BitVec.ofInt 64 (U x) = x := by
  apply BitVec.eq_of_toNat_eq
  have := x.isLt
  unfold U
  rw [BitVec.toNat_ofInt]
  omega
theorem wrapU (z : Int) : IntKind.u64.wrap z = U (BitVec.ofInt 64 z) := by
  unfold U
  rw [BitVec.toNat_ofInt]
  simp only [IntKind.wrap, IntKind.bits, IntKind.signed, Bool.false_and, Bool.false_eq_true, if_false]
  omega
theorem wrapU_U (x : BitVec 64) : IntKind.u64.wrap (U x) = U x := by rw [wrapU, ofInt_U]
theorem wrap64_U (x : BitVec 64) : wrap64 (U x) = x.toInt := by
  have := x.isLt
  rw [BitVec.toInt_eq_toNat_cond]
  unfold wrap64 U
  split <;> omega
theorem wrapU_toInt (x : BitVec 64) : IntKind.u64.wrap x.toInt = U x := by
  rw [wrapU, BitVec.ofInt_toInt]
theorem and_U (x y : BitVec 64) : Go.bits .and .u64 (U x) (U y) = U (x &&& y) := by
  show IntKind.u64.wrap (((BitVec.ofInt 64 (U x) &&& BitVec.ofInt 64 (U y)).toNat : Nat) : Int) = _
  rw [ofInt_U, ofInt_U]; exact wrapU_U _
theorem or_U (x y : BitVec 64) : Go.bits .or .u64 (U x) (U y) = U (x ||| y) := by
  show IntKind.u64.wrap (((BitVec.ofInt 64 (U x) ||| BitVec.ofInt 64 (U y)).toNat : Nat) : Int) = _
  rw [ofInt_U, ofInt_U]; exact wrapU_U _
theorem xor_U (x y : BitVec 64) : Go.bits .xor .u64 (U x) (U y) = U (x ^^^ y) := by
  show IntKind.u64.wrap (((BitVec.ofInt 64 (U x) ^^^ BitVec.ofInt 64 (U y)).toNat : Nat) : Int) = _
  rw [ofInt_U, ofInt_U]; exact wrapU_U _
theorem andNot_U (x y : BitVec 64) : Go.bits .andNot .u64 (U x) (U y) = U (x &&& ~~~y) := by
  show IntKind.u64.wrap (((BitVec.ofInt 64 (U x) &&& ~~~BitVec.ofInt 64 (U y)).toNat : Nat) : Int) = _
  rw [ofInt_U, ofInt_U]; exact wrapU_U _
theorem shl_U (x : BitVec 64) (n : Int) : shl .u64 (U x) n = U (x <<< n.toNat) := by
  unfold shl
  rw [wrapU]
  congr 1
  apply BitVec.eq_of_toNat_eq
  rw [BitVec.toNat_ofInt, BitVec.toNat_shiftLeft, Nat.shiftLeft_eq]
  unfold U
  have e : ((x.toNat : Int) * 2 ^ min n.toNat IntKind.u64.bits) = ((x.toNat * 2 ^ min n.toNat 64 : Nat) : Int) := by
    simp [IntKind.bits]
  rw [e]
  have e2 : ((2 ^ 64 : Nat) : Int) = (2:Int) ^ 64 := by simp
  rw [← Int.natCast_emod, Int.toNat_natCast]
  by_cases h : n.toNat ≤ 64
  · rw [Nat.min_eq_left h]
  · rw [Nat.min_eq_right (by omega)]
    have : 2 ^ n.toNat = 2 ^ 64 * 2 ^ (n.toNat - 64) := by rw [← Nat.pow_add]; congr 1; omega
    rw [this, Nat.mul_mod_left, ← Nat.mul_assoc, Nat.mul_right_comm, Nat.mul_mod_left]
theorem shr_U (x : BitVec 64) (n : Int) : shr .u64 (U x) n = U (x >>> n.toNat) := by
  unfold shr U
  rw [BitVec.toNat_ushiftRight, Nat.shiftRight_eq_div_pow]
  have e : ((2:Int) ^ min n.toNat IntKind.u64.bits) = ((2 ^ min n.toNat 64 : Nat) : Int) := by simp [IntKind.bits]
  rw [e, ← Int.natCast_ediv]
  congr 1
  by_cases h : n.toNat ≤ 64
  · rw [Nat.min_eq_left h]
  · rw [Nat.min_eq_right (by omega), Nat.div_eq_of_lt (by have := x.isLt; omega), Nat.div_eq_of_lt]
    have : 2 ^ n.toNat = 2 ^ 64 * 2 ^ (n.toNat - 64) := by rw [← Nat.pow_add]; congr 1; omega
    have h1 : 0 < 2 ^ (n.toNat - 64) := Nat.pow_pos (by decide)
    rw [this]
    exact Nat.lt_of_lt_of_le x.isLt (Nat.le_mul_of_pos_right _ h1)
theorem sar_U (x : BitVec 64) (n : Int) (h : n.toNat ≤ 64) : shr .i64 x.toInt n = (x.sshiftRight n.toNat).toInt := by
  unfold shr
  rw [BitVec.toInt_sshiftRight, Int.shiftRight_eq_div_pow]
  show x.toInt / 2 ^ min n.toNat 64 = _
  rw [Nat.min_eq_left h]
  simp

/-- The lowest bits. -/
def low (n : Int) : BitVec 64 := BitVec.ofNat 64 (2 ^ min n.toNat 64 - 1)
theorem low_at (n : Int) (j : Nat) (hj : j < 64) : (low n).getLsbD j = decide ((j : Int) < n) := by
  unfold low
  rw [BitVec.getLsbD_ofNat]
  simp only [hj, decide_true, Bool.true_and, Nat.testBit_two_pow_sub_one]
  congr 1
  apply propext
  omega
theorem low_one (n : Int) (h0 : 0 ≤ n) (h : n ≤ 63) : IntKind.u64.wrap (shl .u64 1 n - 1) = U (low n) := by
  have e1 : (1 : Int) = U 1#64 := by decide
  rw [e1, shl_U, ← e1, wrapU]
  congr 1
  apply BitVec.eq_of_toNat_eq
  unfold low U
  rw [BitVec.toNat_ofInt, BitVec.toNat_shiftLeft, Nat.min_eq_left (by omega), Nat.shiftLeft_eq]
  have h2 : 2 ^ n.toNat < 2 ^ 64 := Nat.pow_lt_pow_right (by decide) (by omega)
  have h3 : 0 < 2 ^ n.toNat := Nat.pow_pos (by decide)
  have e3 : (1#64).toNat = 1 := rfl
  rw [e3, Nat.one_mul, Nat.mod_eq_of_lt h2, BitVec.toNat_ofNat, Nat.mod_eq_of_lt (by omega)]
  omega

theorem one_at (j : Nat) : (1#64).getLsbD j = decide (j = 0) := by
  rw [BitVec.getLsbD_one]; simp
/-- One bit, moved to a place. -/
theorem bit_at (v : BitVec 64) (a b j : Nat) (hj : j < 64) : (((v >>> a) &&& 1#64) <<< b).getLsbD j = (decide (j = b) && v.getLsbD a) := by
  rw [BitVec.getLsbD_shiftLeft, BitVec.getLsbD_and, BitVec.getLsbD_ushiftRight, one_at]
  by_cases h : j < b
  · simp [h, hj]; omega
  · by_cases h2 : j = b
    · subst h2; simp [hj]
    · have : ¬ (j - b = 0) := by omega
      simp [h, hj, h2, this]
/-- The lowest bits, the highest of them laid out. -/
def sx (v : BitVec 64) (n : Int) : BitVec 64 := if n < 1 then 0#64 else (v <<< (64 - min n.toNat 64)).sshiftRight (64 - min n.toNat 64)
theorem sx_at (v : BitVec 64) (n : Int) (h1 : 1 ≤ n) (h2 : n ≤ 64) (j : Nat) (hj : j < 64) : (sx v n).getLsbD j = v.getLsbD (if (j : Int) < n then j else n.toNat - 1) := by
  unfold sx
  rw [if_neg (by omega), BitVec.getLsbD_sshiftRight, Nat.min_eq_left (by omega)]
  have hn : ¬ 64 ≤ j := by omega
  simp only [hn, decide_false, Bool.not_false, Bool.true_and]
  by_cases h : (j : Int) < n
  · rw [if_pos (by omega), if_pos h, BitVec.getLsbD_shiftLeft]
    have a1 : 64 - n.toNat + j < 64 := by omega
    have a2 : ¬ (64 - n.toNat + j < 64 - n.toNat) := by omega
    have a3 : 64 - n.toNat + j - (64 - n.toNat) = j := by omega
    simp only [a1, a2, a3, decide_true, decide_false, Bool.not_false, Bool.true_and]
  · rw [if_neg (by omega), if_neg h, BitVec.msb_eq_getLsbD_last, BitVec.getLsbD_shiftLeft]
    have a2 : ¬ (64 - 1 < 64 - n.toNat) := by omega
    have a3 : 64 - 1 - (64 - n.toNat) = n.toNat - 1 := by omega
    simp only [a2, a3, decide_false, Bool.not_false]
    simp
theorem sx_full (v : BitVec 64) (n : Int) (h : 64 ≤ n) : sx v n = v := by
  unfold sx
  rw [if_neg (by omega), Nat.min_eq_right (by omega)]
  simp
theorem sx_none (v : BitVec 64) (n : Int) (h : n < 1) : sx v n = 0#64 := by
  unfold sx
  rw [if_pos h]
/-- The lowest bits. -/
def zx (v : BitVec 64) (n : Int) : BitVec 64 := v &&& low n
theorem zx_at (v : BitVec 64) (n : Int) (j : Nat) (hj : j < 64) : (zx v n).getLsbD j = (decide ((j : Int) < n) && v.getLsbD j) := by
  unfold zx
  rw [BitVec.getLsbD_and, low_at n j hj, Bool.and_comm]
/-- Some bits. -/
def bs (v : BitVec 64) (lo n : Int) : BitVec 64 := if lo < 0 then 0#64 else if lo > 63 then 0#64 else zx (v >>> lo.toNat) n
theorem bs_at (v : BitVec 64) (lo n : Int) (h0 : 0 ≤ lo) (h1 : lo ≤ 63) (j : Nat) (hj : j < 64) : (bs v lo n).getLsbD j = (decide ((j : Int) < n) && v.getLsbD (lo.toNat + j)) := by
  unfold bs
  rw [if_neg (by omega), if_neg (by omega), zx_at _ _ _ hj, BitVec.getLsbD_ushiftRight]
/-- Others there. -/
def pt (v : BitVec 64) (lo n : Int) (x : BitVec 64) : BitVec 64 := if lo < 0 then v else if lo > 63 then v else (v &&& ~~~(low n <<< lo.toNat)) ||| ((x <<< lo.toNat) &&& (low n <<< lo.toNat))
theorem pt_at (v : BitVec 64) (lo n : Int) (x : BitVec 64) (h0 : 0 ≤ lo) (h1 : lo ≤ 63) (j : Nat) (hj : j < 64) :
    (pt v lo n x).getLsbD j = if lo ≤ (j : Int) ∧ (j : Int) - lo < n then x.getLsbD (j - lo.toNat) else v.getLsbD j := by
  unfold pt
  rw [if_neg (by omega), if_neg (by omega)]
  simp only [BitVec.getLsbD_or, BitVec.getLsbD_and, BitVec.getLsbD_not, BitVec.getLsbD_shiftLeft, hj, decide_true, Bool.true_and]
  by_cases h : j < lo.toNat
  · rw [if_neg (by omega)]
    simp [h]
  · have e := low_at n (j - lo.toNat) (by omega)
    rw [e]
    by_cases h3 : (j : Int) - lo < n
    · rw [if_pos ⟨by omega, h3⟩]
      have : ((j - lo.toNat : Nat) : Int) < n := by omega
      simp [h, this]
    · rw [if_neg (by omega)]
      have : ¬ ((j - lo.toNat : Nat) : Int) < n := by omega
      simp [h, this]
theorem ext64 {x y : BitVec 64} (h : ∀ j, j < 64 → x.getLsbD j = y.getLsbD j) : x = y := BitVec.eq_of_getLsbD_eq fun j hj => h j hj
end Go.Proofs.Ytplplillpjnnnaa.Bits
