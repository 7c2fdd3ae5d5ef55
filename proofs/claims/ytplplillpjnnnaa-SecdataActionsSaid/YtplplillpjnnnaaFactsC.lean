/- Actions and their words in plain numbers: Code and Action of the program and of the document. Conditions: the numbers are of their kinds. -/
import Derived.Test.YtplplillpjnnnaaPSecdataActionsx1
import Derived.Test.YtplplillpjnnnaaBits
namespace Go.Proofs.Ytplplillpjnnnaa.FactsC
open Go.RowKit Go.Proofs.Ytplplillpjnnnaa.PSecdataActions Go.Proofs.Ytplplillpjnnnaa.Bits Go.Proofs.YtplplillpjnnnaaW.PrintWords Go.Proofs.YtplplillpjnnnaaW.PrintLast Go.Proofs.YtplplillpjnnnaaW.PrintMore
set_option linter.unusedVariables false
set_option linter.unusedSimpArgs false

theorem or32 (m : Nat) (hm : m < 65536) (d : Int) (h0 : 0 ≤ d) (h1 : d < 65536) : Go.bits .or .u32 ((m : Int) * 65536) (d % 4294967296) = (m : Int) * 65536 + d := by
  obtain ⟨d, rfl⟩ := Int.eq_ofNat_of_zero_le h0
  have e1 : BitVec.ofInt 32 ((m : Int) * 65536) = BitVec.ofNat 32 (m * 65536) := by
    rw [← BitVec.ofInt_natCast]; simp
  have e2 : BitVec.ofInt 32 ((d : Int) % 4294967296) = BitVec.ofNat 32 d := by
    have : (d : Int) % 4294967296 = (d : Int) := by omega
    rw [this, BitVec.ofInt_natCast]
  show IntKind.u32.wrap (((BitVec.ofInt 32 ((m : Int) * 65536) ||| BitVec.ofInt 32 ((d : Int) % 4294967296)).toNat : Nat) : Int) = _
  rw [e1, e2, BitVec.toNat_or, BitVec.toNat_ofNat, BitVec.toNat_ofNat, Nat.mod_eq_of_lt (by omega), Nat.mod_eq_of_lt (by omega)]
  have := Nat.two_pow_add_eq_or_of_lt (i := 16) (b := d) (by omega) m
  rw [Nat.mul_comm, show (65536 : Nat) = 2 ^ 16 from rfl, ← this]
  simp only [IntKind.wrap, IntKind.bits, IntKind.signed, Bool.false_and, Bool.false_eq_true, if_false]
  omega
/-- A kind's word and whether it bears a number. -/
def baseM (k : Int) : Nat := if k = 1 then 32768 else if k = 2 then 0 else if k = 3 then 3 else if k = 4 then 5 else if k = 5 then 32704 else if k = 6 then 32752 else if k = 7 then 32764 else 32767
def num (k : Int) : Bool := k == 3 || k == 4 || k == 6
def isK (k : Int) : Bool := decide (1 ≤ k ∧ k ≤ 8)
def codeE (k d : Int) : Int := if isK k = true ∧ (num k = true ∨ d = 0) then 0 else 23
def codeW (k d : Int) : Int := if isK k = true ∧ (num k = true ∨ d = 0) then (baseM k : Int) * 65536 + d else 0
theorem base_eq (k : Int) : ravelinref02_base.f k = some (if isK k = true then (baseM k : Int) * 65536 else 0, isK k && num k, isK k) := by
  unfold ravelinref02_base.f
  by_cases h1 : k = 1
  · subst h1; rfl
  rw [if_neg h1]
  by_cases h2 : k = 2
  · subst h2; rfl
  rw [if_neg h2]
  by_cases h3 : k = 3
  · subst h3; rfl
  rw [if_neg h3]
  by_cases h4 : k = 4
  · subst h4; rfl
  rw [if_neg h4]
  by_cases h5 : k = 5
  · subst h5; rfl
  rw [if_neg h5]
  by_cases h6 : k = 6
  · subst h6; rfl
  rw [if_neg h6]
  by_cases h7 : k = 7
  · subst h7; rfl
  rw [if_neg h7]
  by_cases h8 : k = 8
  · subst h8; rfl
  rw [if_neg h8]
  have : isK k = false := by unfold isK; rw [decide_eq_false_iff_not]; omega
  rw [this]
  rfl
theorem baseM_lt (k : Int) : baseM k < 65536 := by
  unfold baseM
  repeat' split
  all_goals omega
theorem refCode_eq (k d : Int) (h0 : 0 ≤ d) (h1 : d < 65536) : ravelinref02_Code.f k d = some (codeW k d, codeE k d) := by
  unfold ravelinref02_Code.f
  rw [base_eq]
  simp only [Option.bind_some]
  unfold codeW codeE
  cases hk : isK k
  · simp
  · simp only [if_true, Bool.true_and, true_and]
    rw [or32 _ (baseM_lt k) d h0 h1]
    cases hn : num k
    · by_cases hd : d = 0
      · simp [hd]
      · simp [hd]
    · simp
theorem code_eq (K : Nat) (k d : Int) (h0 : 0 ≤ d) (h1 : d < 65536) : secdata_Code.f (K + 9) k d = some (codeW k d, codeE k d) := by
  unfold secdata_Code.f secdata_rows.f
  simp only [Option.bind_some]
  have w0 : wrap64 1 = 1 := by decide +kernel
  have w1 : wrap64 2 = 2 := by decide +kernel
  have w2 : wrap64 3 = 3 := by decide +kernel
  have w3 : wrap64 4 = 4 := by decide +kernel
  have w4 : wrap64 5 = 5 := by decide +kernel
  have w5 : wrap64 6 = 6 := by decide +kernel
  have w6 : wrap64 7 = 7 := by decide +kernel
  have w7 : wrap64 8 = 8 := by decide +kernel
  have o1 : Go.bits .or .u32 2147483648 (d % 4294967296) = 2147483648 + d := or32 32768 (by omega) d h0 h1
  have o2 : Go.bits .or .u32 0 (d % 4294967296) = 0 + d := or32 0 (by omega) d h0 h1
  have o3 : Go.bits .or .u32 196608 (d % 4294967296) = 196608 + d := or32 3 (by omega) d h0 h1
  have o4 : Go.bits .or .u32 327680 (d % 4294967296) = 327680 + d := or32 5 (by omega) d h0 h1
  have o5 : Go.bits .or .u32 2143289344 (d % 4294967296) = 2143289344 + d := or32 32704 (by omega) d h0 h1
  have o6 : Go.bits .or .u32 2146435072 (d % 4294967296) = 2146435072 + d := or32 32752 (by omega) d h0 h1
  have o7 : Go.bits .or .u32 2147221504 (d % 4294967296) = 2147221504 + d := or32 32764 (by omega) d h0 h1
  have o8 : Go.bits .or .u32 2147418112 (d % 4294967296) = 2147418112 + d := or32 32767 (by omega) d h0 h1
  have z1 : Go.bits .or .u32 2147483648 0 = 2147483648 := by decide +kernel
  have z2 : Go.bits .or .u32 0 0 = 0 := by decide +kernel
  have z3 : Go.bits .or .u32 196608 0 = 196608 := by decide +kernel
  have z4 : Go.bits .or .u32 327680 0 = 327680 := by decide +kernel
  have z5 : Go.bits .or .u32 2143289344 0 = 2143289344 := by decide +kernel
  have z6 : Go.bits .or .u32 2146435072 0 = 2146435072 := by decide +kernel
  have z7 : Go.bits .or .u32 2147221504 0 = 2147221504 := by decide +kernel
  have z8 : Go.bits .or .u32 2147418112 0 = 2147418112 := by decide +kernel
  by_cases hk : isK k = true
  · have hk' : k = 1 ∨ k = 2 ∨ k = 3 ∨ k = 4 ∨ k = 5 ∨ k = 6 ∨ k = 7 ∨ k = 8 := by
      unfold isK at hk
      rw [decide_eq_true_eq] at hk
      omega
    rcases hk' with rfl | rfl | rfl | rfl | rfl | rfl | rfl | rfl
    all_goals (by_cases hd : d = 0 <;> simp [secdata_Code.l0, rd_T59, w0, w1, w2, w3, w4, w5, w6, w7, codeW, codeE, isK, num, baseM, hd, o1, o2, o3, o4, o5, o6, o7, o8, z1, z2, z3, z4, z5, z6, z7, z8])
  · have hk' : k ≠ 1 ∧ k ≠ 2 ∧ k ≠ 3 ∧ k ≠ 4 ∧ k ≠ 5 ∧ k ≠ 6 ∧ k ≠ 7 ∧ k ≠ 8 := by
      unfold isK at hk
      rw [decide_eq_true_eq] at hk
      omega
    obtain ⟨k1, k2, k3, k4, k5, k6, k7, k8⟩ := hk'
    simp [secdata_Code.l0, rd_T59, w0, w1, w2, w3, w4, w5, w6, w7, codeW, codeE, hk, k1.symm, k2.symm, k3.symm, k4.symm, k5.symm, k6.symm, k7.symm, k8.symm]
/-- The action of a word: its kind, its number, the error. -/
def act (w : Int) : Int × Int × Int :=
  if w = 2147483648 then (1, 0, 0) else if w = 0 then (2, 0, 0) else if w / 65536 = 3 then (3, w % 65536, 0) else if w / 65536 = 5 then (4, w % 65536, 0) else
  if w = 2143289344 then (5, 0, 0) else if w / 65536 = 32752 then (6, w % 65536, 0) else if w = 2147221504 then (7, 0, 0) else if w = 2147418112 then (8, 0, 0) else (0, 0, 23)
theorem u16 (w : Int) : IntKind.u16.wrap w = w % 65536 := by
  simp only [IntKind.wrap, IntKind.bits, IntKind.signed, Bool.false_and, Bool.false_eq_true, if_false]
  omega
theorem action_eq (K : Nat) (w : Int) (h0 : 0 ≤ w) (h1 : w < 4294967296) : secdata_Action.f (K + 9) w = some (act w) := by
  unfold secdata_Action.f secdata_rows.f
  simp only [Option.bind_some]
  have w0 : wrap64 1 = 1 := by decide +kernel
  have w1 : wrap64 2 = 2 := by decide +kernel
  have w2 : wrap64 3 = 3 := by decide +kernel
  have w3 : wrap64 4 = 4 := by decide +kernel
  have w4 : wrap64 5 = 5 := by decide +kernel
  have w5 : wrap64 6 = 6 := by decide +kernel
  have w6 : wrap64 7 = 7 := by decide +kernel
  have w7 : wrap64 8 = 8 := by decide +kernel
  unfold act
  by_cases c1 : w = 2147483648
  · subst c1; simp [secdata_Action.l0, rd_T59, u16]
  by_cases c2 : w = 0
  · subst c2; simp [secdata_Action.l0, rd_T59, u16, w0]
  by_cases c3 : w / 65536 = 3
  · simp [secdata_Action.l0, rd_T59, u16, w0, w1, c1, c2, c3]
  by_cases c4 : w / 65536 = 5
  · have : w ≠ 196608 := by omega
    simp [secdata_Action.l0, rd_T59, u16, w0, w1, w2, c1, c2, c3, c4, this]
  have d3 : w ≠ 196608 := by omega
  have d4 : w ≠ 327680 := by omega
  by_cases c5 : w = 2143289344
  · subst c5; simp [secdata_Action.l0, rd_T59, u16, w0, w1, w2, w3]
  by_cases c6 : w / 65536 = 32752
  · simp [secdata_Action.l0, rd_T59, u16, w0, w1, w2, w3, w4, c1, c2, c3, c4, c5, c6, d3, d4]
  have d6 : w ≠ 2146435072 := by omega
  by_cases c7 : w = 2147221504
  · subst c7; simp [secdata_Action.l0, rd_T59, u16, w0, w1, w2, w3, w4, w5]
  by_cases c8 : w = 2147418112
  · subst c8; simp [secdata_Action.l0, rd_T59, u16, w0, w1, w2, w3, w4, w5, w6]
  simp [secdata_Action.l0, rd_T59, u16, w0, w1, w2, w3, w4, w5, w6, w7, c1, c2, c3, c4, c5, c6, c7, c8, d3, d4, d6]
/-- An action that has a word is the word's. -/
theorem act_code (k d : Int) (h0 : 0 ≤ d) (h1 : d < 65536) (he : codeE k d = 0) : act (codeW k d) = (k, d, 0) ∧ 0 ≤ codeW k d ∧ codeW k d < 4294967296 := by
  have hc : isK k = true ∧ (num k = true ∨ d = 0) := by
    unfold codeE at he
    split at he
    · assumption
    · omega
  have hk' : k = 1 ∨ k = 2 ∨ k = 3 ∨ k = 4 ∨ k = 5 ∨ k = 6 ∨ k = 7 ∨ k = 8 := by
    have := hc.1
    unfold isK at this
    rw [decide_eq_true_eq] at this
    omega
  unfold codeW
  rw [if_pos hc]
  have hn := hc.2
  rcases hk' with rfl | rfl | rfl | rfl | rfl | rfl | rfl | rfl
  · have hd : d = 0 := by simpa [num] using hn
    subst hd; decide
  · have hd : d = 0 := by simpa [num] using hn
    subst hd; decide
  · refine ⟨?_, by simp [baseM]; omega, by simp [baseM]; omega⟩
    have e : ((baseM 3 : Nat) : Int) * 65536 + d = 196608 + d := rfl
    rw [e]; unfold act
    rw [if_neg (by omega), if_neg (by omega), if_pos (by omega)]
    simp; omega
  · refine ⟨?_, by simp [baseM]; omega, by simp [baseM]; omega⟩
    have e : ((baseM 4 : Nat) : Int) * 65536 + d = 327680 + d := rfl
    rw [e]; unfold act
    rw [if_neg (by omega), if_neg (by omega), if_neg (by omega), if_pos (by omega)]
    simp; omega
  · have hd : d = 0 := by simpa [num] using hn
    subst hd; decide
  · refine ⟨?_, by simp [baseM]; omega, by simp [baseM]; omega⟩
    have e : ((baseM 6 : Nat) : Int) * 65536 + d = 2146435072 + d := rfl
    rw [e]; unfold act
    rw [if_neg (by omega), if_neg (by omega), if_neg (by omega), if_neg (by omega), if_neg (by omega), if_pos (by omega)]
    simp; omega
  · have hd : d = 0 := by simpa [num] using hn
    subst hd; decide
  · have hd : d = 0 := by simpa [num] using hn
    subst hd; decide
end Go.Proofs.Ytplplillpjnnnaa.FactsC
