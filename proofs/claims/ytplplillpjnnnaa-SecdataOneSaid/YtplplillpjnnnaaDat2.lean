/- Data out of 64 bytes, and back. Conditions: those of each theorem. -/
import Derived.Test.YtplplillpjnnnaaWalkSecdataApart
import Derived.Test.YtplplillpjnnnaaFactsW
namespace Go.Proofs.Ytplplillpjnnnaa.Dat2
open Go.RowKit Go.Proofs.Ytplplillpjnnnaa.Bits Go.Proofs.Ytplplillpjnnnaa.Dat Go.Proofs.Ytplplillpjnnnaa.Common Go.Proofs.Ytplplillpjnnnaa.ApartWalk Go.Proofs.YtplplillpjnnnaaW.PrintWords Go.Proofs.YtplplillpjnnnaaW.PrintLast Go.Proofs.YtplplillpjnnnaaW.PrintMore
set_option linter.unusedVariables false
set_option linter.unusedSimpArgs false

/-- The data that 64 bytes tell. -/
def dOf (l : List Int) : Dt := ⟨ld l 0 4, ld l 4 4, ld l 8 8, ld l 16 8, ld l 24 8, ld l 32 8, ld l 40 8, ld l 48 8, ld l 56 8⟩
theorem byte_ld {l : List Int} (hb : isBytes l) (a n i : Nat) (hi : i < n) (hn : n ≤ 8) : Bits.byteOf (ld l a n) i = l.getD (a + i) 0 := by
  have r := byteOf_range (ld l a n) i
  have q := isBytes_at hb (a + i)
  have e : (Bits.byteOf (ld l a n) i).toNat = (l.getD (a + i) 0).toNat := by
    refine Nat.eq_of_testBit_eq fun k => ?_
    by_cases hk : k < 8
    · rw [byteOf_bit _ _ _ hk, ld_at hb a n _ (by omega), decide_eq_true (by omega), Bool.true_and, show (8 * i + k) / 8 = i by omega, show (8 * i + k) % 8 = k by omega]
    · have p : (2 : Nat) ^ 8 ≤ 2 ^ k := Nat.pow_le_pow_right (by decide) (by omega)
      rw [Nat.testBit_lt_two_pow (by omega), Nat.testBit_lt_two_pow (by omega)]
  omega
theorem le_ld {l : List Int} (hb : isBytes l) (a n : Nat) (hn : n ≤ 8) : le n (ld l a n) = (List.range n).map fun i => l.getD (a + i) 0 := by
  unfold le
  refine List.map_congr_left fun i hi => ?_
  exact byte_ld hb a n i (List.mem_range.1 hi) hn
theorem list64 (f : Nat → Int) : (List.range 4).map (fun i => f (0 + i)) ++ ((List.range 4).map (fun i => f (4 + i)) ++ ((List.range 8).map (fun i => f (8 + i)) ++ ((List.range 8).map (fun i => f (16 + i)) ++ ((List.range 8).map (fun i => f (24 + i)) ++ ((List.range 8).map (fun i => f (32 + i)) ++ ((List.range 8).map (fun i => f (40 + i)) ++ ((List.range 8).map (fun i => f (48 + i)) ++ (List.range 8).map (fun i => f (56 + i))))))))) = (List.range 64).map f := by kernel_rfl
theorem dB_dOf {l : List Int} (hb : isBytes l) (hl : l.length = 64) : dB (dOf l) = l := by
  unfold dB dOf
  simp only
  rw [le_ld hb _ _ (by omega), le_ld hb _ _ (by omega), le_ld hb _ _ (by omega), le_ld hb _ _ (by omega), le_ld hb _ _ (by omega), le_ld hb _ _ (by omega), le_ld hb _ _ (by omega), le_ld hb _ _ (by omega), le_ld hb _ _ (by omega)]
  refine (list64 fun i => l.getD i 0).trans ?_
  refine List.ext_getElem (by simp [hl]) fun i h1 h2 => ?_
  simp [List.getElem?_eq_getElem h2]
theorem ld_small {l : List Int} (hb : isBytes l) (a : Nat) : (Lit.int .u32 (U (ld l a 4))).wf = true := by
  have h : (ld l a 4).toNat < 2 ^ 32 := by
    refine Nat.lt_pow_two_of_testBit _ fun j hj => ?_
    by_cases h : j < 64
    · rw [BitVec.testBit_toNat, ld_at hb a 4 j h, decide_eq_false (by omega), Bool.false_and]
    · refine Nat.testBit_lt_two_pow ?_
      have := (ld l a 4).isLt
      have p : (2 : Nat) ^ 64 ≤ 2 ^ j := Nat.pow_le_pow_right (by decide) (by omega)
      omega
  unfold U
  simp only [Lit.wf, IntKind.min, IntKind.max, IntKind.bits, IntKind.signed, Bool.false_eq_true, if_false, Bool.and_eq_true, decide_eq_true_eq]
  omega
theorem dOf_small {l : List Int} (hb : isBytes l) : Dt.small (dOf l) := ⟨ld_small hb 0, ld_small hb 4⟩
theorem dOf_dB (d : Dt) (h : Dt.small d) : dOf (dB d) = d := dB_inj _ _ (dB_dOf (dB_bytes d) (dB_length d)) (dOf_small (dB_bytes d)) h
theorem wrap32 {v : Int} (h : (Lit.int .u32 v).wf = true) : IntKind.u32.wrap v = v := by
  have h' : 0 ≤ v ∧ v ≤ 4294967295 := by simpa [Lit.wf, IntKind.min, IntKind.max, IntKind.bits, IntKind.signed] using h
  simp only [IntKind.wrap, IntKind.bits, IntKind.signed, Bool.false_and, Bool.false_eq_true, if_false]
  omega
/-- The low half of a word, and the high one. -/
theorem half_low {l : List Int} (hb : isBytes l) (a : Nat) : IntKind.u32.wrap (U (ld l a 8)) = U (ld l a 4) := by
  have e : IntKind.u32.wrap (U (ld l a 8)) = U (zx (ld l a 8) 32) := by
    have hl : low 32 = 4294967295#64 := by decide +kernel
    unfold zx U
    rw [hl, BitVec.toNat_and, show (4294967295#64).toNat = 2 ^ 32 - 1 from by decide, Nat.and_two_pow_sub_one_eq_mod]
    simp only [IntKind.wrap, IntKind.bits, IntKind.signed, Bool.false_and, Bool.false_eq_true, if_false]
    omega
  rw [e]
  congr 1
  refine ext64 fun j hj => ?_
  rw [zx_at _ _ _ hj, ld_at hb a 8 j hj, ld_at hb a 4 j hj]
  by_cases h : j < 32
  · rw [decide_eq_true (by omega), decide_eq_true (by omega), decide_eq_true (by omega), Bool.true_and]
  · rw [decide_eq_false (by omega : ¬ ((j : Int) < 32)), decide_eq_false (by omega : ¬ (j < 8 * 4))]
    simp
theorem half_high {l : List Int} (hb : isBytes l) (a : Nat) : IntKind.u32.wrap (U (ld l a 8 >>> 32)) = U (ld l (a + 4) 4) := by
  have h32 : U (ld l a 8 >>> 32) = U (ld l (a + 4) 4) := by
    congr 1
    refine ext64 fun j hj => ?_
    rw [BitVec.getLsbD_ushiftRight, ld_at hb (a + 4) 4 j hj]
    by_cases h : j < 32
    · rw [ld_at hb a 8 _ (by omega), decide_eq_true (by omega : 32 + j < 8 * 8), decide_eq_true (by omega : j < 8 * 4), show a + (32 + j) / 8 = a + 4 + j / 8 by omega, show (32 + j) % 8 = j % 8 by omega]
    · rw [decide_eq_false (by omega : ¬ (j < 8 * 4)), Bool.false_and]
      exact BitVec.getLsbD_of_ge _ _ (by omega)
  rw [h32]
  exact wrap32 (ld_small hb _)
end Go.Proofs.Ytplplillpjnnnaa.Dat2
