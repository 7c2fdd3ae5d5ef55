/- The law WordHalves answers true for every number: a number is put together of its halves again, and the halves of two put together are these. Conditions: those of the row alone. -/
import Derived.Test.YtppbbhpaoflhnaaPWordHalvesx1
import Derived.Test.YtppbbhpaoflhnaaBits
namespace Go.Proofs.Ytppbbhpaoflhnaa.Pure
open Go.RowKit Go.Proofs.Ytppbbhpaoflhnaa.PWordHalves Go.Proofs.Ytppbbhpaoflhnaa.Bits Go.Proofs.YtppbbhpaoflhnaaW.PrintWords Go.Proofs.YtppbbhpaoflhnaaW.PrintLast Go.Proofs.YtppbbhpaoflhnaaW.PrintMore

namespace WordHalves
theorem head_eq (k : Nat) (hk : 4 ≤ k) : ravelinlaw01_head.f k = some true :=
  at_rounds ravelinlaw01_head.mono hk (by decide +kernel)
theorem wrapU_in (z : Int) (h0 : 0 ≤ z) (h : z < 18446744073709551616) : IntKind.u64.wrap z = z := by
  simp only [IntKind.wrap, IntKind.bits, IntKind.signed, Bool.false_and, Bool.false_eq_true, if_false]
  omega
theorem or_num (a b : Int) (ha : 0 ≤ a) (ha2 : a < 4294967296) (hb : 0 ≤ b) (hb2 : b < 4294967296) : Go.bits .or .u64 (a * 4294967296) b = a * 4294967296 + b := by
  have e1 : a * 4294967296 = U (BitVec.ofNat 64 (a.toNat * 4294967296)) := by
    unfold U; rw [BitVec.toNat_ofNat, Nat.mod_eq_of_lt (by omega)]; omega
  have e2 : b = U (BitVec.ofNat 64 b.toNat) := by
    unfold U; rw [BitVec.toNat_ofNat, Nat.mod_eq_of_lt (by omega)]; omega
  rw [e1, e2, or_U]
  have : (BitVec.ofNat 64 (a.toNat * 4294967296) ||| BitVec.ofNat 64 b.toNat) = BitVec.ofNat 64 (a.toNat * 4294967296 + b.toNat) := by
    apply BitVec.eq_of_toNat_eq
    rw [BitVec.toNat_or, BitVec.toNat_ofNat, BitVec.toNat_ofNat, BitVec.toNat_ofNat, Nat.mod_eq_of_lt (by omega), Nat.mod_eq_of_lt (by omega), Nat.mod_eq_of_lt (by omega)]
    have := Nat.two_pow_add_eq_or_of_lt (i := 32) (b := b.toNat) (by omega) a.toNat
    rw [Nat.mul_comm, show (4294967296 : Nat) = 2 ^ 32 from rfl, ← this]
  rw [this]
  unfold U
  rw [BitVec.toNat_ofNat, BitVec.toNat_ofNat, BitVec.toNat_ofNat, Nat.mod_eq_of_lt (by omega), Nat.mod_eq_of_lt (by omega), Nat.mod_eq_of_lt (by omega)]
  omega
theorem whole_eq (a b : Int) (ha : 0 ≤ a) (ha2 : a < 4294967296) (hb : 0 ≤ b) (hb2 : b < 4294967296) : word_Whole.f a b = some (a * 4294967296 + b) := by
  unfold word_Whole.f
  rw [wrapU_in a ha (by omega), wrapU_in b hb (by omega), wrapU_in (a * 4294967296) (by omega) (by omega), or_num a b ha ha2 hb hb2]
end WordHalves
theorem WordHalves : ravelinlaw01_WordHalves.Pure := by
  intro v a b hv ha hb
  have hv' : 0 ≤ v ∧ v ≤ 18446744073709551615 := by simpa [Lit.wf, IntKind.min, IntKind.max, IntKind.bits, IntKind.signed] using hv
  have ha' : 0 ≤ a ∧ a ≤ 4294967295 := by simpa [Lit.wf, IntKind.min, IntKind.max, IntKind.bits, IntKind.signed] using ha
  have hb' : 0 ≤ b ∧ b ≤ 4294967295 := by simpa [Lit.wf, IntKind.min, IntKind.max, IntKind.bits, IntKind.signed] using hb
  refine ⟨10, ?_⟩
  unfold ravelinlaw01_WordHalves.f
  rw [WordHalves.head_eq _ (by omega), WordHalves.whole_eq a b (by omega) (by omega) (by omega) (by omega)]
  simp only [word_Halves.f, Option.bind_some]
  have e1 : (v / 4294967296) % 4294967296 = v / 4294967296 := by omega
  rw [e1, WordHalves.wrapU_in (v / 4294967296) (by omega) (by omega), WordHalves.whole_eq (v / 4294967296) (v % 4294967296) (by omega) (by omega) (by omega) (by omega)]
  simp only [Option.bind_some, if_true]
  rw [if_pos (by omega), if_pos (by omega)]
  have : (a * 4294967296 + b) % 4294967296 = b := by omega
  rw [this]
  simp

end Go.Proofs.Ytppbbhpaoflhnaa.Pure
