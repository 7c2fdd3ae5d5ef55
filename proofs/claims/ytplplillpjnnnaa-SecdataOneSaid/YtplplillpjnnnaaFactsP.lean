/- Facts on the document's put in plain numbers: it lays a number's bytes behind others. Conditions: those of each theorem. -/
import Derived.Test.YtplplillpjnnnaaPSecdataBytesx1
import Derived.Test.YtplplillpjnnnaaDt
namespace Go.Proofs.Ytplplillpjnnnaa.FactsP
open Go.RowKit Go.Proofs.Ytplplillpjnnnaa.PSecdataBytes Go.Proofs.Ytplplillpjnnnaa.Bits Go.Proofs.Ytplplillpjnnnaa.Dat Go.Proofs.YtplplillpjnnnaaW.PrintWords Go.Proofs.YtplplillpjnnnaaW.PrintLast Go.Proofs.YtplplillpjnnnaaW.PrintMore
set_option linter.unusedVariables false
set_option linter.unusedSimpArgs false

theorem le_succ (i : Nat) (v : BitVec 64) : le (i + 1) v = le i v ++ [Bits.byteOf v i] := by
  unfold le
  rw [List.range_succ, List.map_append]
  rfl
theorem le_length (n : Nat) (v : BitVec 64) : (le n v).length = n := by simp [le]
theorem put_loop (l : List Int) (hl : l.length ≤ 1000) (v : BitVec 64) (n : Nat) (hn : n ≤ 8) (d : Nat) : ∀ (k i : Nat), i ≤ n → n - i = d → d < k →
    ravelinref02_put.l0 k (l ++ le i v) (U v) n i = some (l ++ le n v) := by
  induction d with
  | zero =>
    intro k i hi hd hk
    obtain ⟨k, rfl⟩ : ∃ m, k = m + 1 := ⟨k - 1, by omega⟩
    obtain rfl : i = n := by omega
    simp only [ravelinref02_put.l0]
    rw [if_neg (by omega)]
  | succ d ih =>
    intro k i hi hd hk
    obtain ⟨k, rfl⟩ : ∃ m, k = m + 1 := ⟨k - 1, by omega⟩
    simp only [ravelinref02_put.l0]
    have e0 : wrap64 (8 * (i : Int)) = ((8 * i : Nat) : Int) := by unfold wrap64; omega
    have e1 : IntKind.u64.wrap ((8 * i : Nat) : Int) = ((8 * i : Nat) : Int) := FactsA.wrapU_in _ (by omega) (by omega)
    have e2 : wrap64 ((i : Int) + 1) = ((i + 1 : Nat) : Int) := by unfold wrap64; omega
    have e3 : shr .u64 (U v) ((8 * i : Nat) : Int) % 256 = Bits.byteOf v i := by
      rw [shr_U]
      unfold Bits.byteOf U
      rw [Int.toNat_natCast]
      omega
    rw [if_pos (by omega), e0, e1, if_pos (by omega), if_pos (by rw [List.length_append, le_length]; omega), e2, e3, List.append_assoc, ← le_succ]
    exact ih k (i + 1) (by omega) (by omega) (by omega)
theorem put_eq (k : Nat) (hk : 20 ≤ k) (l : List Int) (hl : l.length ≤ 1000) (v : BitVec 64) (n : Nat) (hn : n ≤ 8) : ravelinref02_put.f k l (U v) n = some (l ++ le n v) := by
  have h := put_loop l hl v n hn n k 0 (by omega) (by omega) (by omega)
  have e : l ++ le 0 v = l := by simp [le]
  rw [e] at h
  exact h
end Go.Proofs.Ytplplillpjnnnaa.FactsP
