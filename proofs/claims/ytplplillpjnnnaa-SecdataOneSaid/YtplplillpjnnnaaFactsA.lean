/- Facts on word.Store in plain numbers. Conditions: those of each theorem. -/
import Derived.Test.YtplplillpjnnnaaPSecdataActionsx1
import Derived.Test.YtplplillpjnnnaaBytes
namespace Go.Proofs.Ytplplillpjnnnaa.FactsA
open Go.RowKit Go.Proofs.Ytplplillpjnnnaa.PSecdataActions Go.Proofs.Ytplplillpjnnnaa.Bits Go.Proofs.YtplplillpjnnnaaW.PrintWords Go.Proofs.YtplplillpjnnnaaW.PrintLast Go.Proofs.YtplplillpjnnnaaW.PrintMore
set_option linter.unusedVariables false
set_option linter.unusedSimpArgs false

theorem wrapU_in (z : Int) (h0 : 0 ≤ z) (h : z < 18446744073709551616) : IntKind.u64.wrap z = z := by
  simp only [IntKind.wrap, IntKind.bits, IntKind.signed, Bool.false_and, Bool.false_eq_true, if_false]
  omega
theorem byteU {x : Int} (h : 0 ≤ x ∧ x < 256) : IntKind.u64.wrap x = U (BitVec.ofNat 64 x.toNat) := by
  rw [wrapU_in x h.1 (by omega)]
  unfold U
  rw [BitVec.toNat_ofNat, Nat.mod_eq_of_lt (by omega)]
  omega
theorem rd_getD (l : List Int) (i : Nat) : rd l (i : Int) = l.getD i 0 := by
  unfold rd
  rw [Int.toNat_natCast]
/-- Are so many bytes there? -/
def ok (l : List Int) (a n : Int) : Prop := 1 ≤ n ∧ n ≤ 8 ∧ 0 ≤ a ∧ a + n ≤ l.length
theorem there_yes (l : List Int) (_hl : l.length ≤ 1000000000000000) (a n : Int) (h : ok l a n) : word_there.f l a n = some true := by
  obtain ⟨h1, h2, h3, h4⟩ := h
  unfold word_there.f
  rw [if_pos (by omega), if_pos (by omega), if_pos (by omega), if_pos (by omega)]
  have : n ≤ wrap64 ((l.length : Int) - a) := by unfold wrap64; omega
  simp [this]
theorem there_no (l : List Int) (_hl : l.length ≤ 1000000000000000) (a n : Int) (h : ¬ ok l a n) : word_there.f l a n = some false := by
  unfold word_there.f
  by_cases h1 : n ≥ 1
  · rw [if_pos h1]
    by_cases h2 : n ≤ 8
    · rw [if_pos h2]
      by_cases h3 : a ≥ 0
      · rw [if_pos h3]
        by_cases h4 : a ≤ (l.length : Int)
        · rw [if_pos h4]
          have : ¬ n ≤ wrap64 ((l.length : Int) - a) := by
            unfold ok at h
            unfold wrap64
            omega
          simp [this]
        · rw [if_neg h4]
      · rw [if_neg h3]
    · rw [if_neg h2]
  · rw [if_neg h1]
theorem word_Store_loop (l : List Int) (_hl : l.length ≤ 1000000000000000) (a n : Nat) (v : BitVec 64) (hn : n ≤ 8) (ha : a + n ≤ l.length) (d : Nat) : ∀ (k i : Nat), i ≤ n → n - i = d → d < k →
    word_Store.l0 k (st l a v i) a (U v) n i = some (0, st l a v n) := by
  induction d with
  | zero =>
    intro k i hi hd hk
    obtain ⟨k, rfl⟩ : ∃ m, k = m + 1 := ⟨k - 1, by omega⟩
    obtain rfl : i = n := by omega
    simp only [word_Store.l0]
    rw [if_neg (by omega)]
  | succ d ih =>
    intro k i hi hd hk
    obtain ⟨k, rfl⟩ : ∃ m, k = m + 1 := ⟨k - 1, by omega⟩
    simp only [word_Store.l0]
    have e1 : wrap64 (8 * (i : Int)) = ((8 * i : Nat) : Int) := by unfold wrap64; omega
    have e2 : wrap64 ((a : Int) + i) = ((a + i : Nat) : Int) := by unfold wrap64; omega
    have e3 : wrap64 ((i : Int) + 1) = ((i + 1 : Nat) : Int) := by unfold wrap64; omega
    have hlen := st_length l a v i
    rw [e1, e2, e3, if_pos (by omega), if_pos (by omega), if_pos (by omega), if_pos (by omega), shr_U]
    have e4 : U (v >>> ((8 * i : Nat) : Int).toNat) % 256 = Bits.byteOf v i := by
      unfold U Bits.byteOf
      rw [Int.toNat_natCast]
      omega
    rw [e4, Int.toNat_natCast]
    exact ih k (i + 1) (by omega) (by omega) (by omega)
theorem word_Store_yes (k : Nat) (hk : 20 ≤ k) (l : List Int) (hl : l.length ≤ 1000000000000000) (a n : Int) (v : BitVec 64) (h : ok l a n) : word_Store.f k l a n (U v) = some (0, st l a.toNat v n.toNat) := by
  unfold word_Store.f
  rw [there_yes l hl a n h]
  simp only [Option.bind_some, if_true]
  obtain ⟨h1, h2, h3, h4⟩ := h
  have := word_Store_loop l hl a.toNat n.toNat v (by omega) (by omega) n.toNat k 0 (by omega) (by omega) (by omega)
  have ea : ((a.toNat : Nat) : Int) = a := by omega
  have en : ((n.toNat : Nat) : Int) = n := by omega
  rw [ea, en] at this
  exact this
theorem word_Store_no (k : Nat) (l : List Int) (hl : l.length ≤ 1000000000000000) (a n v : Int) (h : ¬ ok l a n) : word_Store.f k l a n v = some (1, l) := by
  unfold word_Store.f
  rw [there_no l hl a n h]
  simp

end Go.Proofs.Ytplplillpjnnnaa.FactsA
