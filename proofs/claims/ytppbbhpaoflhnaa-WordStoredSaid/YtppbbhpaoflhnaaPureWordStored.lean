/- The facts behind the law WordStored in plain numbers: what is stored, where bytes are there, and what is loaded again. Conditions: those of each theorem. -/
import Derived.Test.YtppbbhpaoflhnaaPWordStoredx1
import Derived.Test.YtppbbhpaoflhnaaBytes
namespace Go.Proofs.Ytppbbhpaoflhnaa.Pure
open Go.RowKit Go.Proofs.Ytppbbhpaoflhnaa.PWordStored Go.Proofs.Ytppbbhpaoflhnaa.Bits Go.Proofs.YtppbbhpaoflhnaaW.PrintWords Go.Proofs.YtppbbhpaoflhnaaW.PrintLast Go.Proofs.YtppbbhpaoflhnaaW.PrintMore

namespace WordStored
theorem word_mask_eq (n : Int) : word_mask.f n = some (U (low n)) := by
  unfold word_mask.f
  by_cases h : n < 1
  · rw [if_pos h]
    have : n.toNat = 0 := by omega
    unfold low
    rw [this]
    rfl
  · rw [if_neg h]
    by_cases h2 : n > 63
    · rw [if_pos h2]
      unfold low
      rw [Nat.min_eq_right (by omega)]
      rfl
    · rw [if_neg h2, if_pos (by omega), low_one n (by omega) (by omega)]
theorem word_Zext_eq (v : BitVec 64) (n : Int) : word_Zext.f (U v) n = some (U (zx v n)) := by
  unfold word_Zext.f
  rw [word_mask_eq]
  simp only [Option.bind_some]
  rw [and_U]
  rfl
theorem head_eq (k : Nat) (hk : 4 ≤ k) : ravelinlaw01_head.f k = some true :=
  at_rounds ravelinlaw01_head.mono hk (by decide +kernel)
theorem wrapU_in (z : Int) (h0 : 0 ≤ z) (h : z < 18446744073709551616) : IntKind.u64.wrap z = z := by
  simp only [IntKind.wrap, IntKind.bits, IntKind.signed, Bool.false_and, Bool.false_eq_true, if_false]
  omega
theorem byteU {x : Int} (h : 0 ≤ x ∧ x < 256) : IntKind.u64.wrap x = U (BitVec.ofNat 64 x.toNat) := by
  rw [wrapU_in x h.1 (by omega)]
  unfold U
  rw [BitVec.toNat_ofNat, Nat.mod_eq_of_lt (by omega)]
  omega
theorem rd_getD (l : List Int) (i : Nat) : rd l (i : Int) = l.getD i 0 := by
  unfold rd
  rw [Int.toNat_natCast]
/-- Are so many bytes there? -/
def ok (l : List Int) (a n : Int) : Prop := 1 ≤ n ∧ n ≤ 8 ∧ 0 ≤ a ∧ a + n ≤ l.length
theorem there_yes (l : List Int) (_hl : l.length ≤ 1000000000000000) (a n : Int) (h : ok l a n) : word_there.f l a n = some true := by
  obtain ⟨h1, h2, h3, h4⟩ := h
  unfold word_there.f
  rw [if_pos (by omega), if_pos (by omega), if_pos (by omega), if_pos (by omega)]
  have : n ≤ wrap64 ((l.length : Int) - a) := by unfold wrap64; omega
  simp [this]
theorem there_no (l : List Int) (_hl : l.length ≤ 1000000000000000) (a n : Int) (h : ¬ ok l a n) : word_there.f l a n = some false := by
  unfold word_there.f
  by_cases h1 : n ≥ 1
  · rw [if_pos h1]
    by_cases h2 : n ≤ 8
    · rw [if_pos h2]
      by_cases h3 : a ≥ 0
      · rw [if_pos h3]
        by_cases h4 : a ≤ (l.length : Int)
        · rw [if_pos h4]
          have : ¬ n ≤ wrap64 ((l.length : Int) - a) := by
            unfold ok at h
            unfold wrap64
            omega
          simp [this]
        · rw [if_neg h4]
      · rw [if_neg h3]
    · rw [if_neg h2]
  · rw [if_neg h1]
theorem word_Store_loop (l : List Int) (_hl : l.length ≤ 1000000000000000) (a n : Nat) (v : BitVec 64) (hn : n ≤ 8) (ha : a + n ≤ l.length) (d : Nat) : ∀ (k i : Nat), i ≤ n → n - i = d → d < k →
    word_Store.l0 k (st l a v i) a (U v) n i = some (0, st l a v n) := by
  induction d with
  | zero =>
    intro k i hi hd hk
    obtain ⟨k, rfl⟩ : ∃ m, k = m + 1 := ⟨k - 1, by omega⟩
    obtain rfl : i = n := by omega
    simp only [word_Store.l0]
    rw [if_neg (by omega)]
  | succ d ih =>
    intro k i hi hd hk
    obtain ⟨k, rfl⟩ : ∃ m, k = m + 1 := ⟨k - 1, by omega⟩
    simp only [word_Store.l0]
    have e1 : wrap64 (8 * (i : Int)) = ((8 * i : Nat) : Int) := by unfold wrap64; omega
    have e2 : wrap64 ((a : Int) + i) = ((a + i : Nat) : Int) := by unfold wrap64; omega
    have e3 : wrap64 ((i : Int) + 1) = ((i + 1 : Nat) : Int) := by unfold wrap64; omega
    have hlen := st_length l a v i
    rw [e1, e2, e3, if_pos (by omega), if_pos (by omega), if_pos (by omega), if_pos (by omega), shr_U]
    have e4 : U (v >>> ((8 * i : Nat) : Int).toNat) % 256 = Bits.byteOf v i := by
      unfold U Bits.byteOf
      rw [Int.toNat_natCast]
      omega
    rw [e4, Int.toNat_natCast]
    exact ih k (i + 1) (by omega) (by omega) (by omega)
theorem word_Store_yes (k : Nat) (hk : 20 ≤ k) (l : List Int) (hl : l.length ≤ 1000000000000000) (a n : Int) (v : BitVec 64) (h : ok l a n) : word_Store.f k l a n (U v) = some (0, st l a.toNat v n.toNat) := by
  unfold word_Store.f
  rw [there_yes l hl a n h]
  simp only [Option.bind_some, if_true]
  obtain ⟨h1, h2, h3, h4⟩ := h
  have := word_Store_loop l hl a.toNat n.toNat v (by omega) (by omega) n.toNat k 0 (by omega) (by omega) (by omega)
  have ea : ((a.toNat : Nat) : Int) = a := by omega
  have en : ((n.toNat : Nat) : Int) = n := by omega
  rw [ea, en] at this
  exact this
theorem word_Store_no (k : Nat) (l : List Int) (hl : l.length ≤ 1000000000000000) (a n v : Int) (h : ¬ ok l a n) : word_Store.f k l a n v = some (1, l) := by
  unfold word_Store.f
  rw [there_no l hl a n h]
  simp
theorem word_Load_loop (l : List Int) (_hl : l.length ≤ 1000000000000000) (hb : isBytes l) (a n : Nat) (hn : n ≤ 8) (ha : a + n ≤ l.length) (d : Nat) : ∀ (k i : Nat), i ≤ n → n - i = d → d < k →
    word_Load.l0 k l a (U (ld l a i)) n i = some (U (ld l a n), 0) := by
  induction d with
  | zero =>
    intro k i hi hd hk
    obtain ⟨k, rfl⟩ : ∃ m, k = m + 1 := ⟨k - 1, by omega⟩
    obtain rfl : i = n := by omega
    simp only [word_Load.l0]
    rw [if_neg (by omega)]
  | succ d ih =>
    intro k i hi hd hk
    obtain ⟨k, rfl⟩ : ∃ m, k = m + 1 := ⟨k - 1, by omega⟩
    simp only [word_Load.l0]
    have e1 : wrap64 (8 * (i : Int)) = ((8 * i : Nat) : Int) := by unfold wrap64; omega
    have e2 : wrap64 ((a : Int) + i) = ((a + i : Nat) : Int) := by unfold wrap64; omega
    have e3 : wrap64 ((i : Int) + 1) = ((i + 1 : Nat) : Int) := by unfold wrap64; omega
    rw [e1, e2, e3, if_pos (by omega), if_pos (by omega), if_pos (by omega), if_pos (by omega), rd_getD, byteU (isBytes_at hb _), shl_U, or_U, Int.toNat_natCast]
    exact ih k (i + 1) (by omega) (by omega) (by omega)
theorem word_Load_yes (k : Nat) (hk : 20 ≤ k) (l : List Int) (hl : l.length ≤ 1000000000000000) (hb : isBytes l) (a n : Int) (h : ok l a n) : word_Load.f k l a n = some (U (ld l a.toNat n.toNat), 0) := by
  unfold word_Load.f
  rw [there_yes l hl a n h]
  simp only [Option.bind_some, if_true]
  obtain ⟨h1, h2, h3, h4⟩ := h
  have := word_Load_loop l hl hb a.toNat n.toNat (by omega) (by omega) n.toNat k 0 (by omega) (by omega) (by omega)
  have ea : ((a.toNat : Nat) : Int) = a := by omega
  have en : ((n.toNat : Nat) : Int) = n := by omega
  rw [ea, en] at this
  exact this
theorem word_Load_no (k : Nat) (l : List Int) (hl : l.length ≤ 1000000000000000) (a n : Int) (h : ¬ ok l a n) : word_Load.f k l a n = some (0, 1) := by
  unfold word_Load.f
  rw [there_no l hl a n h]
  simp

end WordStored
end Go.Proofs.Ytppbbhpaoflhnaa.Pure
