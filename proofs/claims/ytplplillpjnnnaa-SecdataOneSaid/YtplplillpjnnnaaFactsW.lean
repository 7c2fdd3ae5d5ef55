/- Facts on Load, of the program and of the document, in plain numbers. Conditions: those of each theorem. -/
import Derived.Test.YtplplillpjnnnaaPSecdataWordsx1
import Derived.Test.YtplplillpjnnnaaBytes
namespace Go.Proofs.Ytplplillpjnnnaa.FactsW
open Go.RowKit Go.Proofs.Ytplplillpjnnnaa.PSecdataWords Go.Proofs.Ytplplillpjnnnaa.Bits Go.Proofs.YtplplillpjnnnaaW.PrintWords Go.Proofs.YtplplillpjnnnaaW.PrintLast Go.Proofs.YtplplillpjnnnaaW.PrintMore
set_option linter.unusedVariables false
set_option linter.unusedSimpArgs false

theorem wrapU_in (z : Int) (h0 : 0 ≤ z) (h : z < 18446744073709551616) : IntKind.u64.wrap z = z := by
  simp only [IntKind.wrap, IntKind.bits, IntKind.signed, Bool.false_and, Bool.false_eq_true, if_false]
  omega
theorem byteU {x : Int} (h : 0 ≤ x ∧ x < 256) : IntKind.u64.wrap x = U (BitVec.ofNat 64 x.toNat) := by
  rw [wrapU_in x h.1 (by omega)]
  unfold U
  rw [BitVec.toNat_ofNat, Nat.mod_eq_of_lt (by omega)]
  omega
theorem rd_getD (l : List Int) (i : Nat) : rd l (i : Int) = l.getD i 0 := by
  unfold rd
  rw [Int.toNat_natCast]
/-- Are so many bytes there? -/
def ok (l : List Int) (a n : Int) : Prop := 1 ≤ n ∧ n ≤ 8 ∧ 0 ≤ a ∧ a + n ≤ l.length
theorem there_yes (l : List Int) (_hl : l.length ≤ 1000000000000000) (a n : Int) (h : ok l a n) : word_there.f l a n = some true := by
  obtain ⟨h1, h2, h3, h4⟩ := h
  unfold word_there.f
  rw [if_pos (by omega), if_pos (by omega), if_pos (by omega), if_pos (by omega)]
  have : n ≤ wrap64 ((l.length : Int) - a) := by unfold wrap64; omega
  simp [this]
theorem there_no (l : List Int) (_hl : l.length ≤ 1000000000000000) (a n : Int) (h : ¬ ok l a n) : word_there.f l a n = some false := by
  unfold word_there.f
  by_cases h1 : n ≥ 1
  · rw [if_pos h1]
    by_cases h2 : n ≤ 8
    · rw [if_pos h2]
      by_cases h3 : a ≥ 0
      · rw [if_pos h3]
        by_cases h4 : a ≤ (l.length : Int)
        · rw [if_pos h4]
          have : ¬ n ≤ wrap64 ((l.length : Int) - a) := by
            unfold ok at h
            unfold wrap64
            omega
          simp [this]
        · rw [if_neg h4]
      · rw [if_neg h3]
    · rw [if_neg h2]
  · rw [if_neg h1]
theorem word_Load_loop (l : List Int) (_hl : l.length ≤ 1000000000000000) (hb : isBytes l) (a n : Nat) (hn : n ≤ 8) (ha : a + n ≤ l.length) (d : Nat) : ∀ (k i : Nat), i ≤ n → n - i = d → d < k →
    word_Load.l0 k l a (U (ld l a i)) n i = some (U (ld l a n), 0) := by
  induction d with
  | zero =>
    intro k i hi hd hk
    obtain ⟨k, rfl⟩ : ∃ m, k = m + 1 := ⟨k - 1, by omega⟩
    obtain rfl : i = n := by omega
    simp only [word_Load.l0]
    rw [if_neg (by omega)]
  | succ d ih =>
    intro k i hi hd hk
    obtain ⟨k, rfl⟩ : ∃ m, k = m + 1 := ⟨k - 1, by omega⟩
    simp only [word_Load.l0]
    have e1 : wrap64 (8 * (i : Int)) = ((8 * i : Nat) : Int) := by unfold wrap64; omega
    have e2 : wrap64 ((a : Int) + i) = ((a + i : Nat) : Int) := by unfold wrap64; omega
    have e3 : wrap64 ((i : Int) + 1) = ((i + 1 : Nat) : Int) := by unfold wrap64; omega
    rw [e1, e2, e3, if_pos (by omega), if_pos (by omega), if_pos (by omega), if_pos (by omega), rd_getD, byteU (isBytes_at hb _), shl_U, or_U, Int.toNat_natCast]
    exact ih k (i + 1) (by omega) (by omega) (by omega)
theorem word_Load_yes (k : Nat) (hk : 20 ≤ k) (l : List Int) (hl : l.length ≤ 1000000000000000) (hb : isBytes l) (a n : Int) (h : ok l a n) : word_Load.f k l a n = some (U (ld l a.toNat n.toNat), 0) := by
  unfold word_Load.f
  rw [there_yes l hl a n h]
  simp only [Option.bind_some, if_true]
  obtain ⟨h1, h2, h3, h4⟩ := h
  have := word_Load_loop l hl hb a.toNat n.toNat (by omega) (by omega) n.toNat k 0 (by omega) (by omega) (by omega)
  have ea : ((a.toNat : Nat) : Int) = a := by omega
  have en : ((n.toNat : Nat) : Int) = n := by omega
  rw [ea, en] at this
  exact this
theorem word_Load_no (k : Nat) (l : List Int) (hl : l.length ≤ 1000000000000000) (a n : Int) (h : ¬ ok l a n) : word_Load.f k l a n = some (0, 1) := by
  unfold word_Load.f
  rw [there_no l hl a n h]
  simp
theorem wrapU_shift (x : BitVec 64) : IntKind.u64.wrap (U x * 256) = U (x <<< 8) := by
  have h := shl_U x 8
  unfold shl at h
  exact h
/-- The number of the bytes from the place i on. -/
theorem ref_Load_loop (l : List Int) (_hl : l.length ≤ 1000000000000000) (hb : isBytes l) (a n : Nat) (hn : n ≤ 8) (ha : a + n ≤ l.length) (d : Nat) : ∀ (k : Nat) (i : Nat) (out : BitVec 64), i ≤ n → i = d → d < k →
    (∀ j, j < 64 → out.getLsbD j = (decide (j < 8 * (n - i)) && (l.getD (a + i + j / 8) 0).toNat.testBit (j % 8))) →
    ravelinref01_Load.l0 k l a (U out) ((i : Int) - 1) = some (U (ld l a n), 0) := by
  induction d with
  | zero =>
    intro k i out hi hd hk hout
    obtain ⟨k, rfl⟩ : ∃ m, k = m + 1 := ⟨k - 1, by omega⟩
    subst hd
    simp only [ravelinref01_Load.l0]
    rw [if_neg (by omega)]
    have : out = ld l a n := ext64 fun j hj => by
      rw [hout j hj, ld_at hb a n j hj]
      rfl
    rw [this]
  | succ d ih =>
    intro k i out hi hd hk hout
    obtain ⟨k, rfl⟩ : ∃ m, k = m + 1 := ⟨k - 1, by omega⟩
    subst hd
    simp only [ravelinref01_Load.l0]
    have e0 : ((d + 1 : Nat) : Int) - 1 = (d : Int) := by omega
    have e1 : wrap64 ((a : Int) + (d : Int)) = ((a + d : Nat) : Int) := by unfold wrap64; omega
    have e2 : wrap64 ((d : Int) - 1) = (d : Int) - 1 := by unfold wrap64; omega
    have hx := isBytes_at hb (a + d)
    rw [e0, e1, e2, if_pos (by omega), if_pos (by omega), if_pos (by omega), rd_getD, byteU hx, wrapU_shift, or_U]
    refine ih k d _ (by omega) rfl (by omega) fun j hj => ?_
    rw [BitVec.getLsbD_or, BitVec.getLsbD_shiftLeft, BitVec.getLsbD_ofNat]
    by_cases h8 : j < 8
    · have e3 : j / 8 = 0 := by omega
      have e4 : j % 8 = j := by omega
      have e5 : j < 8 * (n - d) := by omega
      simp [h8, hj, e3, e4, e5]
    · have hlt : j - 8 < 64 := by omega
      rw [hout (j - 8) hlt]
      have e3 : (j - 8) / 8 = j / 8 - 1 := by omega
      have e4 : (j - 8) % 8 = j % 8 := by omega
      have e5 : (j - 8 < 8 * (n - (d + 1))) = (j < 8 * (n - d)) := by apply propext; omega
      have e6 : a + (d + 1) + (j / 8 - 1) = a + d + j / 8 := by omega
      have e7 : (l.getD (a + d) 0).toNat.testBit j = false := by
        apply Nat.testBit_lt_two_pow
        have : (2:Nat) ^ 8 ≤ 2 ^ j := Nat.pow_le_pow_right (by decide) (by omega)
        omega
      rw [e3, e4, e6, e7]
      simp [h8, hj, e5]
theorem ref_Load_yes (k : Nat) (hk : 20 ≤ k) (l : List Int) (hl : l.length ≤ 1000000000000000) (hb : isBytes l) (a n : Int) (h : ok l a n) : ravelinref01_Load.f k l a n = some (U (ld l a.toNat n.toNat), 0) := by
  obtain ⟨k, rfl⟩ : ∃ m, k = m + 1 := ⟨k - 1, by omega⟩
  obtain ⟨h1, h2, h3, h4⟩ := h
  unfold ravelinref01_Load.f
  rw [if_neg (by omega), if_neg (by omega), if_neg (by omega), if_neg (by omega)]
  have e : ¬ n > wrap64 ((l.length : Int) - a) := by unfold wrap64; omega
  simp only [ravelinref01_Load.j0, e, decide_false, Bool.false_eq_true, if_false]
  have := ref_Load_loop l hl hb a.toNat n.toNat (by omega) (by omega) n.toNat k n.toNat 0#64 (by omega) rfl (by omega) fun j _ => by simp
  have ea : ((a.toNat : Nat) : Int) = a := by omega
  have en : ((n.toNat : Nat) : Int) = n := by omega
  rw [ea, en] at this
  have e2 : wrap64 (n - 1) = n - 1 := by unfold wrap64; omega
  rw [e2]
  exact this
theorem ref_Load_no (k : Nat) (hk : 20 ≤ k) (l : List Int) (hl : l.length ≤ 1000000000000000) (a n : Int) (h : ¬ ok l a n) : ravelinref01_Load.f k l a n = some (0, 1) := by
  obtain ⟨k, rfl⟩ : ∃ m, k = m + 1 := ⟨k - 1, by omega⟩
  unfold ravelinref01_Load.f
  simp only [ravelinref01_Load.j0]
  by_cases h1 : n < 1
  · rw [if_pos h1]; rfl
  · rw [if_neg h1]
    by_cases h2 : n > 8
    · rw [if_pos h2]; rfl
    · rw [if_neg h2]
      by_cases h3 : a < 0
      · rw [if_pos h3]; rfl
      · rw [if_neg h3]
        by_cases h4 : a > (l.length : Int)
        · rw [if_pos h4]; rfl
        · rw [if_neg h4]
          have : n > wrap64 ((l.length : Int) - a) := by
            unfold ok at h
            unfold wrap64
            omega
          simp [this]

end Go.Proofs.Ytplplillpjnnnaa.FactsW
