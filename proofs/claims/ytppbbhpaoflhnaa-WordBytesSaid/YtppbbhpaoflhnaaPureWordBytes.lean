/- The facts behind the law WordBytes in plain numbers: what is stored and loaded, by the program and by the reference. Conditions: those of each theorem. -/
import Derived.Test.YtppbbhpaoflhnaaPWordBytesx
import Derived.Test.YtppbbhpaoflhnaaBytes
namespace Go.Proofs.Ytppbbhpaoflhnaa.Pure
open Go.RowKit Go.Proofs.Ytppbbhpaoflhnaa.PWordBytes Go.Proofs.Ytppbbhpaoflhnaa.Bits Go.Proofs.YtppbbhpaoflhnaaW.PrintWords Go.Proofs.YtppbbhpaoflhnaaW.PrintLast Go.Proofs.YtppbbhpaoflhnaaW.PrintMore

set_option linter.unusedVariables false

namespace WordBytes
theorem word_mask_eq (n : Int) : word_mask.f n = some (U (low n)) := by
  unfold word_mask.f
  by_cases h : n < 1
  · rw [if_pos h]
    have : n.toNat = 0 := by omega
    unfold low
    rw [this]
    rfl
  · rw [if_neg h]
    by_cases h2 : n > 63
    · rw [if_pos h2]
      unfold low
      rw [Nat.min_eq_right (by omega)]
      rfl
    · rw [if_neg h2, if_pos (by omega), low_one n (by omega) (by omega)]
theorem word_Zext_eq (v : BitVec 64) (n : Int) : word_Zext.f (U v) n = some (U (zx v n)) := by
  unfold word_Zext.f
  rw [word_mask_eq]
  simp only [Option.bind_some]
  rw [and_U]
  rfl
theorem head_eq (k : Nat) (hk : 4 ≤ k) : ravelinlaw01_head.f k = some true :=
  at_rounds ravelinlaw01_head.mono hk (by decide +kernel)
theorem wrapU_in (z : Int) (h0 : 0 ≤ z) (h : z < 18446744073709551616) : IntKind.u64.wrap z = z := by
  simp only [IntKind.wrap, IntKind.bits, IntKind.signed, Bool.false_and, Bool.false_eq_true, if_false]
  omega
theorem byteU {x : Int} (h : 0 ≤ x ∧ x < 256) : IntKind.u64.wrap x = U (BitVec.ofNat 64 x.toNat) := by
  rw [wrapU_in x h.1 (by omega)]
  unfold U
  rw [BitVec.toNat_ofNat, Nat.mod_eq_of_lt (by omega)]
  omega
theorem rd_getD (l : List Int) (i : Nat) : rd l (i : Int) = l.getD i 0 := by
  unfold rd
  rw [Int.toNat_natCast]
/-- Are so many bytes there? -/
def ok (l : List Int) (a n : Int) : Prop := 1 ≤ n ∧ n ≤ 8 ∧ 0 ≤ a ∧ a + n ≤ l.length
theorem there_yes (l : List Int) (_hl : l.length ≤ 1000000000000000) (a n : Int) (h : ok l a n) : word_there.f l a n = some true := by
  obtain ⟨h1, h2, h3, h4⟩ := h
  unfold word_there.f
  rw [if_pos (by omega), if_pos (by omega), if_pos (by omega), if_pos (by omega)]
  have : n ≤ wrap64 ((l.length : Int) - a) := by unfold wrap64; omega
  simp [this]
theorem there_no (l : List Int) (_hl : l.length ≤ 1000000000000000) (a n : Int) (h : ¬ ok l a n) : word_there.f l a n = some false := by
  unfold word_there.f
  by_cases h1 : n ≥ 1
  · rw [if_pos h1]
    by_cases h2 : n ≤ 8
    · rw [if_pos h2]
      by_cases h3 : a ≥ 0
      · rw [if_pos h3]
        by_cases h4 : a ≤ (l.length : Int)
        · rw [if_pos h4]
          have : ¬ n ≤ wrap64 ((l.length : Int) - a) := by
            unfold ok at h
            unfold wrap64
            omega
          simp [this]
        · rw [if_neg h4]
      · rw [if_neg h3]
    · rw [if_neg h2]
  · rw [if_neg h1]
theorem word_Load_loop (l : List Int) (_hl : l.length ≤ 1000000000000000) (hb : isBytes l) (a n : Nat) (hn : n ≤ 8) (ha : a + n ≤ l.length) (d : Nat) : ∀ (k i : Nat), i ≤ n → n - i = d → d < k →
    word_Load.l0 k l a (U (ld l a i)) n i = some (U (ld l a n), 0) := by
  induction d with
  | zero =>
    intro k i hi hd hk
    obtain ⟨k, rfl⟩ : ∃ m, k = m + 1 := ⟨k - 1, by omega⟩
    obtain rfl : i = n := by omega
    simp only [word_Load.l0]
    rw [if_neg (by omega)]
  | succ d ih =>
    intro k i hi hd hk
    obtain ⟨k, rfl⟩ : ∃ m, k = m + 1 := ⟨k - 1, by omega⟩
    simp only [word_Load.l0]
    have e1 : wrap64 (8 * (i : Int)) = ((8 * i : Nat) : Int) := by unfold wrap64; omega
    have e2 : wrap64 ((a : Int) + i) = ((a + i : Nat) : Int) := by unfold wrap64; omega
    have e3 : wrap64 ((i : Int) + 1) = ((i + 1 : Nat) : Int) := by unfold wrap64; omega
    rw [e1, e2, e3, if_pos (by omega), if_pos (by omega), if_pos (by omega), if_pos (by omega), rd_getD, byteU (isBytes_at hb _), shl_U, or_U, Int.toNat_natCast]
    exact ih k (i + 1) (by omega) (by omega) (by omega)
theorem word_Load_yes (k : Nat) (hk : 20 ≤ k) (l : List Int) (hl : l.length ≤ 1000000000000000) (hb : isBytes l) (a n : Int) (h : ok l a n) : word_Load.f k l a n = some (U (ld l a.toNat n.toNat), 0) := by
  unfold word_Load.f
  rw [there_yes l hl a n h]
  simp only [Option.bind_some, if_true]
  obtain ⟨h1, h2, h3, h4⟩ := h
  have := word_Load_loop l hl hb a.toNat n.toNat (by omega) (by omega) n.toNat k 0 (by omega) (by omega) (by omega)
  have ea : ((a.toNat : Nat) : Int) = a := by omega
  have en : ((n.toNat : Nat) : Int) = n := by omega
  rw [ea, en] at this
  exact this
theorem word_Load_no (k : Nat) (l : List Int) (hl : l.length ≤ 1000000000000000) (a n : Int) (h : ¬ ok l a n) : word_Load.f k l a n = some (0, 1) := by
  unfold word_Load.f
  rw [there_no l hl a n h]
  simp
theorem wrapU_shift (x : BitVec 64) : IntKind.u64.wrap (U x * 256) = U (x <<< 8) := by
  have h := shl_U x 8
  unfold shl at h
  exact h
/-- The number of the bytes from the place i on. -/
theorem ref_Load_loop (l : List Int) (_hl : l.length ≤ 1000000000000000) (hb : isBytes l) (a n : Nat) (hn : n ≤ 8) (ha : a + n ≤ l.length) (d : Nat) : ∀ (k : Nat) (i : Nat) (out : BitVec 64), i ≤ n → i = d → d < k →
    (∀ j, j < 64 → out.getLsbD j = (decide (j < 8 * (n - i)) && (l.getD (a + i + j / 8) 0).toNat.testBit (j % 8))) →
    ravelinref01_Load.l0 k l a (U out) ((i : Int) - 1) = some (U (ld l a n), 0) := by
  induction d with
  | zero =>
    intro k i out hi hd hk hout
    obtain ⟨k, rfl⟩ : ∃ m, k = m + 1 := ⟨k - 1, by omega⟩
    subst hd
    simp only [ravelinref01_Load.l0]
    rw [if_neg (by omega)]
    have : out = ld l a n := ext64 fun j hj => by
      rw [hout j hj, ld_at hb a n j hj]
      rfl
    rw [this]
  | succ d ih =>
    intro k i out hi hd hk hout
    obtain ⟨k, rfl⟩ : ∃ m, k = m + 1 := ⟨k - 1, by omega⟩
    subst hd
    simp only [ravelinref01_Load.l0]
    have e0 : ((d + 1 : Nat) : Int) - 1 = (d : Int) := by omega
    have e1 : wrap64 ((a : Int) + (d : Int)) = ((a + d : Nat) : Int) := by unfold wrap64; omega
    have e2 : wrap64 ((d : Int) - 1) = (d : Int) - 1 := by unfold wrap64; omega
    have hx := isBytes_at hb (a + d)
    rw [e0, e1, e2, if_pos (by omega), if_pos (by omega), if_pos (by omega), rd_getD, byteU hx, wrapU_shift, or_U]
    refine ih k d _ (by omega) rfl (by omega) fun j hj => ?_
    rw [BitVec.getLsbD_or, BitVec.getLsbD_shiftLeft, BitVec.getLsbD_ofNat]
    by_cases h8 : j < 8
    · have e3 : j / 8 = 0 := by omega
      have e4 : j % 8 = j := by omega
      have e5 : j < 8 * (n - d) := by omega
      simp [h8, hj, e3, e4, e5]
    · have hlt : j - 8 < 64 := by omega
      rw [hout (j - 8) hlt]
      have e3 : (j - 8) / 8 = j / 8 - 1 := by omega
      have e4 : (j - 8) % 8 = j % 8 := by omega
      have e5 : (j - 8 < 8 * (n - (d + 1))) = (j < 8 * (n - d)) := by apply propext; omega
      have e6 : a + (d + 1) + (j / 8 - 1) = a + d + j / 8 := by omega
      have e7 : (l.getD (a + d) 0).toNat.testBit j = false := by
        apply Nat.testBit_lt_two_pow
        have : (2:Nat) ^ 8 ≤ 2 ^ j := Nat.pow_le_pow_right (by decide) (by omega)
        omega
      rw [e3, e4, e6, e7]
      simp [h8, hj, e5]
theorem ref_Load_yes (k : Nat) (hk : 20 ≤ k) (l : List Int) (hl : l.length ≤ 1000000000000000) (hb : isBytes l) (a n : Int) (h : ok l a n) : ravelinref01_Load.f k l a n = some (U (ld l a.toNat n.toNat), 0) := by
  obtain ⟨k, rfl⟩ : ∃ m, k = m + 1 := ⟨k - 1, by omega⟩
  obtain ⟨h1, h2, h3, h4⟩ := h
  unfold ravelinref01_Load.f
  rw [if_neg (by omega), if_neg (by omega), if_neg (by omega), if_neg (by omega)]
  have e : ¬ n > wrap64 ((l.length : Int) - a) := by unfold wrap64; omega
  simp only [ravelinref01_Load.j0, e, decide_false, Bool.false_eq_true, if_false]
  have := ref_Load_loop l hl hb a.toNat n.toNat (by omega) (by omega) n.toNat k n.toNat 0#64 (by omega) rfl (by omega) fun j _ => by simp
  have ea : ((a.toNat : Nat) : Int) = a := by omega
  have en : ((n.toNat : Nat) : Int) = n := by omega
  rw [ea, en] at this
  have e2 : wrap64 (n - 1) = n - 1 := by unfold wrap64; omega
  rw [e2]
  exact this
theorem ref_Load_no (k : Nat) (hk : 20 ≤ k) (l : List Int) (hl : l.length ≤ 1000000000000000) (a n : Int) (h : ¬ ok l a n) : ravelinref01_Load.f k l a n = some (0, 1) := by
  obtain ⟨k, rfl⟩ : ∃ m, k = m + 1 := ⟨k - 1, by omega⟩
  unfold ravelinref01_Load.f
  simp only [ravelinref01_Load.j0]
  by_cases h1 : n < 1
  · rw [if_pos h1]; rfl
  · rw [if_neg h1]
    by_cases h2 : n > 8
    · rw [if_pos h2]; rfl
    · rw [if_neg h2]
      by_cases h3 : a < 0
      · rw [if_pos h3]; rfl
      · rw [if_neg h3]
        by_cases h4 : a > (l.length : Int)
        · rw [if_pos h4]; rfl
        · rw [if_neg h4]
          have : n > wrap64 ((l.length : Int) - a) := by
            unfold ok at h
            unfold wrap64
            omega
          simp [this]
theorem ref_Store_loop (l : List Int) (_hl : l.length ≤ 1000000000000000) (a n : Nat) (v : BitVec 64) (hn : n ≤ 8) (ha : a + n ≤ l.length) (d : Nat) : ∀ (k i : Nat), i ≤ n → n - i = d → d < k →
    ravelinref01_Store.l0 k a n (U v) (st l a v i) i = some (st l a v n, 0) := by
  induction d with
  | zero =>
    intro k i hi hd hk
    obtain ⟨k, rfl⟩ : ∃ m, k = m + 1 := ⟨k - 1, by omega⟩
    obtain rfl : i = n := by omega
    simp only [ravelinref01_Store.l0]
    rw [if_neg (by omega)]
  | succ d ih =>
    intro k i hi hd hk
    obtain ⟨k, rfl⟩ : ∃ m, k = m + 1 := ⟨k - 1, by omega⟩
    simp only [ravelinref01_Store.l0]
    have e1 : IntKind.u64.wrap (wrap64 (8 * (i : Int))) = ((8 * i : Nat) : Int) := by
      have : wrap64 (8 * (i : Int)) = ((8 * i : Nat) : Int) := by unfold wrap64; omega
      rw [this, wrapU_in _ (by omega) (by omega)]
    have e2 : wrap64 ((a : Int) + i) = ((a + i : Nat) : Int) := by unfold wrap64; omega
    have e3 : wrap64 ((i : Int) + 1) = ((i + 1 : Nat) : Int) := by unfold wrap64; omega
    have hlen := st_length l a v i
    rw [e1, e2, e3, if_pos (by omega), if_pos (by omega), if_pos (by omega), if_pos (by omega), shr_U]
    have e4 : U (v >>> ((8 * i : Nat) : Int).toNat) % 256 = Bits.byteOf v i := by
      unfold U Bits.byteOf
      rw [Int.toNat_natCast]
      omega
    rw [e4, Int.toNat_natCast]
    exact ih k (i + 1) (by omega) (by omega) (by omega)
theorem ref_Store_yes (k : Nat) (hk : 20 ≤ k) (l : List Int) (hl : l.length ≤ 1000000000000000) (hl2 : l.length < 140737488355328) (a n : Int) (v : BitVec 64) (h : ok l a n) : ravelinref01_Store.f k l a n (U v) = some (st l a.toNat v n.toNat, 0) := by
  obtain ⟨k, rfl⟩ : ∃ m, k = m + 1 := ⟨k - 1, by omega⟩
  obtain ⟨h1, h2, h3, h4⟩ := h
  unfold ravelinref01_Store.f
  simp only [Option.bind_some, List.nil_append, List.length_nil]
  rw [if_pos (by omega), if_neg (by omega), if_neg (by omega), if_neg (by omega), if_neg (by omega)]
  have e : ¬ n > wrap64 ((l.length : Int) - a) := by unfold wrap64; omega
  simp only [ravelinref01_Store.j0, e, decide_false, Bool.false_eq_true, if_false]
  have := ref_Store_loop l hl a.toNat n.toNat v (by omega) (by omega) n.toNat k 0 (by omega) (by omega) (by omega)
  have ea : ((a.toNat : Nat) : Int) = a := by omega
  have en : ((n.toNat : Nat) : Int) = n := by omega
  rw [ea, en] at this
  exact this
theorem ref_Store_no (k : Nat) (hk : 20 ≤ k) (l : List Int) (hl : l.length ≤ 1000000000000000) (hl2 : l.length < 140737488355328) (a n v : Int) (h : ¬ ok l a n) : ravelinref01_Store.f k l a n v = some (l, 1) := by
  obtain ⟨k, rfl⟩ : ∃ m, k = m + 1 := ⟨k - 1, by omega⟩
  unfold ravelinref01_Store.f
  simp only [Option.bind_some, List.nil_append, List.length_nil]
  rw [if_pos (by omega)]
  simp only [ravelinref01_Store.j0]
  by_cases h1 : n < 1
  · rw [if_pos h1]; rfl
  · rw [if_neg h1]
    by_cases h2 : n > 8
    · rw [if_pos h2]; rfl
    · rw [if_neg h2]
      by_cases h3 : a < 0
      · rw [if_pos h3]; rfl
      · rw [if_neg h3]
        by_cases h4 : a > (l.length : Int)
        · rw [if_pos h4]; rfl
        · rw [if_neg h4]
          have : n > wrap64 ((l.length : Int) - a) := by
            unfold ok at h
            unfold wrap64
            omega
          simp [this]
/-- What Store answers, and the bytes behind it. -/
def stE (l : List Int) (a n : Int) : Int := if 1 ≤ n ∧ n ≤ 8 ∧ 0 ≤ a ∧ a + n ≤ l.length then 0 else 1
def stL (l : List Int) (a n : Int) (v : BitVec 64) : List Int := if 1 ≤ n ∧ n ≤ 8 ∧ 0 ≤ a ∧ a + n ≤ l.length then st l a.toNat v n.toNat else l
theorem stL_length (l : List Int) (a n : Int) (v : BitVec 64) : (stL l a n v).length = l.length := by
  unfold stL
  split
  · exact st_length _ _ _ _
  · rfl
theorem stL_bytes {l : List Int} (h : isBytes l) (a n : Int) (v : BitVec 64) : isBytes (stL l a n v) := by
  unfold stL
  split
  · exact st_bytes h _ _ _
  · exact h
theorem ref_Store_eq (k : Nat) (hk : 20 ≤ k) (l : List Int) (hl : l.length ≤ 1000000000000000) (hl2 : l.length < 140737488355328) (a n : Int) (v : BitVec 64) : ravelinref01_Store.f k l a n (U v) = some (stL l a n v, stE l a n) := by
  unfold stL stE
  by_cases h : 1 ≤ n ∧ n ≤ 8 ∧ 0 ≤ a ∧ a + n ≤ l.length
  · rw [if_pos h, if_pos h]; exact ref_Store_yes k hk l hl hl2 a n v h
  · rw [if_neg h, if_neg h]; exact ref_Store_no k hk l hl hl2 a n _ h
theorem loads (k : Nat) (hk : 20 ≤ k) (l : List Int) (hl : l.length ≤ 1000000000000000) (hb : isBytes l) (a n : Int) : ∃ r1 r2, word_Load.f k l a n = some (r1, r2) ∧ ravelinref01_Load.f k l a n = some (r1, r2) := by
  by_cases h : ok l a n
  · exact ⟨_, _, word_Load_yes k hk l hl hb a n h, ref_Load_yes k hk l hl hb a n h⟩
  · exact ⟨_, _, word_Load_no k l hl a n h, ref_Load_no k hk l hl a n h⟩

end WordBytes
end Go.Proofs.Ytppbbhpaoflhnaa.Pure
