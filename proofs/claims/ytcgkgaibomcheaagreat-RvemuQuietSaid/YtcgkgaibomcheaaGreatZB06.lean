/- Joined out of this claim's texts: F1, RTwo, Ends, ROne, ROne2, Find, RDoes, RDoes2, Mac, Reg, StoreExact, Rd. Conditions: those of each theorem. -/
import Derived.Test.YtcgkgaibomcheaaGreatZB04
import Derived.Test.YtcgkgaibomcheaaGreatZB05
import Derived.Test.YtcgkgaibomcheaaGreatZB03
import Derived.Deep.QuietTactic
import Derived.BigQuiet
import Derived.StillTailTactics
import Derived.Test.YtcgkgaibomcheaaGreatZB02
import Derived.Lib.SliceRun
section
/- Facts on the words of layer 1, of the program and of the document, in plain numbers. Conditions: those of each theorem. -/
namespace Go.Proofs.YtcgkgaibomcheaaGreat.F1
open Go.RowKit Go.Proofs.YtcgkgaibomcheaaGreat.PRvemuRuns Go.Proofs.YtcgkgaibomcheaaGreat.Bits Go.Proofs.YtcgkgaibomcheaaGreatW.PrintWords Go.Proofs.YtcgkgaibomcheaaGreatW.PrintLast Go.Proofs.YtcgkgaibomcheaaGreatW.PrintMore
set_option linter.unusedVariables false
set_option linter.unusedSimpArgs false

theorem wrapU_in (z : Int) (h0 : 0 ≤ z) (h : z < 18446744073709551616) : IntKind.u64.wrap z = z := by
  simp only [IntKind.wrap, IntKind.bits, IntKind.signed, Bool.false_and, Bool.false_eq_true, if_false]
  omega
theorem byteU {x : Int} (h : 0 ≤ x ∧ x < 256) : IntKind.u64.wrap x = U (BitVec.ofNat 64 x.toNat) := by
  rw [wrapU_in x h.1 (by omega)]
  unfold U
  rw [BitVec.toNat_ofNat, Nat.mod_eq_of_lt (by omega)]
  omega
theorem rd_getD (l : List Int) (i : Nat) : rd l (i : Int) = l.getD i 0 := by
  unfold rd
  rw [Int.toNat_natCast]
/-- Are so many bytes there? -/
def ok (l : List Int) (a n : Int) : Prop := 1 ≤ n ∧ n ≤ 8 ∧ 0 ≤ a ∧ a + n ≤ l.length
theorem there_yes (l : List Int) (_hl : l.length ≤ 1000000000000000) (a n : Int) (h : ok l a n) : word_there.f l a n = some true := by
  obtain ⟨h1, h2, h3, h4⟩ := h
  unfold word_there.f
  rw [if_pos (by omega), if_pos (by omega), if_pos (by omega), if_pos (by omega)]
  have : n ≤ wrap64 ((l.length : Int) - a) := by unfold wrap64; omega
  simp [this]
theorem there_no (l : List Int) (_hl : l.length ≤ 1000000000000000) (a n : Int) (h : ¬ ok l a n) : word_there.f l a n = some false := by
  unfold word_there.f
  by_cases h1 : n ≥ 1
  · rw [if_pos h1]
    by_cases h2 : n ≤ 8
    · rw [if_pos h2]
      by_cases h3 : a ≥ 0
      · rw [if_pos h3]
        by_cases h4 : a ≤ (l.length : Int)
        · rw [if_pos h4]
          have : ¬ n ≤ wrap64 ((l.length : Int) - a) := by
            unfold ok at h
            unfold wrap64
            omega
          simp [this]
        · rw [if_neg h4]
      · rw [if_neg h3]
    · rw [if_neg h2]
  · rw [if_neg h1]
theorem word_mask_eq (n : Int) : word_mask.f n = some (U (low n)) := by
  unfold word_mask.f
  by_cases h : n < 1
  · rw [if_pos h]
    have : n.toNat = 0 := by omega
    unfold low
    rw [this]
    rfl
  · rw [if_neg h]
    by_cases h2 : n > 63
    · rw [if_pos h2]
      unfold low
      rw [Nat.min_eq_right (by omega)]
      rfl
    · rw [if_neg h2, if_pos (by omega), low_one n (by omega) (by omega)]
theorem word_Zext_eq (v : BitVec 64) (n : Int) : word_Zext.f (U v) n = some (U (zx v n)) := by
  unfold word_Zext.f
  rw [word_mask_eq]
  simp only [Option.bind_some]
  rw [and_U]
  rfl
theorem word_Bits_eq (v : BitVec 64) (lo n : Int) : word_Bits.f (U v) lo n = some (U (bs v lo n)) := by
  unfold word_Bits.f bs
  by_cases h : lo < 0
  · rw [if_pos h, if_pos h]; rfl
  · rw [if_neg h, if_neg h]
    by_cases h2 : lo > 63
    · rw [if_pos h2, if_pos h2]; rfl
    · rw [if_neg h2, if_neg h2, if_pos (by omega), shr_U, word_Zext_eq]
      rfl
theorem word_Sext_eq (v : BitVec 64) (n : Int) : word_Sext.f (U v) n = some (sx v n).toInt := by
  unfold word_Sext.f
  by_cases h : n < 1
  · rw [if_pos h, sx_none v n h]; rfl
  · rw [if_neg h]
    have e : wrap64 (64 - mn n 64) = ((64 - min n.toNat 64 : Nat) : Int) := by
      unfold wrap64 mn
      split <;> omega
    rw [e, if_pos (by omega), shl_U, wrap64_U, sar_U _ _ (by omega)]
    unfold sx
    rw [if_neg h]
    rfl
theorem bit_eq (v : BitVec 64) (i : Int) (h0 : 0 ≤ i) (h : i ≤ 63) : ravelinref01_bit.f (U v) i = some (U ((v >>> i.toNat) &&& 1#64)) := by
  unfold ravelinref01_bit.f
  have e : IntKind.u64.wrap i = i := by
    simp only [IntKind.wrap, IntKind.bits, IntKind.signed, Bool.false_and, Bool.false_eq_true, if_false]
    omega
  rw [e, if_pos h0, shr_U]
  have e1 : (1 : Int) = U 1#64 := by decide
  rw [e1, and_U]
theorem wrapU_small (i : Int) (h0 : 0 ≤ i) (h : i ≤ 64) : IntKind.u64.wrap i = i := by
  simp only [IntKind.wrap, IntKind.bits, IntKind.signed, Bool.false_and, Bool.false_eq_true, if_false]
  omega
theorem wrap64_small (i : Int) (h0 : -1000 ≤ i) (h : i ≤ 1000) : wrap64 i = i := by
  unfold wrap64
  omega
theorem ref_Zext_loop (v : BitVec 64) (n : Int) (d : Nat) : ∀ (k : Nat) (i : Nat) (out : BitVec 64), i ≤ 64 → 64 - i = d → d < k →
    (∀ j, j < 64 → out.getLsbD j = (decide (j < i ∧ (j : Int) < n) && v.getLsbD j)) →
    ravelinref01_Zext.l0 k (U v) n (U out) i = some (U (zx v n)) := by
  induction d with
  | zero =>
    intro k i out hi hd hk hout
    obtain ⟨k, rfl⟩ : ∃ m, k = m + 1 := ⟨k - 1, by omega⟩
    simp only [ravelinref01_Zext.l0]
    have hz : out = zx v n := ext64 fun j hj => by
      rw [hout j hj, zx_at v n j hj]
      congr 1
      simp only [decide_eq_decide]
      omega
    rw [hz]
    split
    · rw [if_neg (by omega)]
    · rfl
  | succ d ih =>
    intro k i out hi hd hk hout
    obtain ⟨k, rfl⟩ : ∃ m, k = m + 1 := ⟨k - 1, by omega⟩
    simp only [ravelinref01_Zext.l0]
    by_cases hlt : (i : Int) < n
    · rw [if_pos hlt, if_pos (by omega), bit_eq v i (by omega) (by omega)]
      simp only [Option.bind_some]
      rw [wrapU_small _ (by omega) (by omega), if_pos (by omega), shl_U, or_U, wrap64_small _ (by omega) (by omega)]
      refine ih k (i + 1) _ (by omega) (by omega) (by omega) fun j hj => ?_
      rw [BitVec.getLsbD_or, hout j hj, bit_at _ _ _ _ hj]
      by_cases e : j = i
      · subst e
        have a2 : j < j + 1 ∧ (j : Int) < n := by omega
        simp [a2]
      · have a1 : (j < i ∧ (j : Int) < n) ↔ (j < i + 1 ∧ (j : Int) < n) := by omega
        simp [e, a1]
    · rw [if_neg hlt]
      have hz : out = zx v n := ext64 fun j hj => by
        rw [hout j hj, zx_at v n j hj]
        congr 1
        simp only [decide_eq_decide]
        omega
      rw [hz]
theorem ref_Zext_eq (k : Nat) (hk : 65 ≤ k) (v : BitVec 64) (n : Int) : ravelinref01_Zext.f k (U v) n = some (U (zx v n)) := by
  unfold ravelinref01_Zext.f
  exact ref_Zext_loop v n 64 k 0 0#64 (by omega) (by omega) (by omega) fun j _ => by simp
theorem ref_Sext_loop (v : BitVec 64) (n : Int) (h1 : 1 ≤ n) (h2 : n ≤ 63) (d : Nat) : ∀ (k : Nat) (i : Nat) (out : BitVec 64), i ≤ 64 → n ≤ i → 64 - i = d → d < k →
    (∀ j, j < 64 → out.getLsbD j = (decide (j < i) && v.getLsbD (if (j : Int) < n then j else n.toNat - 1))) →
    ravelinref01_Sext.l0 k (U v) n (U out) i = some (sx v n).toInt := by
  induction d with
  | zero =>
    intro k i out hi hn hd hk hout
    obtain ⟨k, rfl⟩ : ∃ m, k = m + 1 := ⟨k - 1, by omega⟩
    simp only [ravelinref01_Sext.l0]
    have hz : out = sx v n := ext64 fun j hj => by
      rw [hout j hj, sx_at v n h1 (by omega) j hj]
      have : j < i := by omega
      simp [this]
    rw [hz, if_neg (by omega), wrap64_U]
  | succ d ih =>
    intro k i out hi hn hd hk hout
    obtain ⟨k, rfl⟩ : ∃ m, k = m + 1 := ⟨k - 1, by omega⟩
    simp only [ravelinref01_Sext.l0]
    rw [if_pos (by omega), wrap64_small (n - 1) (by omega) (by omega), bit_eq v (n - 1) (by omega) (by omega)]
    simp only [Option.bind_some]
    rw [wrapU_small _ (by omega) (by omega), if_pos (by omega), shl_U, or_U, wrap64_small _ (by omega) (by omega)]
    refine ih k (i + 1) _ (by omega) (by omega) (by omega) (by omega) fun j hj => ?_
    rw [BitVec.getLsbD_or, hout j hj, bit_at _ _ _ _ hj]
    have en : (n - 1).toNat = n.toNat - 1 := by omega
    by_cases e : j = i
    · subst e
      have a0 : ¬ (j : Int) < n := by omega
      simp [a0, en]
    · have a1 : (j < i) ↔ (j < i + 1) := by omega
      simp [e, a1]
theorem ref_Sext_eq (k : Nat) (hk : 65 ≤ k) (v : BitVec 64) (n : Int) : ravelinref01_Sext.f k (U v) n = some (sx v n).toInt := by
  unfold ravelinref01_Sext.f
  by_cases h : n < 1
  · rw [if_pos h, sx_none v n h]; rfl
  · rw [if_neg h]
    by_cases h2 : n ≥ 64
    · rw [if_pos h2, sx_full v n h2, wrap64_U]
    · rw [if_neg h2, ref_Zext_eq k hk]
      simp only [Option.bind_some]
      obtain ⟨m, rfl⟩ : ∃ m : Nat, n = m := ⟨n.toNat, by omega⟩
      refine ref_Sext_loop v m (by omega) (by omega) (64 - m) k m _ (by omega) (by omega) (by omega) (by omega) fun j hj => ?_
      rw [zx_at _ _ _ hj]
      by_cases e : j < m
      · have : (j : Int) < m := by omega
        simp [e]
      · have : ¬ (j : Int) < m := by omega
        simp [e]
theorem ref_Bits_loop (v : BitVec 64) (lo n : Int) (hl0 : 0 ≤ lo) (hl1 : lo ≤ 63) (d : Nat) : ∀ (k : Nat) (i : Nat) (out : BitVec 64), lo + i ≤ 64 → 64 - (lo + i) = d → d < k →
    (∀ j, j < 64 → out.getLsbD j = (decide (j < i ∧ (j : Int) < n) && v.getLsbD (lo.toNat + j))) →
    ravelinref01_Bits.l0 k (U v) lo n (U out) i = some (U (bs v lo n)) := by
  induction d with
  | zero =>
    intro k i out hi hd hk hout
    obtain ⟨k, rfl⟩ : ∃ m, k = m + 1 := ⟨k - 1, by omega⟩
    simp only [ravelinref01_Bits.l0]
    have hz : out = bs v lo n := ext64 fun j hj => by
      rw [hout j hj, bs_at v lo n hl0 hl1 j hj]
      by_cases h : j < i
      · simp [h]
      · have : v.getLsbD (lo.toNat + j) = false := BitVec.getLsbD_of_ge _ _ (by omega)
        simp [this]
    rw [hz, wrap64_small _ (by omega) (by omega)]
    split
    · rw [if_neg (by omega)]
    · rfl
  | succ d ih =>
    intro k i out hi hd hk hout
    obtain ⟨k, rfl⟩ : ∃ m, k = m + 1 := ⟨k - 1, by omega⟩
    simp only [ravelinref01_Bits.l0]
    by_cases hlt : (i : Int) < n
    · rw [if_pos hlt, wrap64_small (lo + i) (by omega) (by omega), if_pos (by omega), bit_eq v (lo + i) (by omega) (by omega)]
      simp only [Option.bind_some]
      rw [wrapU_small _ (by omega) (by omega), if_pos (by omega), shl_U, or_U, wrap64_small _ (by omega) (by omega)]
      refine ih k (i + 1) _ (by omega) (by omega) (by omega) fun j hj => ?_
      rw [BitVec.getLsbD_or, hout j hj, bit_at _ _ _ _ hj]
      have en : (lo + (i : Int)).toNat = lo.toNat + i := by omega
      by_cases e : j = i
      · subst e
        have a2 : j < j + 1 ∧ (j : Int) < n := by omega
        simp [a2, en]
      · have a1 : (j < i ∧ (j : Int) < n) ↔ (j < i + 1 ∧ (j : Int) < n) := by omega
        simp [e, a1]
    · rw [if_neg hlt]
      have hz : out = bs v lo n := ext64 fun j hj => by
        rw [hout j hj, bs_at v lo n hl0 hl1 j hj]
        congr 1
        simp only [decide_eq_decide]
        omega
      rw [hz]
theorem ref_Bits_eq (k : Nat) (hk : 70 ≤ k) (v : BitVec 64) (lo n : Int) : ravelinref01_Bits.f k (U v) lo n = some (U (bs v lo n)) := by
  obtain ⟨k, rfl⟩ : ∃ m, k = m + 1 := ⟨k - 1, by omega⟩
  unfold ravelinref01_Bits.f
  simp only [ravelinref01_Bits.j0]
  by_cases h : lo < 0
  · rw [if_pos h]; unfold bs; rw [if_pos h]; rfl
  · rw [if_neg h]
    by_cases h2 : lo > 63
    · rw [if_pos h2]; unfold bs; rw [if_neg h, if_pos h2]; rfl
    · rw [if_neg h2]
      by_cases h3 : n < 1
      · simp only [h3, decide_true, if_true]
        have : bs v lo n = 0#64 := ext64 fun j hj => by
          rw [bs_at v lo n (by omega) (by omega) j hj]
          have : ¬ (j : Int) < n := by omega
          simp [this]
        rw [this]; rfl
      · simp only [h3, decide_false, Bool.false_eq_true, if_false]
        exact ref_Bits_loop v lo n (by omega) (by omega) (64 - lo).toNat k 0 0#64 (by omega) (by omega) (by omega) fun j _ => by simp
theorem word_Load_loop (l : List Int) (_hl : l.length ≤ 1000000000000000) (hb : isBytes l) (a n : Nat) (hn : n ≤ 8) (ha : a + n ≤ l.length) (d : Nat) : ∀ (k i : Nat), i ≤ n → n - i = d → d < k →
    word_Load.l0 k l a (U (ld l a i)) n i = some (U (ld l a n), 0) := by
  induction d with
  | zero =>
    intro k i hi hd hk
    obtain ⟨k, rfl⟩ : ∃ m, k = m + 1 := ⟨k - 1, by omega⟩
    obtain rfl : i = n := by omega
    simp only [word_Load.l0]
    rw [if_neg (by omega)]
  | succ d ih =>
    intro k i hi hd hk
    obtain ⟨k, rfl⟩ : ∃ m, k = m + 1 := ⟨k - 1, by omega⟩
    simp only [word_Load.l0]
    have e1 : wrap64 (8 * (i : Int)) = ((8 * i : Nat) : Int) := by unfold wrap64; omega
    have e2 : wrap64 ((a : Int) + i) = ((a + i : Nat) : Int) := by unfold wrap64; omega
    have e3 : wrap64 ((i : Int) + 1) = ((i + 1 : Nat) : Int) := by unfold wrap64; omega
    rw [e1, e2, e3, if_pos (by omega), if_pos (by omega), if_pos (by omega), if_pos (by omega), rd_getD, byteU (isBytes_at hb _), shl_U, or_U, Int.toNat_natCast]
    exact ih k (i + 1) (by omega) (by omega) (by omega)
theorem word_Load_yes (k : Nat) (hk : 20 ≤ k) (l : List Int) (hl : l.length ≤ 1000000000000000) (hb : isBytes l) (a n : Int) (h : ok l a n) : word_Load.f k l a n = some (U (ld l a.toNat n.toNat), 0) := by
  unfold word_Load.f
  rw [there_yes l hl a n h]
  simp only [Option.bind_some, if_true]
  obtain ⟨h1, h2, h3, h4⟩ := h
  have := word_Load_loop l hl hb a.toNat n.toNat (by omega) (by omega) n.toNat k 0 (by omega) (by omega) (by omega)
  have ea : ((a.toNat : Nat) : Int) = a := by omega
  have en : ((n.toNat : Nat) : Int) = n := by omega
  rw [ea, en] at this
  exact this
theorem word_Load_no (k : Nat) (l : List Int) (hl : l.length ≤ 1000000000000000) (a n : Int) (h : ¬ ok l a n) : word_Load.f k l a n = some (0, 1) := by
  unfold word_Load.f
  rw [there_no l hl a n h]
  simp
theorem wrapU_shift (x : BitVec 64) : IntKind.u64.wrap (U x * 256) = U (x <<< 8) := by
  have h := shl_U x 8
  unfold shl at h
  exact h
/-- The number of the bytes from the place i on. -/
theorem ref_Load_loop (l : List Int) (_hl : l.length ≤ 1000000000000000) (hb : isBytes l) (a n : Nat) (hn : n ≤ 8) (ha : a + n ≤ l.length) (d : Nat) : ∀ (k : Nat) (i : Nat) (out : BitVec 64), i ≤ n → i = d → d < k →
    (∀ j, j < 64 → out.getLsbD j = (decide (j < 8 * (n - i)) && (l.getD (a + i + j / 8) 0).toNat.testBit (j % 8))) →
    ravelinref01_Load.l0 k l a (U out) ((i : Int) - 1) = some (U (ld l a n), 0) := by
  induction d with
  | zero =>
    intro k i out hi hd hk hout
    obtain ⟨k, rfl⟩ : ∃ m, k = m + 1 := ⟨k - 1, by omega⟩
    subst hd
    simp only [ravelinref01_Load.l0]
    rw [if_neg (by omega)]
    have : out = ld l a n := ext64 fun j hj => by
      rw [hout j hj, ld_at hb a n j hj]
      rfl
    rw [this]
  | succ d ih =>
    intro k i out hi hd hk hout
    obtain ⟨k, rfl⟩ : ∃ m, k = m + 1 := ⟨k - 1, by omega⟩
    subst hd
    simp only [ravelinref01_Load.l0]
    have e0 : ((d + 1 : Nat) : Int) - 1 = (d : Int) := by omega
    have e1 : wrap64 ((a : Int) + (d : Int)) = ((a + d : Nat) : Int) := by unfold wrap64; omega
    have e2 : wrap64 ((d : Int) - 1) = (d : Int) - 1 := by unfold wrap64; omega
    have hx := isBytes_at hb (a + d)
    rw [e0, e1, e2, if_pos (by omega), if_pos (by omega), if_pos (by omega), rd_getD, byteU hx, wrapU_shift, or_U]
    refine ih k d _ (by omega) rfl (by omega) fun j hj => ?_
    rw [BitVec.getLsbD_or, BitVec.getLsbD_shiftLeft, BitVec.getLsbD_ofNat]
    by_cases h8 : j < 8
    · have e3 : j / 8 = 0 := by omega
      have e4 : j % 8 = j := by omega
      have e5 : j < 8 * (n - d) := by omega
      simp [h8, hj, e3, e4, e5]
    · have hlt : j - 8 < 64 := by omega
      rw [hout (j - 8) hlt]
      have e3 : (j - 8) / 8 = j / 8 - 1 := by omega
      have e4 : (j - 8) % 8 = j % 8 := by omega
      have e5 : (j - 8 < 8 * (n - (d + 1))) = (j < 8 * (n - d)) := by apply propext; omega
      have e6 : a + (d + 1) + (j / 8 - 1) = a + d + j / 8 := by omega
      have e7 : (l.getD (a + d) 0).toNat.testBit j = false := by
        apply Nat.testBit_lt_two_pow
        have : (2:Nat) ^ 8 ≤ 2 ^ j := Nat.pow_le_pow_right (by decide) (by omega)
        omega
      rw [e3, e4, e6, e7]
      simp [h8, hj, e5]
theorem ref_Load_yes (k : Nat) (hk : 20 ≤ k) (l : List Int) (hl : l.length ≤ 1000000000000000) (hb : isBytes l) (a n : Int) (h : ok l a n) : ravelinref01_Load.f k l a n = some (U (ld l a.toNat n.toNat), 0) := by
  obtain ⟨k, rfl⟩ : ∃ m, k = m + 1 := ⟨k - 1, by omega⟩
  obtain ⟨h1, h2, h3, h4⟩ := h
  unfold ravelinref01_Load.f
  rw [if_neg (by omega), if_neg (by omega), if_neg (by omega), if_neg (by omega)]
  have e : ¬ n > wrap64 ((l.length : Int) - a) := by unfold wrap64; omega
  simp only [ravelinref01_Load.j0, e, decide_false, Bool.false_eq_true, if_false]
  have := ref_Load_loop l hl hb a.toNat n.toNat (by omega) (by omega) n.toNat k n.toNat 0#64 (by omega) rfl (by omega) fun j _ => by simp
  have ea : ((a.toNat : Nat) : Int) = a := by omega
  have en : ((n.toNat : Nat) : Int) = n := by omega
  rw [ea, en] at this
  have e2 : wrap64 (n - 1) = n - 1 := by unfold wrap64; omega
  rw [e2]
  exact this
theorem ref_Load_no (k : Nat) (hk : 20 ≤ k) (l : List Int) (hl : l.length ≤ 1000000000000000) (a n : Int) (h : ¬ ok l a n) : ravelinref01_Load.f k l a n = some (0, 1) := by
  obtain ⟨k, rfl⟩ : ∃ m, k = m + 1 := ⟨k - 1, by omega⟩
  unfold ravelinref01_Load.f
  simp only [ravelinref01_Load.j0]
  by_cases h1 : n < 1
  · rw [if_pos h1]; rfl
  · rw [if_neg h1]
    by_cases h2 : n > 8
    · rw [if_pos h2]; rfl
    · rw [if_neg h2]
      by_cases h3 : a < 0
      · rw [if_pos h3]; rfl
      · rw [if_neg h3]
        by_cases h4 : a > (l.length : Int)
        · rw [if_pos h4]; rfl
        · rw [if_neg h4]
          have : n > wrap64 ((l.length : Int) - a) := by
            unfold ok at h
            unfold wrap64
            omega
          simp [this]
/-- What Store answers, and the bytes behind it. -/
def stE (l : List Int) (a n : Int) : Int := if 1 ≤ n ∧ n ≤ 8 ∧ 0 ≤ a ∧ a + n ≤ l.length then 0 else 1
def stL (l : List Int) (a n : Int) (v : BitVec 64) : List Int := if 1 ≤ n ∧ n ≤ 8 ∧ 0 ≤ a ∧ a + n ≤ l.length then st l a.toNat v n.toNat else l
theorem loads (k : Nat) (hk : 20 ≤ k) (l : List Int) (hl : l.length ≤ 1000000000000000) (hb : isBytes l) (a n : Int) : ∃ r1 r2, word_Load.f k l a n = some (r1, r2) ∧ ravelinref01_Load.f k l a n = some (r1, r2) := by
  by_cases h : ok l a n
  · exact ⟨_, _, word_Load_yes k hk l hl hb a n h, ref_Load_yes k hk l hl hb a n h⟩
  · exact ⟨_, _, word_Load_no k l hl a n h, ref_Load_no k hk l hl a n h⟩
end Go.Proofs.YtcgkgaibomcheaaGreat.F1
end

section
/- The document's two, asks and short in plain numbers. Conditions: the operation is one of theirs. -/
namespace Go.Proofs.YtcgkgaibomcheaaGreat.RTwo
open Go.RowKit Go.Proofs.YtcgkgaibomcheaaGreat.Bits Go.Proofs.YtcgkgaibomcheaaGreat.PRvemuRuns Go.Proofs.YtcgkgaibomcheaaGreatW.PrintWords Go.Proofs.YtcgkgaibomcheaaGreatW.PrintLast Go.Proofs.YtcgkgaibomcheaaGreatW.PrintMore
set_option linter.unusedVariables false
set_option linter.unusedSimpArgs false

theorem short_eq (k : Nat) (hk : 65 ≤ k) (v : BitVec 64) : ravelinref16_short.f k (U v) = some (U (Alu.s32 v)) := by
  unfold ravelinref16_short.f
  rw [F1.ref_Sext_eq k hk v 32]
  simp only [Option.bind_some]
  rw [wrapU_toInt]
  rfl
/-- The value of an operation with two registers; none: a division by 0. -/
def two (op : Nat) (a b : BitVec 64) : Option (BitVec 64) :=
  if op = 16 then some (a + b) else if op = 17 then some (a - b) else if op = 18 then some (a &&& b) else if op = 19 then some (a ||| b) else if op = 20 then some (a ^^^ b) else
  if op = 21 then some (a <<< (b &&& 63#64).toNat) else if op = 22 then some (a >>> (b &&& 63#64).toNat) else if op = 23 then some (Alu.s32 (a + b)) else if op = 24 then some (Alu.s32 (a - b)) else
  if op = 25 then some (Alu.s32 (a * b)) else if op = 27 then some (Alu.s32 (a <<< (b &&& 31#64).toNat)) else if op = 28 then some (Alu.s32 (Alu.low a >>> (b &&& 31#64).toNat)) else
  if U (Alu.low b) = 0 then none else some (Alu.s32 (BitVec.ofNat 64 ((Alu.low a).toNat / (Alu.low b).toNat)))
theorem andlow (a : BitVec 64) : Go.bits .and .u64 (U a) 4294967295 = U (Alu.low a) := by
  have h := and_U a 4294967295#64
  have e : a &&& 4294967295#64 = Alu.low a := by
    apply BitVec.eq_of_toNat_eq
    unfold Alu.low
    rw [BitVec.toNat_and, show (4294967295#64).toNat = 2 ^ 32 - 1 from by decide, Nat.and_two_pow_sub_one_eq_mod, BitVec.toNat_ofNat]
    omega
  rw [e] at h
  exact h
/-- Does a branch go? -/
def ask (op : Nat) (a b : BitVec 64) : Bool := if op = 29 then decide (a = b) else if op = 30 then !decide (a = b) else if op = 31 then decide (a.toNat < b.toNat) else decide (b.toNat ≤ a.toNat)
end Go.Proofs.YtcgkgaibomcheaaGreat.RTwo
end

section
/- The small methods of both machines: the end, the place, a register. Conditions: the machine's block is there. -/
namespace Go.Proofs.YtcgkgaibomcheaaGreat.Ends
open Go.RowKit Go.Proofs.YtcgkgaibomcheaaGreat.Bits Go.Proofs.YtcgkgaibomcheaaGreat.Alu Go.Proofs.YtcgkgaibomcheaaGreat.Mb Go.Proofs.YtcgkgaibomcheaaGreatW.PrintWords Go.Proofs.YtcgkgaibomcheaaGreatW.PrintLast Go.Proofs.YtcgkgaibomcheaaGreatW.PrintMore
set_option linter.unusedVariables false
set_option linter.unusedSimpArgs false

/-- The values of a machine that is through. -/
def fin (v : Nat → Value) (e : Int) : Nat → Value := fun i => if i = 39 then .int .i64 e else if i = 38 then .bool true else v i
theorem fin_set {T n : Nat} {W : World} {g : Nat} {v : Nat → Value} (h : MB T n W g v) (e : Int) : MB T n ((W.setCell ⟨g, 38, none⟩ (.bool true)).setCell ⟨g, 39, none⟩ (.int .i64 e)) g (fin v e) := by
  have h1 := h.put 38 (.bool true) (fun i => if i = 38 then .bool true else v i) rfl (fun i _ hi => if_neg hi)
  exact h1.put 39 (.int .i64 e) (fin v e) rfl (fun i _ hi => if_neg hi)
/-- The place, of a number. -/
def place (pc : BitVec 64) : Int := wrap64 (U (pc - 4194304#64))
set_option maxRecDepth 20000 in
theorem ends (g : Nat) (v : Nat → Value) (e : Int) (w : World) (h : MB 74 42 w g v) :
    Calls Tryz.prog 39 #[.pointer (some ⟨g, 0, none⟩), .int .i64 e] w fun e' w' => e' = .returned (.bool true) ∧ MB 74 42 w' g (fin v e) ∧ Only g w w' := by
  have c1 := h.cell 38 (by omega)
  have c2 := h.cell 39 (by omega)
  have f1 := h.frozen 38
  have f2 := h.frozen 39
  have HM := Aside0.mk (fin_set h e)
  have HO := Aside0.mk (((Only.refl g w).set 38 (.bool true)).set 39 (.int .i64 e))
  clear h
  go_enter Tryz.func39, Tryz.ntmps39
  go_wp2
  go_ret
  exact ⟨rfl, HM.out, HO.out⟩
set_option maxRecDepth 20000 in
theorem place_emu (g : Nat) (v : Nat → Value) (pc : BitVec 64) (w : World) (h : MB 74 42 w g v) (hp : v 35 = .int .u64 (U pc)) :
    Calls Tryz.prog 23 #[.pointer (some ⟨g, 0, none⟩)] w fun e' w' => e' = .returned (.int .i64 (place pc)) ∧ w' = w := by
  have c1 := (h.cell 35 (by omega)).trans (congrArg some hp)
  have hs : IntKind.u64.wrap (U pc - 4194304) = U (pc - 4194304#64) := subU pc 4194304#64
  clear h hp
  go_enter Tryz.func23, Tryz.ntmps23
  go_wp2
  go_ret
  exact ⟨rfl, rfl⟩
/-- The values with a register set. -/
def setR (v : Nat → Value) (rd : Nat) (r : BitVec 64) : Nat → Value := fun i => if i = 3 + rd then .int .u64 (U r) else v i
set_option maxRecDepth 20000 in
theorem set_ (g : Nat) (v : Nat → Value) (rd : Nat) (r : BitVec 64) (w : World) (h : MB 76 41 w g v) (hrd : rd < 32) :
    Calls Tryz.prog 90 #[.pointer (some ⟨g, 0, none⟩), .int .i64 rd, .int .u64 (U r)] w fun e' w' => e' = .returned (.tuple #[]) ∧ MB 76 41 w' g (if rd = 0 then v else setR v rd r) ∧ Only g w w' := by
  have c1 := h.cell (3 + rd) (by omega)
  have f1 := h.frozen (3 + rd)
  have HM := Aside0.mk (h.put (3 + rd) (.int .u64 (U r)) (setR v rd r) (if_pos rfl) (fun i _ hi => if_neg hi))
  have HO := Aside0.mk ((Only.refl g w).set (3 + rd) (.int .u64 (U r)))
  have HH := Aside0.mk h
  have q0 : (0 : Int) ≤ (rd : Int) := by omega
  have q1 : (rd : Int) < 32 := by omega
  clear h
  by_cases h0 : rd = 0
  · subst h0
    go_enter Tryz.func90, Tryz.ntmps90
    go_wp2
    go_end0
    exact ⟨rfl, HH.out, Only.refl _ _⟩
  · have h0b : ((rd : Int) != 0) = true := by simpa using h0
    rw [if_neg h0]
    go_enter Tryz.func90, Tryz.ntmps90
    go_wp2
    go_end0
    exact ⟨rfl, HM.out, HO.out⟩
end Go.Proofs.YtcgkgaibomcheaaGreat.Ends
end

section
/- The document's 'one', at the operations that load nothing. Conditions: the machine's block is there. -/
namespace Go.Proofs.YtcgkgaibomcheaaGreat.ROne
open Go.RowKit Go.Proofs.YtcgkgaibomcheaaGreat.Bits Go.Proofs.YtcgkgaibomcheaaGreat.Mb Go.Proofs.YtcgkgaibomcheaaGreat.Ends Go.Proofs.YtcgkgaibomcheaaGreat.RTwo Go.Proofs.YtcgkgaibomcheaaGreat.PRvemuRuns Go.Proofs.YtcgkgaibomcheaaGreatW.PrintWords Go.Proofs.YtcgkgaibomcheaaGreatW.PrintLast Go.Proofs.YtcgkgaibomcheaaGreatW.PrintMore
set_option linter.unusedVariables false
set_option linter.unusedSimpArgs false

/-- Register rd set, unless it is 0. -/
def reg (v : Nat → Value) (rd : Nat) (r : BitVec 64) : Nat → Value := if rd = 0 then v else setR v rd r
theorem reg_pc (v : Nat → Value) (rd : Nat) (r : BitVec 64) (h : rd < 32) : reg v rd r 35 = v 35 := by
  unfold reg setR
  split
  · rfl
  · exact if_neg (by omega)
theorem short_at (v : BitVec 64) (w : World) : Calls Tryz.prog 106 #[.int .u64 (U v)] w fun e w' => e = .returned (.int .u64 (U (Alu.s32 v))) ∧ Below w.heap.size w w' :=
  (ravelinref16_short.calls 100 (U v) _ w (short_eq 100 (by omega) v)).mono fun e w' h => ⟨h.1, h.2.below⟩
set_option maxRecDepth 20000 in
set_option maxHeartbeats 1000000 in
theorem one_1 (g : Nat) (v : Nat → Value) (rd : Nat) (s1 s2 imm : Int) (pc a k : BitVec 64) (w : World) (h : MB 76 41 w g v) (hp : v 35 = .int .u64 (U pc)) (hrd : rd < 32) :
    Calls Tryz.prog 93 #[.pointer (some ⟨g, 0, none⟩), .agg #[.int .i64 1, .int .i64 rd, .int .i64 s1, .int .i64 s2, .int .i64 imm], .int .u64 (U a), .int .u64 (U k)] w fun e w' => e = .returned (.tuple #[.int .u64 (U (pc + 4#64)), .int .i64 0]) ∧ MB 76 41 w' g (reg v rd (Alu.s32 (k <<< 12))) ∧ Only g w w' := by
  have hf := Alu.shl12 k
  have HB := Aside0.mk (below_alloc (Below.refl w.heap.size w) (.cells #[.int .i64 1, .int .i64 rd, .int .i64 s1, .int .i64 s2, .int .i64 imm] 42))
  have HX := Aside0.mk (blk_new w (.cells #[.int .i64 1, .int .i64 rd, .int .i64 s1, .int .i64 s2, .int .i64 imm] 42))
  have x0 := blk_cell HX.out 0
  have x1 := blk_cell HX.out 1
  simp only [List.getElem?_toArray, List.getElem?_cons_zero, List.getElem?_cons_succ] at x0 x1
  have HM := Aside0.mk (h.below HB.out)
  have HP := Aside0.mk hp
  clear h hp
  go_enter Tryz.func93, Tryz.ntmps93
  go_wp2_with fail
  refine (short_at (k <<< 12) _).mono ?_
  rintro e w2 ⟨rfl, hb⟩
  have HB2 := Aside0.mk (below_step HB.out hb)
  have HM2 := Aside0.mk (HM.out.below hb)
  have HX2 := blk_below HX.out hb
  have y1 := blk_cell HX2 1
  simp only [List.getElem?_toArray, List.getElem?_cons_zero, List.getElem?_cons_succ] at y1
  clear x0 x1 HX hb HM HB HX2
  have HM := HM2
  have HB := HB2
  clear HM2 HB2 hf
  go_wp2_with fail
  refine (set_ g v rd (Alu.s32 (k <<< 12)) _ HM.out hrd).mono ?_
  rintro e w3 ⟨rfl, hm, ho⟩
  have HM3 := Aside0.mk (show MB 76 41 w3 g (reg v rd (Alu.s32 (k <<< 12))) from hm)
  have HO3 := Aside0.mk (((Only.refl g w).below HB.out).then_ ho)
  have c35 := (HM3.out.cell 35 (by omega)).trans (congrArg some ((reg_pc v rd _ hrd).trans HP.out))
  have h4 : IntKind.u64.wrap (U pc + 4) = U (pc + 4#64) := Alu.addU pc 4#64
  clear hm ho y1
  go_wp2
  go_ret2
  exact ⟨rfl, HM3.out, HO3.out⟩
set_option maxRecDepth 20000 in
set_option maxHeartbeats 1000000 in
theorem one_2 (g : Nat) (v : Nat → Value) (rd : Nat) (s1 s2 imm : Int) (pc a k : BitVec 64) (w : World) (h : MB 76 41 w g v) (hp : v 35 = .int .u64 (U pc)) (hrd : rd < 32) :
    Calls Tryz.prog 93 #[.pointer (some ⟨g, 0, none⟩), .agg #[.int .i64 2, .int .i64 rd, .int .i64 s1, .int .i64 s2, .int .i64 imm], .int .u64 (U a), .int .u64 (U k)] w fun e w' => e = .returned (.tuple #[.int .u64 (U (pc + 4#64)), .int .i64 0]) ∧ MB 76 41 w' g (reg v rd (a + k)) ∧ Only g w w' := by
  have hf := Alu.addU a k
  have HB := Aside0.mk (below_alloc (Below.refl w.heap.size w) (.cells #[.int .i64 2, .int .i64 rd, .int .i64 s1, .int .i64 s2, .int .i64 imm] 42))
  have HX := Aside0.mk (blk_new w (.cells #[.int .i64 2, .int .i64 rd, .int .i64 s1, .int .i64 s2, .int .i64 imm] 42))
  have x0 := blk_cell HX.out 0
  have x1 := blk_cell HX.out 1
  simp only [List.getElem?_toArray, List.getElem?_cons_zero, List.getElem?_cons_succ] at x0 x1
  have HM := Aside0.mk (h.below HB.out)
  have HP := Aside0.mk hp
  clear h hp
  go_enter Tryz.func93, Tryz.ntmps93
  go_wp2_with fail
  refine (set_ g v rd (a + k) _ HM.out hrd).mono ?_
  rintro e w3 ⟨rfl, hm, ho⟩
  have HM3 := Aside0.mk (show MB 76 41 w3 g (reg v rd (a + k)) from hm)
  have HO3 := Aside0.mk (((Only.refl g w).below HB.out).then_ ho)
  have c35 := (HM3.out.cell 35 (by omega)).trans (congrArg some ((reg_pc v rd _ hrd).trans HP.out))
  have h4 : IntKind.u64.wrap (U pc + 4) = U (pc + 4#64) := Alu.addU pc 4#64
  clear hm ho x0 x1
  go_wp2
  go_ret2
  exact ⟨rfl, HM3.out, HO3.out⟩
set_option maxRecDepth 20000 in
set_option maxHeartbeats 1000000 in
theorem one_6 (g : Nat) (v : Nat → Value) (rd : Nat) (s1 s2 imm : Int) (pc a k : BitVec 64) (w : World) (h : MB 76 41 w g v) (hp : v 35 = .int .u64 (U pc)) (hrd : rd < 32) :
    Calls Tryz.prog 93 #[.pointer (some ⟨g, 0, none⟩), .agg #[.int .i64 6, .int .i64 rd, .int .i64 s1, .int .i64 s2, .int .i64 imm], .int .u64 (U a), .int .u64 (U k)] w fun e w' => e = .returned (.tuple #[.int .u64 (U (pc + 4#64)), .int .i64 0]) ∧ MB 76 41 w' g (reg v rd (a ^^^ k)) ∧ Only g w w' := by
  have hf := xor_U a k
  have HB := Aside0.mk (below_alloc (Below.refl w.heap.size w) (.cells #[.int .i64 6, .int .i64 rd, .int .i64 s1, .int .i64 s2, .int .i64 imm] 42))
  have HX := Aside0.mk (blk_new w (.cells #[.int .i64 6, .int .i64 rd, .int .i64 s1, .int .i64 s2, .int .i64 imm] 42))
  have x0 := blk_cell HX.out 0
  have x1 := blk_cell HX.out 1
  simp only [List.getElem?_toArray, List.getElem?_cons_zero, List.getElem?_cons_succ] at x0 x1
  have HM := Aside0.mk (h.below HB.out)
  have HP := Aside0.mk hp
  clear h hp
  go_enter Tryz.func93, Tryz.ntmps93
  go_wp2_with fail
  refine (set_ g v rd (a ^^^ k) _ HM.out hrd).mono ?_
  rintro e w3 ⟨rfl, hm, ho⟩
  have HM3 := Aside0.mk (show MB 76 41 w3 g (reg v rd (a ^^^ k)) from hm)
  have HO3 := Aside0.mk (((Only.refl g w).below HB.out).then_ ho)
  have c35 := (HM3.out.cell 35 (by omega)).trans (congrArg some ((reg_pc v rd _ hrd).trans HP.out))
  have h4 : IntKind.u64.wrap (U pc + 4) = U (pc + 4#64) := Alu.addU pc 4#64
  clear hm ho x0 x1
  go_wp2
  go_ret2
  exact ⟨rfl, HM3.out, HO3.out⟩
set_option maxRecDepth 20000 in
set_option maxHeartbeats 1000000 in
theorem one_5 (g : Nat) (v : Nat → Value) (rd : Nat) (s1 s2 imm : Int) (pc a k : BitVec 64) (w : World) (h : MB 76 41 w g v) (hp : v 35 = .int .u64 (U pc)) (hrd : rd < 32) :
    Calls Tryz.prog 93 #[.pointer (some ⟨g, 0, none⟩), .agg #[.int .i64 5, .int .i64 rd, .int .i64 s1, .int .i64 s2, .int .i64 imm], .int .u64 (U a), .int .u64 (U k)] w fun e w' => e = .returned (.tuple #[.int .u64 (U (pc + 4#64)), .int .i64 0]) ∧ MB 76 41 w' g (reg v rd (a ||| k)) ∧ Only g w w' := by
  have hf := or_U a k
  have HB := Aside0.mk (below_alloc (Below.refl w.heap.size w) (.cells #[.int .i64 5, .int .i64 rd, .int .i64 s1, .int .i64 s2, .int .i64 imm] 42))
  have HX := Aside0.mk (blk_new w (.cells #[.int .i64 5, .int .i64 rd, .int .i64 s1, .int .i64 s2, .int .i64 imm] 42))
  have x0 := blk_cell HX.out 0
  have x1 := blk_cell HX.out 1
  simp only [List.getElem?_toArray, List.getElem?_cons_zero, List.getElem?_cons_succ] at x0 x1
  have HM := Aside0.mk (h.below HB.out)
  have HP := Aside0.mk hp
  clear h hp
  go_enter Tryz.func93, Tryz.ntmps93
  go_wp2_with fail
  refine (set_ g v rd (a ||| k) _ HM.out hrd).mono ?_
  rintro e w3 ⟨rfl, hm, ho⟩
  have HM3 := Aside0.mk (show MB 76 41 w3 g (reg v rd (a ||| k)) from hm)
  have HO3 := Aside0.mk (((Only.refl g w).below HB.out).then_ ho)
  have c35 := (HM3.out.cell 35 (by omega)).trans (congrArg some ((reg_pc v rd _ hrd).trans HP.out))
  have h4 : IntKind.u64.wrap (U pc + 4) = U (pc + 4#64) := Alu.addU pc 4#64
  clear hm ho x0 x1
  go_wp2
  go_ret2
  exact ⟨rfl, HM3.out, HO3.out⟩
set_option maxRecDepth 20000 in
set_option maxHeartbeats 1000000 in
theorem one_4 (g : Nat) (v : Nat → Value) (rd : Nat) (s1 s2 imm : Int) (pc a k : BitVec 64) (w : World) (h : MB 76 41 w g v) (hp : v 35 = .int .u64 (U pc)) (hrd : rd < 32) :
    Calls Tryz.prog 93 #[.pointer (some ⟨g, 0, none⟩), .agg #[.int .i64 4, .int .i64 rd, .int .i64 s1, .int .i64 s2, .int .i64 imm], .int .u64 (U a), .int .u64 (U k)] w fun e w' => e = .returned (.tuple #[.int .u64 (U (pc + 4#64)), .int .i64 0]) ∧ MB 76 41 w' g (reg v rd (a &&& k)) ∧ Only g w w' := by
  have hf := and_U a k
  have HB := Aside0.mk (below_alloc (Below.refl w.heap.size w) (.cells #[.int .i64 4, .int .i64 rd, .int .i64 s1, .int .i64 s2, .int .i64 imm] 42))
  have HX := Aside0.mk (blk_new w (.cells #[.int .i64 4, .int .i64 rd, .int .i64 s1, .int .i64 s2, .int .i64 imm] 42))
  have x0 := blk_cell HX.out 0
  have x1 := blk_cell HX.out 1
  simp only [List.getElem?_toArray, List.getElem?_cons_zero, List.getElem?_cons_succ] at x0 x1
  have HM := Aside0.mk (h.below HB.out)
  have HP := Aside0.mk hp
  clear h hp
  go_enter Tryz.func93, Tryz.ntmps93
  go_wp2_with fail
  refine (set_ g v rd (a &&& k) _ HM.out hrd).mono ?_
  rintro e w3 ⟨rfl, hm, ho⟩
  have HM3 := Aside0.mk (show MB 76 41 w3 g (reg v rd (a &&& k)) from hm)
  have HO3 := Aside0.mk (((Only.refl g w).below HB.out).then_ ho)
  have c35 := (HM3.out.cell 35 (by omega)).trans (congrArg some ((reg_pc v rd _ hrd).trans HP.out))
  have h4 : IntKind.u64.wrap (U pc + 4) = U (pc + 4#64) := Alu.addU pc 4#64
  clear hm ho x0 x1
  go_wp2
  go_ret2
  exact ⟨rfl, HM3.out, HO3.out⟩
set_option maxRecDepth 20000 in
set_option maxHeartbeats 1000000 in
theorem one_3 (g : Nat) (v : Nat → Value) (rd : Nat) (s1 s2 imm : Int) (pc a k : BitVec 64) (w : World) (h : MB 76 41 w g v) (hp : v 35 = .int .u64 (U pc)) (hrd : rd < 32) :
    Calls Tryz.prog 93 #[.pointer (some ⟨g, 0, none⟩), .agg #[.int .i64 3, .int .i64 rd, .int .i64 s1, .int .i64 s2, .int .i64 imm], .int .u64 (U a), .int .u64 (U k)] w fun e w' => e = .returned (.tuple #[.int .u64 (U (pc + 4#64)), .int .i64 0]) ∧ MB 76 41 w' g (reg v rd (Alu.s32 (a + k))) ∧ Only g w w' := by
  have hf := Alu.addU a k
  have HB := Aside0.mk (below_alloc (Below.refl w.heap.size w) (.cells #[.int .i64 3, .int .i64 rd, .int .i64 s1, .int .i64 s2, .int .i64 imm] 42))
  have HX := Aside0.mk (blk_new w (.cells #[.int .i64 3, .int .i64 rd, .int .i64 s1, .int .i64 s2, .int .i64 imm] 42))
  have x0 := blk_cell HX.out 0
  have x1 := blk_cell HX.out 1
  simp only [List.getElem?_toArray, List.getElem?_cons_zero, List.getElem?_cons_succ] at x0 x1
  have HM := Aside0.mk (h.below HB.out)
  have HP := Aside0.mk hp
  clear h hp
  go_enter Tryz.func93, Tryz.ntmps93
  go_wp2_with fail
  refine (short_at (a + k) _).mono ?_
  rintro e w2 ⟨rfl, hb⟩
  have HB2 := Aside0.mk (below_step HB.out hb)
  have HM2 := Aside0.mk (HM.out.below hb)
  have HX2 := blk_below HX.out hb
  have y1 := blk_cell HX2 1
  simp only [List.getElem?_toArray, List.getElem?_cons_zero, List.getElem?_cons_succ] at y1
  clear x0 x1 HX hb HM HB HX2
  have HM := HM2
  have HB := HB2
  clear HM2 HB2 hf
  go_wp2_with fail
  refine (set_ g v rd (Alu.s32 (a + k)) _ HM.out hrd).mono ?_
  rintro e w3 ⟨rfl, hm, ho⟩
  have HM3 := Aside0.mk (show MB 76 41 w3 g (reg v rd (Alu.s32 (a + k))) from hm)
  have HO3 := Aside0.mk (((Only.refl g w).below HB.out).then_ ho)
  have c35 := (HM3.out.cell 35 (by omega)).trans (congrArg some ((reg_pc v rd _ hrd).trans HP.out))
  have h4 : IntKind.u64.wrap (U pc + 4) = U (pc + 4#64) := Alu.addU pc 4#64
  clear hm ho y1
  go_wp2
  go_ret2
  exact ⟨rfl, HM3.out, HO3.out⟩
set_option maxRecDepth 20000 in
set_option maxHeartbeats 1000000 in
theorem one_7 (g : Nat) (v : Nat → Value) (rd : Nat) (s1 s2 imm : Int) (pc a k : BitVec 64) (w : World) (h : MB 76 41 w g v) (hp : v 35 = .int .u64 (U pc)) (hrd : rd < 32) :
    Calls Tryz.prog 93 #[.pointer (some ⟨g, 0, none⟩), .agg #[.int .i64 7, .int .i64 rd, .int .i64 s1, .int .i64 s2, .int .i64 imm], .int .u64 (U a), .int .u64 (U k)] w fun e w' => e = .returned (.tuple #[.int .u64 (U (pc + 4#64)), .int .i64 0]) ∧ MB 76 41 w' g (reg v rd (a <<< k.toNat)) ∧ Only g w w' := by
  have hf := Alu.shlU a k
  have hm0 := U_nonneg k
  have HB := Aside0.mk (below_alloc (Below.refl w.heap.size w) (.cells #[.int .i64 7, .int .i64 rd, .int .i64 s1, .int .i64 s2, .int .i64 imm] 42))
  have HX := Aside0.mk (blk_new w (.cells #[.int .i64 7, .int .i64 rd, .int .i64 s1, .int .i64 s2, .int .i64 imm] 42))
  have x0 := blk_cell HX.out 0
  have x1 := blk_cell HX.out 1
  simp only [List.getElem?_toArray, List.getElem?_cons_zero, List.getElem?_cons_succ] at x0 x1
  have HM := Aside0.mk (h.below HB.out)
  have HP := Aside0.mk hp
  clear h hp
  go_enter Tryz.func93, Tryz.ntmps93
  go_wp2_with fail
  refine (set_ g v rd (a <<< k.toNat) _ HM.out hrd).mono ?_
  rintro e w3 ⟨rfl, hm, ho⟩
  have HM3 := Aside0.mk (show MB 76 41 w3 g (reg v rd (a <<< k.toNat)) from hm)
  have HO3 := Aside0.mk (((Only.refl g w).below HB.out).then_ ho)
  have c35 := (HM3.out.cell 35 (by omega)).trans (congrArg some ((reg_pc v rd _ hrd).trans HP.out))
  have h4 : IntKind.u64.wrap (U pc + 4) = U (pc + 4#64) := Alu.addU pc 4#64
  clear hm ho x0 x1
  go_wp2
  go_ret2
  exact ⟨rfl, HM3.out, HO3.out⟩
set_option maxRecDepth 20000 in
set_option maxHeartbeats 1000000 in
theorem one_8 (g : Nat) (v : Nat → Value) (rd : Nat) (s1 s2 imm : Int) (pc a k : BitVec 64) (w : World) (h : MB 76 41 w g v) (hp : v 35 = .int .u64 (U pc)) (hrd : rd < 32) :
    Calls Tryz.prog 93 #[.pointer (some ⟨g, 0, none⟩), .agg #[.int .i64 8, .int .i64 rd, .int .i64 s1, .int .i64 s2, .int .i64 imm], .int .u64 (U a), .int .u64 (U k)] w fun e w' => e = .returned (.tuple #[.int .u64 (U (pc + 4#64)), .int .i64 0]) ∧ MB 76 41 w' g (reg v rd (a >>> k.toNat)) ∧ Only g w w' := by
  have hf := Alu.shrU a k
  have hm0 := U_nonneg k
  have HB := Aside0.mk (below_alloc (Below.refl w.heap.size w) (.cells #[.int .i64 8, .int .i64 rd, .int .i64 s1, .int .i64 s2, .int .i64 imm] 42))
  have HX := Aside0.mk (blk_new w (.cells #[.int .i64 8, .int .i64 rd, .int .i64 s1, .int .i64 s2, .int .i64 imm] 42))
  have x0 := blk_cell HX.out 0
  have x1 := blk_cell HX.out 1
  simp only [List.getElem?_toArray, List.getElem?_cons_zero, List.getElem?_cons_succ] at x0 x1
  have HM := Aside0.mk (h.below HB.out)
  have HP := Aside0.mk hp
  clear h hp
  go_enter Tryz.func93, Tryz.ntmps93
  go_wp2_with fail
  refine (set_ g v rd (a >>> k.toNat) _ HM.out hrd).mono ?_
  rintro e w3 ⟨rfl, hm, ho⟩
  have HM3 := Aside0.mk (show MB 76 41 w3 g (reg v rd (a >>> k.toNat)) from hm)
  have HO3 := Aside0.mk (((Only.refl g w).below HB.out).then_ ho)
  have c35 := (HM3.out.cell 35 (by omega)).trans (congrArg some ((reg_pc v rd _ hrd).trans HP.out))
  have h4 : IntKind.u64.wrap (U pc + 4) = U (pc + 4#64) := Alu.addU pc 4#64
  clear hm ho x0 x1
  go_wp2
  go_ret2
  exact ⟨rfl, HM3.out, HO3.out⟩
set_option maxRecDepth 20000 in
set_option maxHeartbeats 1000000 in
theorem one_9 (g : Nat) (v : Nat → Value) (rd : Nat) (s1 s2 imm : Int) (pc a k : BitVec 64) (w : World) (h : MB 76 41 w g v) (hp : v 35 = .int .u64 (U pc)) (hrd : rd < 32) :
    Calls Tryz.prog 93 #[.pointer (some ⟨g, 0, none⟩), .agg #[.int .i64 9, .int .i64 rd, .int .i64 s1, .int .i64 s2, .int .i64 imm], .int .u64 (U a), .int .u64 (U k)] w fun e w' => e = .returned (.tuple #[.int .u64 (U (pc + 4#64)), .int .i64 0]) ∧ MB 76 41 w' g (reg v rd (Alu.s32 (a <<< k.toNat))) ∧ Only g w w' := by
  have hf := Alu.shlU a k
  have hm0 := U_nonneg k
  have HB := Aside0.mk (below_alloc (Below.refl w.heap.size w) (.cells #[.int .i64 9, .int .i64 rd, .int .i64 s1, .int .i64 s2, .int .i64 imm] 42))
  have HX := Aside0.mk (blk_new w (.cells #[.int .i64 9, .int .i64 rd, .int .i64 s1, .int .i64 s2, .int .i64 imm] 42))
  have x0 := blk_cell HX.out 0
  have x1 := blk_cell HX.out 1
  simp only [List.getElem?_toArray, List.getElem?_cons_zero, List.getElem?_cons_succ] at x0 x1
  have HM := Aside0.mk (h.below HB.out)
  have HP := Aside0.mk hp
  clear h hp
  go_enter Tryz.func93, Tryz.ntmps93
  go_wp2_with fail
  refine (short_at (a <<< k.toNat) _).mono ?_
  rintro e w2 ⟨rfl, hb⟩
  have HB2 := Aside0.mk (below_step HB.out hb)
  have HM2 := Aside0.mk (HM.out.below hb)
  have HX2 := blk_below HX.out hb
  have y1 := blk_cell HX2 1
  simp only [List.getElem?_toArray, List.getElem?_cons_zero, List.getElem?_cons_succ] at y1
  clear x0 x1 HX hb HM HB HX2
  have HM := HM2
  have HB := HB2
  clear HM2 HB2 hf
  go_wp2_with fail
  refine (set_ g v rd (Alu.s32 (a <<< k.toNat)) _ HM.out hrd).mono ?_
  rintro e w3 ⟨rfl, hm, ho⟩
  have HM3 := Aside0.mk (show MB 76 41 w3 g (reg v rd (Alu.s32 (a <<< k.toNat))) from hm)
  have HO3 := Aside0.mk (((Only.refl g w).below HB.out).then_ ho)
  have c35 := (HM3.out.cell 35 (by omega)).trans (congrArg some ((reg_pc v rd _ hrd).trans HP.out))
  have h4 : IntKind.u64.wrap (U pc + 4) = U (pc + 4#64) := Alu.addU pc 4#64
  clear hm ho y1
  go_wp2
  go_ret2
  exact ⟨rfl, HM3.out, HO3.out⟩
set_option maxRecDepth 20000 in
set_option maxHeartbeats 1000000 in
theorem one_10 (g : Nat) (v : Nat → Value) (rd : Nat) (s1 s2 imm : Int) (pc a k : BitVec 64) (w : World) (h : MB 76 41 w g v) (hp : v 35 = .int .u64 (U pc)) (hrd : rd < 32) :
    Calls Tryz.prog 93 #[.pointer (some ⟨g, 0, none⟩), .agg #[.int .i64 10, .int .i64 rd, .int .i64 s1, .int .i64 s2, .int .i64 imm], .int .u64 (U a), .int .u64 (U k)] w fun e w' => e = .returned (.tuple #[.int .u64 (U (pc + 4#64)), .int .i64 0]) ∧ MB 76 41 w' g (reg v rd (Alu.s32 (Alu.low a >>> k.toNat))) ∧ Only g w w' := by
  have hf := Alu.shrU (Alu.low a) k
  have hm0 := U_nonneg k
  have hm1 := andlow a
  have HB := Aside0.mk (below_alloc (Below.refl w.heap.size w) (.cells #[.int .i64 10, .int .i64 rd, .int .i64 s1, .int .i64 s2, .int .i64 imm] 42))
  have HX := Aside0.mk (blk_new w (.cells #[.int .i64 10, .int .i64 rd, .int .i64 s1, .int .i64 s2, .int .i64 imm] 42))
  have x0 := blk_cell HX.out 0
  have x1 := blk_cell HX.out 1
  simp only [List.getElem?_toArray, List.getElem?_cons_zero, List.getElem?_cons_succ] at x0 x1
  have HM := Aside0.mk (h.below HB.out)
  have HP := Aside0.mk hp
  clear h hp
  go_enter Tryz.func93, Tryz.ntmps93
  go_wp2_with fail
  refine (short_at (Alu.low a >>> k.toNat) _).mono ?_
  rintro e w2 ⟨rfl, hb⟩
  have HB2 := Aside0.mk (below_step HB.out hb)
  have HM2 := Aside0.mk (HM.out.below hb)
  have HX2 := blk_below HX.out hb
  have y1 := blk_cell HX2 1
  simp only [List.getElem?_toArray, List.getElem?_cons_zero, List.getElem?_cons_succ] at y1
  clear x0 x1 HX hb HM HB HX2
  have HM := HM2
  have HB := HB2
  clear HM2 HB2 hf
  go_wp2_with fail
  refine (set_ g v rd (Alu.s32 (Alu.low a >>> k.toNat)) _ HM.out hrd).mono ?_
  rintro e w3 ⟨rfl, hm, ho⟩
  have HM3 := Aside0.mk (show MB 76 41 w3 g (reg v rd (Alu.s32 (Alu.low a >>> k.toNat))) from hm)
  have HO3 := Aside0.mk (((Only.refl g w).below HB.out).then_ ho)
  have c35 := (HM3.out.cell 35 (by omega)).trans (congrArg some ((reg_pc v rd _ hrd).trans HP.out))
  have h4 : IntKind.u64.wrap (U pc + 4) = U (pc + 4#64) := Alu.addU pc 4#64
  clear hm ho y1
  go_wp2
  go_ret2
  exact ⟨rfl, HM3.out, HO3.out⟩
end Go.Proofs.YtcgkgaibomcheaaGreat.ROne
end

section
/- The document's 'one', at the loads and at jalr. Conditions: the machine's block is there; what load answers. -/
namespace Go.Proofs.YtcgkgaibomcheaaGreat.ROne2
open Go.RowKit Go.Proofs.YtcgkgaibomcheaaGreat.Bits Go.Proofs.YtcgkgaibomcheaaGreat.Mb Go.Proofs.YtcgkgaibomcheaaGreat.Ends Go.Proofs.YtcgkgaibomcheaaGreat.RTwo Go.Proofs.YtcgkgaibomcheaaGreat.ROne Go.Proofs.YtcgkgaibomcheaaGreat.PRvemuRuns Go.Proofs.YtcgkgaibomcheaaGreatW.PrintWords Go.Proofs.YtcgkgaibomcheaaGreatW.PrintLast Go.Proofs.YtcgkgaibomcheaaGreatW.PrintMore
set_option linter.unusedVariables false
set_option linter.unusedSimpArgs false

end Go.Proofs.YtcgkgaibomcheaaGreat.ROne2
end

section
/- The document's table, looked up. Conditions: the operation is one of the 34. -/
namespace Go.Proofs.YtcgkgaibomcheaaGreat.Find
open Go.RowKit Go.Proofs.YtcgkgaibomcheaaGreat.PRvemuRuns Go.Proofs.YtcgkgaibomcheaaGreatW.PrintWords Go.Proofs.YtcgkgaibomcheaaGreatW.PrintLast Go.Proofs.YtcgkgaibomcheaaGreatW.PrintMore
set_option linter.unusedVariables false
set_option linter.unusedSimpArgs false

/-- An operation's row. -/
def rowOf (op : Nat) : S59 := (rowsL.find? fun r => r.f0 == (op : Int)).getD z59
set_option maxRecDepth 20000 in
theorem find_eq : ∀ op : Fin 34, ravelinref15_Find.f 40 ((op.1 + 1 : Nat) : Int) = some ((rowOf (op.1 + 1)).f0, (rowOf (op.1 + 1)).f1, (rowOf (op.1 + 1)).f2, (rowOf (op.1 + 1)).f3, (rowOf (op.1 + 1)).f4, (rowOf (op.1 + 1)).f5, true) := by
  intro i
  rcases i with ⟨i, hi⟩
  rcases i with _ | _ | _ | _ | _ | _ | _ | _ | _ | _ | _ | _ | _ | _ | _ | _ | _ | _ | _ | _ | _ | _ | _ | _ | _ | _ | _ | _ | _ | _ | _ | _ | _ | _ | i
  · kernel_rfl
  · kernel_rfl
  · kernel_rfl
  · kernel_rfl
  · kernel_rfl
  · kernel_rfl
  · kernel_rfl
  · kernel_rfl
  · kernel_rfl
  · kernel_rfl
  · kernel_rfl
  · kernel_rfl
  · kernel_rfl
  · kernel_rfl
  · kernel_rfl
  · kernel_rfl
  · kernel_rfl
  · kernel_rfl
  · kernel_rfl
  · kernel_rfl
  · kernel_rfl
  · kernel_rfl
  · kernel_rfl
  · kernel_rfl
  · kernel_rfl
  · kernel_rfl
  · kernel_rfl
  · kernel_rfl
  · kernel_rfl
  · kernel_rfl
  · kernel_rfl
  · kernel_rfl
  · kernel_rfl
  · kernel_rfl
  · exact absurd hi (by omega)
end Go.Proofs.YtcgkgaibomcheaaGreat.Find
end

section
/- The document's 'does'. Conditions: those of each theorem. -/
namespace Go.Proofs.YtcgkgaibomcheaaGreat.RDoes
open Go.RowKit Go.Proofs.YtcgkgaibomcheaaGreat.Bits Go.Proofs.YtcgkgaibomcheaaGreat.Mb Go.Proofs.YtcgkgaibomcheaaGreat.Ends Go.Proofs.YtcgkgaibomcheaaGreat.RTwo Go.Proofs.YtcgkgaibomcheaaGreat.ROne Go.Proofs.YtcgkgaibomcheaaGreat.PRvemuRuns Go.Proofs.YtcgkgaibomcheaaGreatW.PrintWords Go.Proofs.YtcgkgaibomcheaaGreatW.PrintLast Go.Proofs.YtcgkgaibomcheaaGreatW.PrintMore
set_option linter.unusedVariables false
set_option linter.unusedSimpArgs false

/-- What 'does' leaves, at an operation with two registers. -/
def RPost (t : Option (BitVec 64)) (g : Nat) (v : Nat → Value) (rd : Nat) (pc : BitVec 64) (w : World) (e : Ending) (w' : World) : Prop :=
  match t with
  | some r => e = .returned (.tuple #[.int .u64 (U (pc + 4#64)), .int .i64 0]) ∧ MB 76 41 w' g (reg v rd r) ∧ Only g w w'
  | none => e = .returned (.tuple #[.int .u64 0, .int .i64 8]) ∧ MB 76 41 w' g v ∧ Only g w w'
end Go.Proofs.YtcgkgaibomcheaaGreat.RDoes
end

section
/- The document's 'does' at branches. Conditions: those of each theorem. -/
namespace Go.Proofs.YtcgkgaibomcheaaGreat.RDoes2
open Go.RowKit Go.Proofs.YtcgkgaibomcheaaGreat.Bits Go.Proofs.YtcgkgaibomcheaaGreat.Mb Go.Proofs.YtcgkgaibomcheaaGreat.Ends Go.Proofs.YtcgkgaibomcheaaGreat.RTwo Go.Proofs.YtcgkgaibomcheaaGreat.ROne Go.Proofs.YtcgkgaibomcheaaGreat.PRvemuRuns Go.Proofs.YtcgkgaibomcheaaGreatW.PrintWords Go.Proofs.YtcgkgaibomcheaaGreatW.PrintLast Go.Proofs.YtcgkgaibomcheaaGreatW.PrintMore
set_option linter.unusedVariables false
set_option linter.unusedSimpArgs false

/-- The place behind a branch. -/
def nextPc (q : Bool) (pc k : BitVec 64) : BitVec 64 := if q = true then pc + k else pc + 4#64
end Go.Proofs.YtcgkgaibomcheaaGreat.RDoes2
end

section
/- The machine in plain numbers: what a step does. No memory here. -/
namespace Go.Proofs.YtcgkgaibomcheaaGreat.Mac
open Go.RowKit Go.Proofs.YtcgkgaibomcheaaGreat.Bits Go.Proofs.YtcgkgaibomcheaaGreat.Dec Go.Proofs.YtcgkgaibomcheaaGreat.Alu Go.Proofs.YtcgkgaibomcheaaGreat.PRvemuRuns Go.Proofs.YtcgkgaibomcheaaGreatW.PrintWords
set_option linter.unusedVariables false
set_option linter.unusedSimpArgs false

structure Mac where
  code : List Int
  data : List Int
  frame : List Int
  x : Nat → BitVec 64
  pc : BitVec 64
  fuel : Int
  steps : Int
  done : Bool
  err : Int
  tr : List S54
/-- A register. -/
def setx (m : Mac) (rd : Nat) (r : BitVec 64) : Mac := if rd = 0 then m else { m with x := fun i => if i = rd then r else m.x i }
def setpc (m : Mac) (pc : BitVec 64) : Mac := { m with pc := pc }
def note (m : Mac) (e : S54) : Mac := { m with tr := m.tr ++ [e] }
def setf (m : Mac) (l : List Int) : Mac := { m with frame := l }
def fin (m : Mac) (e : Int) : Mac := { m with done := true, err := e }
def fr (L : Nat) (a : Int) (n : Nat) : Bool := decide (2147418112 - (L : Int) ≤ a ∧ a + n ≤ 2147418112)
def da (a : Int) (n : Nat) : Bool := decide (65536 ≤ a ∧ a + n ≤ 65600)
/-- The bytes at an address. -/
def loads (m : Mac) (a : BitVec 64) (n : Nat) : Option (BitVec 64) :=
  if fr m.frame.length (U a) n = true then some (ld m.frame (U a - (2147418112 - (m.frame.length : Int))).toNat n) else if da (U a) n = true then some (ld m.data (U a - 65536).toNat n) else none
/-- The value of an operation with one register and an immediate. -/
def oneV (n : Nat) (a k : BitVec 64) : BitVec 64 :=
  if n = 1 then s32 (k <<< 12) else if n = 2 then a + k else if n = 3 then s32 (a + k) else if n = 4 then a &&& k else if n = 5 then a ||| k else if n = 6 then a ^^^ k else
  if n = 7 then a <<< k.toNat else if n = 8 then a >>> k.toNat else if n = 9 then s32 (a <<< k.toNat) else s32 (low a >>> k.toNat)
def sz (n : Nat) : Nat := if n = 11 ∨ n = 14 then 8 else 4
def ra (m : Mac) (n wd : Nat) : BitVec 64 := m.x (fs1Of n wd)
def rb (m : Mac) (n wd : Nat) : BitVec 64 := m.x (fs2Of n wd)
def im (n wd : Nat) : BitVec 64 := BitVec.ofInt 64 (immOf (formOf n) wd)
/-- An instruction: the machine behind it, the error. -/
def does (m : Mac) (n wd : Nat) : Mac × Int :=
  if n ≤ 10 then (setx (setpc m (m.pc + 4#64)) (fdOf n wd) (oneV n (ra m n wd) (im n wd)), 0)
  else if n ≤ 13 then (match loads m (ra m n wd + im n wd) (sz n) with
    | none => (m, 6)
    | some v => (setx (note (setpc m (m.pc + 4#64)) ⟨false, U (ra m n wd + im n wd), sz n⟩) (fdOf n wd) (if n = 12 then s32 v else v), 0))
  else if n ≤ 15 then (if fr m.frame.length (U (ra m n wd + im n wd)) (sz n) = true then
      (note (setf (setpc m (m.pc + 4#64)) (st m.frame (U (ra m n wd + im n wd) - (2147418112 - (m.frame.length : Int))).toNat (rb m n wd) (sz n))) ⟨true, U (ra m n wd + im n wd), sz n⟩, 0)
    else (m, 7))
  else if n ≤ 28 then (match RTwo.two n (ra m n wd) (rb m n wd) with
    | none => (m, 8)
    | some v => (setx (setpc m (m.pc + 4#64)) (fdOf n wd) v, 0))
  else if n ≤ 32 then (setpc m (RDoes2.nextPc (RTwo.ask n (ra m n wd) (rb m n wd)) m.pc (im n wd)), 0)
  else if n = 33 then (setx (setpc m (m.pc + im n wd)) (fdOf n wd) (m.pc + 4#64), 0)
  else (setx (setpc m ((ra m n wd + im n wd) &&& ~~~1#64)) (fdOf n wd) (m.pc + 4#64), 0)
/-- May an instruction be fetched? -/
def fetches (m : Mac) : Bool := decide (m.pc.toNat % 4 = 0 ∧ 4194304 ≤ m.pc.toNat ∧ m.pc.toNat - 4194304 + 4 ≤ m.code.length)
def word (m : Mac) : Nat := (ld m.code (m.pc.toNat - 4194304) 4).toNat
def back : BitVec 64 := 412316860416#64
/-- Behind an instruction. -/
def after (m : Mac) : Mac := { m with steps := m.steps + 1, done := decide (m.pc = back) }
/-- A step. -/
def stepM (m : Mac) : Mac :=
  if m.done = true then m
  else if m.pc = back then fin m 0
  else if m.fuel ≤ m.steps then fin m 3
  else if fetches m = false then fin m 4
  else match dec (word m) with
    | none => fin m 5
    | some n => if (does m n (word m)).2 = 0 then after (does m n (word m)).1 else fin m (does m n (word m)).2
end Go.Proofs.YtcgkgaibomcheaaGreat.Mac
end

section
/- The machine's 'region': the bytes of the memory, where they lie. Conditions: the machine's block and slices are there. -/
namespace Go.Proofs.YtcgkgaibomcheaaGreat.Reg
open Go.RowKit Go.Proofs.YtcgkgaibomcheaaGreat.Bits Go.Proofs.YtcgkgaibomcheaaGreat.Mb Go.Proofs.YtcgkgaibomcheaaGreatW.PrintWords Go.Proofs.YtcgkgaibomcheaaGreatW.PrintLast Go.Proofs.YtcgkgaibomcheaaGreatW.PrintMore
set_option linter.unusedVariables false
set_option linter.unusedSimpArgs false

def inFrame (L : Nat) (a : Int) (n : Nat) : Prop := 2147418112 - (L : Int) ≤ a ∧ a + n ≤ 2147418112
def inData (a : Int) (n : Nat) : Prop := 65536 ≤ a ∧ a + n ≤ 65600
theorem info5 : (Tryz.prog.info? 5).map (fun i => i.size) = some 1 := by kernel_rfl
theorem cut (gf c L : Nat) (lo hi : Int) (h0 : 0 ≤ lo) (h1 : lo < hi) (h2 : hi ≤ L) (hc : L ≤ c) (W : World) :
    (Instr.slice 22 (.slice (some ⟨gf, 0, none⟩) L c) (some (.int .u64 lo)) (some (.int .u64 hi)) none).run Tryz.prog W = .ok (.slice (some ⟨gf, lo.toNat, none⟩) (hi.toNat - lo.toNat) (c - lo.toNat)) W := by
  obtain ⟨i, hi', hz⟩ := Option.map_eq_some_iff.1 info5
  have h := cut_mid (P := Tryz.prog) 22 5 .u64 .u64 Tryz.underlying22 hi' 1 hz (some ⟨gf, 0, none⟩) L c lo hi h0 (by omega) h2 hc W
  rw [if_neg (by omega)] at h
  rw [h]
  simp [Addr.add]
  omega
set_option maxRecDepth 20000 in
set_option maxHeartbeats 1000000 in
theorem frame (g : Nat) (v : Nat → Value) (gf cf L : Nat) (a : Int) (n : Nat) (wr : Bool) (w : World) (h : MB 74 42 w g v) (h2 : v 2 = .slice (some ⟨gf, 0, none⟩) L cf) (hL : L ≤ 1048576) (hc : L ≤ cf) (hn1 : 1 ≤ n) (hn8 : n ≤ 8) (hin : inFrame L a n) :
    Calls Tryz.prog 110 #[.pointer (some ⟨g, 0, none⟩), .int .u64 a, .int .i64 n, .bool wr] w fun e w' => e = .returned (.slice (some ⟨gf, (a - (2147418112 - (L : Int))).toNat, none⟩) n (cf - (a - (2147418112 - (L : Int))).toNat)) ∧ w' = w := by
  obtain ⟨hi1, hi2⟩ := hin
  have hc2 := (h.cell 2 (by omega)).trans (congrArg some h2)
  have hs := cut gf cf L (a - (2147418112 - (L : Int))) (a - (2147418112 - (L : Int)) + n) (by omega) (by omega) (by omega) hc w
  rw [show (a - (2147418112 - (L : Int)) + n).toNat - (a - (2147418112 - (L : Int))).toNat = n by omega] at hs
  have w1 : IntKind.u64.wrap (L : Int) = (L : Int) := by simp only [IntKind.wrap, IntKind.bits, IntKind.signed, Bool.false_and, Bool.false_eq_true, if_false]; omega
  have w2 : IntKind.u64.wrap (2147418112 - (L : Int)) = 2147418112 - (L : Int) := by simp only [IntKind.wrap, IntKind.bits, IntKind.signed, Bool.false_and, Bool.false_eq_true, if_false]; omega
  have w3 : IntKind.u64.wrap (a - (2147418112 - (L : Int))) = a - (2147418112 - (L : Int)) := by simp only [IntKind.wrap, IntKind.bits, IntKind.signed, Bool.false_and, Bool.false_eq_true, if_false]; omega
  have w4 : IntKind.u64.wrap (n : Int) = (n : Int) := by simp only [IntKind.wrap, IntKind.bits, IntKind.signed, Bool.false_and, Bool.false_eq_true, if_false]; omega
  have w5 : IntKind.u64.wrap (a - (2147418112 - (L : Int)) + n) = a - (2147418112 - (L : Int)) + n := by simp only [IntKind.wrap, IntKind.bits, IntKind.signed, Bool.false_and, Bool.false_eq_true, if_false]; omega
  have d1 : decide (a ≥ 2147418112 - (L : Int)) = true := decide_eq_true (by omega)
  have d2 : decide (a - (2147418112 - (L : Int)) + n ≤ (L : Int)) = true := decide_eq_true (by omega)
  have d3 : decide (a - (2147418112 - (L : Int)) ≤ (L : Int)) = true := decide_eq_true (by omega)
  clear h h2 hi1 hi2
  obtain ⟨B, hB⟩ : ∃ B : Int, 2147418112 - (L : Int) = B := ⟨_, rfl⟩
  rw [hB] at w2 w3 w5 d1 d2 d3 hs ⊢
  obtain ⟨I, hI⟩ : ∃ I : Int, a - B = I := ⟨_, rfl⟩
  rw [hI] at w3 w5 d2 d3 hs ⊢
  obtain ⟨J, hJ⟩ : ∃ J : Int, I + n = J := ⟨_, rfl⟩
  rw [hJ] at w5 d2 hs
  go_enter Tryz.func110, Tryz.ntmps110
  go_wp2
  go_ret
  exact ⟨rfl, rfl⟩
set_option maxRecDepth 20000 in
set_option maxHeartbeats 1000000 in
theorem data (g : Nat) (v : Nat → Value) (Af : Option Addr) (cf L : Nat) (gd cd : Nat) (a : Int) (n : Nat) (w : World) (h : MB 74 42 w g v) (h1 : v 1 = .slice (some ⟨gd, 0, none⟩) 64 cd) (h2 : v 2 = .slice Af L cf) (hL : L ≤ 1048576) (hcd : 64 ≤ cd) (h0 : 0 ≤ a) (ha : a < 18446744073709551616) (hn1 : 1 ≤ n) (hn8 : n ≤ 8) (hnf : a < 2147418112 - (L : Int)) (hin : inData a n) :
    Calls Tryz.prog 110 #[.pointer (some ⟨g, 0, none⟩), .int .u64 a, .int .i64 n, .bool false] w fun e w' => e = .returned (.slice (some ⟨gd, (a - 65536).toNat, none⟩) n (cd - (a - 65536).toNat)) ∧ w' = w := by
  have hc1 := (h.cell 1 (by omega)).trans (congrArg some h1)
  have hc2 := (h.cell 2 (by omega)).trans (congrArg some h2)
  have w1 : IntKind.u64.wrap (L : Int) = (L : Int) := by simp only [IntKind.wrap, IntKind.bits, IntKind.signed, Bool.false_and, Bool.false_eq_true, if_false]; omega
  have w2 : IntKind.u64.wrap (2147418112 - (L : Int)) = 2147418112 - (L : Int) := by simp only [IntKind.wrap, IntKind.bits, IntKind.signed, Bool.false_and, Bool.false_eq_true, if_false]; omega
  have w4 : IntKind.u64.wrap (n : Int) = (n : Int) := by simp only [IntKind.wrap, IntKind.bits, IntKind.signed, Bool.false_and, Bool.false_eq_true, if_false]; omega
  obtain ⟨hi1, hi2⟩ := hin
  have hs := cut gd cd 64 (a - 65536) (a - 65536 + n) (by omega) (by omega) (by omega) hcd w
  rw [show (a - 65536 + n).toNat - (a - 65536).toNat = n by omega] at hs
  have w3 : IntKind.u64.wrap (a - 65536) = a - 65536 := by simp only [IntKind.wrap, IntKind.bits, IntKind.signed, Bool.false_and, Bool.false_eq_true, if_false]; omega
  have w5 : IntKind.u64.wrap (a - 65536 + n) = a - 65536 + n := by simp only [IntKind.wrap, IntKind.bits, IntKind.signed, Bool.false_and, Bool.false_eq_true, if_false]; omega
  have d1 : decide (a ≥ 2147418112 - (L : Int)) = false := decide_eq_false (by omega)
  have d4 : decide (a ≥ 65536) = true := decide_eq_true (by omega)
  have d5 : decide (a - 65536 ≤ 64) = true := decide_eq_true (by omega)
  have d6 : decide (a - 65536 + n ≤ 64) = true := decide_eq_true (by omega)
  clear h h1 h2 hi1 hi2 hnf
  obtain ⟨B, hB⟩ : ∃ B : Int, 2147418112 - (L : Int) = B := ⟨_, rfl⟩
  rw [hB] at w2 d1
  obtain ⟨I, hI⟩ : ∃ I : Int, a - 65536 = I := ⟨_, rfl⟩
  rw [hI] at w3 w5 d5 d6 hs ⊢
  obtain ⟨J, hJ⟩ : ∃ J : Int, I + n = J := ⟨_, rfl⟩
  rw [hJ] at w5 d6 hs
  go_enter Tryz.func110, Tryz.ntmps110
  go_wp2
  go_ret
  exact ⟨rfl, rfl⟩
set_option maxRecDepth 20000 in
set_option maxHeartbeats 1000000 in
theorem above_r (g : Nat) (v : Nat → Value) (Af : Option Addr) (cf L : Nat) (gd cd : Nat) (a : Int) (n : Nat) (w : World) (h : MB 74 42 w g v) (h1 : v 1 = .slice (some ⟨gd, 0, none⟩) 64 cd) (h2 : v 2 = .slice Af L cf) (hL : L ≤ 1048576) (hcd : 64 ≤ cd) (h0 : 0 ≤ a) (ha : a < 18446744073709551616) (hn1 : 1 ≤ n) (hn8 : n ≤ 8) (hge : 2147418112 - (L : Int) ≤ a) (hgt : 2147418112 < a + n) :
    Calls Tryz.prog 110 #[.pointer (some ⟨g, 0, none⟩), .int .u64 a, .int .i64 n, .bool false] w fun e w' => e = .returned (.slice none 0 0) ∧ w' = w := by
  have hc1 := (h.cell 1 (by omega)).trans (congrArg some h1)
  have hc2 := (h.cell 2 (by omega)).trans (congrArg some h2)
  have w1 : IntKind.u64.wrap (L : Int) = (L : Int) := by simp only [IntKind.wrap, IntKind.bits, IntKind.signed, Bool.false_and, Bool.false_eq_true, if_false]; omega
  have w2 : IntKind.u64.wrap (2147418112 - (L : Int)) = 2147418112 - (L : Int) := by simp only [IntKind.wrap, IntKind.bits, IntKind.signed, Bool.false_and, Bool.false_eq_true, if_false]; omega
  have w4 : IntKind.u64.wrap (n : Int) = (n : Int) := by simp only [IntKind.wrap, IntKind.bits, IntKind.signed, Bool.false_and, Bool.false_eq_true, if_false]; omega
  have w3 : IntKind.u64.wrap (a - (2147418112 - (L : Int))) = a - (2147418112 - (L : Int)) := by simp only [IntKind.wrap, IntKind.bits, IntKind.signed, Bool.false_and, Bool.false_eq_true, if_false]; omega
  have w5 : IntKind.u64.wrap (a - (2147418112 - (L : Int)) + n) = a - (2147418112 - (L : Int)) + n := by simp only [IntKind.wrap, IntKind.bits, IntKind.signed, Bool.false_and, Bool.false_eq_true, if_false]; omega
  have w6 : IntKind.u64.wrap (a - 65536) = a - 65536 := by simp only [IntKind.wrap, IntKind.bits, IntKind.signed, Bool.false_and, Bool.false_eq_true, if_false]; omega
  have d1 : decide (a ≥ 2147418112 - (L : Int)) = true := decide_eq_true (by omega)
  have d2 : decide (a - (2147418112 - (L : Int)) + n ≤ (L : Int)) = false := decide_eq_false (by omega)
  have d4 : decide (a ≥ 65536) = true := decide_eq_true (by omega)
  have d5 : decide (a - 65536 ≤ 64) = false := decide_eq_false (by omega)
  clear h h1 h2 hge hgt
  obtain ⟨B, hB⟩ : ∃ B : Int, 2147418112 - (L : Int) = B := ⟨_, rfl⟩
  rw [hB] at w2 w3 w5 d1 d2
  obtain ⟨I, hI⟩ : ∃ I : Int, a - B = I := ⟨_, rfl⟩
  rw [hI] at w3 w5 d2
  obtain ⟨J, hJ⟩ : ∃ J : Int, I + n = J := ⟨_, rfl⟩
  rw [hJ] at w5 d2
  go_enter Tryz.func110, Tryz.ntmps110
  go_wp2
  go_ret
  exact ⟨rfl, rfl⟩
set_option maxRecDepth 20000 in
set_option maxHeartbeats 1000000 in
theorem above_w (g : Nat) (v : Nat → Value) (Af : Option Addr) (cf L : Nat) (gd cd : Nat) (a : Int) (n : Nat) (w : World) (h : MB 74 42 w g v) (h1 : v 1 = .slice (some ⟨gd, 0, none⟩) 64 cd) (h2 : v 2 = .slice Af L cf) (hL : L ≤ 1048576) (hcd : 64 ≤ cd) (h0 : 0 ≤ a) (ha : a < 18446744073709551616) (hn1 : 1 ≤ n) (hn8 : n ≤ 8) (hge : 2147418112 - (L : Int) ≤ a) (hgt : 2147418112 < a + n) :
    Calls Tryz.prog 110 #[.pointer (some ⟨g, 0, none⟩), .int .u64 a, .int .i64 n, .bool true] w fun e w' => e = .returned (.slice none 0 0) ∧ w' = w := by
  have hc1 := (h.cell 1 (by omega)).trans (congrArg some h1)
  have hc2 := (h.cell 2 (by omega)).trans (congrArg some h2)
  have w1 : IntKind.u64.wrap (L : Int) = (L : Int) := by simp only [IntKind.wrap, IntKind.bits, IntKind.signed, Bool.false_and, Bool.false_eq_true, if_false]; omega
  have w2 : IntKind.u64.wrap (2147418112 - (L : Int)) = 2147418112 - (L : Int) := by simp only [IntKind.wrap, IntKind.bits, IntKind.signed, Bool.false_and, Bool.false_eq_true, if_false]; omega
  have w4 : IntKind.u64.wrap (n : Int) = (n : Int) := by simp only [IntKind.wrap, IntKind.bits, IntKind.signed, Bool.false_and, Bool.false_eq_true, if_false]; omega
  have w3 : IntKind.u64.wrap (a - (2147418112 - (L : Int))) = a - (2147418112 - (L : Int)) := by simp only [IntKind.wrap, IntKind.bits, IntKind.signed, Bool.false_and, Bool.false_eq_true, if_false]; omega
  have w5 : IntKind.u64.wrap (a - (2147418112 - (L : Int)) + n) = a - (2147418112 - (L : Int)) + n := by simp only [IntKind.wrap, IntKind.bits, IntKind.signed, Bool.false_and, Bool.false_eq_true, if_false]; omega
  have w6 : IntKind.u64.wrap (a - 65536) = a - 65536 := by simp only [IntKind.wrap, IntKind.bits, IntKind.signed, Bool.false_and, Bool.false_eq_true, if_false]; omega
  have d1 : decide (a ≥ 2147418112 - (L : Int)) = true := decide_eq_true (by omega)
  have d2 : decide (a - (2147418112 - (L : Int)) + n ≤ (L : Int)) = false := decide_eq_false (by omega)
  have d4 : decide (a ≥ 65536) = true := decide_eq_true (by omega)
  have d5 : decide (a - 65536 ≤ 64) = false := decide_eq_false (by omega)
  clear h h1 h2 hge hgt
  obtain ⟨B, hB⟩ : ∃ B : Int, 2147418112 - (L : Int) = B := ⟨_, rfl⟩
  rw [hB] at w2 w3 w5 d1 d2
  obtain ⟨I, hI⟩ : ∃ I : Int, a - B = I := ⟨_, rfl⟩
  rw [hI] at w3 w5 d2
  obtain ⟨J, hJ⟩ : ∃ J : Int, I + n = J := ⟨_, rfl⟩
  rw [hJ] at w5 d2
  go_enter Tryz.func110, Tryz.ntmps110
  go_wp2
  go_ret
  exact ⟨rfl, rfl⟩
set_option maxRecDepth 20000 in
set_option maxHeartbeats 1000000 in
theorem below_w (g : Nat) (v : Nat → Value) (Af : Option Addr) (cf L : Nat) (gd cd : Nat) (a : Int) (n : Nat) (w : World) (h : MB 74 42 w g v) (h1 : v 1 = .slice (some ⟨gd, 0, none⟩) 64 cd) (h2 : v 2 = .slice Af L cf) (hL : L ≤ 1048576) (hcd : 64 ≤ cd) (h0 : 0 ≤ a) (ha : a < 18446744073709551616) (hn1 : 1 ≤ n) (hn8 : n ≤ 8) (hnf : a < 2147418112 - (L : Int)) :
    Calls Tryz.prog 110 #[.pointer (some ⟨g, 0, none⟩), .int .u64 a, .int .i64 n, .bool true] w fun e w' => e = .returned (.slice none 0 0) ∧ w' = w := by
  have hc1 := (h.cell 1 (by omega)).trans (congrArg some h1)
  have hc2 := (h.cell 2 (by omega)).trans (congrArg some h2)
  have w1 : IntKind.u64.wrap (L : Int) = (L : Int) := by simp only [IntKind.wrap, IntKind.bits, IntKind.signed, Bool.false_and, Bool.false_eq_true, if_false]; omega
  have w2 : IntKind.u64.wrap (2147418112 - (L : Int)) = 2147418112 - (L : Int) := by simp only [IntKind.wrap, IntKind.bits, IntKind.signed, Bool.false_and, Bool.false_eq_true, if_false]; omega
  have w4 : IntKind.u64.wrap (n : Int) = (n : Int) := by simp only [IntKind.wrap, IntKind.bits, IntKind.signed, Bool.false_and, Bool.false_eq_true, if_false]; omega
  have d1 : decide (a ≥ 2147418112 - (L : Int)) = false := decide_eq_false (by omega)
  clear h h1 h2 hnf
  obtain ⟨B, hB⟩ : ∃ B : Int, 2147418112 - (L : Int) = B := ⟨_, rfl⟩
  rw [hB] at w2 d1
  go_enter Tryz.func110, Tryz.ntmps110
  go_wp2
  go_ret
  exact ⟨rfl, rfl⟩
set_option maxRecDepth 20000 in
set_option maxHeartbeats 1000000 in
theorem below_a (g : Nat) (v : Nat → Value) (Af : Option Addr) (cf L : Nat) (gd cd : Nat) (a : Int) (n : Nat) (w : World) (h : MB 74 42 w g v) (h1 : v 1 = .slice (some ⟨gd, 0, none⟩) 64 cd) (h2 : v 2 = .slice Af L cf) (hL : L ≤ 1048576) (hcd : 64 ≤ cd) (h0 : 0 ≤ a) (ha : a < 18446744073709551616) (hn1 : 1 ≤ n) (hn8 : n ≤ 8) (hnf : a < 2147418112 - (L : Int)) (hlo : a < 65536) :
    Calls Tryz.prog 110 #[.pointer (some ⟨g, 0, none⟩), .int .u64 a, .int .i64 n, .bool false] w fun e w' => e = .returned (.slice none 0 0) ∧ w' = w := by
  have hc1 := (h.cell 1 (by omega)).trans (congrArg some h1)
  have hc2 := (h.cell 2 (by omega)).trans (congrArg some h2)
  have w1 : IntKind.u64.wrap (L : Int) = (L : Int) := by simp only [IntKind.wrap, IntKind.bits, IntKind.signed, Bool.false_and, Bool.false_eq_true, if_false]; omega
  have w2 : IntKind.u64.wrap (2147418112 - (L : Int)) = 2147418112 - (L : Int) := by simp only [IntKind.wrap, IntKind.bits, IntKind.signed, Bool.false_and, Bool.false_eq_true, if_false]; omega
  have w4 : IntKind.u64.wrap (n : Int) = (n : Int) := by simp only [IntKind.wrap, IntKind.bits, IntKind.signed, Bool.false_and, Bool.false_eq_true, if_false]; omega
  have d1 : decide (a ≥ 2147418112 - (L : Int)) = false := decide_eq_false (by omega)
  have d4 : decide (a ≥ 65536) = false := decide_eq_false (by omega)
  clear h h1 h2 hnf hlo
  obtain ⟨B, hB⟩ : ∃ B : Int, 2147418112 - (L : Int) = B := ⟨_, rfl⟩
  rw [hB] at w2 d1
  go_enter Tryz.func110, Tryz.ntmps110
  go_wp2
  go_ret
  exact ⟨rfl, rfl⟩
set_option maxRecDepth 20000 in
set_option maxHeartbeats 1000000 in
theorem below_b (g : Nat) (v : Nat → Value) (Af : Option Addr) (cf L : Nat) (gd cd : Nat) (a : Int) (n : Nat) (w : World) (h : MB 74 42 w g v) (h1 : v 1 = .slice (some ⟨gd, 0, none⟩) 64 cd) (h2 : v 2 = .slice Af L cf) (hL : L ≤ 1048576) (hcd : 64 ≤ cd) (h0 : 0 ≤ a) (ha : a < 18446744073709551616) (hn1 : 1 ≤ n) (hn8 : n ≤ 8) (hnf : a < 2147418112 - (L : Int)) (hlo : 65536 ≤ a) (hgt : 65600 < a + n) :
    Calls Tryz.prog 110 #[.pointer (some ⟨g, 0, none⟩), .int .u64 a, .int .i64 n, .bool false] w fun e w' => e = .returned (.slice none 0 0) ∧ w' = w := by
  have hc1 := (h.cell 1 (by omega)).trans (congrArg some h1)
  have hc2 := (h.cell 2 (by omega)).trans (congrArg some h2)
  have w1 : IntKind.u64.wrap (L : Int) = (L : Int) := by simp only [IntKind.wrap, IntKind.bits, IntKind.signed, Bool.false_and, Bool.false_eq_true, if_false]; omega
  have w2 : IntKind.u64.wrap (2147418112 - (L : Int)) = 2147418112 - (L : Int) := by simp only [IntKind.wrap, IntKind.bits, IntKind.signed, Bool.false_and, Bool.false_eq_true, if_false]; omega
  have w4 : IntKind.u64.wrap (n : Int) = (n : Int) := by simp only [IntKind.wrap, IntKind.bits, IntKind.signed, Bool.false_and, Bool.false_eq_true, if_false]; omega
  have w3 : IntKind.u64.wrap (a - 65536) = a - 65536 := by simp only [IntKind.wrap, IntKind.bits, IntKind.signed, Bool.false_and, Bool.false_eq_true, if_false]; omega
  have w5 : IntKind.u64.wrap (a - 65536 + n) = a - 65536 + n := by simp only [IntKind.wrap, IntKind.bits, IntKind.signed, Bool.false_and, Bool.false_eq_true, if_false]; omega
  have d1 : decide (a ≥ 2147418112 - (L : Int)) = false := decide_eq_false (by omega)
  have d4 : decide (a ≥ 65536) = true := decide_eq_true (by omega)
  have d6 : decide (a - 65536 + n ≤ 64) = false := decide_eq_false (by omega)
  clear h h1 h2 hnf hlo hgt
  obtain ⟨B, hB⟩ : ∃ B : Int, 2147418112 - (L : Int) = B := ⟨_, rfl⟩
  rw [hB] at w2 d1
  obtain ⟨I, hI⟩ : ∃ I : Int, a - 65536 = I := ⟨_, rfl⟩
  rw [hI] at w3 w5 d6
  obtain ⟨J, hJ⟩ : ∃ J : Int, I + n = J := ⟨_, rfl⟩
  rw [hJ] at w5 d6
  go_enter Tryz.func110, Tryz.ntmps110
  go_wp2
  all_goals (go_ret; exact ⟨rfl, rfl⟩)
/-- No bytes there. -/
theorem none_ (g : Nat) (v : Nat → Value) (Af : Option Addr) (cf L : Nat) (gd cd : Nat) (a : Int) (n : Nat) (wr : Bool) (w : World) (h : MB 74 42 w g v) (h1 : v 1 = .slice (some ⟨gd, 0, none⟩) 64 cd) (h2 : v 2 = .slice Af L cf) (hL : L ≤ 1048576) (hcd : 64 ≤ cd) (h0 : 0 ≤ a) (ha : a < 18446744073709551616) (hn1 : 1 ≤ n) (hn8 : n ≤ 8) (hf : ¬ inFrame L a n) (hd : wr = true ∨ ¬ inData a n) :
    Calls Tryz.prog 110 #[.pointer (some ⟨g, 0, none⟩), .int .u64 a, .int .i64 n, .bool wr] w fun e w' => e = .returned (.slice none 0 0) ∧ w' = w := by
  unfold inFrame at hf
  unfold inData at hd
  by_cases hge : 2147418112 - (L : Int) ≤ a
  · cases wr
    · exact above_r g v Af cf L gd cd a n w h h1 h2 hL hcd h0 ha hn1 hn8 hge (by omega)
    · exact above_w g v Af cf L gd cd a n w h h1 h2 hL hcd h0 ha hn1 hn8 hge (by omega)
  · cases wr
    · by_cases hlo : a < 65536
      · exact below_a g v Af cf L gd cd a n w h h1 h2 hL hcd h0 ha hn1 hn8 (by omega) hlo
      · exact below_b g v Af cf L gd cd a n w h h1 h2 hL hcd h0 ha hn1 hn8 (by omega) (by omega) (by simp only [Bool.false_eq_true, false_or] at hd; omega)
    · exact below_w g v Af cf L gd cd a n w h h1 h2 hL hcd h0 ha hn1 hn8 (by omega)
end Go.Proofs.YtcgkgaibomcheaaGreat.Reg
end

section
/- A contract of word.Store to the byte: which cells of which block are written, all else as it was. Conditions: the bytes are there. -/
namespace Go.Proofs.YtcgkgaibomcheaaGreat.StoreExact
open Go.RowKit Go.Proofs.YtcgkgaibomcheaaGreat.PRvemuRuns Go.Proofs.YtcgkgaibomcheaaGreat.Bits Go.Proofs.YtcgkgaibomcheaaGreatW.PrintWords Go.Proofs.YtcgkgaibomcheaaGreatW.PrintLast Go.Proofs.YtcgkgaibomcheaaGreatW.PrintMore

/-- The bytes of a number written into a block, from a place on. -/
def put (w : World) (g o : Nat) (v : BitVec 64) : Nat → World
  | 0 => w
  | i + 1 => (put w g o v i).setCell ⟨g, o + i, none⟩ (.int .u8 (Bits.byteOf v i))
/-- The same, of the block's cells. -/
def putC (cs : Array Value) (o : Nat) (v : BitVec 64) : Nat → Array Value
  | 0 => cs
  | i + 1 => (putC cs o v i).setIfInBounds (o + i) (.int .u8 (Bits.byteOf v i))
theorem putC_size (cs : Array Value) (o : Nat) (v : BitVec 64) : ∀ i, (putC cs o v i).size = cs.size
  | 0 => rfl
  | i + 1 => by unfold putC; rw [Array.size_setIfInBounds, putC_size cs o v i]
theorem put_block {w : World} {g o : Nat} {v : BitVec 64} {cs : Array Value} {T : TypeId} (hb : w.heap[g]? = some (.cells cs T (0, 0))) : ∀ i, (put w g o v i).heap[g]? = some (.cells (putC cs o v i) T (0, 0))
  | 0 => hb
  | i + 1 => blk_set (put_block hb i) _ _
theorem put_other (w : World) (g o : Nat) (v : BitVec 64) (k : Nat) (hk : k ≠ g) : ∀ i, (put w g o v i).heap[k]? = w.heap[k]?
  | 0 => rfl
  | i + 1 => (Below.heap_setCell _ _ _ _ (by simpa using hk)).trans (put_other w g o v k hk i)
theorem put_size (w : World) (g o : Nat) (v : BitVec 64) : ∀ i, (put w g o v i).heap.size = w.heap.size
  | 0 => rfl
  | i + 1 => by unfold put; rw [World.size_setCell, put_size w g o v i]
theorem put_rest (w : World) (g o : Nat) (v : BitVec 64) : ∀ i, (put w g o v i).os = w.os ∧ (put w g o v i).tape = w.tape ∧ (put w g o v i).output = w.output
  | 0 => ⟨rfl, rfl, rfl⟩
  | i + 1 => put_rest w g o v i
theorem byte_div (v : BitVec 64) (i : Nat) : U v / 2 ^ (8 * i) % 256 = Bits.byteOf v i := by
  unfold U Bits.byteOf
  rw [BitVec.toNat_ushiftRight, Nat.shiftRight_eq_div_pow]
  simp
set_option maxRecDepth 100000 in
set_option maxHeartbeats 800000 in
theorem calls (g o len cap : Nat) (a n : Nat) (v : BitVec 64) (w : World) (T : TypeId) (cs : Array Value) (hb : w.heap[g]? = some (.cells cs T (0, 0))) (hs : o + len ≤ cs.size) (hl : len ≤ 1000000000000000)
    (hn1 : 1 ≤ n) (hn8 : n ≤ 8) (ha : a + n ≤ len) (t : Calls Tryz.prog 99 #[.slice (some ⟨g, o, none⟩) len cap, .int .i64 a, .int .i64 n] w fun e w' => e = .returned (.bool true) ∧ Drawn0 w w') :
    Calls Tryz.prog 111 #[.slice (some ⟨g, o, none⟩) len cap, .int .i64 a, .int .i64 n, .int .u64 (U v)] w fun e w' => e = .returned (.int .i64 0) ∧ ∃ m, w' = put (w.drewN m) g (o + a) v n := by
  have HS := Aside0.mk hs
  have HT := Aside0.mk t
  have HBK := Aside0.mk hb
  clear t hb hs
  go_enter Tryz.func111, Tryz.ntmps111
  go_wp2_with fail
  refine HT.out.mono ?_
  rintro e w1 ⟨rfl, hw1⟩
  obtain ⟨m, rfl⟩ := hw1.out
  have BK := Aside0.mk (blk_drewN HBK.out m)
  clear hw1 HBK HT
  go_wp2_with fail
  go_loopw [16] (fun v16 w' => ∃ i : Nat, i ≤ n ∧ v16 = .int .i64 i ∧ Aside0 (w' = put (w.drewN m) g (o + a) v i)) (fun v16 _ => n - (intOf v16).toNat)
  case atStart => exact ⟨0, by omega, rfl, ⟨rfl⟩⟩
  case round =>
    obtain ⟨i, hi, rfl, hw⟩ := hrel
    have hw' := hw.out
    clear hw
    subst hw'
    by_cases hlt : i < n
    · have hc : (put (w.drewN m) g (o + a) v i).cell? ⟨g, o + (a + i), none⟩ = some ((putC cs (o + a) v i)[o + (a + i)]'(by rw [putC_size]; have := HS.out; omega)) := by
        rw [blk_cell (put_block BK.out i)]
        exact Array.getElem?_eq_getElem _
      have hf := blk_frozen (put_block (o := o + a) (v := v) BK.out i) (o + (a + i))
      go_wp2
      refine ⟨⟨i + 1, by omega, by go_num, ⟨?_⟩⟩, by simp [intOf]; omega⟩
      rw [byte_div]
      show _ = (put (w.drewN m) g (o + a) v i).setCell ⟨g, o + a + i, none⟩ _
      rw [Nat.add_assoc]
    · obtain rfl : i = n := by omega
      go_wp2
      go_ret
      exact ⟨rfl, m, rfl⟩
end Go.Proofs.YtcgkgaibomcheaaGreat.StoreExact
end

section
/- The machine's read. Conditions: the machine's block, slices and rows are there. -/
namespace Go.Proofs.YtcgkgaibomcheaaGreat.Rd
open Go.RowKit Go.Proofs.YtcgkgaibomcheaaGreat.Bits Go.Proofs.YtcgkgaibomcheaaGreat.Mb Go.Proofs.YtcgkgaibomcheaaGreat.Reg Go.Proofs.YtcgkgaibomcheaaGreat.PRvemuRuns Go.Proofs.YtcgkgaibomcheaaGreatW.PrintWords Go.Proofs.YtcgkgaibomcheaaGreatW.PrintLast Go.Proofs.YtcgkgaibomcheaaGreatW.PrintMore
set_option linter.unusedVariables false
set_option linter.unusedSimpArgs false

/-- The block g begins with the bytes l. -/
def Row (g : Nat) (l : List Int) (W : World) : Prop := ∃ cs : Array Value, W.heap[g]? = some (.cells cs 5 (0, 0)) ∧ l.length ≤ cs.size ∧ ∀ j, j < l.length → cs[j]? = some (.int .u8 (l.getD j 0))
theorem Row.of {g : Nat} {l : List Int} {W W' : World} (h : Row g l W) (hb : W'.heap[g]? = W.heap[g]?) : Row g l W' := by
  obtain ⟨cs, h1, h2⟩ := h
  exact ⟨cs, hb.trans h1, h2⟩
theorem Row.lt {g : Nat} {l : List Int} {W : World} (h : Row g l W) : g < W.heap.size := by
  obtain ⟨cs, h1, h2⟩ := h
  exact blk_lt h1
theorem Row.below {g : Nat} {l : List Int} {W W' : World} (h : Row g l W) (hb : Below W.heap.size W W') : Row g l W' := h.of (hb.block g h.lt)
theorem Row.reads {g : Nat} {l : List Int} {W : World} (h : Row g l W) (o n : Nat) (hl : o + n ≤ l.length) (hm : n ≤ 1000000000000000) : Kd.C (Kd.int .u8) W (some ⟨g, o, none⟩) n ((l.drop o).take n) := by
  obtain ⟨cs, h1, h2, h3⟩ := h
  have hlen : ((l.drop o).take n).length = n := by rw [List.length_take, List.length_drop]; omega
  refine ⟨hlen, by omega, fun hn => ⟨_, rfl, fun j p hj => ⟨[.int .u8 p], rfl, rfl, fun i u hi => ?_⟩⟩⟩
  obtain ⟨hjl, hjp⟩ := List.getElem?_eq_some_iff.1 hj
  have hi0 : i = 0 := by
    have := (List.getElem?_eq_some_iff.1 hi).1
    simpa using this
  subst hi0
  have hu : u = .int .u8 p := by simpa using hi.symm
  subst hu
  rw [hlen] at hjl
  have ea : (⟨g, o, none⟩ : Addr).add (j * (Kd.int .u8).sz + 0) = ⟨g, o + j, none⟩ := by
    show (⟨g, o, none⟩ : Addr).add (j * 1 + 0) = _
    simp [Addr.add]
  rw [ea, blk_cell h1, h3 (o + j) (by omega), ← hjp]
  rw [List.getElem_take, List.getElem_drop, List.getD_eq_getElem?_getD, List.getElem?_eq_getElem (by omega)]
  rfl
theorem isBytes_sub {l : List Int} (h : isBytes l) (o n : Nat) : isBytes ((l.drop o).take n) := fun x hx => h x (List.mem_of_mem_drop (List.mem_of_mem_take hx))
theorem ld_sub {l : List Int} (h : isBytes l) (o n : Nat) (hl : o + n ≤ l.length) : ld ((l.drop o).take n) 0 n = ld l o n := ext64 fun j hj => by
  rw [ld_at (isBytes_sub h o n) 0 n j hj, ld_at h o n j hj]
  by_cases hlt : j < 8 * n
  · rw [decide_eq_true hlt, Bool.true_and, Bool.true_and]
    congr 2
    have hq : j / 8 < n := by omega
    rw [Nat.zero_add, List.getD_eq_getElem?_getD, List.getD_eq_getElem?_getD, List.getElem?_take, if_pos hq, List.getElem?_drop]
  · rw [decide_eq_false hlt, Bool.false_and, Bool.false_and]
theorem info54 : (Tryz.prog.info? 54).map (fun i => (i.zero, i.size, i.bytes)) = some (some (.agg #[.bool false, .int .u64 0, .int .i64 0]), 3, 24) := by kernel_rfl
/-- The values with another list of accesses. -/
def atTr (v : Nat → Value) (t : Value) : Nat → Value := fun i => if i = 40 then t else v i
theorem ev_reps (W : World) (b : Nat) (ok : Nat → Prop) (x : S54) : Reps (k54.M W b ok) 3 [x] [.bool x.f0, .int .u64 x.f1, .int .i64 x.f2] := Reps.c3 (k54_mkM W b ok x) (Reps.none _ _)
/-- What writes the blocks of S alone. -/
def Wr (S : Nat → Prop) (W W' : World) : Prop := Kept W W' S ∧ W'.os = W.os ∧ W'.tape = W.tape ∧ W'.output = W.output
theorem Wr.refl (S : Nat → Prop) (W : World) : Wr S W W := ⟨Kept.refl _ _, rfl, rfl, rfl⟩
theorem Wr.below {S : Nat → Prop} {W W1 W2 : World} (h : Wr S W W1) (hb : Below W1.heap.size W1 W2) : Wr S W W2 := ⟨h.1.below hb, hb.os.trans h.2.1, hb.tape.trans h.2.2.1, hb.output.trans h.2.2.2⟩
theorem Wr.set {S : Nat → Prop} {W W1 : World} (h : Wr S W W1) {p : Addr} (hp : S p.block ∨ W.heap.size ≤ p.block) (u : Value) : Wr S W (W1.setCell p u) := ⟨h.1.setCell hp u, h.2⟩
theorem Wr.then_ {S T : Nat → Prop} {W W1 W2 : World} (h : Wr S W W1) (k : Wr T W1 W2) (hs : ∀ k, T k → S k ∨ W.heap.size ≤ k) : Wr S W W2 := ⟨h.1.then_ k.1 hs, k.2.1.trans h.2.1, k.2.2.1.trans h.2.2.1, k.2.2.2.trans h.2.2.2⟩
set_option maxRecDepth 20000 in
set_option maxHeartbeats 1000000 in
/-- read, behind 'region': the bytes lie in block gb, from o on. -/
theorem reads (b : Nat) (g : Nat) (v : Nat → Value) (vt : Value) (tr : List S54) (okt : Nat → Prop) (gb o cb : Nat) (l : List Int) (a : Int) (n : Nat) (w : World) (h : MB 74 42 w g v) (ht : v 40 = vt) (hT : Kd.R k54 54 w b okt vt tr) (hfr : ∀ k, w.heap.size ≤ k → okt k)
    (hb : b ≤ w.heap.size) (hlen : tr.length ≤ 1000000000) (hrow : Row gb l w) (hby : isBytes l) (hn1 : 1 ≤ n) (hn8 : n ≤ 8) (ho : o + n ≤ l.length) (hoc : n ≤ cb) (hgb : gb ≠ g)
    (hreg : Calls Tryz.prog 110 #[.pointer (some ⟨g, 0, none⟩), .int .u64 a, .int .i64 n, .bool false] w fun e w' => e = .returned (.slice (some ⟨gb, o, none⟩) n cb) ∧ w' = w) :
    Calls Tryz.prog 96 #[.pointer (some ⟨g, 0, none⟩), .int .u64 a, .int .i64 n] w fun e w' => e = .returned (.int .u64 (U (ld l o n))) ∧ ∃ vt', MB 74 42 w' g (atTr v vt') ∧ Kd.R k54 54 w' b okt vt' (tr ++ [⟨false, a, n⟩]) ∧ Wr (fun k => k = g ∨ some k = vt.ownBlock) w w' := by
  have qT : ∀ (w : World) (a : Option Addr) (n c n' c' : Nat), (binOp .eql 22 (.slice a n c) (.slice none n' c')).run Tryz.prog w = .ok (.bool a.isNone) w := fun w a n c n' c' => Lib.run_eql_slice_nil w _ _ a n c n' c' Tryz.underlying22
  have HREG := Aside0.mk hreg
  have HT := Aside0.mk hT
  have HM := Aside0.mk h
  have HR := Aside0.mk hrow
  have HFR := Aside0.mk hfr
  have LC := Aside0.mk (show ∀ W, Row gb l W → Calls Tryz.prog 83 #[.slice (some ⟨gb, o, none⟩) n cb, .int .i64 0, .int .i64 n] W fun e w' => e = .returned (.tuple #[.int .u64 (U (ld l o n)), .int .i64 0]) ∧ Drawn0 W w' from fun W hW => by
    have hl : ((l.drop o).take n).length = n := by rw [List.length_take, List.length_drop]; omega
    have hc := word_Load.calls 100 (some ⟨gb, o, none⟩) cb ((l.drop o).take n) 0 n _ 0 W (by rw [hl]; exact hW.reads o n ho (by omega)) (by rw [hl]; exact hoc) (F1.word_Load_yes 100 (by omega) _ (by omega) (isBytes_sub hby o n) 0 n ⟨by omega, by omega, by omega, by omega⟩)
    have e0 : (0 : Int).toNat = 0 := rfl
    rw [hl, Int.toNat_natCast, e0, ld_sub hby o n ho] at hc
    exact hc)
  have c40 := (h.cell 40 (by omega)).trans (congrArg some ht)
  clear hreg hT h hrow ht
  go_enter Tryz.func96, Tryz.ntmps96
  go_wp2_with fail
  refine HREG.out.mono ?_
  rintro e w1 ⟨rfl, rfl⟩
  clear HREG
  go_wp2_with (first | ((with_reducible refine gate_dst (N := 26) rfl ?_); refine Kd.R_lit k54 (w0 := w1) w1.heap.size 54 ?hg (N := 26) ?hd (xs := [(⟨false, a, n⟩ : S54)]) (inner := [.bool false, .int .u64 a, .int .i64 n]) (ok := fun _ => True) (okp := fun _ => True) ?hr ?hp (fun _ hk => hk) trivial (Below.refl _ _) (Nat.le_refl _) (by simp) ?_; (case hd => rfl); (case hg => rfl); (case hr => first | (go_simp; done) | (go_simp; rfl)); (case hp => exact ev_reps _ _ _ _); intro v26 w26 ho26 hb26 hgx_ hnx_; clear hgx_ hnx_) | ((with_reducible refine gate_builtin (b := .append) (xs := #[.tmp 22, .tmp 26]) rfl ?_); at_builtin; obtain ⟨A26, c26, rfl, hc26, hC26⟩ := Kd.R_reads ho26; refine Kd.R_append_rows k54 (Rr := k54.K w26) (w0 := w1) b rfl (.tmp 22) (.tmp 26) 29 54 (.agg #[.bool false, .int .u64 0, .int .i64 0]) 24 rfl Tryz.underlying29 info54 rfl (by decide) (by omega) vt tr [(⟨false, a, n⟩ : S54)] _ _ _ okt (fun _ => False) rfl rfl ?aO ?aR ?aK (fun _ h => h.elim) ?aF ?aB ?aS ?aL ?_; (case aO => exact Kd.R_below HT.out hb26); (case aR => exact hC26); (case aK => exact fun x cs h => by rw [k54_open h]; exact k54_mkM _ _ _ x); (case aF => exact fun k hk => HFR.out k (Nat.le_trans hb26.size hk)); (case aB => exact hb26.mono hb); (case aS => exact Nat.le_trans hb hb26.size); (case aL => simp only [List.length_cons, List.length_nil]; omega); intro v27 w27 ho27 hb27 hg27 hat27; obtain ⟨A27, c27, rfl, hc27, hC27⟩ := Kd.R_reads ho27; have M27 : MB 74 42 w27 g v := (by (obtain ⟨cs, q1, q2⟩ := HM.out.below hb26; exact ⟨cs, blk_grown q1 hg27 (Kd.R_ne (Kd.R_below HT.out hb26) q1 (by decide)), q2⟩)); have R27 : Row gb l w27 := (by (obtain ⟨cs, q1, q2⟩ := HR.out.below hb26; exact ⟨cs, blk_grown q1 hg27 (Kd.R_ne (Kd.R_below HT.out hb26) q1 (by decide)), q2⟩)); have x40 := M27.cell 40 (by omega); have f40 := M27.frozen 40; have HM27 := Aside0.mk M27; have HR27 := Aside0.mk R27; have HO27 := Aside0.mk ho27; have HB27 := Aside0.mk hb27; have HG27 := Aside0.mk hg27; have HB26 := Aside0.mk hb26; clear M27 R27 ho27 hb27 hg27 hat27 hc27 hC27 hC26 hc26 ho26 hb26))
  have el : (tr ++ [(⟨false, a, n⟩ : S54)]).length = tr.length + 1 := by rw [List.length_append]; rfl
  rw [el] at HO27
  have HM28 := Aside0.mk (HM27.out.put 40 (.slice A27 (tr.length + 1) c27) (atTr v (.slice A27 (tr.length + 1) c27)) rfl (fun i _ hi => if_neg hi))
  have HR28 := Aside0.mk (HR27.out.of (Below.heap_setCell w27 ⟨g, 40, none⟩ (.slice A27 (tr.length + 1) c27) gb hgb))
  have HO28 := Aside0.mk (show Kd.R k54 54 (w27.setCell ⟨g, 40, none⟩ (.slice A27 (tr.length + 1) c27)) b okt (.slice A27 (tr.length + 1) c27) (tr ++ [⟨false, a, n⟩]) from by
    obtain ⟨cs, q1, _⟩ := HM27.out
    exact Kd.R_set HO27.out q1 (by decide) 40 _)
  have HW28 := Aside0.mk (show Wr (fun k => k = g ∨ some k = vt.ownBlock) w1 (w27.setCell ⟨g, 40, none⟩ (.slice A27 (tr.length + 1) c27)) from by
    refine Wr.set (p := ⟨g, 40, none⟩) ?_ (.inl (.inl rfl)) _
    refine ⟨Kept.of_grown HG27.out (Kept.of_below HB26.out _) (fun k hk => .inl (.inr hk.symm)), HB27.out.os, HB27.out.tape, HB27.out.output⟩)
  clear HM27 HR27 HO27 HG27 HB27 HB26 x40 f40 el HR HM HT HFR c40 hfr
  refine (LC.out _ HR28.out).mono ?_
  rintro e w29 ⟨rfl, hd⟩
  have hb29 := hd.below
  have HM29 := Aside0.mk (HM28.out.below hb29)
  have HO29 := Aside0.mk (Kd.R_below HO28.out hb29)
  have HW29 := Aside0.mk (HW28.out.below hb29)
  clear HM28 HO28 HW28 HR28 LC hd hb29
  go_wp2
  go_ret
  exact ⟨rfl, _, HM29.out, HO29.out, HW29.out⟩
end Go.Proofs.YtcgkgaibomcheaaGreat.Rd
end
