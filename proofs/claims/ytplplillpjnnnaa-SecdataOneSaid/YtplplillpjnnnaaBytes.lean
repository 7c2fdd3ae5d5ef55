/- Plain lemmas on the bytes of words: written (st) and read (ld), the lowest first. Conditions: those of each lemma. -/
import Derived.Test.YtplplillpjnnnaaBits
namespace Go.Proofs.Ytplplillpjnnnaa.Bits
open Go.RowKit Go.Proofs.YtplplillpjnnnaaW.PrintWords Go.Proofs.YtplplillpjnnnaaW.PrintLast Go.Proofs.YtplplillpjnnnaaW.PrintMore

/-- A byte of a word. -/
def byteOf (v : BitVec 64) (i : Nat) : Int := (((v >>> (8 * i)).toNat % 256 : Nat) : Int)
theorem byteOf_range (v : BitVec 64) (i : Nat) : 0 ≤ byteOf v i ∧ byteOf v i < 256 := by unfold byteOf; omega
/-- The bytes of a word written from a place on. -/
def st (l : List Int) (a : Nat) (v : BitVec 64) : Nat → List Int
  | 0 => l
  | i + 1 => (st l a v i).set (a + i) (byteOf v i)
theorem st_length (l : List Int) (a : Nat) (v : BitVec 64) : ∀ i, (st l a v i).length = l.length
  | 0 => rfl
  | i + 1 => by unfold st; rw [List.length_set, st_length l a v i]
theorem st_at (l : List Int) (a : Nat) (v : BitVec 64) : ∀ (i j : Nat), j < l.length → (st l a v i).getD j 0 = if a ≤ j ∧ j < a + i then byteOf v (j - a) else l.getD j 0
  | 0, j, _ => by rw [if_neg (by omega)]; rfl
  | i + 1, j, hj => by
    unfold st
    rw [List.getD_eq_getElem?_getD, List.getElem?_set]
    by_cases e : a + i = j
    · subst e
      have hl := st_length l a v i
      rw [if_pos rfl, if_pos (by omega), if_pos (by omega)]
      have : a + i - a = i := by omega
      rw [this]
      rfl
    · rw [if_neg e, ← List.getD_eq_getElem?_getD, st_at l a v i j hj]
      by_cases h : a ≤ j ∧ j < a + i
      · rw [if_pos h, if_pos (by omega)]
      · rw [if_neg h, if_neg (by omega)]
/-- The number of so many bytes, the lowest first. -/
def ld (l : List Int) (a : Nat) : Nat → BitVec 64
  | 0 => 0#64
  | i + 1 => ld l a i ||| (BitVec.ofNat 64 (l.getD (a + i) 0).toNat <<< (8 * i))
def isBytes (l : List Int) : Prop := ∀ x ∈ l, 0 ≤ x ∧ x < 256
theorem isBytes_at {l : List Int} (h : isBytes l) (j : Nat) : 0 ≤ l.getD j 0 ∧ l.getD j 0 < 256 := by
  rw [List.getD_eq_getElem?_getD]
  cases hx : l[j]? with
  | none => simp
  | some x =>
    have := h x (List.mem_of_getElem? hx)
    simpa using this
theorem ld_at {l : List Int} (hl : isBytes l) (a : Nat) : ∀ (n j : Nat), j < 64 → (ld l a n).getLsbD j = (decide (j < 8 * n) && (l.getD (a + j / 8) 0).toNat.testBit (j % 8))
  | 0, j, _ => by unfold ld; simp
  | n + 1, j, hj => by
    unfold ld
    rw [BitVec.getLsbD_or, ld_at hl a n j hj, BitVec.getLsbD_shiftLeft, BitVec.getLsbD_ofNat]
    have hb := isBytes_at hl (a + n)
    by_cases h1 : j < 8 * n
    · have h2 : j < 8 * (n + 1) := by omega
      simp [h1, h2]
    · by_cases h2 : j < 8 * (n + 1)
      · have e1 : j / 8 = n := by omega
        have e2 : j - 8 * n = j % 8 := by omega
        have e3 : j % 8 < 64 := by omega
        simp [h1, h2, hj, e1, e2, e3]
      · have e4 : (l.getD (a + n) 0).toNat.testBit (j - 8 * n) = false := by
          apply Nat.testBit_lt_two_pow
          have : (2:Nat) ^ 8 ≤ 2 ^ (j - 8 * n) := Nat.pow_le_pow_right (by decide) (by omega)
          omega
        rw [e4]
        simp [h1, h2]
theorem byteOf_bit (v : BitVec 64) (i k : Nat) (hk : k < 8) : (byteOf v i).toNat.testBit k = v.getLsbD (8 * i + k) := by
  unfold byteOf
  rw [Int.toNat_natCast, show (256 : Nat) = 2 ^ 8 from rfl, Nat.testBit_mod_two_pow]
  simp only [hk, decide_true, Bool.true_and]
  rw [BitVec.testBit_toNat, BitVec.getLsbD_ushiftRight]
theorem st_bytes {l : List Int} (hl : isBytes l) (a : Nat) (v : BitVec 64) : ∀ i, isBytes (st l a v i)
  | 0 => hl
  | i + 1 => fun x hx => by
    unfold st at hx
    rcases List.mem_or_eq_of_mem_set hx with h | h
    · exact st_bytes hl a v i x h
    · subst h; exact byteOf_range v i
theorem ld_st {l : List Int} (hl : isBytes l) (a : Nat) (v : BitVec 64) (n : Nat) (ha : a + n ≤ l.length) : ld (st l a v n) a n = zx v ((8 * n : Nat) : Int) := by
  refine ext64 fun j hj => ?_
  rw [ld_at (st_bytes hl a v n) a n j hj, zx_at v _ j hj]
  by_cases h : j < 8 * n
  · have h' : (j : Int) < ((8 * n : Nat) : Int) := by omega
    rw [st_at l a v n (a + j / 8) (by omega), if_pos (by omega)]
    have e : a + j / 8 - a = j / 8 := by omega
    rw [e, byteOf_bit v (j / 8) (j % 8) (by omega)]
    have e2 : 8 * (j / 8) + j % 8 = j := by omega
    rw [e2]
    simp only [h, h', decide_true]
  · have h' : ¬ (j : Int) < ((8 * n : Nat) : Int) := by omega
    simp only [h, h', decide_false, Bool.false_and]
theorem take_st (l : List Int) (a : Nat) (v : BitVec 64) (i m : Nat) (hm : m ≤ a) : (st l a v i).take m = l.take m := by
  induction i with
  | zero => rfl
  | succ i ih =>
    unfold st
    rw [List.take_set_of_le (by omega), ih]
theorem drop_st (l : List Int) (a : Nat) (v : BitVec 64) (i m : Nat) (hm : a + i ≤ m) : (st l a v i).drop m = l.drop m := by
  induction i with
  | zero => rfl
  | succ i ih =>
    unfold st
    rw [List.drop_set_of_lt (by omega), ih (by omega)]
end Go.Proofs.Ytplplillpjnnnaa.Bits
