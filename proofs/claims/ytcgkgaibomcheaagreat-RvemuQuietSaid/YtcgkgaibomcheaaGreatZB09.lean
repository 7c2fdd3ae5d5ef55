/- Joined out of this claim's texts: Part, At, Sg, W32, Enc, Tk, RDec, EM, Mem, EDo. Conditions: those of each theorem. -/
import Derived.Test.YtcgkgaibomcheaaGreatZB06
import Derived.Test.YtcgkgaibomcheaaGreatZB05
import Derived.RowKit
import Derived.Test.YtcgkgaibomcheaaGreatZB08
import Derived.Test.YtcgkgaibomcheaaGreatZB02
import Derived.Test.YtcgkgaibomcheaaGreatZB03
import Derived.StillTailTactics
import Derived.Test.YtcgkgaibomcheaaGreatZB07
section
/- The document's part: bits of a word, as a number. Conditions: those of the theorem. -/
namespace Go.Proofs.YtcgkgaibomcheaaGreat.Part
open Go.RowKit Go.Proofs.YtcgkgaibomcheaaGreat.Bits Go.Proofs.YtcgkgaibomcheaaGreat.PRvemuRuns Go.Proofs.YtcgkgaibomcheaaGreatW.PrintWords Go.Proofs.YtcgkgaibomcheaaGreatW.PrintLast Go.Proofs.YtcgkgaibomcheaaGreatW.PrintMore
set_option linter.unusedVariables false
set_option linter.unusedSimpArgs false

theorem bs_nat (v : BitVec 64) (lo n : Nat) (hl : lo ≤ 63) (hn : n ≤ 63) : (bs v (lo : Int) (n : Int)).toNat = v.toNat / 2 ^ lo % 2 ^ n := by
  refine Nat.eq_of_testBit_eq fun i => ?_
  rw [Nat.testBit_mod_two_pow, ← Nat.shiftRight_eq_div_pow, Nat.testBit_shiftRight, BitVec.testBit_toNat, BitVec.testBit_toNat]
  by_cases hi : i < 64
  · rw [bs_at v lo n (by omega) (by omega) i hi]
    simp
  · rw [BitVec.getLsbD_of_ge _ _ (by omega), BitVec.getLsbD_of_ge _ _ (by omega), Bool.and_false]
theorem part_eq (k : Nat) (hk : 70 ≤ k) (w : Nat) (hw : w < 4294967296) (lo n : Nat) (hl : lo ≤ 63) (hn : n ≤ 32) : ravelinref15_part.f k (w : Int) lo n = some ((w / 2 ^ lo % 2 ^ n : Nat) : Int) := by
  unfold ravelinref15_part.f
  have e : IntKind.u64.wrap (w : Int) = U (BitVec.ofNat 64 w) := by
    unfold U
    rw [BitVec.toNat_ofNat]
    simp only [IntKind.wrap, IntKind.bits, IntKind.signed, Bool.false_and, Bool.false_eq_true, if_false]
    omega
  rw [e, F1.ref_Bits_eq k hk]
  simp only [Option.bind_some]
  have h := bs_nat (BitVec.ofNat 64 w) lo n hl (by omega)
  have hm : (BitVec.ofNat 64 w).toNat = w := by rw [BitVec.toNat_ofNat]; omega
  rw [hm] at h
  have hlt : w / 2 ^ lo % 2 ^ n < 4294967296 := Nat.lt_of_le_of_lt (Nat.mod_le _ _) (Nat.lt_of_le_of_lt (Nat.div_le_self _ _) hw)
  congr 1
  unfold U
  rw [h]
  unfold wrap64
  omega
end Go.Proofs.YtcgkgaibomcheaaGreat.Part
end

section
/- The bits of a number, at a place of a word, as the document lays them. Conditions: those of the theorem. -/
namespace Go.Proofs.YtcgkgaibomcheaaGreat.At
open Go.RowKit Go.Proofs.YtcgkgaibomcheaaGreat.Bits Go.Proofs.YtcgkgaibomcheaaGreat.Part Go.Proofs.YtcgkgaibomcheaaGreat.PRvemuRuns Go.Proofs.YtcgkgaibomcheaaGreatW.PrintWords Go.Proofs.YtcgkgaibomcheaaGreatW.PrintLast Go.Proofs.YtcgkgaibomcheaaGreatW.PrintMore
set_option linter.unusedVariables false
set_option linter.unusedSimpArgs false

theorem at_eq (k : Nat) (hk : 70 ≤ k) (v : BitVec 64) (vi : Int) (hv : IntKind.u64.wrap vi = U v) (lo n tt : Nat) (hl : lo ≤ 63) (hn : n + tt ≤ 32) (ht : tt ≤ 31) : ravelinref15_at.f k vi lo n tt = some (((v.toNat / 2 ^ lo % 2 ^ n) <<< tt : Nat) : Int) := by
  unfold ravelinref15_at.f
  have e : IntKind.u64.wrap (tt : Int) = (tt : Int) := by
    simp only [IntKind.wrap, IntKind.bits, IntKind.signed, Bool.false_and, Bool.false_eq_true, if_false]
    omega
  rw [hv, F1.ref_Bits_eq k hk, e]
  simp only [Option.bind_some]
  rw [if_pos (by omega)]
  have h := bs_nat v lo n hl (by omega)
  have h1 : v.toNat / 2 ^ lo % 2 ^ n < 2 ^ n := Nat.mod_lt _ (Nat.pow_pos (by decide))
  have h2 : (2 : Nat) ^ n * 2 ^ tt ≤ 2 ^ 32 := by rw [← Nat.pow_add]; exact Nat.pow_le_pow_right (by decide) hn
  have h3 : (v.toNat / 2 ^ lo % 2 ^ n) * 2 ^ tt < 4294967296 := Nat.lt_of_lt_of_le (Nat.mul_lt_mul_of_pos_right h1 (Nat.pow_pos (by decide))) h2
  have h4 : v.toNat / 2 ^ lo % 2 ^ n < 4294967296 := Nat.lt_of_le_of_lt (Nat.le_mul_of_pos_right _ (Nat.pow_pos (by decide))) h3
  congr 1
  unfold U shl
  rw [h, Nat.shiftLeft_eq]
  have hm : min ((tt : Int)).toNat IntKind.u32.bits = tt := by show min (tt : Int).toNat 32 = tt; omega
  rw [hm]
  have h5 : ((v.toNat / 2 ^ lo % 2 ^ n : Nat) : Int) % 4294967296 = ((v.toNat / 2 ^ lo % 2 ^ n : Nat) : Int) := by omega
  rw [h5]
  simp only [IntKind.wrap, IntKind.bits, IntKind.signed, Bool.false_and, Bool.false_eq_true, if_false]
  rw [show ((2 : Int) ^ tt) = ((2 ^ tt : Nat) : Int) by simp, ← Int.natCast_mul]
  generalize (v.toNat / 2 ^ lo % 2 ^ n) * 2 ^ tt = q at h3
  omega
end Go.Proofs.YtcgkgaibomcheaaGreat.At
end

section
/- The document's signed: a number of so many bits. Conditions: those of the theorem. -/
namespace Go.Proofs.YtcgkgaibomcheaaGreat.Sg
open Go.RowKit Go.Proofs.YtcgkgaibomcheaaGreat.Bits Go.Proofs.YtcgkgaibomcheaaGreat.PRvemuRuns Go.Proofs.YtcgkgaibomcheaaGreatW.PrintWords Go.Proofs.YtcgkgaibomcheaaGreatW.PrintLast Go.Proofs.YtcgkgaibomcheaaGreatW.PrintMore
set_option linter.unusedVariables false
set_option linter.unusedSimpArgs false

theorem signed_eq (k : Nat) (hk : 65 ≤ k) (v n : Int) : ravelinref15_signed.f k v n = some (sx (BitVec.ofInt 64 v) n).toInt := by
  unfold ravelinref15_signed.f
  rw [wrapU, F1.ref_Sext_eq k hk]
  rfl
end Go.Proofs.YtcgkgaibomcheaaGreat.Sg
end

section
/- Words of 32 bits put together of fields: as sums. Conditions: the fields have their bits. -/
namespace Go.Proofs.YtcgkgaibomcheaaGreat.W32
theorem or_up {d k r : Nat} (h : d < 2 ^ k) : d ||| r <<< k = d + r * 2 ^ k := by
  rw [Nat.or_comm, ← Nat.shiftLeft_add_eq_or_of_lt h, Nat.shiftLeft_eq]
  omega
theorem ac3 (a b c : Nat) : (a ||| b) ||| c = (a ||| c) ||| b := by ac_rfl
theorem ac5 (a b c d e : Nat) : (((a ||| e) ||| b) ||| d) ||| c = a ||| b ||| c ||| d ||| e := by ac_rfl
theorem ac6 (a b c d e f : Nat) : (((a ||| (b ||| f)) ||| d) ||| e) ||| c = a ||| b ||| c ||| d ||| e ||| f := by ac_rfl
theorem ac6r (a b c d e f : Nat) : ((((a ||| b) ||| d) ||| e) ||| c) ||| f = (((a ||| (b ||| f)) ||| d) ||| e) ||| c := by ac_rfl
theorem ac4 (a b c d : Nat) : ((a ||| b) ||| c) ||| d = (c ||| a) ||| (b ||| d) := by ac_rfl
theorem ac4j (a b c d : Nat) : ((a ||| b) ||| c) ||| d = c ||| (b ||| (a ||| d)) := by ac_rfl
/-- Five fields, from the lowest on. -/
theorem horner5 (a b c d e k1 k2 k3 k4 : Nat) (ha : a < 2 ^ k1) (hb : b < 2 ^ k2) (hc : c < 2 ^ k3) (hd : d < 2 ^ k4) :
    a ||| b <<< k1 ||| c <<< (k1 + k2) ||| d <<< (k1 + k2 + k3) ||| e <<< (k1 + k2 + k3 + k4) = a + (b + (c + (d + e * 2 ^ k4) * 2 ^ k3) * 2 ^ k2) * 2 ^ k1 := by
  rw [← or_up hd, ← or_up hc, ← or_up hb, ← or_up ha]
  simp only [Nat.shiftLeft_or_distrib, ← Nat.shiftLeft_add]
  rw [show k2 + k1 = k1 + k2 by omega, show k3 + k2 + k1 = k1 + k2 + k3 by omega, show k4 + k3 + k2 + k1 = k1 + k2 + k3 + k4 by omega]
  simp only [Nat.or_assoc]
/-- Six fields, from the lowest on. -/
theorem horner6 (a b c d e f k1 k2 k3 k4 k5 : Nat) (ha : a < 2 ^ k1) (hb : b < 2 ^ k2) (hc : c < 2 ^ k3) (hd : d < 2 ^ k4) (he : e < 2 ^ k5) :
    a ||| b <<< k1 ||| c <<< (k1 + k2) ||| d <<< (k1 + k2 + k3) ||| e <<< (k1 + k2 + k3 + k4) ||| f <<< (k1 + k2 + k3 + k4 + k5) = a + (b + (c + (d + (e + f * 2 ^ k5) * 2 ^ k4) * 2 ^ k3) * 2 ^ k2) * 2 ^ k1 := by
  rw [← or_up he, ← or_up hd, ← or_up hc, ← or_up hb, ← or_up ha]
  simp only [Nat.shiftLeft_or_distrib, ← Nat.shiftLeft_add]
  rw [show k2 + k1 = k1 + k2 by omega, show k3 + k2 + k1 = k1 + k2 + k3 by omega, show k4 + k3 + k2 + k1 = k1 + k2 + k3 + k4 by omega, show k5 + k4 + k3 + k2 + k1 = k1 + k2 + k3 + k4 + k5 by omega]
  simp only [Nat.or_assoc]
/-- The words of the formats, as the document puts them together. -/
theorem form_u (c v d : Nat) (hc : c < 128) (hd : d < 32) : (c ||| v <<< 12) ||| d <<< 7 = c + d * 128 + v * 4096 := by
  have hc' : c < 2 ^ 7 := hc
  rw [ac3, or_up hc', or_up (k := 12) (by omega)]
theorem form_i (c v d s f : Nat) (hc : c < 128) (hd : d < 32) (hs : s < 32) (hf : f < 8) : (((c ||| v <<< 20) ||| d <<< 7) ||| s <<< 15) ||| f <<< 12 = c + d * 128 + f * 4096 + s * 32768 + v * 1048576 := by
  have h := horner5 c d f s v 7 5 3 5 hc hd hf hs
  rw [ac5]
  refine Eq.trans h ?_
  omega
theorem form_s (c v1 v2 s t f : Nat) (hc : c < 128) (h1 : v1 < 32) (hs : s < 32) (ht : t < 32) (hf : f < 8) : (((c ||| (v1 <<< 7 ||| v2 <<< 25)) ||| s <<< 15) ||| t <<< 20) ||| f <<< 12 = c + v1 * 128 + f * 4096 + s * 32768 + t * 1048576 + v2 * 33554432 := by
  have h := horner6 c v1 f s t v2 7 5 3 5 5 hc h1 hf hs ht
  rw [ac6]
  refine Eq.trans h ?_
  omega
theorem form_r (c d s t f g : Nat) (hc : c < 128) (hd : d < 32) (hs : s < 32) (ht : t < 32) (hf : f < 8) : ((((c ||| d <<< 7) ||| s <<< 15) ||| t <<< 20) ||| f <<< 12) ||| g <<< 25 = c + d * 128 + f * 4096 + s * 32768 + t * 1048576 + g * 33554432 := by
  rw [ac6r]
  exact form_s c d g s t f hc hd hs ht hf
theorem form_b (c v1 v2 v3 v4 s t f : Nat) (hc : c < 128) (h1 : v1 < 16) (h2 : v2 < 64) (h3 : v3 < 2) (hs : s < 32) (ht : t < 32) (hf : f < 8) :
    (((c ||| (((v1 <<< 8 ||| v2 <<< 25) ||| v3 <<< 7) ||| v4 <<< 31)) ||| s <<< 15) ||| t <<< 20) ||| f <<< 12 = c + v3 * 128 + v1 * 256 + f * 4096 + s * 32768 + t * 1048576 + v2 * 33554432 + v4 * 2147483648 := by
  have e1 : v3 <<< 7 ||| v1 <<< 8 = (v3 + v1 * 2) <<< 7 := by
    rw [← or_up (d := v3) (k := 1) (r := v1) h3, Nat.shiftLeft_or_distrib, ← Nat.shiftLeft_add]
  have e2 : v2 <<< 25 ||| v4 <<< 31 = (v2 + v4 * 64) <<< 25 := by
    rw [← or_up (d := v2) (k := 6) (r := v4) h2, Nat.shiftLeft_or_distrib, ← Nat.shiftLeft_add]
  rw [ac4 (v1 <<< 8), e1, e2, form_s c (v3 + v1 * 2) (v2 + v4 * 64) s t f hc (by omega) hs ht hf]
  omega
theorem form_j (c v1 v2 v3 v4 d : Nat) (hc : c < 128) (h1 : v1 < 1024) (h2 : v2 < 2) (h3 : v3 < 256) (hd : d < 32) :
    (c ||| (((v1 <<< 21 ||| v2 <<< 20) ||| v3 <<< 12) ||| v4 <<< 31)) ||| d <<< 7 = c + d * 128 + v3 * 4096 + v2 * 1048576 + v1 * 2097152 + v4 * 2147483648 := by
  have e1 : v1 <<< 21 ||| v4 <<< 31 = (v1 + v4 * 1024) <<< 21 := by
    rw [← or_up (d := v1) (k := 10) (r := v4) h1, Nat.shiftLeft_or_distrib, ← Nat.shiftLeft_add]
  have e2 : v2 <<< 20 ||| (v1 + v4 * 1024) <<< 21 = (v2 + (v1 + v4 * 1024) * 2) <<< 20 := by
    rw [← or_up (d := v2) (k := 1) (r := v1 + v4 * 1024) h2, Nat.shiftLeft_or_distrib, ← Nat.shiftLeft_add]
  have e3 : v3 <<< 12 ||| (v2 + (v1 + v4 * 1024) * 2) <<< 20 = (v3 + (v2 + (v1 + v4 * 1024) * 2) * 256) <<< 12 := by
    rw [← or_up (d := v3) (k := 8) (r := v2 + (v1 + v4 * 1024) * 2) h3, Nat.shiftLeft_or_distrib, ← Nat.shiftLeft_add]
  rw [ac4j (v1 <<< 21), e1, e2, e3, form_u c _ d hc hd]
  omega
/-- The masks. -/
theorem and_low (n : Nat) : n &&& 127 = n % 128 := Nat.and_two_pow_sub_one_eq_mod n 7
theorem and_mid (n lo b : Nat) : n &&& ((2 ^ b - 1) <<< lo) = (n >>> lo % 2 ^ b) <<< lo := by
  refine Nat.eq_of_testBit_eq fun i => ?_
  rw [Nat.testBit_and, Nat.testBit_shiftLeft, Nat.testBit_shiftLeft, Nat.testBit_mod_two_pow, Nat.testBit_two_pow_sub_one, Nat.testBit_shiftRight]
  by_cases h : i ≥ lo
  · rw [show lo + (i - lo) = i by omega]
    cases n.testBit i <;> simp [h]
  · simp [h]
theorem mask_i (n : Nat) : n &&& 28799 = n % 128 + n / 4096 % 8 * 4096 := by
  have e : (28799 : Nat) = (2 ^ 7 - 1) <<< 0 ||| (2 ^ 3 - 1) <<< 12 := by decide
  rw [e, Nat.and_or_distrib_left, and_mid, and_mid, Nat.shiftLeft_zero, Nat.shiftRight_zero, or_up (by omega), Nat.shiftRight_eq_div_pow]
end Go.Proofs.YtcgkgaibomcheaaGreat.W32
end

section
/- The document's Encode in plain numbers: which word an instruction has. Conditions: those of each theorem. -/
namespace Go.Proofs.YtcgkgaibomcheaaGreat.Enc
open Go.RowKit Go.Proofs.YtcgkgaibomcheaaGreat.Bits Go.Proofs.YtcgkgaibomcheaaGreat.Dec Go.Proofs.YtcgkgaibomcheaaGreat.Find Go.Proofs.YtcgkgaibomcheaaGreat.PRvemuRuns Go.Proofs.YtcgkgaibomcheaaGreatW.PrintWords Go.Proofs.YtcgkgaibomcheaaGreatW.PrintLast Go.Proofs.YtcgkgaibomcheaaGreatW.PrintMore
set_option linter.unusedVariables false
set_option linter.unusedSimpArgs false

theorem or32 (a b : Nat) (ha : a < 2 ^ 32) (hb : b < 2 ^ 32) : Go.bits .or .u32 (a : Int) (b : Int) = ((a ||| b : Nat) : Int) := by
  show IntKind.u32.wrap (((BitVec.ofInt 32 (a : Int) ||| BitVec.ofInt 32 (b : Int)).toNat : Nat) : Int) = _
  rw [BitVec.ofInt_natCast, BitVec.ofInt_natCast, BitVec.toNat_or, BitVec.toNat_ofNat, BitVec.toNat_ofNat, Nat.mod_eq_of_lt (by omega), Nat.mod_eq_of_lt (by omega)]
  have h := Nat.or_lt_two_pow ha hb
  simp only [IntKind.wrap, IntKind.bits, IntKind.signed, Bool.false_and, Bool.false_eq_true, if_false]
  omega
theorem or32_lt {a b : Nat} (ha : a < 2 ^ 32) (hb : b < 2 ^ 32) : a ||| b < 2 ^ 32 := Nat.or_lt_two_pow ha hb
/-- May an immediate stand so? -/
def fits (form : Nat) (v : Int) : Bool :=
  if form = 1 then decide (0 ≤ v ∧ v < 1048576) else if form = 2 ∨ form = 5 then decide (-2048 ≤ v ∧ v < 2048) else if form = 3 then decide (0 ≤ v ∧ v < 64) else if form = 4 then decide (0 ≤ v ∧ v < 32) else
  if form = 7 then decide (-4096 ≤ v ∧ v < 4096 ∧ v % 2 = 0) else if form = 8 then decide (-1048576 ≤ v ∧ v < 1048576 ∧ v % 2 = 0) else decide (v = 0)
theorem tm2 (v : Int) : (Int.tmod v 2 == 0) = decide (v % 2 = 0) := by
  rw [Bool.eq_iff_iff, beq_iff_eq, decide_eq_true_iff, Int.dvd_iff_tmod_eq_zero.symm, Int.dvd_iff_emod_eq_zero]
theorem two_ (p q r : Prop) [Decidable p] [Decidable q] [Decidable r] (h : r ↔ p ∧ q) : (if p then some (decide q) else some false) = some (decide r) := by
  by_cases hp : p <;> by_cases hq : q <;> simp [h, hp, hq]
theorem three_ (p q s r : Prop) [Decidable p] [Decidable q] [Decidable s] [Decidable r] (h : r ↔ p ∧ q ∧ s) : (if p then (if q then some (decide s) else some false) else some false) = some (decide r) := by
  by_cases hp : p <;> by_cases hq : q <;> by_cases hs : s <;> simp [h, hp, hq, hs]
theorem imm_eq (k : Nat) (form : Nat) (h1 : 1 ≤ form) (h8 : form ≤ 8) (v : Int) : ravelinref15_imm.f (k + 1) (form : Int) v = some (fits form v) := by
  have hf : form = 1 ∨ form = 2 ∨ form = 3 ∨ form = 4 ∨ form = 5 ∨ form = 6 ∨ form = 7 ∨ form = 8 := by omega
  rcases hf with rfl | rfl | rfl | rfl | rfl | rfl | rfl | rfl
  · exact two_ _ _ _ (by omega)
  · exact two_ _ _ _ (by omega)
  · exact two_ _ _ _ (by omega)
  · exact two_ _ _ _ (by omega)
  · exact two_ _ _ _ (by omega)
  · show some (v == 0) = some (decide (v = 0))
    congr 1
  · show (if v ≥ -4096 then (if v < 4096 then some (Int.tmod v 2 == 0) else some false) else some false) = _
    rw [tm2]
    exact three_ _ _ _ _ (by omega)
  · show (if v ≥ -1048576 then (if v < 1048576 then some (Int.tmod v 2 == 0) else some false) else some false) = _
    rw [tm2]
    exact three_ _ _ _ _ (by omega)
/-- The bits of an immediate in a word. -/
def layS (form v : Nat) : Nat :=
  if form = 1 then (v % 1048576) <<< 12 else if form = 2 then (v % 4096) <<< 20 else if form = 3 ∨ form = 4 then (v % 64) <<< 20 else if form = 5 then (v % 32) <<< 7 ||| (v / 32 % 128) <<< 25 else
  if form = 7 then (((v / 2 % 16) <<< 8 ||| (v / 32 % 64) <<< 25) ||| (v / 2048 % 2) <<< 7) ||| (v / 4096 % 2) <<< 31 else
  if form = 8 then (((v / 2 % 1024) <<< 21 ||| (v / 2048 % 2) <<< 20) ||| (v / 4096 % 256) <<< 12) ||| (v / 1048576 % 2) <<< 31 else 0
theorem sl {a k m : Nat} (h : a < m) (hm : m * 2 ^ k ≤ 2 ^ 32) : a <<< k < 2 ^ 32 := by
  rw [Nat.shiftLeft_eq]
  exact Nat.lt_of_lt_of_le (Nat.mul_lt_mul_of_pos_right h (Nat.pow_pos (by decide))) hm
theorem lay_eq (k : Nat) (hk : 80 ≤ k) (form : Nat) (h1 : 1 ≤ form) (h8 : form ≤ 8) (v : Int) : ravelinref15_lay.f k (form : Int) v = some ((layS form (BitVec.ofInt 64 v).toNat : Nat) : Int) := by
  obtain ⟨k, rfl⟩ : ∃ m, k = m + 1 := ⟨k - 1, by omega⟩
  have ha := fun (q : Nat) (hq : 70 ≤ q) (lo n tt : Nat) (a : lo ≤ 63) (b : n + tt ≤ 32) (c : tt ≤ 31) => At.at_eq q hq (BitVec.ofInt 64 v) v (wrapU v) lo n tt a b c
  generalize (BitVec.ofInt 64 v).toNat = V at ha ⊢
  have hf : form = 1 ∨ form = 2 ∨ form = 3 ∨ form = 4 ∨ form = 5 ∨ form = 6 ∨ form = 7 ∨ form = 8 := by omega
  rcases hf with rfl | rfl | rfl | rfl | rfl | rfl | rfl | rfl
  · show (ravelinref15_at.f (k + 1) v (0 : Nat) (20 : Nat) (12 : Nat)).bind (fun t => some t) = _
    rw [ha _ (by omega) 0 20 12 (by omega) (by omega) (by omega)]
    simp [layS]
  · show (ravelinref15_at.f (k + 1) v (0 : Nat) (12 : Nat) (20 : Nat)).bind (fun t => some t) = _
    rw [ha _ (by omega) 0 12 20 (by omega) (by omega) (by omega)]
    simp [layS]
  · show (ravelinref15_at.f k v (0 : Nat) (6 : Nat) (20 : Nat)).bind (fun t => some t) = _
    rw [ha _ (by omega) 0 6 20 (by omega) (by omega) (by omega)]
    simp [layS]
  · show (ravelinref15_at.f k v (0 : Nat) (6 : Nat) (20 : Nat)).bind (fun t => some t) = _
    rw [ha _ (by omega) 0 6 20 (by omega) (by omega) (by omega)]
    simp [layS]
  · show (ravelinref15_at.f k v (0 : Nat) (5 : Nat) (7 : Nat)).bind (fun t => (ravelinref15_at.f k v (5 : Nat) (7 : Nat) (25 : Nat)).bind fun t2 => some (Go.bits .or .u32 t t2)) = _
    rw [ha _ (by omega) 0 5 7 (by omega) (by omega) (by omega), ha _ (by omega) 5 7 25 (by omega) (by omega) (by omega)]
    simp only [Option.bind_some]
    rw [or32 _ _ (sl (m := 32) (by omega) (by omega)) (sl (m := 128) (by omega) (by omega))]
    simp [layS]
  · show (some (0 : Int)) = _
    simp [layS]
  · show (ravelinref15_at.f k v (1 : Nat) (4 : Nat) (8 : Nat)).bind (fun t => (ravelinref15_at.f k v (5 : Nat) (6 : Nat) (25 : Nat)).bind fun t2 => (ravelinref15_at.f k v (11 : Nat) (1 : Nat) (7 : Nat)).bind fun t3 => (ravelinref15_at.f k v (12 : Nat) (1 : Nat) (31 : Nat)).bind fun t4 => some (Go.bits .or .u32 (Go.bits .or .u32 (Go.bits .or .u32 t t2) t3) t4)) = _
    rw [ha _ (by omega) 1 4 8 (by omega) (by omega) (by omega), ha _ (by omega) 5 6 25 (by omega) (by omega) (by omega), ha _ (by omega) 11 1 7 (by omega) (by omega) (by omega), ha _ (by omega) 12 1 31 (by omega) (by omega) (by omega)]
    simp only [Option.bind_some]
    have b1 : (V / 2 ^ 1 % 2 ^ 4) <<< 8 < 2 ^ 32 := sl (m := 16) (by omega) (by omega)
    have b2 : (V / 2 ^ 5 % 2 ^ 6) <<< 25 < 2 ^ 32 := sl (m := 64) (by omega) (by omega)
    have b3 : (V / 2 ^ 11 % 2 ^ 1) <<< 7 < 2 ^ 32 := sl (m := 2) (by omega) (by omega)
    have b4 : (V / 2 ^ 12 % 2 ^ 1) <<< 31 < 2 ^ 32 := sl (m := 2) (by omega) (by omega)
    rw [or32 _ _ b1 b2, or32 _ _ (or32_lt b1 b2) b3, or32 _ _ (or32_lt (or32_lt b1 b2) b3) b4]
    simp [layS]
  · show (ravelinref15_at.f k v (1 : Nat) (10 : Nat) (21 : Nat)).bind (fun t => (ravelinref15_at.f k v (11 : Nat) (1 : Nat) (20 : Nat)).bind fun t2 => (ravelinref15_at.f k v (12 : Nat) (8 : Nat) (12 : Nat)).bind fun t3 => (ravelinref15_at.f k v (20 : Nat) (1 : Nat) (31 : Nat)).bind fun t4 => some (Go.bits .or .u32 (Go.bits .or .u32 (Go.bits .or .u32 t t2) t3) t4)) = _
    rw [ha _ (by omega) 1 10 21 (by omega) (by omega) (by omega), ha _ (by omega) 11 1 20 (by omega) (by omega) (by omega), ha _ (by omega) 12 8 12 (by omega) (by omega) (by omega), ha _ (by omega) 20 1 31 (by omega) (by omega) (by omega)]
    simp only [Option.bind_some]
    have b1 : (V / 2 ^ 1 % 2 ^ 10) <<< 21 < 2 ^ 32 := sl (m := 1024) (by omega) (by omega)
    have b2 : (V / 2 ^ 11 % 2 ^ 1) <<< 20 < 2 ^ 32 := sl (m := 2) (by omega) (by omega)
    have b3 : (V / 2 ^ 12 % 2 ^ 8) <<< 12 < 2 ^ 32 := sl (m := 256) (by omega) (by omega)
    have b4 : (V / 2 ^ 20 % 2 ^ 1) <<< 31 < 2 ^ 32 := sl (m := 2) (by omega) (by omega)
    rw [or32 _ _ b1 b2, or32 _ _ (or32_lt b1 b2) b3, or32 _ _ (or32_lt (or32_lt b1 b2) b3) b4]
    simp [layS]
theorem layS_lt (form v : Nat) : layS form v < 2 ^ 32 := by
  unfold layS
  split
  · exact sl (m := 1048576) (by omega) (by omega)
  split
  · exact sl (m := 4096) (by omega) (by omega)
  split
  · exact sl (m := 64) (by omega) (by omega)
  split
  · exact or32_lt (sl (m := 32) (by omega) (by omega)) (sl (m := 128) (by omega) (by omega))
  split
  · exact or32_lt (or32_lt (or32_lt (sl (m := 16) (by omega) (by omega)) (sl (m := 64) (by omega) (by omega))) (sl (m := 2) (by omega) (by omega))) (sl (m := 2) (by omega) (by omega))
  split
  · exact or32_lt (or32_lt (or32_lt (sl (m := 1024) (by omega) (by omega)) (sl (m := 2) (by omega) (by omega))) (sl (m := 256) (by omega) (by omega))) (sl (m := 2) (by omega) (by omega))
  · omega

/-- An operation's row. -/
theorem row_eq : ∀ i : Fin 34, (rowOf (i.1 + 1)).f0 = ((i.1 + 1 : Nat) : Int) ∧ (rowOf (i.1 + 1)).f1 = (formOf (i.1 + 1) : Nat) ∧ (rowOf (i.1 + 1)).f2 = (codeOf (i.1 + 1) : Nat) ∧ (rowOf (i.1 + 1)).f3 = (f3Of (i.1 + 1) : Nat) ∧ (rowOf (i.1 + 1)).f4 = (f7Of (i.1 + 1) : Nat) := by decide +kernel
theorem find_at (k : Nat) (hk : 40 ≤ k) (n : Nat) (h0 : 1 ≤ n) (h1 : n ≤ 34) : ravelinref15_Find.f k (n : Int) = some ((n : Int), ((formOf n : Nat) : Int), ((codeOf n : Nat) : Int), ((f3Of n : Nat) : Int), ((f7Of n : Nat) : Int), (rowOf n).f5, true) := by
  have h := find_eq ⟨n - 1, by omega⟩
  obtain ⟨e0, e1, e2, e3, e4⟩ := row_eq ⟨n - 1, by omega⟩
  simp only [show n - 1 + 1 = n by omega] at h e0 e1 e2 e3 e4
  rw [e0, e1, e2, e3, e4] at h
  exact at_rounds (ravelinref15_Find.mono (n : Int)) hk h
theorem forms : ∀ i : Fin 34, 1 ≤ formOf (i.1 + 1) ∧ formOf (i.1 + 1) ≤ 8 ∧ codeOf (i.1 + 1) < 128 ∧ f3Of (i.1 + 1) < 8 ∧ f7Of (i.1 + 1) < 128 := by decide
theorem form_in {n : Nat} (h0 : 1 ≤ n) (h1 : n ≤ 34) : 1 ≤ formOf n ∧ formOf n ≤ 8 ∧ codeOf n < 128 ∧ f3Of n < 8 ∧ f7Of n < 128 := by
  have := forms ⟨n - 1, by omega⟩
  simpa only [show n - 1 + 1 = n by omega] using this
def nd (form : Nat) : Bool := decide (form ≠ 5 ∧ form ≠ 7)
def ns (form : Nat) : Bool := decide (form ≠ 1 ∧ form ≠ 8)
def nt (form : Nat) : Bool := decide (5 ≤ form ∧ form ≤ 7)
theorem named_eq (k : Nat) (form : Nat) (h1 : 1 ≤ form) (h8 : form ≤ 8) : ravelinref15_Named.f (k + 3) (form : Int) = some (nd form, ns form, nt form) := by
  have hf : form = 1 ∨ form = 2 ∨ form = 3 ∨ form = 4 ∨ form = 5 ∨ form = 6 ∨ form = 7 ∨ form = 8 := by omega
  rcases hf with rfl | rfl | rfl | rfl | rfl | rfl | rfl | rfl <;> rfl
def regOk (v : Int) (b : Bool) : Bool := decide (0 ≤ v ∧ v < 32 ∧ (b = true ∨ v = 0))
theorem reg_eq (v : Int) (b : Bool) : ravelinref15_reg.f v b = some (regOk v b) := by
  unfold ravelinref15_reg.f regOk
  by_cases h0 : v ≥ 0 <;> by_cases h1 : v < 32 <;> cases b <;> simp [h0, h1] <;> (try omega)
  rfl
/-- The word, as it is put together. -/
def encN (n d s t V : Nat) : Nat :=
  let w0 := codeOf n ||| layS (formOf n) V
  let w1 := if nd (formOf n) = true then w0 ||| d <<< 7 else w0
  let w2 := if ns (formOf n) = true then w1 ||| s <<< 15 else w1
  let w3 := if nt (formOf n) = true then w2 ||| t <<< 20 else w2
  let w4 := if formOf n ≠ 1 ∧ formOf n ≠ 8 then w3 ||| (f3Of n) <<< 12 else w3
  if formOf n = 6 then w4 ||| (f7Of n) <<< 25 else w4
def encW (n : Nat) (rd rs1 rs2 imm : Int) : Nat := encN n rd.toNat rs1.toNat rs2.toNat (BitVec.ofInt 64 imm).toNat
def regsOk (n : Nat) (rd rs1 rs2 : Int) : Bool := regOk rd (nd (formOf n)) && (regOk rs1 (ns (formOf n)) && regOk rs2 (nt (formOf n)))
theorem sh32 (a : Int) (h : regOk a true = true) (c m : Nat) (hm : 2 ^ c = m) (hc : c ≤ 20) : ((a % 4294967296) * (m : Int)) % 4294967296 = ((a.toNat <<< c : Nat) : Int) := by
  unfold regOk at h
  have h := of_decide_eq_true h
  rw [Nat.shiftLeft_eq, hm]
  have hm2 : m ≤ 1048576 := by rw [← hm]; exact Nat.pow_le_pow_right (by decide) hc
  have h3 : a.toNat * m ≤ 31 * 1048576 := Nat.mul_le_mul (by omega) hm2
  rw [show a % 4294967296 = (a.toNat : Int) by omega, ← Int.natCast_mul]
  omega
theorem regOk_of {a : Int} {b : Bool} (h : regOk a b = true) : regOk a true = true := by
  unfold regOk at h ⊢
  have h := of_decide_eq_true h
  exact decide_eq_true ⟨h.1, h.2.1, .inl rfl⟩
theorem regOk_lt {a : Int} {b : Bool} (h : regOk a b = true) : a.toNat < 32 := by
  unfold regOk at h
  have h := of_decide_eq_true h
  omega
theorem enc_eq (k : Nat) (hk : 100 ≤ k) (n : Nat) (h0 : 1 ≤ n) (h1 : n ≤ 34) (rd rs1 rs2 imm : Int) :
    ravelinref15_Encode.f k (n : Int) rd rs1 rs2 imm = some (if regsOk n rd rs1 rs2 = true then (if fits (formOf n) imm = true then (((encW n rd rs1 rs2 imm : Nat) : Int), 0) else (0, 152)) else (0, 151)) := by
  obtain ⟨k, rfl⟩ : ∃ m, k = m + 10 := ⟨k - 10, by omega⟩
  obtain ⟨f1, f8, fc, f3, f7⟩ := form_in h0 h1
  unfold ravelinref15_Encode.f
  rw [find_at _ (by omega) n h0 h1]
  simp only [Option.bind_some, if_true]
  rw [named_eq (k + 7) _ f1 f8]
  simp only [Option.bind_some, reg_eq]
  unfold regsOk
  by_cases a1 : regOk rd (nd (formOf n)) = true
  case neg =>
    rw [Bool.eq_false_iff.2 a1]
    simp [ravelinref15_Encode.j0]
  by_cases a2 : regOk rs1 (ns (formOf n)) = true
  case neg =>
    rw [a1, Bool.eq_false_iff.2 a2]
    simp [ravelinref15_Encode.j0]
  by_cases a3 : regOk rs2 (nt (formOf n)) = true
  case neg =>
    rw [a1, a2, Bool.eq_false_iff.2 a3]
    simp [ravelinref15_Encode.j0]
  rw [a1, a2, a3]
  simp only [if_true, Bool.not_true, Bool.and_self]
  simp only [ravelinref15_Encode.j0]
  rw [imm_eq _ _ f1 f8]
  simp only [Option.bind_some, Bool.false_eq_true, if_false]
  by_cases a4 : fits (formOf n) imm = true
  case neg =>
    rw [if_neg a4, if_neg a4]
  rw [if_pos a4, if_pos a4, lay_eq _ (by omega) _ f1 f8]
  simp only [Option.bind_some]
  have e1 : rd % 4294967296 * 128 % 4294967296 = _ := sh32 rd (regOk_of a1) 7 128 rfl (by omega)
  have e2 : rs1 % 4294967296 * 32768 % 4294967296 = _ := sh32 rs1 (regOk_of a2) 15 32768 rfl (by omega)
  have e3 : rs2 % 4294967296 * 1048576 % 4294967296 = _ := sh32 rs2 (regOk_of a3) 20 1048576 rfl (by omega)
  have e4 : (((f3Of n : Nat) : Int) * (4096 : Int)) % (4294967296 : Int) = (((f3Of n) <<< 12 : Nat) : Int) := by rw [Nat.shiftLeft_eq]; omega
  have e5 : ((f7Of n : Nat) : Int) * (33554432 : Int) % (4294967296 : Int) = (((f7Of n) <<< 25 : Nat) : Int) := by rw [Nat.shiftLeft_eq]; omega
  have b1 : rd.toNat <<< 7 < 2 ^ 32 := sl (regOk_lt a1) (by omega)
  have b2 : rs1.toNat <<< 15 < 2 ^ 32 := sl (regOk_lt a2) (by omega)
  have b3 : rs2.toNat <<< 20 < 2 ^ 32 := sl (regOk_lt a3) (by omega)
  have b4 : (f3Of n) <<< 12 < 2 ^ 32 := sl f3 (by omega)
  have b5 : (f7Of n) <<< 25 < 2 ^ 32 := sl f7 (by omega)
  have b0 := layS_lt (formOf n) (BitVec.ofInt 64 imm).toNat
  have bc : codeOf n < 2 ^ 32 := by omega
  unfold encW encN
  generalize layS (formOf n) (BitVec.ofInt 64 imm).toNat = L at b0 ⊢
  generalize rd.toNat <<< 7 = q1 at *
  generalize rs1.toNat <<< 15 = q2 at *
  generalize rs2.toNat <<< 20 = q3 at *
  generalize (f3Of n) <<< 12 = q4 at *
  generalize (f7Of n) <<< 25 = q5 at *
  generalize codeOf n = c at *
  simp only [ravelinref15_Encode.j1, ravelinref15_Encode.j2, ravelinref15_Encode.j3, ravelinref15_Encode.j4, e1, e2, e3, e4, e5]
  generalize formOf n = F at *
  have hf : F = 1 ∨ F = 2 ∨ F = 3 ∨ F = 4 ∨ F = 5 ∨ F = 6 ∨ F = 7 ∨ F = 8 := by omega
  have k0 := or32_lt bc b0
  rcases hf with rfl | rfl | rfl | rfl | rfl | rfl | rfl | rfl
  · show some (Go.bits .or .u32 (Go.bits .or .u32 (c : Int) (L : Int)) (q1 : Int), (0 : Int)) = some ((((c ||| L) ||| q1 : Nat) : Int), 0)
    rw [or32 _ _ bc b0, or32 _ _ k0 b1]
  iterate 3
    · show some (Go.bits .or .u32 (Go.bits .or .u32 (Go.bits .or .u32 (Go.bits .or .u32 (c : Int) (L : Int)) (q1 : Int)) (q2 : Int)) (q4 : Int), (0 : Int)) = some ((((((c ||| L) ||| q1) ||| q2) ||| q4 : Nat) : Int), 0)
      rw [or32 _ _ bc b0, or32 _ _ k0 b1, or32 _ _ (or32_lt k0 b1) b2, or32 _ _ (or32_lt (or32_lt k0 b1) b2) b4]
  · show some (Go.bits .or .u32 (Go.bits .or .u32 (Go.bits .or .u32 (Go.bits .or .u32 (c : Int) (L : Int)) (q2 : Int)) (q3 : Int)) (q4 : Int), (0 : Int)) = some ((((((c ||| L) ||| q2) ||| q3) ||| q4 : Nat) : Int), 0)
    rw [or32 _ _ bc b0, or32 _ _ k0 b2, or32 _ _ (or32_lt k0 b2) b3, or32 _ _ (or32_lt (or32_lt k0 b2) b3) b4]
  · show some (Go.bits .or .u32 (Go.bits .or .u32 (Go.bits .or .u32 (Go.bits .or .u32 (Go.bits .or .u32 (Go.bits .or .u32 (c : Int) (L : Int)) (q1 : Int)) (q2 : Int)) (q3 : Int)) (q4 : Int)) (q5 : Int), (0 : Int)) = some ((((((((c ||| L) ||| q1) ||| q2) ||| q3) ||| q4) ||| q5 : Nat) : Int), 0)
    rw [or32 _ _ bc b0, or32 _ _ k0 b1, or32 _ _ (or32_lt k0 b1) b2, or32 _ _ (or32_lt (or32_lt k0 b1) b2) b3, or32 _ _ (or32_lt (or32_lt (or32_lt k0 b1) b2) b3) b4, or32 _ _ (or32_lt (or32_lt (or32_lt (or32_lt k0 b1) b2) b3) b4) b5]
  · show some (Go.bits .or .u32 (Go.bits .or .u32 (Go.bits .or .u32 (Go.bits .or .u32 (c : Int) (L : Int)) (q2 : Int)) (q3 : Int)) (q4 : Int), (0 : Int)) = some ((((((c ||| L) ||| q2) ||| q3) ||| q4 : Nat) : Int), 0)
    rw [or32 _ _ bc b0, or32 _ _ k0 b2, or32 _ _ (or32_lt k0 b2) b3, or32 _ _ (or32_lt (or32_lt k0 b2) b3) b4]
  · show some (Go.bits .or .u32 (Go.bits .or .u32 (c : Int) (L : Int)) (q1 : Int), (0 : Int)) = some ((((c ||| L) ||| q1 : Nat) : Int), 0)
    rw [or32 _ _ bc b0, or32 _ _ k0 b1]

/-- The sums of the formats. -/
theorem vnat (x : Int) : (((BitVec.ofInt 64 x).toNat : Nat) : Int) = x % 18446744073709551616 := by
  rw [BitVec.toNat_ofInt]
  omega
theorem sum_u {n d s t V : Nat} (hf : formOf n = 1) (hc : codeOf n < 128) (hd : d < 32) : encN n d s t V = codeOf n + d * 128 + V % 1048576 * 4096 := by
  have h := W32.form_u (codeOf n) (V % 1048576) d hc hd
  unfold encN layS nd ns nt
  rw [hf]
  simpa using h
theorem sum_i {n d s t V : Nat} (hf : formOf n = 2) (hc : codeOf n < 128) (h3 : f3Of n < 8) (hd : d < 32) (hs : s < 32) : encN n d s t V = codeOf n + d * 128 + f3Of n * 4096 + s * 32768 + V % 4096 * 1048576 := by
  have h := W32.form_i (codeOf n) (V % 4096) d s (f3Of n) hc hd hs h3
  unfold encN layS nd ns nt
  rw [hf]
  simpa using h
theorem sum_h {n d s t V : Nat} (hf : formOf n = 3 ∨ formOf n = 4) (hc : codeOf n < 128) (h3 : f3Of n < 8) (hd : d < 32) (hs : s < 32) : encN n d s t V = codeOf n + d * 128 + f3Of n * 4096 + s * 32768 + V % 64 * 1048576 := by
  have h := W32.form_i (codeOf n) (V % 64) d s (f3Of n) hc hd hs h3
  unfold encN layS nd ns nt
  rcases hf with hf | hf <;> rw [hf] <;> simpa using h
theorem sum_s {n d s t V : Nat} (hf : formOf n = 5) (hc : codeOf n < 128) (h3 : f3Of n < 8) (hs : s < 32) (ht : t < 32) : encN n d s t V = codeOf n + V % 32 * 128 + f3Of n * 4096 + s * 32768 + t * 1048576 + V / 32 % 128 * 33554432 := by
  have h := W32.form_s (codeOf n) (V % 32) (V / 32 % 128) s t (f3Of n) hc (by omega) hs ht h3
  unfold encN layS nd ns nt
  rw [hf]
  simpa using h
theorem sum_r {n d s t V : Nat} (hf : formOf n = 6) (hc : codeOf n < 128) (h3 : f3Of n < 8) (hd : d < 32) (hs : s < 32) (ht : t < 32) : encN n d s t V = codeOf n + d * 128 + f3Of n * 4096 + s * 32768 + t * 1048576 + f7Of n * 33554432 := by
  have h := W32.form_r (codeOf n) d s t (f3Of n) (f7Of n) hc hd hs ht h3
  unfold encN layS nd ns nt
  rw [hf]
  simpa using h
theorem sum_b {n d s t V : Nat} (hf : formOf n = 7) (hc : codeOf n < 128) (h3 : f3Of n < 8) (hs : s < 32) (ht : t < 32) : encN n d s t V = codeOf n + V / 2048 % 2 * 128 + V / 2 % 16 * 256 + f3Of n * 4096 + s * 32768 + t * 1048576 + V / 32 % 64 * 33554432 + V / 4096 % 2 * 2147483648 := by
  have h := W32.form_b (codeOf n) (V / 2 % 16) (V / 32 % 64) (V / 2048 % 2) (V / 4096 % 2) s t (f3Of n) hc (by omega) (by omega) (by omega) hs ht h3
  unfold encN layS nd ns nt
  rw [hf]
  simpa using h
theorem sum_j {n d s t V : Nat} (hf : formOf n = 8) (hc : codeOf n < 128) (hd : d < 32) : encN n d s t V = codeOf n + d * 128 + V / 4096 % 256 * 4096 + V / 2048 % 2 * 1048576 + V / 2 % 1024 * 2097152 + V / 1048576 % 2 * 2147483648 := by
  have h := W32.form_j (codeOf n) (V / 2 % 1024) (V / 2048 % 2) (V / 4096 % 256) (V / 1048576 % 2) d hc (by omega) (by omega) (by omega) hd
  unfold encN layS nd ns nt
  rw [hf]
  simpa using h
/-- What is put together is read as that operation. -/
theorem hit_enc (n : Nat) (h0 : 1 ≤ n) (h1 : n ≤ 34) (rd rs1 rs2 imm : Int) (hr : regsOk n rd rs1 rs2 = true) (hi : fits (formOf n) imm = true) : encW n rd rs1 rs2 imm < 4294967296 ∧ hit n (encW n rd rs1 rs2 imm) = true := by
  obtain ⟨f1, f8, fc, f3, f7⟩ := form_in h0 h1
  have hv := vnat imm
  unfold regsOk at hr
  simp only [Bool.and_eq_true] at hr
  have hd := regOk_lt hr.1
  have hs := regOk_lt hr.2.1
  have ht := regOk_lt hr.2.2
  unfold encW hit midOk topOk
  generalize (BitVec.ofInt 64 imm).toNat = V at hv ⊢
  generalize rd.toNat = d at *
  generalize rs1.toNat = s at *
  generalize rs2.toNat = t at *
  have hf : formOf n = 1 ∨ formOf n = 2 ∨ formOf n = 3 ∨ formOf n = 4 ∨ formOf n = 5 ∨ formOf n = 6 ∨ formOf n = 7 ∨ formOf n = 8 := by omega
  rcases hf with hf | hf | hf | hf | hf | hf | hf | hf
  · rw [sum_u hf fc hd]
    simp [hf]
    omega
  · rw [sum_i hf fc f3 hd hs]
    simp [hf]
    omega
  · rw [sum_h (.inl hf) fc f3 hd hs]
    simp [hf]
    omega
  · rw [sum_h (.inr hf) fc f3 hd hs]
    rw [hf] at hi
    have hi := of_decide_eq_true (show decide (0 ≤ imm ∧ imm < 32) = true from hi)
    simp [hf]
    omega
  · rw [sum_s hf fc f3 hs ht]
    simp [hf]
    omega
  · rw [sum_r hf fc f3 hd hs ht]
    simp [hf]
    omega
  · rw [sum_b hf fc f3 hs ht]
    have b1 : V / 2048 % 2 < 2 := by omega
    have b2 : V / 2 % 16 < 16 := by omega
    have b3 : V / 32 % 64 < 64 := by omega
    have b4 : V / 4096 % 2 < 2 := by omega
    generalize V / 2048 % 2 = x1 at *
    generalize V / 2 % 16 = x2 at *
    generalize V / 32 % 64 = x3 at *
    generalize V / 4096 % 2 = x4 at *
    clear hv
    simp [hf]
    omega
  · rw [sum_j hf fc hd]
    have b1 : V / 4096 % 256 < 256 := by omega
    have b2 : V / 2048 % 2 < 2 := by omega
    have b3 : V / 2 % 1024 < 1024 := by omega
    have b4 : V / 1048576 % 2 < 2 := by omega
    generalize V / 4096 % 256 = x1 at *
    generalize V / 2048 % 2 = x2 at *
    generalize V / 2 % 1024 = x3 at *
    generalize V / 1048576 % 2 = x4 at *
    clear hv
    simp [hf]
    omega
end Go.Proofs.YtcgkgaibomcheaaGreat.Enc
end

section
/- The document's take: an immediate out of a word. Conditions: those of the theorem. -/
namespace Go.Proofs.YtcgkgaibomcheaaGreat.Tk
open Go.RowKit Go.Proofs.YtcgkgaibomcheaaGreat.Bits Go.Proofs.YtcgkgaibomcheaaGreat.Dec Go.Proofs.YtcgkgaibomcheaaGreat.Sg Go.Proofs.YtcgkgaibomcheaaGreat.Part Go.Proofs.YtcgkgaibomcheaaGreat.PRvemuRuns Go.Proofs.YtcgkgaibomcheaaGreatW.PrintWords Go.Proofs.YtcgkgaibomcheaaGreatW.PrintLast Go.Proofs.YtcgkgaibomcheaaGreatW.PrintMore
set_option linter.unusedVariables false
set_option linter.unusedSimpArgs false

theorem w64 (z : Int) (h0 : 0 ≤ z) (h1 : z < 9223372036854775808) : wrap64 z = z := by unfold wrap64; omega
theorem p (k : Nat) (hk : 70 ≤ k) (w : Nat) (hw : w < 4294967296) (lo n : Nat) (hl : lo ≤ 63) (hn : n ≤ 32) (l2 n2 : Nat) (e1 : 2 ^ lo = l2) (e2 : 2 ^ n = n2) : ravelinref15_part.f k (w : Int) (lo : Nat) (n : Nat) = some ((w / l2 % n2 : Nat) : Int) := by
  rw [part_eq k hk w hw lo n hl hn, e1, e2]
theorem sx_sgn (V bits half : Nat) (hb : 1 ≤ bits) (hb2 : bits ≤ 32) (hh : 2 ^ bits = 2 * half) (hV : V < 2 * half) : (sx (BitVec.ofInt 64 (V : Int)) (bits : Int)).toInt = sgn half V := by
  unfold sx
  rw [if_neg (by omega), show min ((bits : Int)).toNat 64 = bits by omega, BitVec.toInt_sshiftRight, Int.shiftRight_eq_div_pow, BitVec.toInt_eq_toNat_cond, BitVec.toNat_shiftLeft, BitVec.ofInt_natCast, BitVec.toNat_ofNat, Nat.shiftLeft_eq]
  have hp : 2 ^ (64 - bits) * (2 * half) = 2 ^ 64 := by rw [← hh, ← Nat.pow_add]; congr 1; omega
  have hpos : 0 < 2 ^ (64 - bits) := Nat.pow_pos (by decide)
  have h1 : V % 2 ^ 64 = V := Nat.mod_eq_of_lt (by have : 2 ^ bits ≤ 2 ^ 32 := Nat.pow_le_pow_right (by decide) hb2; omega)
  rw [h1]
  generalize 2 ^ (64 - bits) = q at *
  have h2 : V * q < 2 ^ 64 := by rw [← hp, Nat.mul_comm q]; exact Nat.mul_lt_mul_of_pos_right hV hpos
  rw [Nat.mod_eq_of_lt h2]
  unfold sgn
  by_cases hlt : V < half
  · rw [if_pos hlt, if_pos (by rw [← hp, show 2 * (V * q) = V * q * 2 by omega, show q * (2 * half) = half * q * 2 by ac_rfl]; exact Nat.mul_lt_mul_of_pos_right (Nat.mul_lt_mul_of_pos_right hlt hpos) (by decide))]
    rw [← Int.natCast_ediv, Nat.mul_div_cancel _ hpos]
  · have h3 : ¬ 2 * (V * q) < 2 ^ 64 := by
      rw [← hp, show q * (2 * half) = 2 * (half * q) by rw [Nat.mul_left_comm, Nat.mul_comm q]]
      exact Nat.not_lt.2 (Nat.mul_le_mul_left 2 (Nat.mul_le_mul_right q (by omega)))
    rw [if_neg hlt, if_neg h3, show ((2 ^ 64 : Nat) : Int) = (2 * half : Int) * (q : Int) by rw [← hp, Int.natCast_mul, Int.mul_comm, Int.natCast_mul]; rfl, Int.natCast_mul, ← Int.sub_mul, Int.mul_ediv_cancel _ (by omega)]
theorem sg (k : Nat) (hk : 65 ≤ k) (V bits half : Nat) (hb : 1 ≤ bits) (hb2 : bits ≤ 32) (hh : 2 ^ bits = 2 * half) (hV : V < 2 * half) : ravelinref15_signed.f k (V : Int) (bits : Int) = some (sgn half V) := by
  rw [signed_eq k hk, sx_sgn V bits half hb hb2 hh hV]
end Go.Proofs.YtcgkgaibomcheaaGreat.Tk
end

section
/- The document's Decode, walked. Conditions: the word has 32 bits. -/
namespace Go.Proofs.YtcgkgaibomcheaaGreat.RDec
open Go.RowKit Go.Proofs.YtcgkgaibomcheaaGreat.Bits Go.Proofs.YtcgkgaibomcheaaGreat.Dec Go.Proofs.YtcgkgaibomcheaaGreat.Enc Go.Proofs.YtcgkgaibomcheaaGreat.Mb Go.Proofs.YtcgkgaibomcheaaGreat.PRvemuRuns Go.Proofs.YtcgkgaibomcheaaGreatW.PrintWords Go.Proofs.YtcgkgaibomcheaaGreatW.PrintLast Go.Proofs.YtcgkgaibomcheaaGreatW.PrintMore
set_option linter.unusedVariables false
set_option linter.unusedSimpArgs false

/-- The instruction of a word, or the error. -/
def insOf (n wd : Nat) : Value := .agg #[.int .i64 (n : Int), .int .i64 (fdOf n wd : Nat), .int .i64 (fs1Of n wd : Nat), .int .i64 (fs2Of n wd : Nat), .int .i64 (immOf (formOf n) wd)]
def ins0 : Value := .agg #[.int .i64 0, .int .i64 0, .int .i64 0, .int .i64 0, .int .i64 0]
def decV (wd : Nat) : Value := match dec wd with
  | some n => .tuple #[insOf n wd, .int .i64 0]
  | none => .tuple #[ins0, .int .i64 5]
theorem decV_yes {n wd : Nat} (h0 : 1 ≤ n) (h1 : n ≤ 34) (h : hit n wd = true) : decV wd = .tuple #[insOf n wd, .int .i64 0] := by unfold decV; rw [dec_yes h0 h1 h]
/-- The document's table in memory. -/
def RowsAt (W : World) (b : Nat) : Prop := ∃ cs : Array Value, W.heap[b]? = some (.cells cs 59 (0, 0)) ∧ ∀ i, i < 34 → cs[i * 6]? = some (.int .i64 (orderD.getD i 0 : Nat)) ∧ cs[i * 6 + 1]? = some (.int .i64 (formOf (orderD.getD i 0) : Nat)) ∧ cs[i * 6 + 2]? = some (.int .u32 (codeOf (orderD.getD i 0) : Nat))
theorem quiet0 {P : Program} {f : FuncId} {args : Array Value} {w : World} {n : Nat} {v : Value} (h : ∀ W, Calls P f args W fun e w' => e = .returned v ∧ Drawn0 W w') : Calls P f args (w.drewN n) fun e w'' => e = .returned v ∧ ∃ m, w'' = w.drewN m :=
  Calls.quiet_of ((h _).mono fun e w' ⟨he, hd⟩ => ⟨he, hd.out⟩)
theorem kA {W : World} {p : Addr} {v : Value} (o : Obj) (h : W.cell? p = some v) : (W.alloc o).cell? p = some v := ((below_alloc (Below.refl _ _) o).cell (World.block_lt_of_cell? _ _ h)).trans h
theorem kB {W W' : World} {p : Addr} {v : Value} (hd : Below W.heap.size W W') (h : W.cell? p = some v) : W'.cell? p = some v := (hd.cell (World.block_lt_of_cell? _ _ h)).trans h
theorem kS {W : World} {p q : Addr} {v u : Value} (hn : p.block ≠ q.block) (h : W.cell? p = some v) : (W.setCell q u).cell? p = some v := (World.cell?_setCell_far W q p u (fun e => hn e.symm)).trans h
theorem kS5 {W : World} {p : Addr} {v u0 u1 u2 u3 u4 : Value} {g : Nat} (hn : p.block ≠ g) (h : W.cell? p = some v) : (((((W.setCell ⟨g, 0, none⟩ u0).setCell ⟨g, 1, none⟩ u1).setCell ⟨g, 2, none⟩ u2).setCell ⟨g, 3, none⟩ u3).setCell ⟨g, 4, none⟩ u4).cell? p = some v :=
  kS (q := ⟨g, 4, none⟩) hn (kS (q := ⟨g, 3, none⟩) hn (kS (q := ⟨g, 2, none⟩) hn (kS (q := ⟨g, 1, none⟩) hn (kS (q := ⟨g, 0, none⟩) hn h))))
/-- A struct of five numbers, written whole. -/
def put5 (W : World) (g : Nat) (u0 u1 u2 u3 u4 : Value) : World := ((((W.setCell ⟨g, 0, none⟩ u0).setCell ⟨g, 1, none⟩ u1).setCell ⟨g, 2, none⟩ u2).setCell ⟨g, 3, none⟩ u3).setCell ⟨g, 4, none⟩ u4
theorem put5_block {W : World} {g T : Nat} {v0 v1 v2 v3 v4 : Value} (h : W.heap[g]? = some (.cells #[v0, v1, v2, v3, v4] T (0, 0))) (u0 u1 u2 u3 u4 : Value) : (put5 W g u0 u1 u2 u3 u4).heap[g]? = some (.cells #[u0, u1, u2, u3, u4] T (0, 0)) :=
  blk_put (cs' := #[u0, u1, u2, u3, u4]) (blk_put (cs' := #[u0, u1, u2, u3, v4]) (blk_put (cs' := #[u0, u1, u2, v3, v4]) (blk_put (cs' := #[u0, u1, v2, v3, v4]) (blk_put (cs' := #[u0, v1, v2, v3, v4]) h 0 u0 rfl) 1 u1 rfl) 2 u2 rfl) 3 u3 rfl) 4 u4 rfl
theorem put5_far {W : World} {g k : Nat} (u0 u1 u2 u3 u4 : Value) (h : k ≠ g) : (put5 W g u0 u1 u2 u3 u4).heap[k]? = W.heap[k]? := by
  unfold put5
  rw [Below.heap_setCell _ _ _ _ h, Below.heap_setCell _ _ _ _ h, Below.heap_setCell _ _ _ _ h, Below.heap_setCell _ _ _ _ h, Below.heap_setCell _ _ _ _ h]
theorem put5_below {w W : World} {g B : Nat} (u0 u1 u2 u3 u4 : Value) (h : Below B w W) (hg : B ≤ g) : Below B w (put5 W g u0 u1 u2 u3 u4) := by
  unfold put5
  exact ((((h.setCell hg _).setCell hg _).setCell hg _).setCell hg _).setCell hg _
/-- Where the result's variable stands. -/
def Own (w W : World) : Prop := W.heap[w.heap.size]? = some (.cells #[.int .i64 0, .int .i64 0, .int .i64 0, .int .i64 0, .int .i64 0] 42 (0, 0))
end Go.Proofs.YtcgkgaibomcheaaGreat.RDec
end

section
/- The program's machine in memory, and what keeps it. Conditions: those of each theorem. -/
namespace Go.Proofs.YtcgkgaibomcheaaGreat.EM
open Go.RowKit Go.Proofs.YtcgkgaibomcheaaGreat.Bits Go.Proofs.YtcgkgaibomcheaaGreat.Dec Go.Proofs.YtcgkgaibomcheaaGreat.Mac Go.Proofs.YtcgkgaibomcheaaGreat.Mb Go.Proofs.YtcgkgaibomcheaaGreat.Rd Go.Proofs.YtcgkgaibomcheaaGreat.Do Go.Proofs.YtcgkgaibomcheaaGreat.RDec Go.Proofs.YtcgkgaibomcheaaGreat.PRvemuRuns Go.Proofs.YtcgkgaibomcheaaGreatW.PrintWords Go.Proofs.YtcgkgaibomcheaaGreatW.PrintLast Go.Proofs.YtcgkgaibomcheaaGreatW.PrintMore
set_option linter.unusedVariables false
set_option linter.unusedSimpArgs false

/-- A machine's values, in both blocks' order. -/
def vals (m : Mac) (c d f t q : Value) : Nat → Value := fun i =>
  if i = 0 then c else if i = 1 then d else if i = 2 then f else if i < 35 then .int .u64 (U (m.x (i - 3))) else if i = 35 then .int .u64 (U m.pc) else if i = 36 then .int .i64 m.fuel else
  if i = 37 then .int .i64 m.steps else if i = 38 then .bool m.done else if i = 39 then .int .i64 m.err else if i = 40 then t else q
theorem vals_x (m : Mac) (c d f t q : Value) (r : Nat) (hr : r < 32) : vals m c d f t q (3 + r) = .int .u64 (U (m.x r)) := by
  unfold vals
  rw [if_neg (by omega), if_neg (by omega), if_neg (by omega), if_pos (by omega), show 3 + r - 3 = r by omega]
theorem vals_setpc (m : Mac) (c d f t q : Value) (pc : BitVec 64) : atPc (vals m c d f t q) pc = vals (setpc m pc) c d f t q := by
  funext i
  unfold atPc vals setpc
  by_cases h : i = 35
  · subst h; rfl
  · rw [if_neg h]
    simp only [if_neg h]
theorem vals_tr (m : Mac) (c d f t q t' : Value) (e : S54) : atTr (vals m c d f t q) t' = vals (note m e) c d f t' q := by
  funext i
  unfold atTr vals note
  by_cases h : i = 40
  · subst h; rfl
  · rw [if_neg h]
    simp only [if_neg h]
theorem vals_setx (m : Mac) (c d f t q : Value) (rd : Nat) (r : BitVec 64) (hrd : rd < 32) (h0 : rd ≠ 0) : (fun i => if i = 3 + rd then Value.int .u64 (U r) else vals m c d f t q i) = vals (setx m rd r) c d f t q := by
  funext i
  unfold setx
  rw [if_neg h0]
  by_cases h : i = 3 + rd
  · subst h
    rw [if_pos rfl, vals_x _ _ _ _ _ _ _ hrd]
    simp
  · rw [if_neg h]
    unfold vals
    by_cases h35 : i < 35
    · by_cases h2 : i ≤ 2
      · have : i = 0 ∨ i = 1 ∨ i = 2 := by omega
        rcases this with rfl | rfl | rfl <;> rfl
      · have h3 : ¬ i - 3 = rd := by omega
        simp only [h3, if_false]
    · have : ¬ i = 0 ∧ ¬ i = 1 ∧ ¬ i = 2 := by omega
      simp only [this.1, this.2.1, this.2.2, h35, if_false]
/-- What a step may write. -/
def own (g : Nat) (f t : Value) (k : Nat) : Prop := k = g ∨ some k = f.ownBlock ∨ some k = t.ownBlock
/-- A row of bytes that is read. -/
def CodeAt (W : World) (S : Nat → Prop) (c : Value) (l : List Int) : Prop := ∃ A cc, c = .slice A l.length cc ∧ l.length ≤ cc ∧ Kd.C (Kd.int .u8) W A l.length l ∧ ∀ ad, A = some ad → 0 < l.length → ¬ S ad.block
/-- A row of bytes of the machine's own. -/
def SlAt (W : World) (f : Value) (l : List Int) : Prop := ∃ A c, f = .slice A l.length c ∧ l.length ≤ c ∧ (l = [] ∨ ∃ b, A = some ⟨b, 0, none⟩ ∧ Row b l W)
theorem CodeAt.kept {W W' : World} {S T : Nat → Prop} {c : Value} {l : List Int} (h : CodeAt W S c l) (hk : Kept W W' T) (hs : ∀ k, k < W.heap.size → T k → S k) : CodeAt W' S c l := by
  obtain ⟨A, cc, h1, h2, h3, h4⟩ := h
  refine ⟨A, cc, h1, h2, ?_, h4⟩
  refine Kd.C_foot_neS (d := Kd.int .u8) (S := T) (fun hx => hx) h3 (fun ad ha hn hT => ?_) W' hk
  subst ha
  exact h4 ad rfl hn (hs _ (Kd.C_lt h3 hn (by decide)) hT)
theorem CodeAt.imp {W : World} {S T : Nat → Prop} {c : Value} {l : List Int} (h : CodeAt W S c l) (hs : ∀ k, k < W.heap.size → T k → S k) : CodeAt W T c l := by
  obtain ⟨A, cc, h1, h2, h3, h4⟩ := h
  refine ⟨A, cc, h1, h2, h3, fun ad ha hn hT => ?_⟩
  subst ha
  exact h4 ad rfl hn (hs _ (Kd.C_lt h3 hn (by decide)) hT)
theorem SlAt.of {W W' : World} {f : Value} {l : List Int} (h : SlAt W f l) (hk : ∀ k, some k = f.ownBlock → k < W.heap.size → W'.heap[k]? = W.heap[k]?) : SlAt W' f l := by
  obtain ⟨A, c, rfl, h2, h3⟩ := h
  refine ⟨A, c, rfl, h2, ?_⟩
  rcases h3 with h3 | ⟨b, rfl, hb⟩
  · exact .inl h3
  · exact .inr ⟨b, rfl, hb.of (hk b (by simp [Value.ownBlock]) hb.lt)⟩
/-- The row of accesses, of one block alone. -/
def TrAt (W : World) (t : Value) (tr : List S54) : Prop := Kd.R k54 54 W 0 (fun k => some k = t.ownBlock) t tr
theorem TrAt.mk_ {W : World} {b : Nat} {ok : Nat → Prop} {t : Value} {tr : List S54} (h : Kd.R k54 54 W b ok t tr) : TrAt W t tr := by
  have h := Kd.R_lower h (Nat.zero_le b)
  refine ⟨fun k hk => hk.symm, h.2.imp_ fun p c hp => ?_⟩
  rw [k54_open (k54.K_of_M hp)]
  exact k54_mkM _ _ _ p
theorem TrAt.lt {W : World} {t : Value} {tr : List S54} (h : TrAt W t tr) (k : Nat) (hk : some k = t.ownBlock) : k < W.heap.size := Kd.R_lt h k hk.symm
theorem TrAt.typed {W : World} {t : Value} {tr : List S54} (h : TrAt W t tr) (k : Nat) (hk : some k = t.ownBlock) : ∃ cells, W.heap[k]? = some (.cells cells 54 (0, 0)) := Kd.R_typed h k hk.symm
theorem TrAt.kept {W W' : World} {S : Nat → Prop} {t : Value} {tr : List S54} (h : TrAt W t tr) (hk : Kept W W' S) (hs : ∀ k, some k = t.ownBlock → ¬ S k) : TrAt W' t tr := Kd.R_kept h hk hs

theorem mbt {T n : Nat} {W : World} {g : Nat} {v : Nat → Value} (h : MB T n W g v) : ∃ cs, W.heap[g]? = some (.cells cs T (0, 0)) := by
  obtain ⟨cs, h1, _⟩ := h
  exact ⟨cs, h1⟩
theorem row_typed {W : World} {b : Nat} {l : List Int} (h : Row b l W) : ∃ cs, W.heap[b]? = some (.cells cs 5 (0, 0)) := by
  obtain ⟨cs, h1, _⟩ := h
  exact ⟨cs, h1⟩
theorem ty_ne {W : World} {a b T U : Nat} (ha : ∃ cs, W.heap[a]? = some (.cells cs T (0, 0))) (hb : ∃ cs, W.heap[b]? = some (.cells cs U (0, 0))) (hT : T ≠ U) : a ≠ b := by
  rintro rfl
  obtain ⟨cs, h1⟩ := ha
  obtain ⟨ds, h2⟩ := hb
  rw [h1] at h2
  injection h2 with h2
  injection h2 with _ h2 _
  exact hT h2
theorem map_ne {W : World} {a b T : Nat} {es : Array MapEntry} {ck : Nat} (ha : ∃ cs, W.heap[a]? = some (.cells cs T (0, 0))) (hb : W.heap[b]? = some (.map es ck)) : a ≠ b := by
  rintro rfl
  obtain ⟨cs, h1⟩ := ha
  rw [h1] at hb
  cases hb
/-- The program's machine, but for its code. -/
structure ME (W : World) (g : Nat) (m : Mac) (c d f t : Value) (gm : Nat) : Prop where
  mb : MB 74 42 W g (vals m c d f t (.map (some gm)))
  tr : TrAt W t m.tr
  data : ∃ gd cd, d = .slice (some ⟨gd, 0, none⟩) 64 cd ∧ 64 ≤ cd ∧ Row gd m.data W ∧ some gd ≠ f.ownBlock
  frame : SlAt W f m.frame
  fty : ∀ k, some k = f.ownBlock → ∃ cs, W.heap[k]? = some (.cells cs 5 (0, 0))
  map : W.heap[gm]? = some (.map (Tab.tab 34) 34)
  d64 : m.data.length = 64
  fl : m.frame.length ≤ 1048576
  bd : isBytes m.data
  bf : isBytes m.frame
section
variable {W W' : World} {g gm : Nat} {m : Mac} {c d f t : Value}
theorem ME.g_f (h : ME W g m c d f t gm) : some g ≠ f.ownBlock := fun e => ty_ne (mbt h.mb) (h.fty g e) (by decide) rfl
theorem ME.g_t (h : ME W g m c d f t gm) : some g ≠ t.ownBlock := fun e => ty_ne (mbt h.mb) (h.tr.typed g e) (by decide) rfl
theorem ME.gm_own (h : ME W g m c d f t gm) : ¬ own g f t gm := by
  rintro (e | e | e)
  · exact map_ne (mbt h.mb) (e ▸ h.map) rfl
  · exact map_ne (h.fty gm e) h.map rfl
  · exact map_ne (h.tr.typed gm e) h.map rfl
theorem ME.gm_lt (h : ME W g m c d f t gm) : gm < W.heap.size := blk_lt h.map
theorem own_lt (h : ME W g m c d f t gm) (k : Nat) (hk : own g f t k) : k < W.heap.size := by
  rcases hk with e | e | e
  · rw [e]; exact h.mb.lt
  · obtain ⟨cs, h1⟩ := h.fty k e
    exact blk_lt h1
  · exact h.tr.lt k e
/-- Writes elsewhere keep the machine. -/
theorem ME.kept {T : Nat → Prop} (h : ME W g m c d f t gm) (hk : Kept W W' T) (hT : ∀ k, k < W.heap.size → T k → ¬ own g f t k ∧ some k ≠ d.ownBlock ∧ k ≠ gm) : ME W' g m c d f t gm where
  mb := h.mb.of (hk.2 g h.mb.lt (fun e => (hT g h.mb.lt e).1 (.inl rfl)))
  tr := h.tr.kept hk (fun k e hh => (hT k (h.tr.lt k e) hh).1 (.inr (.inr e)))
  data := by
    obtain ⟨gd, cd, h1, h2, h3, h4⟩ := h.data
    exact ⟨gd, cd, h1, h2, h3.of (hk.2 gd h3.lt (fun e => (hT gd h3.lt e).2.1 (by rw [h1]; simp [Value.ownBlock]))), h4⟩
  frame := h.frame.of fun k e hl => hk.2 k hl (fun hh => (hT k hl hh).1 (.inr (.inl e)))
  fty := fun k e => by
    obtain ⟨cs, h1⟩ := h.fty k e
    exact ⟨cs, (hk.2 k (blk_lt h1) (fun hh => (hT k (blk_lt h1) hh).1 (.inr (.inl e)))).trans h1⟩
  map := (hk.2 gm h.gm_lt (fun e => (hT gm h.gm_lt e).2.2 rfl)).trans h.map
  d64 := h.d64
  fl := h.fl
  bd := h.bd
  bf := h.bf
theorem ME.below (h : ME W g m c d f t gm) (hb : Below W.heap.size W W') : ME W' g m c d f t gm := h.kept (Kept.of_below hb (fun _ => False)) (fun _ _ e => e.elim)
/-- A write into the machine's own block. -/
theorem ME.put (h : ME W g m c d f t gm) (j : Nat) (u : Value) (m' : Mac) (hv : vals m' c d f t (.map (some gm)) j = u) (ho : ∀ i, i < 42 → i ≠ j → vals m' c d f t (.map (some gm)) i = vals m c d f t (.map (some gm)) i) (e1 : m'.tr = m.tr) (e2 : m'.data = m.data) (e3 : m'.frame = m.frame) : ME (W.setCell ⟨g, j, none⟩ u) g m' c d f t gm where
  mb := h.mb.put j u _ hv ho
  tr := by
    rw [e1]
    obtain ⟨cs, hcs⟩ := (mbt h.mb)
    exact Kd.R_set h.tr hcs (by decide) j u
  data := by
    obtain ⟨gd, cd, h1, h2, h3, h4⟩ := h.data
    rw [e2]
    exact ⟨gd, cd, h1, h2, h3.of (Below.heap_setCell _ _ _ _ (fun e => ty_ne (mbt h.mb) (row_typed h3) (by decide) e.symm)), h4⟩
  frame := by
    rw [e3]
    exact h.frame.of fun k e hl => Below.heap_setCell _ _ _ _ (fun e2 => h.g_f (by rw [← e]; exact congrArg some e2.symm))
  fty := fun k e => by
    obtain ⟨cs, h1⟩ := h.fty k e
    exact ⟨cs, (Below.heap_setCell _ _ _ _ (fun e2 => h.g_f (by rw [← e]; exact congrArg some e2.symm))).trans h1⟩
  map := (Below.heap_setCell _ _ _ _ (fun e2 => h.gm_own (.inl e2))).trans h.map
  d64 := by rw [e2]; exact h.d64
  fl := by rw [e3]; exact h.fl
  bd := by rw [e2]; exact h.bd
  bf := by rw [e3]; exact h.bf
end
end Go.Proofs.YtcgkgaibomcheaaGreat.EM
end

section
/- The machine's loads and stores, over read and write; read and write where no bytes lie. Conditions: those of each theorem. -/
namespace Go.Proofs.YtcgkgaibomcheaaGreat.Mem
open Go.RowKit Go.Proofs.YtcgkgaibomcheaaGreat.Bits Go.Proofs.YtcgkgaibomcheaaGreat.Alu Go.Proofs.YtcgkgaibomcheaaGreat.Mb Go.Proofs.YtcgkgaibomcheaaGreat.Rd Go.Proofs.YtcgkgaibomcheaaGreatW.PrintWords Go.Proofs.YtcgkgaibomcheaaGreatW.PrintLast Go.Proofs.YtcgkgaibomcheaaGreatW.PrintMore
set_option linter.unusedVariables false
set_option linter.unusedSimpArgs false

theorem qT : ∀ (w : World) (a : Option Addr) (n c n' c' : Nat), (binOp .eql 22 (.slice a n c) (.slice none n' c')).run Tryz.prog w = .ok (.bool a.isNone) w := fun w a n c n' c' => Lib.run_eql_slice_nil w _ _ a n c n' c' Tryz.underlying22
set_option maxRecDepth 20000 in
theorem read_no (p : Value) (a : Int) (n : Int) (w : World) (hreg : Calls Tryz.prog 110 #[p, .int .u64 a, .int .i64 n, .bool false] w fun e w' => e = .returned (.slice none 0 0) ∧ w' = w) :
    Calls Tryz.prog 96 #[p, .int .u64 a, .int .i64 n] w fun e w' => e = .panicked [{ v := .iface 95 (.agg #[.int .i64 6]), recovered := false }] ∧ w' = w := by
  have q := qT
  go_enter Tryz.func96, Tryz.ntmps96
  go_wp2_with fail
  refine hreg.mono ?_
  rintro e w1 ⟨rfl, rfl⟩
  clear hreg
  go_wp2
  exact ⟨rfl, rfl, rfl⟩
set_option maxRecDepth 20000 in
theorem write_no (p : Value) (a : Int) (n x : Int) (w : World) (hreg : Calls Tryz.prog 110 #[p, .int .u64 a, .int .i64 n, .bool true] w fun e w' => e = .returned (.slice none 0 0) ∧ w' = w) :
    Calls Tryz.prog 97 #[p, .int .u64 a, .int .i64 n, .int .u64 x] w fun e w' => e = .panicked [{ v := .iface 95 (.agg #[.int .i64 7]), recovered := false }] ∧ w' = w := by
  have q := qT
  go_enter Tryz.func97, Tryz.ntmps97
  go_wp2_with fail
  refine hreg.mono ?_
  rintro e w1 ⟨rfl, rfl⟩
  clear hreg
  go_wp2
  exact ⟨rfl, rfl, rfl⟩
set_option maxRecDepth 20000 in
theorem op_ld (p : Value) (i0 i1 i2 i3 i4 : Int) (a b k x : BitVec 64) (w : World) (X : World → Prop) (hX : ∀ W W', X W → Below W.heap.size W W' → X W')
    (h : Calls Tryz.prog 96 #[p, .int .u64 (U (a + k)), .int .i64 8] (w.alloc (.cells #[.int .i64 i0, .int .i64 i1, .int .i64 i2, .int .i64 i3, .int .i64 i4] 42)) fun e w' => e = .returned (.int .u64 (U x)) ∧ X w') :
    Calls Tryz.prog 59 #[p, .agg #[.int .i64 i0, .int .i64 i1, .int .i64 i2, .int .i64 i3, .int .i64 i4], .int .u64 (U a), .int .u64 (U b), .int .u64 (U k)] w fun e w' => e = .returned (.int .u64 (U (x))) ∧ X w' := by
  have ha := addU a k
  go_enter Tryz.func59, Tryz.ntmps59
  go_wp2_with fail
  refine h.mono ?_
  rintro e w1 ⟨rfl, hx⟩
  have HX := Aside0.mk hx
  clear hx h
  clear hX
  go_wp2
  go_ret
  exact ⟨rfl, HX.out⟩
set_option maxRecDepth 20000 in
theorem op_ld_no (p : Value) (i0 i1 i2 i3 i4 : Int) (a b k : BitVec 64) (w : World) (er : List PanicEntry)
    (h : Calls Tryz.prog 96 #[p, .int .u64 (U (a + k)), .int .i64 8] (w.alloc (.cells #[.int .i64 i0, .int .i64 i1, .int .i64 i2, .int .i64 i3, .int .i64 i4] 42)) fun e w' => e = .panicked er ∧ w' = w.alloc (.cells #[.int .i64 i0, .int .i64 i1, .int .i64 i2, .int .i64 i3, .int .i64 i4] 42)) :
    Calls Tryz.prog 59 #[p, .agg #[.int .i64 i0, .int .i64 i1, .int .i64 i2, .int .i64 i3, .int .i64 i4], .int .u64 (U a), .int .u64 (U b), .int .u64 (U k)] w fun e w' => e = .panicked er ∧ w' = w.alloc (.cells #[.int .i64 i0, .int .i64 i1, .int .i64 i2, .int .i64 i3, .int .i64 i4] 42) := by
  have ha := addU a k
  go_enter Tryz.func59, Tryz.ntmps59
  go_wp2_with fail
  refine h.mono ?_
  rintro e w1 ⟨rfl, rfl⟩
  exact ⟨rfl, rfl, rfl⟩
set_option maxRecDepth 20000 in
theorem op_lw (p : Value) (i0 i1 i2 i3 i4 : Int) (a b k x : BitVec 64) (w : World) (X : World → Prop) (hX : ∀ W W', X W → Below W.heap.size W W' → X W')
    (h : Calls Tryz.prog 96 #[p, .int .u64 (U (a + k)), .int .i64 4] (w.alloc (.cells #[.int .i64 i0, .int .i64 i1, .int .i64 i2, .int .i64 i3, .int .i64 i4] 42)) fun e w' => e = .returned (.int .u64 (U x)) ∧ X w') :
    Calls Tryz.prog 60 #[p, .agg #[.int .i64 i0, .int .i64 i1, .int .i64 i2, .int .i64 i3, .int .i64 i4], .int .u64 (U a), .int .u64 (U b), .int .u64 (U k)] w fun e w' => e = .returned (.int .u64 (U (s32 x))) ∧ X w' := by
  have ha := addU a k
  go_enter Tryz.func60, Tryz.ntmps60
  go_wp2_with fail
  refine h.mono ?_
  rintro e w1 ⟨rfl, hx⟩
  have HX := Aside0.mk hx
  clear hx h
  go_wp2_with fail
  refine (w_calls x _).mono ?_
  rintro e w2 ⟨rfl, hb⟩
  have HX2 := Aside0.mk (hX _ _ HX.out hb)
  clear HX hb hX
  go_wp2
  go_ret
  exact ⟨rfl, HX2.out⟩
set_option maxRecDepth 20000 in
theorem op_lw_no (p : Value) (i0 i1 i2 i3 i4 : Int) (a b k : BitVec 64) (w : World) (er : List PanicEntry)
    (h : Calls Tryz.prog 96 #[p, .int .u64 (U (a + k)), .int .i64 4] (w.alloc (.cells #[.int .i64 i0, .int .i64 i1, .int .i64 i2, .int .i64 i3, .int .i64 i4] 42)) fun e w' => e = .panicked er ∧ w' = w.alloc (.cells #[.int .i64 i0, .int .i64 i1, .int .i64 i2, .int .i64 i3, .int .i64 i4] 42)) :
    Calls Tryz.prog 60 #[p, .agg #[.int .i64 i0, .int .i64 i1, .int .i64 i2, .int .i64 i3, .int .i64 i4], .int .u64 (U a), .int .u64 (U b), .int .u64 (U k)] w fun e w' => e = .panicked er ∧ w' = w.alloc (.cells #[.int .i64 i0, .int .i64 i1, .int .i64 i2, .int .i64 i3, .int .i64 i4] 42) := by
  have ha := addU a k
  go_enter Tryz.func60, Tryz.ntmps60
  go_wp2_with fail
  refine h.mono ?_
  rintro e w1 ⟨rfl, rfl⟩
  exact ⟨rfl, rfl, rfl⟩
set_option maxRecDepth 20000 in
theorem op_lwu (p : Value) (i0 i1 i2 i3 i4 : Int) (a b k x : BitVec 64) (w : World) (X : World → Prop) (hX : ∀ W W', X W → Below W.heap.size W W' → X W')
    (h : Calls Tryz.prog 96 #[p, .int .u64 (U (a + k)), .int .i64 4] (w.alloc (.cells #[.int .i64 i0, .int .i64 i1, .int .i64 i2, .int .i64 i3, .int .i64 i4] 42)) fun e w' => e = .returned (.int .u64 (U x)) ∧ X w') :
    Calls Tryz.prog 61 #[p, .agg #[.int .i64 i0, .int .i64 i1, .int .i64 i2, .int .i64 i3, .int .i64 i4], .int .u64 (U a), .int .u64 (U b), .int .u64 (U k)] w fun e w' => e = .returned (.int .u64 (U (x))) ∧ X w' := by
  have ha := addU a k
  go_enter Tryz.func61, Tryz.ntmps61
  go_wp2_with fail
  refine h.mono ?_
  rintro e w1 ⟨rfl, hx⟩
  have HX := Aside0.mk hx
  clear hx h
  clear hX
  go_wp2
  go_ret
  exact ⟨rfl, HX.out⟩
set_option maxRecDepth 20000 in
theorem op_lwu_no (p : Value) (i0 i1 i2 i3 i4 : Int) (a b k : BitVec 64) (w : World) (er : List PanicEntry)
    (h : Calls Tryz.prog 96 #[p, .int .u64 (U (a + k)), .int .i64 4] (w.alloc (.cells #[.int .i64 i0, .int .i64 i1, .int .i64 i2, .int .i64 i3, .int .i64 i4] 42)) fun e w' => e = .panicked er ∧ w' = w.alloc (.cells #[.int .i64 i0, .int .i64 i1, .int .i64 i2, .int .i64 i3, .int .i64 i4] 42)) :
    Calls Tryz.prog 61 #[p, .agg #[.int .i64 i0, .int .i64 i1, .int .i64 i2, .int .i64 i3, .int .i64 i4], .int .u64 (U a), .int .u64 (U b), .int .u64 (U k)] w fun e w' => e = .panicked er ∧ w' = w.alloc (.cells #[.int .i64 i0, .int .i64 i1, .int .i64 i2, .int .i64 i3, .int .i64 i4] 42) := by
  have ha := addU a k
  go_enter Tryz.func61, Tryz.ntmps61
  go_wp2_with fail
  refine h.mono ?_
  rintro e w1 ⟨rfl, rfl⟩
  exact ⟨rfl, rfl, rfl⟩
set_option maxRecDepth 20000 in
theorem op_sd (p : Value) (i0 i1 i2 i3 i4 : Int) (a b k : BitVec 64) (w : World) (X : World → Prop)
    (h : Calls Tryz.prog 97 #[p, .int .u64 (U (a + k)), .int .i64 8, .int .u64 (U b)] (w.alloc (.cells #[.int .i64 i0, .int .i64 i1, .int .i64 i2, .int .i64 i3, .int .i64 i4] 42)) fun e w' => e = .returned (.tuple #[]) ∧ X w') :
    Calls Tryz.prog 62 #[p, .agg #[.int .i64 i0, .int .i64 i1, .int .i64 i2, .int .i64 i3, .int .i64 i4], .int .u64 (U a), .int .u64 (U b), .int .u64 (U k)] w fun e w' => e = .returned (.int .u64 (U 0#64)) ∧ X w' := by
  have ha := addU a k
  go_enter Tryz.func62, Tryz.ntmps62
  go_wp2_with fail
  refine h.mono ?_
  rintro e w1 ⟨rfl, hx⟩
  have HX := Aside0.mk hx
  clear hx h
  go_wp2
  go_ret
  exact ⟨rfl, HX.out⟩
set_option maxRecDepth 20000 in
theorem op_sd_no (p : Value) (i0 i1 i2 i3 i4 : Int) (a b k : BitVec 64) (w : World) (er : List PanicEntry)
    (h : Calls Tryz.prog 97 #[p, .int .u64 (U (a + k)), .int .i64 8, .int .u64 (U b)] (w.alloc (.cells #[.int .i64 i0, .int .i64 i1, .int .i64 i2, .int .i64 i3, .int .i64 i4] 42)) fun e w' => e = .panicked er ∧ w' = w.alloc (.cells #[.int .i64 i0, .int .i64 i1, .int .i64 i2, .int .i64 i3, .int .i64 i4] 42)) :
    Calls Tryz.prog 62 #[p, .agg #[.int .i64 i0, .int .i64 i1, .int .i64 i2, .int .i64 i3, .int .i64 i4], .int .u64 (U a), .int .u64 (U b), .int .u64 (U k)] w fun e w' => e = .panicked er ∧ w' = w.alloc (.cells #[.int .i64 i0, .int .i64 i1, .int .i64 i2, .int .i64 i3, .int .i64 i4] 42) := by
  have ha := addU a k
  go_enter Tryz.func62, Tryz.ntmps62
  go_wp2_with fail
  refine h.mono ?_
  rintro e w1 ⟨rfl, rfl⟩
  exact ⟨rfl, rfl, rfl⟩
set_option maxRecDepth 20000 in
theorem op_sw (p : Value) (i0 i1 i2 i3 i4 : Int) (a b k : BitVec 64) (w : World) (X : World → Prop)
    (h : Calls Tryz.prog 97 #[p, .int .u64 (U (a + k)), .int .i64 4, .int .u64 (U b)] (w.alloc (.cells #[.int .i64 i0, .int .i64 i1, .int .i64 i2, .int .i64 i3, .int .i64 i4] 42)) fun e w' => e = .returned (.tuple #[]) ∧ X w') :
    Calls Tryz.prog 63 #[p, .agg #[.int .i64 i0, .int .i64 i1, .int .i64 i2, .int .i64 i3, .int .i64 i4], .int .u64 (U a), .int .u64 (U b), .int .u64 (U k)] w fun e w' => e = .returned (.int .u64 (U 0#64)) ∧ X w' := by
  have ha := addU a k
  go_enter Tryz.func63, Tryz.ntmps63
  go_wp2_with fail
  refine h.mono ?_
  rintro e w1 ⟨rfl, hx⟩
  have HX := Aside0.mk hx
  clear hx h
  go_wp2
  go_ret
  exact ⟨rfl, HX.out⟩
set_option maxRecDepth 20000 in
theorem op_sw_no (p : Value) (i0 i1 i2 i3 i4 : Int) (a b k : BitVec 64) (w : World) (er : List PanicEntry)
    (h : Calls Tryz.prog 97 #[p, .int .u64 (U (a + k)), .int .i64 4, .int .u64 (U b)] (w.alloc (.cells #[.int .i64 i0, .int .i64 i1, .int .i64 i2, .int .i64 i3, .int .i64 i4] 42)) fun e w' => e = .panicked er ∧ w' = w.alloc (.cells #[.int .i64 i0, .int .i64 i1, .int .i64 i2, .int .i64 i3, .int .i64 i4] 42)) :
    Calls Tryz.prog 63 #[p, .agg #[.int .i64 i0, .int .i64 i1, .int .i64 i2, .int .i64 i3, .int .i64 i4], .int .u64 (U a), .int .u64 (U b), .int .u64 (U k)] w fun e w' => e = .panicked er ∧ w' = w.alloc (.cells #[.int .i64 i0, .int .i64 i1, .int .i64 i2, .int .i64 i3, .int .i64 i4] 42) := by
  have ha := addU a k
  go_enter Tryz.func63, Tryz.ntmps63
  go_wp2_with fail
  refine h.mono ?_
  rintro e w1 ⟨rfl, rfl⟩
  exact ⟨rfl, rfl, rfl⟩
end Go.Proofs.YtcgkgaibomcheaaGreat.Mem
end

section
/- 'do' over the machine in plain numbers, by what the operation called does. Conditions: those of each theorem. -/
namespace Go.Proofs.YtcgkgaibomcheaaGreat.EDo
open Go.RowKit Go.Proofs.YtcgkgaibomcheaaGreat.Bits Go.Proofs.YtcgkgaibomcheaaGreat.Dec Go.Proofs.YtcgkgaibomcheaaGreat.Mac Go.Proofs.YtcgkgaibomcheaaGreat.Mb Go.Proofs.YtcgkgaibomcheaaGreat.Rd Go.Proofs.YtcgkgaibomcheaaGreat.Do Go.Proofs.YtcgkgaibomcheaaGreat.RDec Go.Proofs.YtcgkgaibomcheaaGreat.EM Go.Proofs.YtcgkgaibomcheaaGreat.PRvemuRuns Go.Proofs.YtcgkgaibomcheaaGreatW.PrintWords Go.Proofs.YtcgkgaibomcheaaGreatW.PrintLast Go.Proofs.YtcgkgaibomcheaaGreatW.PrintMore
set_option linter.unusedVariables false
set_option linter.unusedSimpArgs false

section
variable {W W' : World} {g gm : Nat} {m : Mac} {c d f t : Value}
/-- Writes into the machine's own block, and elsewhere. -/
theorem _root_.Go.Proofs.YtcgkgaibomcheaaGreat.EM.ME.write {T : Nat → Prop} (h : ME W g m c d f t gm) (hk : Kept W W' T) (hT : ∀ k, k < W.heap.size → T k → k ≠ g → ¬ own g f t k ∧ some k ≠ d.ownBlock ∧ k ≠ gm) (m' : Mac) (mb : MB 74 42 W' g (vals m' c d f t (.map (some gm)))) (e1 : m'.tr = m.tr) (e2 : m'.data = m.data) (e3 : m'.frame = m.frame) : ME W' g m' c d f t gm where
  mb := mb
  tr := by
    rw [e1]
    exact h.tr.kept hk (fun k e hh => (hT k (h.tr.lt k e) hh (fun e2 => h.g_t (by rw [← e2]; exact e))).1 (.inr (.inr e)))
  data := by
    obtain ⟨gd, cd, h1, h2, h3, h4⟩ := h.data
    rw [e2]
    exact ⟨gd, cd, h1, h2, h3.of (hk.2 gd h3.lt (fun e => (hT gd h3.lt e (fun e2 => ty_ne (mbt h.mb) (row_typed h3) (by decide) e2.symm)).2.1 (by rw [h1]; simp [Value.ownBlock]))), h4⟩
  frame := by
    rw [e3]
    exact h.frame.of fun k e hl => hk.2 k hl (fun hh => (hT k hl hh (fun e2 => h.g_f (by rw [← e2]; exact e))).1 (.inr (.inl e)))
  fty := fun k e => by
    obtain ⟨cs, h1⟩ := h.fty k e
    exact ⟨cs, (hk.2 k (blk_lt h1) (fun hh => (hT k (blk_lt h1) hh (fun e2 => h.g_f (by rw [← e2]; exact e))).1 (.inr (.inl e)))).trans h1⟩
  map := (hk.2 gm h.gm_lt (fun e => (hT gm h.gm_lt e (fun e2 => h.gm_own (.inl e2))).2.2 rfl)).trans h.map
  d64 := by rw [e2]; exact h.d64
  fl := by rw [e3]; exact h.fl
  bd := by rw [e2]; exact h.bd
  bf := by rw [e3]; exact h.bf
theorem setpc_vals (m : Mac) (c d f t q : Value) (pc : BitVec 64) (i : Nat) (hi : i ≠ 35) : vals (setpc m pc) c d f t q i = vals m c d f t q i := by
  unfold vals setpc
  simp only [if_neg hi]
theorem ahead_size (W : World) (g : Nat) (op rd rs1 rs2 imm : Int) (pc : BitVec 64) : (Do.ahead W g op rd rs1 rs2 imm pc).heap.size = W.heap.size + 4 := by
  unfold Do.ahead
  rw [World.size_setCell]
  simp only [World.size_alloc]
theorem _root_.Go.Proofs.YtcgkgaibomcheaaGreat.EM.ME.ahead (h : ME W g m c d f t gm) (op rd rs1 rs2 imm : Int) : ME (Do.ahead W g op rd rs1 rs2 imm m.pc).drew g (setpc m (m.pc + 4#64)) c d f t gm := by
  unfold Do.ahead
  exact ((h.below (below_alloc (below_alloc (below_alloc (below_alloc (Below.refl _ _) _) _) _) _)).put 35 _ (setpc m (m.pc + 4#64)) rfl (fun i _ hi => setpc_vals m _ _ _ _ _ _ i hi) rfl rfl rfl).below (below_drew1 (Below.refl _ _))
/-- What an operation leaves. -/
def Lft (W4 : World) (g gm : Nat) (m1 : Mac) (c d f t : Value) (w' : World) : Prop := ∃ t1, ME w' g m1 c d f t1 gm ∧ Wr (own g f t) W4 w' ∧ ∀ k, some k = t1.ownBlock → some k = t.ownBlock ∨ W4.heap.size ≤ k
theorem setx_tr (m : Mac) (rd : Nat) (r : BitVec 64) : (setx m rd r).tr = m.tr := by unfold setx; split <;> rfl
theorem setx_data (m : Mac) (rd : Nat) (r : BitVec 64) : (setx m rd r).data = m.data := by unfold setx; split <;> rfl
theorem setx_frame (m : Mac) (rd : Nat) (r : BitVec 64) : (setx m rd r).frame = m.frame := by unfold setx; split <;> rfl
theorem e49 (args : Array Value) (W : World) : (callFunc 49 args).run Tryz.prog W = .ok (.enter 49 args) W := by kernel_rfl
theorem e50 (args : Array Value) (W : World) : (callFunc 50 args).run Tryz.prog W = .ok (.enter 50 args) W := by kernel_rfl
theorem e51 (args : Array Value) (W : World) : (callFunc 51 args).run Tryz.prog W = .ok (.enter 51 args) W := by kernel_rfl
theorem e52 (args : Array Value) (W : World) : (callFunc 52 args).run Tryz.prog W = .ok (.enter 52 args) W := by kernel_rfl
theorem e53 (args : Array Value) (W : World) : (callFunc 53 args).run Tryz.prog W = .ok (.enter 53 args) W := by kernel_rfl
theorem e54 (args : Array Value) (W : World) : (callFunc 54 args).run Tryz.prog W = .ok (.enter 54 args) W := by kernel_rfl
theorem e55 (args : Array Value) (W : World) : (callFunc 55 args).run Tryz.prog W = .ok (.enter 55 args) W := by kernel_rfl
theorem e56 (args : Array Value) (W : World) : (callFunc 56 args).run Tryz.prog W = .ok (.enter 56 args) W := by kernel_rfl
theorem e57 (args : Array Value) (W : World) : (callFunc 57 args).run Tryz.prog W = .ok (.enter 57 args) W := by kernel_rfl
theorem e58 (args : Array Value) (W : World) : (callFunc 58 args).run Tryz.prog W = .ok (.enter 58 args) W := by kernel_rfl
theorem e59 (args : Array Value) (W : World) : (callFunc 59 args).run Tryz.prog W = .ok (.enter 59 args) W := by kernel_rfl
theorem e60 (args : Array Value) (W : World) : (callFunc 60 args).run Tryz.prog W = .ok (.enter 60 args) W := by kernel_rfl
theorem e61 (args : Array Value) (W : World) : (callFunc 61 args).run Tryz.prog W = .ok (.enter 61 args) W := by kernel_rfl
theorem e62 (args : Array Value) (W : World) : (callFunc 62 args).run Tryz.prog W = .ok (.enter 62 args) W := by kernel_rfl
theorem e63 (args : Array Value) (W : World) : (callFunc 63 args).run Tryz.prog W = .ok (.enter 63 args) W := by kernel_rfl
theorem e64 (args : Array Value) (W : World) : (callFunc 64 args).run Tryz.prog W = .ok (.enter 64 args) W := by kernel_rfl
theorem e65 (args : Array Value) (W : World) : (callFunc 65 args).run Tryz.prog W = .ok (.enter 65 args) W := by kernel_rfl
theorem e66 (args : Array Value) (W : World) : (callFunc 66 args).run Tryz.prog W = .ok (.enter 66 args) W := by kernel_rfl
theorem e67 (args : Array Value) (W : World) : (callFunc 67 args).run Tryz.prog W = .ok (.enter 67 args) W := by kernel_rfl
theorem e68 (args : Array Value) (W : World) : (callFunc 68 args).run Tryz.prog W = .ok (.enter 68 args) W := by kernel_rfl
theorem e69 (args : Array Value) (W : World) : (callFunc 69 args).run Tryz.prog W = .ok (.enter 69 args) W := by kernel_rfl
theorem e70 (args : Array Value) (W : World) : (callFunc 70 args).run Tryz.prog W = .ok (.enter 70 args) W := by kernel_rfl
theorem e71 (args : Array Value) (W : World) : (callFunc 71 args).run Tryz.prog W = .ok (.enter 71 args) W := by kernel_rfl
theorem e72 (args : Array Value) (W : World) : (callFunc 72 args).run Tryz.prog W = .ok (.enter 72 args) W := by kernel_rfl
theorem e73 (args : Array Value) (W : World) : (callFunc 73 args).run Tryz.prog W = .ok (.enter 73 args) W := by kernel_rfl
theorem e74 (args : Array Value) (W : World) : (callFunc 74 args).run Tryz.prog W = .ok (.enter 74 args) W := by kernel_rfl
theorem e75 (args : Array Value) (W : World) : (callFunc 75 args).run Tryz.prog W = .ok (.enter 75 args) W := by kernel_rfl
theorem e76 (args : Array Value) (W : World) : (callFunc 76 args).run Tryz.prog W = .ok (.enter 76 args) W := by kernel_rfl
theorem e77 (args : Array Value) (W : World) : (callFunc 77 args).run Tryz.prog W = .ok (.enter 77 args) W := by kernel_rfl
theorem e78 (args : Array Value) (W : World) : (callFunc 78 args).run Tryz.prog W = .ok (.enter 78 args) W := by kernel_rfl
theorem e79 (args : Array Value) (W : World) : (callFunc 79 args).run Tryz.prog W = .ok (.enter 79 args) W := by kernel_rfl
theorem e80 (args : Array Value) (W : World) : (callFunc 80 args).run Tryz.prog W = .ok (.enter 80 args) W := by kernel_rfl
theorem e81 (args : Array Value) (W : World) : (callFunc 81 args).run Tryz.prog W = .ok (.enter 81 args) W := by kernel_rfl
theorem e82 (args : Array Value) (W : World) : (callFunc 82 args).run Tryz.prog W = .ok (.enter 82 args) W := by kernel_rfl
theorem ent (fn : Nat) (h0 : 49 ≤ fn) (h1 : fn ≤ 82) (args : Array Value) (W : World) : (callFunc fn args).run Tryz.prog W = .ok (.enter fn args) W := by
  have h : fn = 49 ∨ fn = 50 ∨ fn = 51 ∨ fn = 52 ∨ fn = 53 ∨ fn = 54 ∨ fn = 55 ∨ fn = 56 ∨ fn = 57 ∨ fn = 58 ∨ fn = 59 ∨ fn = 60 ∨ fn = 61 ∨ fn = 62 ∨ fn = 63 ∨ fn = 64 ∨ fn = 65 ∨ fn = 66 ∨ fn = 67 ∨ fn = 68 ∨ fn = 69 ∨ fn = 70 ∨ fn = 71 ∨ fn = 72 ∨ fn = 73 ∨ fn = 74 ∨ fn = 75 ∨ fn = 76 ∨ fn = 77 ∨ fn = 78 ∨ fn = 79 ∨ fn = 80 ∨ fn = 81 ∨ fn = 82 := by omega
  rcases h with h | h | h | h | h | h | h | h | h | h | h | h | h | h | h | h | h | h | h | h | h | h | h | h | h | h | h | h | h | h | h | h | h | h
  · rw [h]; exact e49 args W
  · rw [h]; exact e50 args W
  · rw [h]; exact e51 args W
  · rw [h]; exact e52 args W
  · rw [h]; exact e53 args W
  · rw [h]; exact e54 args W
  · rw [h]; exact e55 args W
  · rw [h]; exact e56 args W
  · rw [h]; exact e57 args W
  · rw [h]; exact e58 args W
  · rw [h]; exact e59 args W
  · rw [h]; exact e60 args W
  · rw [h]; exact e61 args W
  · rw [h]; exact e62 args W
  · rw [h]; exact e63 args W
  · rw [h]; exact e64 args W
  · rw [h]; exact e65 args W
  · rw [h]; exact e66 args W
  · rw [h]; exact e67 args W
  · rw [h]; exact e68 args W
  · rw [h]; exact e69 args W
  · rw [h]; exact e70 args W
  · rw [h]; exact e71 args W
  · rw [h]; exact e72 args W
  · rw [h]; exact e73 args W
  · rw [h]; exact e74 args W
  · rw [h]; exact e75 args W
  · rw [h]; exact e76 args W
  · rw [h]; exact e77 args W
  · rw [h]; exact e78 args W
  · rw [h]; exact e79 args W
  · rw [h]; exact e80 args W
  · rw [h]; exact e81 args W
  · rw [h]; exact e82 args W
theorem do_via (h : ME W g m c d f t gm) (n wd : Nat) (h0 : 1 ≤ n) (h1 : n ≤ 34) (r : BitVec 64) (m1 : Mac)
    (hop : ∀ W4, ME W4 g (setpc m (m.pc + 4#64)) c d f t gm → Calls Tryz.prog (48 + n) #[.pointer (some ⟨g, 0, none⟩), insOf n wd, .int .u64 (U (ra m n wd)), .int .u64 (U (rb m n wd)), .int .u64 (U (im n wd))] W4 fun e w' => e = .returned (.int .u64 (U r)) ∧ Lft W4 g gm m1 c d f t w') :
    Calls Tryz.prog 41 #[.pointer (some ⟨g, 0, none⟩), insOf n wd] W fun e w' => e = .returned (.int .i64 0) ∧ Lft W g gm (setx m1 (fdOf n wd) r) c d f t w' := by
  have hA := h.ahead (n : Int) (fdOf n wd : Nat) (fs1Of n wd : Nat) (fs2Of n wd : Nat) (immOf (formOf n) wd)
  have hsz := ahead_size W g (n : Int) (fdOf n wd : Nat) (fs1Of n wd : Nat) (fs2Of n wd : Nat) (immOf (formOf n) wd) m.pc
  have hOp := hop _ hA
  have hO := ahead_only W g (n : Int) (fdOf n wd : Nat) (fs1Of n wd : Nat) (fs2Of n wd : Nat) (immOf (formOf n) wd) m.pc
  refine (do_ok g gm (vals m c d f t (.map (some gm))) (n : Int) (fdOf n wd : Nat) (fs1Of n wd : Nat) (fs2Of n wd : Nat) (immOf (formOf n) wd) m.pc (ra m n wd) (rb m n wd) (48 + n) W h.mb rfl rfl (fs1Of n wd) (fs2Of n wd) rfl rfl (rs1_lt n wd) (rs2_lt n wd) (vals_x _ _ _ _ _ _ _ (rs1_lt n wd)) (vals_x _ _ _ _ _ _ _ (rs2_lt n wd)) (fdOf n wd) rfl (rd_lt n wd) r
    (fun v' w1 => ∃ t1, v' = vals m1 c d f t1 (.map (some gm)) ∧ ME w1 g m1 c d f t1 gm ∧ Wr (own g f t) (Do.ahead W g (n : Int) (fdOf n wd : Nat) (fs1Of n wd : Nat) (fs2Of n wd : Nat) (immOf (formOf n) wd) m.pc).drew w1 ∧ ∀ k, some k = t1.ownBlock → some k = t.ownBlock ∨ W.heap.size + 4 ≤ k) h.gm_lt (fun e => h.gm_own (.inl e)) ?_ (fun args W => ent (48 + n) (by omega) (by omega) args W) ?_).mono ?_
  · refine hOp.mono ?_
    rintro e w' ⟨rfl, t1, a1, a2, a3⟩
    refine ⟨rfl, vals m1 c d f t1 (.map (some gm)), a1.mb, fun k k1 k2 => ?_, t1, rfl, a1, a2, fun k e => (a3 k e).imp_right (fun hle => by rw [← hsz]; exact hle)⟩
    exact a2.1.2 k (by show k < (Do.ahead _ _ _ _ _ _ _ _).heap.size; omega) (fun ho => by have := own_lt h k ho; omega)
  · intro W' hW'
    exact Tab.lookAt W' gm (hW'.trans h.map) n h0 h1
  · rintro e w' ⟨rfl, v', w1, ⟨t1, rfl, b1, b2, b3⟩, b4, b5⟩
    refine ⟨rfl, t1, ?_, ?_, fun k e => (b3 k e).imp_right (fun hle => by omega)⟩
    · refine ME.write b1 b5.1 (fun k hk hT hg => ?_) (setx m1 (fdOf n wd) r) ?_ (setx_tr _ _ _) (setx_data _ _ _) (setx_frame _ _ _)
      · rcases hT with e | ⟨e1, e2⟩
        · exact absurd e hg
        · obtain ⟨gd, cd, d1, d2, d3, d4⟩ := h.data
          refine ⟨?_, ?_, fun e => by have := h.gm_lt; omega⟩
          · rintro (e | e | e)
            · exact hg e
            · have := own_lt h k (.inr (.inl e)); omega
            · rcases b3 k e with e | e
              · have := own_lt h k (.inr (.inr e)); omega
              · omega
          · rw [d1]
            intro e
            have e : k = gd := by simpa [Value.ownBlock] using e
            have := d3.lt
            omega
      · by_cases hz : fdOf n wd = 0
        · rw [if_pos hz] at b4
          unfold setx
          rw [if_pos hz]
          exact b4
        · rw [if_neg hz] at b4
          have hv := vals_setx m1 c d f t1 (.map (some gm)) (fdOf n wd) r (rd_lt n wd) hz
          rw [← hv]
          exact b4
    · have w1 : Wr (own g f t) W (Do.ahead W g (n : Int) (fdOf n wd : Nat) (fs1Of n wd : Nat) (fs2Of n wd : Nat) (immOf (formOf n) wd) m.pc).drew := ⟨(hO.1.mono (fun k e => .inl e)).drew, hO.2⟩
      have w2 := w1.then_ b2 (fun k e => .inl e)
      exact w2.then_ b5 (fun k e => e.imp (fun e => .inl e) (fun e => e.1))
end
end Go.Proofs.YtcgkgaibomcheaaGreat.EDo
end
